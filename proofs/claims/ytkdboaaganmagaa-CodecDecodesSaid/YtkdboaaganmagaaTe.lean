/- The laws of codec in plain Lean: what Encode and Decode compute answers as the laws say. -/
import Derived.Test.YtkdboaaganmagaaTb
import Derived.Test.YtkdboaaganmagaaTc
import Derived.Test.YtkdboaaganmagaaTd
import Derived.Test.YtkdboaaganmagaaCf1
import Derived.Test.YtkdboaaganmagaaOPx13
namespace Go.Proofs.Ytkdboaaganmagaa.Te
set_option linter.unusedVariables false
set_option linter.unusedSimpArgs false
open Go.RowKit Go.Proofs.YtkdboaaganmagaaW.PrintWords Go.Proofs.Ytkdboaaganmagaa.OP Go.Proofs.Ytkdboaaganmagaa.Ca Go.Proofs.Ytkdboaaganmagaa.Cb Go.Proofs.Ytkdboaaganmagaa.Cd Go.Proofs.Ytkdboaaganmagaa.Ce Go.Proofs.Ytkdboaaganmagaa.Cf Go.Proofs.Ytkdboaaganmagaa.Ta Go.Proofs.Ytkdboaaganmagaa.Tb Go.Proofs.Ytkdboaaganmagaa.Tc Go.Proofs.Ytkdboaaganmagaa.Td
/-- What is known of a program that came in. -/
def Rng (p : Pg) : Prop := I64 p.a1 ∧ I64 p.a2 ∧ I64 p.a3 ∧ I64 p.a4 ∧ I64 p.a5 ∧ (∀ x ∈ p.l6, I64 x) ∧ (∀ x ∈ p.l7, I64 x.f2 ∧ I64 x.f3) ∧ (∀ x ∈ p.l8, U64 x.f0 ∧ U64 x.f1 ∧ U64 x.f2 ∧ U64 x.f3 ∧ U64 x.f4) ∧ (∀ x ∈ p.l11, I64 x.f1)
def toldP (p : Pg) : Bool := toldB p.a0 p.l6 p.l7 p.l8 p.a9 p.a10 p.l11
theorem okF_iff (n : Int) : okF n = true ↔ F4 n := by unfold okF F4; simp
theorem told_ok (p : Pg) (hr : Rng p) (h : toldP p = true) : PgOk p := by
  obtain ⟨r1, r2, r3, r4, r5, r6, r7, r8, r11⟩ := hr
  unfold toldP toldB at h
  simp only [Bool.and_eq_true, decide_eq_true_eq, List.all_eq_true, okF_iff] at h
  obtain ⟨⟨⟨⟨⟨h0, h9⟩, h10⟩, hl⟩, h7⟩, h11⟩ := h
  refine ⟨h0, h9, h10, r1, r2, r3, r4, r5, ⟨hl.1, r6⟩, ⟨hl.2.1, fun x hx => ?_⟩, ⟨hl.2.2.1, r8⟩, ⟨hl.2.2.2, fun x hx => ?_⟩⟩
  · have := h7 x hx
    unfold okW at this
    simp at this
    exact ⟨⟨this.1, this.2.1⟩, ⟨this.2.2.1, this.2.2.2⟩, r7 x hx⟩
  · have := h11 x hx
    unfold okI at this
    simp at this
    exact ⟨this, r11 x hx⟩
theorem ok_told (p : Pg) (h : PgOk p) : toldP p = true := by
  obtain ⟨h0, h9, h10, _, _, _, _, _, ⟨g6, _⟩, ⟨g7, h7⟩, ⟨g8, _⟩, ⟨g11, h11⟩⟩ := h
  unfold toldP toldB
  simp only [Bool.and_eq_true, decide_eq_true_eq, List.all_eq_true, okF_iff]
  refine ⟨⟨⟨⟨⟨h0, h9⟩, h10⟩, g6, g7, g8, g11⟩, fun x hx => ?_⟩, fun x hx => ?_⟩
  · have := h7 x hx
    unfold okW
    simp
    exact ⟨this.1.1, this.1.2, this.2.1.1, this.2.1.2⟩
  · have := h11 x hx
    unfold okI
    simp
    exact this.1
theorem ok_rng (p : Pg) (h : PgOk p) : Rng p := by
  obtain ⟨h0, h9, h10, h1, h2, h3, h4, h5, ⟨g6, h6⟩, ⟨g7, h7⟩, ⟨g8, h8⟩, ⟨g11, h11⟩⟩ := h
  exact ⟨h1, h2, h3, h4, h5, h6, fun x hx => (h7 x hx).2.2, h8, fun x hx => (h11 x hx).2⟩
theorem be4_in (n : Int) : InB (be4 n) := by
  intro x hx
  unfold be4 at hx
  simp at hx
  rcases hx with rfl | rfl | rfl | rfl <;> omega
theorem in_app {a b : List Int} (h1 : InB a) (h2 : InB b) : InB (a ++ b) := fun x hx => (List.mem_append.1 hx).elim (h1 x) (h2 x)
theorem be8_in (n : Int) : InB (be8 n) := in_app (be4_in _) (be4_in _)
theorem in_flat {α : Type} (g : α → List Int) (h : ∀ x, InB (g x)) (xs : List α) : InB (xs.flatMap g) := by
  intro y hy
  obtain ⟨x, _, hx⟩ := List.mem_flatMap.1 hy
  exact h x y hx
theorem be8s_in (ns : List Int) : InB (be8s ns) := in_flat be8 be8_in ns
theorem enc_in (p : Pg) : InB (encP p) := by
  rw [encP_is]
  refine in_app (fun x hx => by simp at hx; rcases hx with rfl | rfl | rfl | rfl <;> omega) ?_
  unfold bodyP
  refine in_app (be4_in _) (in_app (be4_in _) (in_app (be4_in _) (in_app (be8_in _) (in_app (be8_in _) (in_app (be8_in _) (in_app (be8_in _) (in_app (be8_in _) (in_app (in_app (be4_in _) (in_flat _ be8_in _)) (in_app (in_app (be4_in _) (in_flat _ (fun x => ?_) _)) (in_app (in_app (be4_in _) (in_flat _ (fun x => ?_) _)) (in_app (be4_in _) (in_flat _ (fun x => ?_) _))))))))))))
  · exact in_app (in_app (be4_in _) (be4_in _)) (be8s_in _)
  · exact be8s_in _
  · refine in_app (fun y hy => ?_) (be8s_in _)
    simp at hy
    subst hy
    omega
theorem str_inj (a b : List Int) (ha : InB a) (hb : InB b) : (strOfNums a).toList = (strOfNums b).toList ↔ a = b := by
  constructor
  · intro h
    rw [ByteArray.toList_eq, ByteArray.toList_eq, strOfNums_data, strOfNums_data] at h
    induction a generalizing b with
    | nil =>
      cases b with
      | nil => rfl
      | cons y r => simp at h
    | cons x l ih =>
      cases b with
      | nil => simp at h
      | cons y r =>
        simp only [List.map_cons, List.cons.injEq] at h
        have hy := hb y (by simp)
        have e := (u8_is x y.toNat (ha x (by simp)) (by omega)).1 h.1
        rw [ih r (fun z hz => ha z (List.mem_cons_of_mem _ hz)) (fun z hz => hb z (List.mem_cons_of_mem _ hz)) h.2]
        congr 1
        omega
  · rintro rfl; rfl
theorem bytes_f (a b : List Int) (ha : InB a) (hb : InB b) : ∃ t : Bool, capstanref22_SameBytes.f a b = some t ∧ (t = true ↔ a = b) :=
  ⟨_, rfl, by rw [beq_iff_eq]; exact str_inj a b ha hb⟩
theorem all_in (l : List Int) : l.all (fun x => decide (0 ≤ x ∧ x ≤ 255)) = true ↔ InB l := by
  rw [List.all_eq_true]
  constructor
  · intro h x hx; simpa using h x hx
  · intro h x hx; simpa using h x hx
theorem dec_enc (p : Pg) (h : PgOk p) (hl : (encP p).length ≤ 1048576) : decF (encP p) = some (p, 0) := by
  unfold decF
  rw [if_neg (by omega), if_pos ((all_in _).2 (enc_in p)), prog_enc p h]
theorem dec_big (l : List Int) (hl : l.length > 1048576) : decF l = some (Zg, 2) := by
  unfold decF
  rw [if_pos hl]
/-- What Decode answers to bytes. -/
theorem dec_cases (l : List Int) (hin : InB l) : (∃ e, decF l = some (Zg, e) ∧ (e = 2 ∨ e = 40)) ∨ ∃ p, decF l = some (p, 0) ∧ PgOk p ∧ l = encP p := by
  unfold decF
  split
  · exact .inl ⟨2, rfl, .inl rfl⟩
  · rw [if_pos ((all_in _).2 hin)]
    cases hp : prog l with
    | none => exact .inl ⟨40, rfl, .inr rfl⟩
    | some p =>
      obtain ⟨h1, h2⟩ := prog_back l hin p hp
      exact .inr ⟨p, rfl, h2, h1⟩
/-- Bytes behind a program's bytes, or some missing. -/
theorem prog_more (l r : List Int) (hin : InB l) (p : Pg) (h : prog l = some p) (hr : r ≠ []) : prog (l ++ r) = none := by
  obtain ⟨e, ok⟩ := prog_back l hin p h
  unfold prog
  rw [e, encP_is, List.append_assoc, if_neg (by simp), show List.take 4 ([99, 112, 115, 49] ++ (bodyP p ++ r)) = [99, 112, 115, 49] from rfl, if_pos ((magic_is _ (fun x hx => by simp at hx; rcases hx with rfl | rfl | rfl | rfl <;> omega) rfl).2 rfl)]
  show c0 (bodyP p ++ r) = none
  rw [c0_is, pairP.fwd p r ok, Option.bind_some]
  show (if r.length = 0 then _ else _) = _
  rw [if_neg (by rw [List.length_eq_zero_iff]; exact hr)]
theorem dec_more (l r : List Int) (p : Pg) (hin : InB l) (hin2 : InB r) (h : prog l = some p) (hr : r ≠ []) (hl : (l ++ r).length ≤ 1048576) : decF (l ++ r) = some (Zg, 40) := by
  unfold decF
  rw [if_neg (by omega), if_pos ((all_in _).2 (in_app hin hin2)), prog_more l r hin p h hr]
theorem dec_less (l : List Int) (p : Pg) (k : Nat) (hin : InB l) (h : prog l = some p) (hk : k < l.length) (hl : l.length ≤ 1048576) : decF (l.take k) = some (Zg, 40) := by
  unfold decF
  have ht : InB (l.take k) := fun x hx => hin x (List.mem_of_mem_take hx)
  rw [if_neg (by rw [List.length_take]; omega), if_pos ((all_in _).2 ht)]
  cases hp : prog (l.take k) with
  | none => rfl
  | some q =>
    have := prog_more (l.take k) (l.drop k) ht q hp (by
      intro e
      have := congrArg List.length e
      simp at this
      omega)
    rw [List.take_append_drop, h] at this
    cases this
/-- Encode, of a program's parts. -/
def encF (k : Nat) (p : Pg) : Option (List Int × Int) := Enc.f k p.a0 p.a1 p.a2 p.a3 p.a4 p.a5 p.l6 p.l7 p.l8 p.a9 p.a10 p.l11
theorem enc_told (p : Pg) (h : toldP p = true) (h7 : p.l7.length ≤ 9223372036854775807) (h11 : p.l11.length ≤ 9223372036854775807) (k : Nat) (hk : p.l7.length + p.l11.length + 2 < k) : encF k p = some (encP p, 0) := by
  have h' : toldB p.a0 p.l6 p.l7 p.l8 p.a9 p.a10 p.l11 = true := h
  unfold encF
  rw [enc_f _ _ _ _ _ _ _ _ _ _ _ _ h7 h11 k hk]
  unfold enc
  rw [if_pos h']
  rfl
theorem enc_not (p : Pg) (h : toldP p = false) (h7 : p.l7.length ≤ 9223372036854775807) (h11 : p.l11.length ≤ 9223372036854775807) (k : Nat) (hk : p.l7.length + p.l11.length + 2 < k) : encF k p = some ([], 1) := by
  have h' : toldB p.a0 p.l6 p.l7 p.l8 p.a9 p.a10 p.l11 = false := h
  unfold encF
  rw [enc_f _ _ _ _ _ _ _ _ _ _ _ _ h7 h11 k hk]
  unfold enc
  rw [if_neg (by rw [h']; decide)]
def sameF (k : Nat) (p q : Pg) : Option Bool := capstanref21_Same.f k p.a0 p.a1 p.a2 p.a3 p.a4 p.a5 p.l6 p.l7 p.l8 p.a9 p.a10 p.l11 q.a0 q.a1 q.a2 q.a3 q.a4 q.a5 q.l6 q.l7 q.l8 q.a9 q.a10 q.l11
def Fits (p : Pg) (k : Nat) : Prop := p.l6.length + p.l7.length + p.l8.length + p.l11.length + 10 < k ∧ p.l6.length ≤ 9223372036854775807 ∧ p.l7.length ≤ 9223372036854775807 ∧ p.l8.length ≤ 9223372036854775807 ∧ p.l11.length ≤ 9223372036854775807
theorem same_f (p q : Pg) (k : Nat) (h : Fits p k) : ∃ b : Bool, sameF k p q = some b ∧ (b = true ↔ p = q) := by
  unfold Fits at h
  exact s_f p.a0 p.a1 p.a2 p.a3 p.a4 p.a5 p.l6 p.l7 p.l8 p.a9 p.a10 p.l11 q.a0 q.a1 q.a2 q.a3 q.a4 q.a5 q.l6 q.l7 q.l8 q.a9 q.a10 q.l11 (by omega) (by omega) (by omega) (by omega) k (by omega)
theorem same_self (p : Pg) (k : Nat) (h : Fits p k) : sameF k p p = some true := by
  obtain ⟨b, e, hb⟩ := same_f p p k h
  rw [e, hb.2 rfl]
theorem ok_fits (p : Pg) (h : PgOk p) (k : Nat) (hk : 40000 ≤ k) : Fits p k := by
  obtain ⟨_, _, _, _, _, _, _, _, ⟨g6, _⟩, ⟨g7, _⟩, ⟨g8, _⟩, ⟨g11, _⟩⟩ := h
  unfold Fits
  omega
def least : Pg := ⟨0, 0, 1, 1, 0, 0, [], [], [], 0, 0, [⟨29, 0⟩]⟩
theorem least_ok : PgOk least := by
  unfold PgOk least F4 I64
  simp
theorem least_len : (encP least).length = 81 := by decide
end Go.Proofs.Ytkdboaaganmagaa.Te
