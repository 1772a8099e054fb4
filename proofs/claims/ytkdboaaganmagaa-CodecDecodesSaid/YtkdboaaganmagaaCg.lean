/- The reference's reader: take and four, told over what is left to read (none: a byte was missing). Conditions: as each theorem states. -/
import Derived.Test.YtkdboaaganmagaaCd
import Derived.Test.YtkdboaaganmagaaCe0
import Derived.Test.YtkdboaaganmagaaOPx10
namespace Go.Proofs.Ytkdboaaganmagaa.Cg
set_option linter.unusedVariables false
set_option linter.unusedSimpArgs false
open Go.RowKit Go.Proofs.YtkdboaaganmagaaW.PrintWords Go.Proofs.Ytkdboaaganmagaa.OP Go.Proofs.Ytkdboaaganmagaa.Ca Go.Proofs.Ytkdboaaganmagaa.Cd Go.Proofs.Ytkdboaaganmagaa.Ce
def be (a : Int) (l : List Int) : Int := l.foldl (fun a b => a * 256 + b) a
theorem be_cons (a b : Int) (l : List Int) : be a (b :: l) = be (a * 256 + b) l := rfl
theorem rd_at (s : List Int) (p : Nat) (h : p < s.length) : rd s (p : Int) = s[p] := by
  unfold rd
  simp [h]
theorem wr256 (a b : Int) : IntKind.u64.wrap (IntKind.u64.wrap (IntKind.u64.wrap a * 256) + IntKind.u64.wrap b) = IntKind.u64.wrap (a * 256 + b) := by
  simp only [IntKind.wrap_u64]
  omega
theorem take_l0 (s : List Int) (hs : s.length ≤ 1048576) (size : Nat) (h8 : size ≤ 8) : ∀ (d i p k : Nat) (a : Int), i + d = size → p + d ≤ s.length → d < k →
    capstanref22_Reader_take.l0 k size (IntKind.u64.wrap a) i s p false = some (IntKind.u64.wrap (be a ((s.drop p).take d)), ((p + d : Nat) : Int), false) := by
  intro d
  induction d with
  | zero =>
    intro i p k a hi hp hk
    obtain ⟨k, rfl⟩ : ∃ q, k = q + 1 := ⟨k - 1, by omega⟩
    rw [capstanref22_Reader_take.l0, if_neg (by omega)]
    rfl
  | succ d ih =>
    intro i p k a hi hp hk
    obtain ⟨k, rfl⟩ : ∃ q, k = q + 1 := ⟨k - 1, by omega⟩
    rw [capstanref22_Reader_take.l0, if_pos (by omega), if_pos (by omega), if_pos (by omega), rd_at s p (by omega), wr256]
    have e4 : wrap64 ((i : Int) + 1) = ((i + 1 : Nat) : Int) := by unfold wrap64; omega
    have e5 : wrap64 ((p : Int) + 1) = ((p + 1 : Nat) : Int) := by unfold wrap64; omega
    rw [e4, e5, ih (i + 1) (p + 1) k _ (by omega) (by omega) (by omega)]
    have e6 : (s.drop p).take (d + 1) = s[p] :: (s.drop (p + 1)).take d := by rw [← List.getElem_cons_drop (show p < s.length by omega), List.take_succ_cons]
    rw [e6, be_cons, show p + 1 + d = p + (d + 1) by omega]
/-- What take answers, and what is left. -/
def tkv (n : Nat) : Option (List Int) → Int
  | none => 0
  | some l => if l.length < n then 0 else IntKind.u64.wrap (be 0 (l.take n))
def tks (n : Nat) : Option (List Int) → Option (List Int)
  | none => none
  | some l => if l.length < n then none else some (l.drop n)
theorem tkv_lo (n : Nat) (l : List Int) (h : l.length < n) : tkv n (some l) = 0 := if_pos h
theorem tkv_hi (n : Nat) (l : List Int) (h : ¬ l.length < n) : tkv n (some l) = IntKind.u64.wrap (be 0 (l.take n)) := if_neg h
theorem tks_hi (n : Nat) (l : List Int) (h : ¬ l.length < n) : tks n (some l) = some (l.drop n) := if_neg h
/-- Where the reader stands. -/
def At (B : List Int) (i : Int) (bad : Bool) (X : Option (List Int)) : Prop := ∃ p : Nat, i = p ∧ p ≤ B.length ∧ X = if bad then none else some (B.drop p)
theorem take_f (B : List Int) (hs : B.length ≤ 1048576) (n : Nat) (hn : n ≤ 8) (i : Int) (bad : Bool) (X : Option (List Int)) (h : At B i bad X) :
    ∃ i' bad', capstanref22_Reader_take.f 11 B i bad n = some (tkv n X, i', bad') ∧ At B i' bad' (tks n X) := by
  obtain ⟨p, rfl, hp, rfl⟩ := h
  unfold capstanref22_Reader_take.f
  cases bad with
  | true =>
    rw [if_pos rfl, capstanref22_Reader_take.j0, if_pos rfl]
    exact ⟨_, _, rfl, p, rfl, hp, rfl⟩
  | false =>
    rw [if_neg (by decide), capstanref22_Reader_take.j0]
    have hl : (B.drop p).length = B.length - p := List.length_drop
    have e : wrap64 ((B.length : Int) - p) = ((B.length - p : Nat) : Int) := by unfold wrap64; omega
    rw [e]
    by_cases hc : B.length - p < n
    · rw [if_pos (by simp; omega)]
      refine ⟨_, true, ?_, p, rfl, hp, ?_⟩
      · show some ((0 : Int), _, _) = some (tkv n (some (B.drop p)), _, _)
        rw [tkv_lo _ _ (by omega)]
      · show tks n (some (B.drop p)) = none
        exact if_pos (by omega)
    · rw [if_neg (by simp; omega)]
      have := take_l0 B hs n hn n 0 p 10 0 (by omega) (by omega) (by omega)
      have e0 : IntKind.u64.wrap 0 = 0 := by rw [IntKind.wrap_u64]; rfl
      rw [e0] at this
      refine ⟨_, false, ?_, p + n, rfl, by omega, ?_⟩
      · refine this.trans ?_
        show _ = some (tkv n (some (B.drop p)), _, _)
        rw [tkv_hi _ _ (by omega)]
      · show tks n (some (B.drop p)) = some (B.drop (p + n))
        rw [tks_hi _ _ (by omega), List.drop_drop]
/-- The reader's variable g stands so. -/
def RS (w0 W : World) (g : Nat) (B : List Int) (X : Option (List Int)) : Prop := ∃ (i : Int) (bad : Bool), IsS61 w0 W g B i bad ∧ At B i bad X
def TP (w0 W : World) (g : Nat) (B : List Int) (k : IntKind) (v : Int) (X : Option (List Int)) (e : Ending) (W' : World) : Prop := e = .returned (.int k v) ∧ RS w0 W' g B X ∧ Below w0.heap.size w0 W' ∧ KeepBut W W' g none
theorem take_any (w0 W : World) (g : Nat) (B : List Int) (hs : B.length ≤ 1048576) (n : Nat) (hn : n ≤ 8) (X : Option (List Int)) (h : RS w0 W g B X) (hB : Below w0.heap.size w0 W) : Calls Try.prog 24 #[.pointer (some ⟨g, 0, none⟩), .int .i64 n] W (TP w0 W g B .u64 (tkv n X) (tks n X)) := by
  obtain ⟨i, bad, hI, hA⟩ := h
  obtain ⟨i', bad', hf, hA'⟩ := take_f B hs n hn i bad X hA
  refine (capstanref22_Reader_take.calls 11 g B i bad n _ _ _ w0 W hI hB hf).mono ?_
  rintro e W' ⟨rfl, h1, h2, h3⟩
  exact ⟨rfl, ⟨i', bad', h1, hA'⟩, h2, h3⟩
def fov (m : Int) (X : Option (List Int)) : Int := if tkv 4 X > m then 0 else tkv 4 X
def fos (m : Int) (X : Option (List Int)) : Option (List Int) := if tkv 4 X > m then none else tks 4 X
theorem tkv_bd (n : Nat) (X : Option (List Int)) : 0 ≤ tkv n X ∧ tkv n X < 18446744073709551616 := by
  unfold tkv
  split
  · omega
  · split
    · omega
    · rw [IntKind.wrap_u64]; omega
theorem four_any' (w0 W : World) (g : Nat) (B : List Int) (hs : B.length ≤ 1048576) (m : Int) (hm0 : 0 ≤ m) (hm : m ≤ 2147483647) (X : Option (List Int)) (h : RS w0 W g B X) (hB : Below w0.heap.size w0 W) : Calls Try.prog 25 #[.pointer (some ⟨g, 0, none⟩), .int .i64 m] W (TP w0 W g B .i64 (fov m X) (fos m X)) := by
  obtain ⟨i, bad, hI, hA⟩ := h
  obtain ⟨i', bad', hf, hA'⟩ := take_f B hs 4 (by decide) i bad X hA
  have hbd := tkv_bd 4 X
  have hmw : IntKind.u64.wrap m = m := by rw [IntKind.wrap_u64]; omega
  have hff : ∃ b2, capstanref22_Reader_four.f 11 B i bad m = some (fov m X, i', b2) ∧ At B i' b2 (fos m X) := by
    unfold capstanref22_Reader_four.f
    have hf4 : capstanref22_Reader_take.f 11 B i bad 4 = some (tkv 4 X, i', bad') := hf
    rw [hf4, Option.bind_some, hmw]
    unfold fov fos
    by_cases hc : tkv 4 X > m
    · rw [if_pos hc, if_pos hc, if_pos hc]
      obtain ⟨p, h1, h2, h3⟩ := hA'
      exact ⟨true, rfl, p, h1, h2, rfl⟩
    · rw [if_neg hc, if_neg hc, if_neg hc]
      refine ⟨bad', ?_, hA'⟩
      have e : wrap64 (tkv 4 X) = tkv 4 X := by rw [w64 (by omega) (by omega)]
      show some (wrap64 (tkv 4 X), _, _) = _
      rw [e]
  obtain ⟨b2, hf2, hA2⟩ := hff
  refine (capstanref22_Reader_four.calls 11 g B i bad m _ _ _ w0 W hI hB hf2).mono ?_
  rintro e W' ⟨rfl, h1, h2, h3⟩
  exact ⟨rfl, ⟨i', b2, h1, hA2⟩, h2, h3⟩
/-- A reader's word over what is left. -/
def lft {α : Type} (q : List Int → Option (α × List Int)) (d : α) (X : Option (List Int)) : α × Option (List Int) := match X.bind q with | none => (d, none) | some t => (t.1, some t.2)
theorem lft_bind {α β : Type} (q : List Int → Option (α × List Int)) (d : α) (X : Option (List Int)) (c : α × List Int → Option β) : (X.bind fun l => (q l).bind c) = (lft q d X).2.bind fun l => c ((lft q d X).1, l) := by
  unfold lft
  cases X with
  | none => rfl
  | some l =>
    show (q l).bind c = _
    rw [Option.bind_some]
    cases q l <;> rfl
theorem len4 {l : List Int} (h : ¬ l.length < 4) : ∃ a b c d r, l = a :: b :: c :: d :: r := by
  match l, h with
  | a :: b :: c :: d :: r, _ => exact ⟨a, b, c, d, r, rfl⟩
  | [], h => exact absurd (by decide : 0 < 4) h
  | [_], h => exact absurd (by decide : 1 < 4) h
  | [_, _], h => exact absurd (by decide : 2 < 4) h
  | [_, _, _], h => exact absurd (by decide : 3 < 4) h
theorem p4_short {l : List Int} (h : l.length < 4) : p4 l = none := by
  match l, h with
  | [], _ => rfl
  | [_], _ => rfl
  | [_, _], _ => rfl
  | [_, _, _], _ => rfl
  | _ :: _ :: _ :: _ :: r, h => exact absurd h (by simp)
theorem be4 (x a b c d : Int) : be x [a, b, c, d] = x * 4294967296 + val4 a b c d := by
  show ((((x * 256 + a) * 256 + b) * 256 + c) * 256 + d) = _
  unfold val4
  omega
theorem be8 (a b c d e f g h : Int) : be 0 [a, b, c, d, e, f, g, h] = val4 a b c d * 4294967296 + val4 e f g h := by
  rw [show be 0 [a, b, c, d, e, f, g, h] = be (be 0 [a, b, c, d]) [e, f, g, h] from rfl, be4, be4]
  omega
/-- What is left holds bytes. -/
def InX (X : Option (List Int)) : Prop := ∀ l, X = some l → InB l
theorem RS.inX {w0 W : World} {g : Nat} {B : List Int} {X : Option (List Int)} (h : RS w0 W g B X) (hin : InB B) : InX X := by
  obtain ⟨i, bad, _, p, _, _, rfl⟩ := h
  intro l hl
  cases bad with
  | true => cases hl
  | false =>
    injection hl with hl
    subst hl
    exact fun x hx => hin x (List.mem_of_mem_drop hx)
theorem tk4_eq (X : Option (List Int)) (hX : InX X) : tkv 4 X = (lft p4 0 X).1 ∧ tks 4 X = (lft p4 0 X).2 := by
  cases X with
  | none => exact ⟨rfl, rfl⟩
  | some l =>
    unfold tkv tks lft
    rw [Option.bind_some]
    dsimp only
    by_cases h : l.length < 4
    · rw [if_pos h, if_pos h, p4_short h]; exact ⟨rfl, rfl⟩
    · rw [if_neg h, if_neg h]
      obtain ⟨a, b, c, d, r, rfl⟩ := len4 h
      have hb := val4_bd (hX _ rfl)
      refine ⟨?_, rfl⟩
      show IntKind.u64.wrap (be 0 [a, b, c, d]) = val4 a b c d
      rw [be4, IntKind.wrap_u64]
      omega
theorem wr_w64 (x : Int) : IntKind.u64.wrap (wrap64 x) = IntKind.u64.wrap x := by
  rw [IntKind.wrap_u64, IntKind.wrap_u64]; unfold wrap64; omega
theorem w64_wr (x : Int) : wrap64 (IntKind.u64.wrap x) = wrap64 x := by
  rw [IntKind.wrap_u64]; unfold wrap64; omega
theorem w64_w64 (x : Int) : wrap64 (wrap64 x) = wrap64 x := by
  unfold wrap64; omega
theorem tk8_eq (X : Option (List Int)) : tkv 8 X = IntKind.u64.wrap (lft q8 0 X).1 ∧ tks 8 X = (lft q8 0 X).2 := by
  cases X with
  | none => exact ⟨by rw [IntKind.wrap_u64]; rfl, rfl⟩
  | some l =>
    unfold tkv tks lft
    rw [Option.bind_some]
    dsimp only
    by_cases h : l.length < 8
    · rw [if_pos h, if_pos h]
      have e : q8 l = none := by
        unfold q8
        by_cases h4 : l.length < 4
        · rw [p4_short h4]; rfl
        · obtain ⟨a, b, c, d, r, rfl⟩ := len4 h4
          show ((p4 r).bind _) = none
          rw [p4_short (by simp at h; omega)]; rfl
      rw [e]
      exact ⟨by rw [IntKind.wrap_u64]; rfl, rfl⟩
    · rw [if_neg h, if_neg h]
      obtain ⟨a, b, c, d, r, rfl⟩ := len4 (show ¬ l.length < 4 by omega)
      obtain ⟨a', b', c', d', r, rfl⟩ := len4 (show ¬ r.length < 4 by simp at h; omega)
      refine ⟨?_, rfl⟩
      show IntKind.u64.wrap (be 0 [a, b, c, d, a', b', c', d']) = IntKind.u64.wrap (wrap64 (val4 a b c d * 4294967296 + val4 a' b' c' d'))
      rw [be8, wr_w64]
/-- One byte. -/
def q1 : List Int → Option (Int × List Int)
  | [] => none
  | a :: r => some (a, r)
theorem tk1_eq (X : Option (List Int)) (hX : InX X) : tkv 1 X = (lft q1 0 X).1 ∧ tks 1 X = (lft q1 0 X).2 := by
  cases X with
  | none => exact ⟨rfl, rfl⟩
  | some l =>
    cases l with
    | nil => exact ⟨rfl, rfl⟩
    | cons a r =>
      have := hX _ rfl a (by simp)
      refine ⟨?_, rfl⟩
      show (if (a :: r).length < 1 then (0 : Int) else IntKind.u64.wrap (be 0 [a])) = a
      rw [if_neg (by simp)]
      show IntKind.u64.wrap (0 * 256 + a) = a
      rw [IntKind.wrap_u64]
      omega
theorem fo_eq (m : Int) (hm0 : 0 ≤ m) (hm : m ≤ 2147483647) (X : Option (List Int)) (hX : InX X) : fov m X = (lft (qc m) 0 X).1 ∧ fos m X = (lft (qc m) 0 X).2 := by
  obtain ⟨e1, e2⟩ := tk4_eq X hX
  unfold fov fos
  rw [e1, e2]
  unfold lft
  cases X with
  | none =>
    rw [if_neg (by show ¬ (0 : Int) > m; omega), if_neg (by show ¬ (0 : Int) > m; omega)]
    exact ⟨rfl, rfl⟩
  | some l =>
    simp only [Option.bind_some]
    unfold qc q4
    cases h : p4 l with
    | none =>
      dsimp only
      rw [if_neg (by show ¬ (0 : Int) > m; omega), if_neg (by show ¬ (0 : Int) > m; omega)]
      exact ⟨rfl, rfl⟩
    | some t =>
      simp only [Option.bind_some]
      by_cases h1 : t.1 > 2147483647
      · have h2 : t.1 > m := by omega
        simp only [if_pos h2, if_pos h1]; exact ⟨rfl, rfl⟩
      · rw [if_neg h1, Option.bind_some]
        by_cases h2 : t.1 > m
        · rw [if_pos h2, if_pos h2, if_pos h2]; exact ⟨rfl, rfl⟩
        · rw [if_neg h2, if_neg h2, if_neg h2]; exact ⟨rfl, rfl⟩
theorem qc_q4 : qc 2147483647 = q4 := by
  funext l
  unfold qc q4
  cases p4 l with
  | none => rfl
  | some t =>
    simp only [Option.bind_some]
    by_cases h : t.1 > 2147483647
    · rw [if_pos h]; rfl
    · rw [if_neg h, Option.bind_some, if_neg h]
theorem lc_bd (m : Int) (hm0 : 0 ≤ m) (X : Option (List Int)) (hX : InX X) : 0 ≤ (lft (qc m) 0 X).1 ∧ (lft (qc m) 0 X).1 ≤ m := by
  unfold lft
  cases X with
  | none => exact ⟨Int.le_refl _, hm0⟩
  | some l =>
    rw [Option.bind_some]
    unfold qc q4
    cases h : p4 l with
    | none => exact ⟨Int.le_refl _, hm0⟩
    | some t =>
      have hb := p4_in h (hX _ rfl)
      simp only [Option.bind_some]
      by_cases h1 : t.1 > 2147483647
      · rw [if_pos h1]; exact ⟨Int.le_refl _, hm0⟩
      · rw [if_neg h1, Option.bind_some]
        by_cases h2 : t.1 > m
        · rw [if_pos h2]; exact ⟨Int.le_refl _, hm0⟩
        · rw [if_neg h2]; exact ⟨hb.2.1, by show t.1 ≤ m; omega⟩
theorem l8_w (X : Option (List Int)) : wrap64 (lft q8 0 X).1 = (lft q8 0 X).1 := by
  have z : wrap64 0 = 0 := by unfold wrap64; omega
  unfold lft
  cases X with
  | none => exact z
  | some l =>
    rw [Option.bind_some]
    unfold q8
    cases p4 l with
    | none => exact z
    | some t =>
      rw [Option.bind_some]
      cases p4 t.2 with
      | none => exact z
      | some u => exact w64_w64 _
theorem l1_bd (X : Option (List Int)) (hX : InX X) : 0 ≤ (lft q1 0 X).1 ∧ (lft q1 0 X).1 ≤ 255 := by
  unfold lft
  cases X with
  | none => exact ⟨by decide, by decide⟩
  | some l =>
    cases l with
    | nil => exact ⟨by decide, by decide⟩
    | cons a r => exact hX _ rfl a (by simp)
/-- The three ways in which Decode takes. -/
def T8 (w0 W : World) (g : Nat) (B : List Int) (X : Option (List Int)) (e : Ending) (W' : World) : Prop := ∃ v X', lft q8 0 X = (v, X') ∧ IntKind.i64.wrap (IntKind.u64.wrap v) = v ∧ TP w0 W g B .u64 (IntKind.u64.wrap v) X' e W'
theorem take8 (w0 W : World) (g : Nat) (B : List Int) (hs : B.length ≤ 1048576) (X : Option (List Int)) (h : RS w0 W g B X) (hB : Below w0.heap.size w0 W) : Calls Try.prog 24 #[.pointer (some ⟨g, 0, none⟩), .int .i64 8] W (T8 w0 W g B X) := by
  refine (take_any w0 W g B hs 8 (by decide) X h hB).mono ?_
  obtain ⟨e1, e2⟩ := tk8_eq X
  rw [e1, e2]
  intro e W' hp
  refine ⟨_, _, rfl, ?_, hp⟩
  show IntKind.i64.wrap (IntKind.u64.wrap (lft q8 0 X).1) = (lft q8 0 X).1
  rw [show ∀ y, IntKind.i64.wrap y = wrap64 y from fun y => by rw [IntKind.wrap_i64]; unfold wrap64; omega, w64_wr, l8_w]
def T1 (w0 W : World) (g : Nat) (B : List Int) (X : Option (List Int)) (e : Ending) (W' : World) : Prop := ∃ v X', lft q1 0 X = (v, X') ∧ (0 ≤ v ∧ v ≤ 255) ∧ TP w0 W g B .u64 v X' e W'
theorem take1 (w0 W : World) (g : Nat) (B : List Int) (hs : B.length ≤ 1048576) (hin : InB B) (X : Option (List Int)) (h : RS w0 W g B X) (hB : Below w0.heap.size w0 W) : Calls Try.prog 24 #[.pointer (some ⟨g, 0, none⟩), .int .i64 1] W (T1 w0 W g B X) := by
  refine (take_any w0 W g B hs 1 (by decide) X h hB).mono ?_
  obtain ⟨e1, e2⟩ := tk1_eq X (h.inX hin)
  rw [e1, e2]
  intro e W' hp
  exact ⟨_, _, rfl, l1_bd X (h.inX hin), hp⟩
def T4 (w0 W : World) (g : Nat) (B : List Int) (m : Int) (X : Option (List Int)) (e : Ending) (W' : World) : Prop := ∃ v X', lft (qc m) 0 X = (v, X') ∧ (0 ≤ v ∧ v ≤ m) ∧ TP w0 W g B .i64 v X' e W'
theorem four (w0 W : World) (g : Nat) (B : List Int) (hs : B.length ≤ 1048576) (hin : InB B) (m : Int) (hm0 : 0 ≤ m) (hm : m ≤ 2147483647) (X : Option (List Int)) (h : RS w0 W g B X) (hB : Below w0.heap.size w0 W) : Calls Try.prog 25 #[.pointer (some ⟨g, 0, none⟩), .int .i64 m] W (T4 w0 W g B m X) := by
  refine (four_any' w0 W g B hs m hm0 hm X h hB).mono ?_
  obtain ⟨e1, e2⟩ := fo_eq m hm0 hm X (h.inX hin)
  rw [e1, e2]
  intro e W' hp
  exact ⟨_, _, rfl, lc_bd m hm0 X (h.inX hin), hp⟩
/-- The head: the first four bytes. -/
theorem head (w0 W : World) (g : Nat) (B : List Int) (hs : B.length ≤ 1048576) (hin : InB B) (h : RS w0 W g B (some B)) (hB : Below w0.heap.size w0 W) : Calls Try.prog 24 #[.pointer (some ⟨g, 0, none⟩), .int .i64 4] W (TP w0 W g B .u64 (lft p4 0 (some B)).1 (lft p4 0 (some B)).2) := by
  refine (take_any w0 W g B hs 4 (by decide) _ h hB).mono ?_
  obtain ⟨e1, e2⟩ := tk4_eq (some B) (h.inX hin)
  rw [e1, e2]
  exact fun _ _ hp => hp
theorem val4_magic (a b c d : Int) (ha : 0 ≤ a ∧ a ≤ 255) (hb : 0 ≤ b ∧ b ≤ 255) (hc : 0 ≤ c ∧ c ≤ 255) (hd : 0 ≤ d ∧ d ≤ 255) : val4 a b c d = 1668313905 ↔ (a = 99 ∧ b = 112 ∧ c = 115 ∧ d = 49) := by
  unfold val4
  omega
theorem str4 (a b c d : Int) (ha : 0 ≤ a ∧ a ≤ 255) (hb : 0 ≤ b ∧ b ≤ 255) (hc : 0 ≤ c ∧ c ≤ 255) (hd : 0 ≤ d ∧ d ≤ 255) : (strOfNums [a, b, c, d]).toList = ([99, 112, 115, 49] : List UInt8) ↔ (a = 99 ∧ b = 112 ∧ c = 115 ∧ d = 49) := by
  rw [ByteArray.toList_eq, strOfNums_data]
  show [UInt8.ofNat a.toNat, UInt8.ofNat b.toNat, UInt8.ofNat c.toNat, UInt8.ofNat d.toNat] = [99, 112, 115, 49] ↔ _
  have key : ∀ x : Int, 0 ≤ x ∧ x ≤ 255 → ∀ n : UInt8, UInt8.ofNat x.toNat = n → x = n.toNat := by
    intro x hx n hn
    have := congrArg UInt8.toNat hn
    rw [UInt8.toNat_ofNat'] at this
    omega
  constructor
  · intro h
    injection h with h1 h
    injection h with h2 h
    injection h with h3 h
    injection h with h4 h
    exact ⟨key a ha _ h1, key b hb _ h2, key c hc _ h3, key d hd _ h4⟩
  · rintro ⟨rfl, rfl, rfl, rfl⟩
    rfl
/-- The head of the plain reader: four bytes that are the mark. -/
theorem prog_head (l : List Int) (hin : InB l) : prog l = if (lft p4 0 (some l)).1 = 1668313905 then ((lft p4 0 (some l)).2.bind c0) else none := by
  unfold prog lft
  rw [Option.bind_some]
  by_cases h : l.length < 4
  · rw [if_pos h, p4_short h]
    rfl
  · rw [if_neg h]
    obtain ⟨a, b, c, d, r, rfl⟩ := len4 h
    have h1 := hin a (by simp); have h2 := hin b (by simp); have h3 := hin c (by simp); have h4 := hin d (by simp)
    show (if (strOfNums [a, b, c, d]).toList = ([99, 112, 115, 49] : List UInt8) then c0 r else none) = if val4 a b c d = 1668313905 then (some r).bind c0 else none
    by_cases hm : (a = 99 ∧ b = 112 ∧ c = 115 ∧ d = 49)
    · rw [if_pos ((str4 a b c d h1 h2 h3 h4).2 hm), if_pos ((val4_magic a b c d h1 h2 h3 h4).2 hm)]; rfl
    · rw [if_neg (fun h => hm ((str4 a b c d h1 h2 h3 h4).1 h)), if_neg (fun h => hm ((val4_magic a b c d h1 h2 h3 h4).1 h))]
end Go.Proofs.Ytkdboaaganmagaa.Cg
