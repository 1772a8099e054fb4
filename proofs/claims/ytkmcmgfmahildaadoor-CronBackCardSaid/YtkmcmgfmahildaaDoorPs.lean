/- CronBack: what is to be shown of the call. -/
import Derived.Test.YtkmcmgfmahildaaDoorPv
import Derived.Test.YtkmcmgfmahildaaDoorPk
import Derived.Test.YtkmcmgfmahildaaDoorCe
import Derived.Test.YtkmcmgfmahildaaDoorOBx18
import Derived.Test.YtkmcmgfmahildaaDoorArgCronBack
import Derived.OpenShut
namespace Go.Proofs.YtkmcmgfmahildaaDoor.Ps
set_option linter.unusedVariables false
open Go.RowKit Go.Proofs.YtkmcmgfmahildaaDoorW.PrintWords Go.Proofs.YtkmcmgfmahildaaDoor.OA Go.Proofs.YtkmcmgfmahildaaDoor.Bt Go.Proofs.YtkmcmgfmahildaaDoor.Laid Go.Proofs.YtkmcmgfmahildaaDoor.Pt Go.Proofs.YtkmcmgfmahildaaDoor.Pu0 Go.Proofs.YtkmcmgfmahildaaDoor.Pv Go.Proofs.YtkmcmgfmahildaaDoor.Ct Go.Proofs.YtkmcmgfmahildaaDoor.Cx
open Go.Proofs.YtkmcmgfmahildaaDoor.Pw (L atB setP itemP slashP stF numP is_f numP_pos atB_lt L_len)

/-- A set of a field: some of its numbers. -/
def Good (i : Nat) (v : Int) : Prop := ∃ S : Nat, v = (S : Int) ∧ S < 18446744073709551616 ∧ S ≠ 0 ∧ ∀ j : Nat, S.testBit j = true → low i ≤ (j : Int) ∧ (j : Int) ≤ high i
def InR (lo hi S : Nat) : Prop := ∀ j, S.testBit j = true → lo ≤ j ∧ j ≤ hi
theorem stF_in (lo hi b n : Nat) (hb : b ≤ hi) : ∀ (g a acc : Nat), lo ≤ a → InR lo hi acc → InR lo hi (stF g a b n acc)
  | 0, _, _, _, h => h
  | g + 1, a, acc, ha, h => by
    show InR lo hi (if a ≤ b then stF g (a + n) b n (acc ||| 2 ^ a) else acc)
    split
    · rename_i hab
      refine stF_in lo hi b n hb g (a + n) _ (by omega) (fun j hj => ?_)
      rw [Nat.testBit_or, Nat.testBit_two_pow] at hj
      by_cases e : a = j
      · omega
      · rw [decide_eq_false e, Bool.or_false] at hj; exact h j hj
    · exact h
theorem stF_ge : ∀ (g a b n acc : Nat), acc ≤ stF g a b n acc
  | 0, _, _, _, _ => Nat.le_refl _
  | g + 1, a, b, n, acc => by
    show acc ≤ (if a ≤ b then stF g (a + n) b n (acc ||| 2 ^ a) else acc)
    split
    · exact Nat.le_trans Nat.left_le_or (stF_ge g (a + n) b n _)
    · exact Nat.le_refl _
theorem stF_pos (a b n : Nat) (h : a ≤ b) : stF 64 a b n 0 ≠ 0 := by
  have h1 : stF 64 a b n 0 = stF 63 (a + n) b n (0 ||| 2 ^ a) := by
    show (if a ≤ b then stF 63 (a + n) b n (0 ||| 2 ^ a) else 0) = _
    rw [if_pos h]
  rw [h1]
  have h2 := stF_ge 63 (a + n) b n (0 ||| 2 ^ a)
  rw [Nat.zero_or] at h2 ⊢
  have := Nat.two_pow_pos a
  omega
theorem in_zero (lo hi : Nat) : InR lo hi 0 := fun j hj => by simp at hj
theorem slash_good (s : ByteArray) (p a b lo hi v q : Nat) (h1 : lo ≤ a) (h2 : b ≤ hi) (h3 : a ≤ b) (h : slashP s p a b = (true, v, q)) : InR lo hi v ∧ v ≠ 0 := by
  unfold slashP at h
  split at h
  · split at h
    · simp at h
    · simp only [Prod.mk.injEq, true_and] at h
      obtain ⟨rfl, rfl⟩ := h
      exact ⟨stF_in lo hi b _ h2 64 a 0 h1 (in_zero _ _), stF_pos a b _ h3⟩
  · simp only [Prod.mk.injEq, true_and] at h
    obtain ⟨rfl, rfl⟩ := h
    exact ⟨stF_in lo hi b _ h2 64 a 0 h1 (in_zero _ _), stF_pos a b _ h3⟩
theorem item_good (s : ByteArray) (p lo hi v q : Nat) (hp : p ≤ s.size) (hl : lo ≤ hi) (h : itemP s p lo hi = (true, v, q)) : InR lo hi v ∧ v ≠ 0 := by
  unfold itemP at h
  split at h
  · exact slash_good s (p + 1) lo hi lo hi v q (Nat.le_refl _) (Nat.le_refl _) hl h
  · split at h
    · simp at h
    · rename_i a q1 hq
      obtain ⟨g1, g2, g3, g4⟩ := numP_pos hp hq
      split at h
      · rename_i h5
        split at h
        · simp at h
        · rename_i b q2 hq2
          obtain ⟨k1, k2, k3, k4⟩ := numP_pos (atB_lt h5) hq2
          exact slash_good s q2 a b lo hi v q (by omega) (by omega) (by omega) h
      · simp only [Prod.mk.injEq, true_and] at h
        obtain ⟨rfl, rfl⟩ := h
        exact ⟨stF_in lo hi a _ (by omega) 64 a 0 (by omega) (in_zero _ _), stF_pos a a _ (Nat.le_refl _)⟩
theorem setP_good (s : ByteArray) (lo hi : Nat) (hl : lo ≤ hi) (hh : hi < 64) : ∀ (g p acc v q : Nat), p ≤ s.size → InR lo hi acc → setP s lo hi g p acc = some (true, v, q) → InR lo hi v ∧ v ≠ 0 := by
  intro g
  induction g with
  | zero => intro p acc v q _ _ h; simp [setP] at h
  | succ g ih =>
    intro p acc v q hp ha h
    obtain ⟨e1, e2, e3⟩ := Pw.itemP_pos s p lo hi hp hh
    unfold setP at h
    obtain ⟨⟨ok, v1, q1⟩, hi_⟩ : ∃ x, itemP s p lo hi = x := ⟨_, rfl⟩
    rw [hi_] at h e1 e2 e3
    cases ok
    · simp at h
    · obtain ⟨i1, i2⟩ := item_good s p lo hi v1 q1 hp hl hi_
      have hor : InR lo hi (acc ||| v1) := by
        intro j hj
        rw [Nat.testBit_or, Bool.or_eq_true] at hj
        exact hj.elim (ha j) (i1 j)
      simp only [if_true] at h
      split at h
      · rename_i h4
        exact ih (q1 + 1) _ v q (atB_lt h4) hor h
      · simp only [Option.some.injEq, Prod.mk.injEq, true_and] at h
        obtain ⟨rfl, rfl⟩ := h
        refine ⟨hor, fun h0 => i2 ?_⟩
        have : v1 ≤ acc ||| v1 := Nat.right_le_or
        omega
theorem field_good (s : ByteArray) (hs : s.size ≤ 256) (i : Nat) (hi : i < 5) (p : Nat) (hp : p ≤ s.size) (K : Nat) (hK : 600 ≤ K) :
    ∃ (v : Int) (ok : Bool) (q : Nat), cron_reader_set.f K s p (low i) (high i) = some (v, ok, s, (q : Int)) ∧ q ≤ s.size ∧ (ok = true → Good i v) := by
  obtain ⟨lo, h, e1, e2, hl, hh, _⟩ := star_set i hi
  obtain ⟨⟨ok, v, q⟩, hr, r1, r2⟩ := Pw.setP_some s lo h (by omega) 300 p 0 hp (by omega)
  have hg := Pw.go_set s hs lo h (by omega) hl _ 300 p 0 K hp (by omega) hr (by omega)
  refine ⟨v, ok, q, ?_, r2, ?_⟩
  · unfold cron_reader_set.f
    rw [e1, e2]
    exact hg
  · rintro rfl
    obtain ⟨g1, g2⟩ := setP_good s lo h hl (by omega) 300 p 0 v q hp (in_zero _ _) hr
    refine ⟨v, rfl, ?_, g2, fun j hj => by have := g1 j hj; rw [e1, e2]; omega⟩
    show v < 2 ^ 64
    refine lt_iff_bits.2 fun j hj => ?_
    cases hb : v.testBit j
    · rfl
    · have := g1 j hb; omega
theorem readF_good (s : ByteArray) (hs : s.size ≤ 256) (K : Nat) (hK : 1000 ≤ K) : ∀ (g : Nat) (V : Nat → Int) (p : Nat), g ≤ 5 → p ≤ s.size →
    ∃ (F : Nat → Int) (P : Nat) (E : Int), Ce.readF K g V s p = some (F, (P : Int), E) ∧ P ≤ s.size ∧ (E = 0 ∨ E = 26) ∧ (E = 0 → (∀ i, 5 - g ≤ i → i < 5 → Good i (F i)) ∧ ∀ i, i < 5 - g → F i = V i) := by
  intro g
  induction g with
  | zero => intro V p _ hp; exact ⟨V, p, 0, rfl, hp, .inl rfl, fun _ => ⟨fun i h1 h2 => by omega, fun _ _ => rfl⟩⟩
  | succ g ih =>
    intro V p hg hp
    unfold Ce.readF
    have key : ∃ (p' : Nat) (b : Bool), p' ≤ s.size ∧ (if 0 < 4 - g then cron_reader_is.f s p 32 else some (true, s, (p : Int))) = some (b, s, (p' : Int)) := by
      split
      · rw [is_f s hs p 32]
        split
        · rename_i h; exact ⟨p + 1, true, atB_lt h, rfl⟩
        · exact ⟨p, false, hp, rfl⟩
      · exact ⟨p, true, hp, rfl⟩
    obtain ⟨p', b, hp', k1⟩ := key
    rw [k1]
    simp only [Option.bind_some]
    cases b
    · simp only [Bool.false_eq_true, if_false]
      exact ⟨V, p', 26, rfl, hp', .inr rfl, fun h => absurd h (by decide)⟩
    · simp only [if_true]
      obtain ⟨v, ok, q, h1, h2, h3⟩ := field_good s hs (4 - g) (by omega) p' hp' K (by omega)
      rw [h1]
      simp only [Option.bind_some]
      cases ok
      · simp only [Bool.false_eq_true, if_false]
        exact ⟨V, q, 26, rfl, h2, .inr rfl, fun h => absurd h (by decide)⟩
      · simp only [if_true]
        obtain ⟨F, P, E, i1, i2, i3, i4⟩ := ih (Ce.upd V (4 - g) v) q (by omega) h2
        refine ⟨F, P, E, i1, i2, i3, fun h => ?_⟩
        obtain ⟨j1, j2⟩ := i4 h
        refine ⟨fun i h4 h5 => ?_, fun i h4 => ?_⟩
        · by_cases e : i = 4 - g
          · rw [j2 i (by omega), e]
            unfold Ce.upd
            rw [if_pos rfl]
            exact h3 rfl
          · exact j1 i (by omega) h5
        · rw [j2 i (by omega)]
          unfold Ce.upd
          rw [if_neg (by omega)]
theorem good_okf (i : Nat) (hi : i < 5) (v : Int) (h : Good i v) : (0 ≤ v ∧ v ≤ 18446744073709551615) ∧ Cf.okf v (Ca.allv i) = true := by
  obtain ⟨S, rfl, h1, h2, h3⟩ := h
  have hb : 0 ≤ (S : Int) ∧ (S : Int) ≤ 18446744073709551615 := by omega
  refine ⟨hb, ?_⟩
  rw [Pf.okf_is _ hb i hi, Bool.and_eq_true]
  refine ⟨by rw [Bool.not_eq_true', beq_eq_false_iff_ne]; omega, ?_⟩
  rw [Pf.rokI_iff _ _ _ 64 (Nat.le_refl _)]
  intro n _ hn hb
  rw [Pf.hasB_bit S n hn] at hb
  exact h3 n hb
theorem good_formed (F : Nat → Int) (h : ∀ i, i < 5 → Good i (F i)) : Cf.formedB (F 0) (F 1) (F 2) (F 3) (F 4) = true := by
  have h0 := (good_okf 0 (by omega) _ (h 0 (by omega))).2
  have h1 := (good_okf 1 (by omega) _ (h 1 (by omega))).2
  have h2 := (good_okf 2 (by omega) _ (h 2 (by omega))).2
  have h3 := (good_okf 3 (by omega) _ (h 3 (by omega))).2
  have h4 := (good_okf 4 (by omega) _ (h 4 (by omega))).2
  show (Cf.okf (F 0) (Ca.allv 0) && (Cf.okf (F 1) (Ca.allv 1) && (Cf.okf (F 2) (Ca.allv 2) && (Cf.okf (F 3) (Ca.allv 3) && (Cf.okf (F 4) (Ca.allv 4) && true))))) = true
  rw [h0, h1, h2, h3, h4]; rfl
def U64 (a : Int) : Prop := 0 ≤ a ∧ a ≤ 18446744073709551615
/-- What Read answers, at any text. -/
theorem read_any (s : ByteArray) (K : Nat) (hK : 1000 ≤ K) : ∃ a b c d e at_ er : Int, Ce.Read.f K s = some (a, b, c, d, e, at_, er) ∧
    ((er = 0 ∧ Cf.formedB a b c d e = true ∧ U64 a ∧ U64 b ∧ U64 c ∧ U64 d ∧ U64 e) ∨ (er ≠ 0 ∧ a = 0 ∧ b = 0 ∧ c = 0 ∧ d = 0 ∧ e = 0 ∧ 0 ≤ at_ ∧ at_ ≤ (s.size : Int))) := by
  unfold Ce.Read.f
  by_cases h : 256 < s.size
  · rw [if_pos h]
    exact ⟨_, _, _, _, _, _, _, rfl, .inr ⟨by decide, rfl, rfl, rfl, rfl, rfl, by omega, by omega⟩⟩
  · rw [if_neg h]
    obtain ⟨F, P, E, h1, h2, h3, h4⟩ := readF_good s (by omega) K hK 5 (fun _ => 0) 0 (by omega) (by omega)
    rw [show Ce.readF K 5 (fun _ => 0) s 0 = _ from h1]
    simp only [Option.bind_some]
    rcases h3 with rfl | rfl
    · rw [if_pos rfl]
      split
      · exact ⟨_, _, _, _, _, _, _, rfl, .inr ⟨by decide, rfl, rfl, rfl, rfl, rfl, by omega, by omega⟩⟩
      · have hg : ∀ i, i < 5 → Good i (F i) := fun i hi => (h4 rfl).1 i (by omega) hi
        exact ⟨_, _, _, _, _, _, _, rfl, .inl ⟨rfl, good_formed F hg, (good_okf 0 (by omega) _ (hg 0 (by omega))).1, (good_okf 1 (by omega) _ (hg 1 (by omega))).1, (good_okf 2 (by omega) _ (hg 2 (by omega))).1, (good_okf 3 (by omega) _ (hg 3 (by omega))).1, (good_okf 4 (by omega) _ (hg 4 (by omega))).1⟩⟩
    · rw [if_neg (by decide)]
      exact ⟨_, _, _, _, _, _, _, rfl, .inr ⟨by decide, rfl, rfl, rfl, rfl, rfl, by omega, by omega⟩⟩
/-! ### There and back -/
def TLs (X : Nat → List UInt8) : Nat → Nat → List UInt8
  | 0, _ => []
  | g + 1, i => 32 :: (X i ++ TLs X g (i + 1))
theorem racc_list (F : Nat → ByteArray) (g : Nat) : ∀ k, (raccT F k).data.toList ++ TLs (fun i => (F i).data.toList) g (k + 1) = (F 0).data.toList ++ TLs (fun i => (F i).data.toList) (k + g) 1
  | 0 => by rw [show (0 : Nat) + g = g from Nat.zero_add g]; rfl
  | k + 1 => by
    have h := racc_list F (g + 1) k
    rw [show k + 1 + g = k + (g + 1) from by omega, ← h]
    show (raccT F k ++ (sp ++ F (k + 1))).data.toList ++ _ = _ ++ (32 :: ((F (k + 1)).data.toList ++ _))
    simp [sp]
theorem tls_stop (X : Nat → List UInt8) (g i : Nat) : TLs X g i = [] ∨ ∃ t, TLs X g i = 32 :: t := by
  cases g with
  | zero => exact .inl rfl
  | succ g => exact .inr ⟨_, rfl⟩
theorem back_F (s : ByteArray) (hs : s.size ≤ 256) (K : Nat) (hK : 1000 ≤ K) (f : Nat → Int) (hf : ∀ i, i < 5 → Good i (f i)) : ∀ (g : Nat) (V : Nat → Int) (p : Nat), g ≤ 4 → p ≤ s.size → L s p = TLs (fun i => (tt (f i).toNat i).data.toList) g (5 - g) →
    ∃ W, Ce.readF K g V s p = some (W, (s.size : Int), 0) ∧ ∀ i, i < 5 → W i = if i < 5 - g then V i else f i := by
  intro g
  induction g with
  | zero =>
    intro V p _ hp hL
    refine ⟨V, ?_, fun i hi => by rw [if_pos (by omega)]⟩
    have h1 := L_len s p
    rw [hL] at h1
    have h2 : (TLs (fun i => (tt (f i).toNat i).data.toList) 0 (5 - 0)).length = 0 := rfl
    rw [h2] at h1
    show some (V, (p : Int), (0 : Int)) = _
    rw [show p = s.size from by omega]
  | succ g ih =>
    intro V p hg hp hL
    have hL2 : L s p = 32 :: ((tt (f (4 - g)).toNat (4 - g)).data.toList ++ TLs (fun i => (tt (f i).toNat i).data.toList) g (5 - g)) := by
      rw [hL, show 5 - (g + 1) = 4 - g from by omega]
      show 32 :: (_ ++ TLs _ g (4 - g + 1)) = _
      rw [show 4 - g + 1 = 5 - g from by omega]
    obtain ⟨a1, a2, a3, _⟩ := atB_cons hL2 32
    unfold Ce.readF
    rw [if_pos (by omega), is_f s hs p 32, show atB s p 32 = true from a1, if_pos rfl]
    simp only [Option.bind_some, if_true]
    obtain ⟨S, hS, h1, h2, h3⟩ := hf (4 - g) (by omega)
    rw [hS, Int.toNat_natCast] at a3
    obtain ⟨q, hq, q1, q2⟩ := read_field s hs (4 - g) (by omega) S h1 h2 h3 (p + 1) a2 _ (tls_stop _ g (5 - g)) a3 K (by omega)
    rw [hq]
    simp only [Option.bind_some, if_true]
    obtain ⟨W, hW, hw⟩ := ih (Ce.upd V (4 - g) S) q (by omega) q1 q2
    refine ⟨W, hW, fun i hi => ?_⟩
    rw [hw i hi]
    unfold Ce.upd
    by_cases e : i = 4 - g
    · rw [if_pos (by omega), if_pos e, if_neg (by omega), e, hS]
    · by_cases e2 : i < 4 - g
      · rw [if_pos (by omega), if_neg e, if_pos (by omega)]
      · rw [if_neg (by omega), if_neg (by omega)]
theorem tls_len (X : Nat → List UInt8) (B : Nat → Nat) (h : ∀ i, i < 5 → (X i).length ≤ B i) : (TLs X 4 1).length ≤ 4 + B 1 + B 2 + B 3 + B 4 := by
  have h1 := h 1 (by omega)
  have h2 := h 2 (by omega)
  have h3 := h 3 (by omega)
  have h4 := h 4 (by omega)
  simp only [TLs, List.length_cons, List.length_append, List.length_nil]
  simp only [show 1 + 1 = 2 from rfl, show 2 + 1 = 3 from rfl, show 3 + 1 = 4 from rfl]
  omega
/-- A schedule's text is read as the schedule. -/
theorem back (a b c d e : Int) (ha : U64 a) (hb : U64 b) (hc : U64 c) (hd : U64 d) (he : U64 e) (hf : Cf.formedB a b c d e = true) (K : Nat) (hK : 6000 ≤ K) :
    ∃ t, Text.f K a b c d e = some (t, 0) ∧ Ce.Read.f K t = some (a, b, c, d, e, 0, 0) := by
  obtain ⟨h1, _⟩ := texts a b c d e ha hb hc hd he hf K hK
  obtain ⟨F, hF⟩ : ∃ F, pick5 (tt a.toNat 0) (tt b.toNat 1) (tt c.toNat 2) (tt d.toNat 3) (tt e.toNat 4) = F := ⟨_, rfl⟩
  rw [hF, acc_is F 4] at h1
  refine ⟨raccT F 4, h1, ?_⟩
  have hin := formed_in a b c d e hf ha hb hc hd he
  have hgood : ∀ i, i < 5 → Good i (Cf.fld a b c d e i) := fun i hi => hin i hi
  have hFi : ∀ i, i < 5 → F i = tt (Cf.fld a b c d e i).toNat i := by
    intro i hi
    rw [← hF]
    have : i = 0 ∨ i = 1 ∨ i = 2 ∨ i = 3 ∨ i = 4 := by omega
    rcases this with rfl | rfl | rfl | rfl | rfl <;> rfl
  have hlen : ∀ i, i < 5 → ((F i).data.toList).length ≤ bnd i := by
    intro i hi
    obtain ⟨S, e1, e2, _, e3⟩ := hin i hi
    rw [hFi i hi, e1, Int.toNat_natCast]
    have := tt_short S i hi e2 e3
    simpa using this
  have hl := racc_list F 0 4
  have hl2 : (raccT F 4).data.toList = (F 0).data.toList ++ TLs (fun i => (F i).data.toList) 4 1 := by
    have : TLs (fun i => (F i).data.toList) 0 (4 + 1) = [] := rfl
    rw [this, List.append_nil] at hl
    exact hl
  obtain ⟨s, hs⟩ : ∃ s, raccT F 4 = s := ⟨_, rfl⟩
  rw [hs] at hl2 ⊢
  have hsz : s.size ≤ 256 := by
    have h2 : s.size = s.data.toList.length := by simp
    rw [h2, hl2, List.length_append]
    have h3 := tls_len _ bnd hlen
    have h4 := hlen 0 (by omega)
    have e0 : bnd 0 = 115 := rfl
    have e1 : bnd 1 = 43 := rfl
    have e2 : bnd 2 = 59 := rfl
    have e3 : bnd 3 = 21 := rfl
    have e4 : bnd 4 = 10 := rfl
    omega
  have hL : L s 0 = (tt (Cf.fld a b c d e 0).toNat 0).data.toList ++ TLs (fun i => (tt (Cf.fld a b c d e i).toNat i).data.toList) 4 1 := by
    have : L s 0 = s.data.toList := rfl
    rw [this, hl2, hFi 0 (by omega)]
    congr 1
    simp only [TLs]
    rw [hFi 1 (by omega), hFi 2 (by omega), hFi 3 (by omega), hFi 4 (by omega)]
  unfold Ce.Read.f
  rw [if_neg (by omega)]
  have hread : ∃ W, Ce.readF K 5 (fun _ => 0) s 0 = some (W, (s.size : Int), 0) ∧ ∀ i, i < 5 → W i = Cf.fld a b c d e i := by
    unfold Ce.readF
    rw [if_neg (show ¬ 0 < 4 - 4 from by decide)]
    simp only [Option.bind_some, if_true]
    obtain ⟨S, e1, e2, e3, e4⟩ := hin 0 (by omega)
    rw [e1, Int.toNat_natCast] at hL
    obtain ⟨q, hq, q1, q2⟩ := read_field s hsz 0 (by omega) S e2 e3 e4 0 (by omega) _ (tls_stop _ 4 1) hL K (by omega)
    rw [show cron_reader_set.f K s 0 (low (4 - 4)) (high (4 - 4)) = _ from hq]
    simp only [Option.bind_some, if_true]
    obtain ⟨W, hW, hw⟩ := back_F s hsz K (by omega) _ hgood 4 (Ce.upd (fun _ => 0) (4 - 4) S) q (by omega) q1 q2
    refine ⟨W, hW, fun i hi => ?_⟩
    rw [hw i hi]
    unfold Ce.upd
    by_cases e : i = 0
    · subst e; rw [e1]; rfl
    · rw [if_neg (by omega)]
  obtain ⟨W, hW, hw⟩ := hread
  rw [hW]
  simp only [Option.bind_some, if_true]
  rw [if_neg (by omega), hw 0 (by omega), hw 1 (by omega), hw 2 (by omega), hw 3 (by omega), hw 4 (by omega)]
  rfl
theorem j0_f (s : ByteArray) : OB.capstanlaw04_CronBack.j0 6001 s = some true := by
  rw [OB.capstanlaw04_CronBack.j0]
  obtain ⟨a, b, c, d, e, at_, er, h1, h2⟩ := read_any s 6000 (by omega)
  rw [h1]
  simp only [Option.bind_some]
  rcases h2 with ⟨rfl, hf, ha, hb, hc, hd, he⟩ | ⟨h0, rfl, rfl, rfl, rfl, rfl, h3, h4⟩
  · obtain ⟨t, k1, k2⟩ := back a b c d e ha hb hc hd he hf 6000 (by omega)
    rw [if_pos rfl, k1]
    simp only [Option.bind_some]
    rw [k2]
    simp
  · rw [if_neg h0]
    simp [h3, h4]
theorem awake_K : OB.capstanlaw04_awake.f 6001 = some true := at_rounds (g := fun k => OB.capstanlaw04_awake.f k) (fun k => OB.capstanlaw04_awake.mono k) (by omega : 100 ≤ 6001) Pk.awake_is
theorem back_f (a b c d e : Int) (ha : U64 a) (hb : U64 b) (hc : U64 c) (hd : U64 d) (he : U64 e) (s : ByteArray) : OB.capstanlaw04_CronBack.f 6001 a b c d e s = some true := by
  unfold OB.capstanlaw04_CronBack.f Cw.formed.f
  rw [awake_K, j0_f s]
  simp only [Option.bind_some, if_true]
  cases hf : Cf.formedB a b c d e
  · obtain ⟨h1, _⟩ := texts_no a b c d e hf ((Pf.formed_eq a b c d e ha hb hc hd he).symm.trans hf) 6001
    rw [h1]
    simp
  · obtain ⟨t, k1, k2⟩ := back a b c d e ha hb hc hd he hf 6001 (by omega)
    rw [k1]
    simp only [Option.bind_some]
    rw [k2]
    simp
theorem walk : ArgCronBack.Walk := fun a b c d e s w hL ha hb hc hd he hs =>
  OB.capstanlaw04_CronBack.calls 6001 a b c d e s true w (back_f a b c d e (bounds_u64 ha) (bounds_u64 hb) (bounds_u64 hc) (bounds_u64 hd) (bounds_u64 he) s) hL
end Go.Proofs.YtkmcmgfmahildaaDoor.Ps
