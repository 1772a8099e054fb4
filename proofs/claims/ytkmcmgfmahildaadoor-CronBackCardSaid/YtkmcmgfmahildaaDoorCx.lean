/- The reference's Text. -/
import Derived.Test.YtkmcmgfmahildaaDoorCt
import Derived.Test.YtkmcmgfmahildaaDoorCv
import Derived.Test.YtkmcmgfmahildaaDoorOAx12
namespace Go.Proofs.YtkmcmgfmahildaaDoor.Cx
set_option linter.unusedVariables false
open Go.RowKit Go.Proofs.YtkmcmgfmahildaaDoorW.PrintWords Go.Proofs.YtkmcmgfmahildaaDoor.Laid Go.Proofs.YtkmcmgfmahildaaDoor.Ca Go.Proofs.YtkmcmgfmahildaaDoor.Cf Go.Proofs.YtkmcmgfmahildaaDoor.Ct Go.Proofs.YtkmcmgfmahildaaDoor.Cv Go.Proofs.YtkmcmgfmahildaaDoor.Blk2
open Go.Proofs.YtkmcmgfmahildaaDoor.Blk (below_then)

/-- The reference puts the fields' texts so. -/
def raccT (T : Nat → ByteArray) : Nat → ByteArray
  | 0 => T 0
  | k + 1 => raccT T k ++ (sp ++ T (k + 1))
theorem raccT_size (T : Nat → ByteArray) (h : ∀ i, (T i).size ≤ 1000) : ∀ k, (raccT T k).size ≤ 1001 * k + 1000
  | 0 => by have := h 0; unfold raccT; omega
  | k + 1 => by
    have := raccT_size T h k
    have := h (k + 1)
    have hsp : sp.size = 1 := rfl
    unfold raccT
    rw [ByteArray.size_append, ByteArray.size_append]; omega
set_option maxHeartbeats 4000000 in
set_option maxRecDepth 100000 in
theorem rtext_yes (kk : Nat) (a b c d e : Int) (T : Nat → ByteArray) (hT : ∀ i : Nat, i < 5 → OA.capstanref04_told.f kk (fld a b c d e i) i = some (T i)) (hs : ∀ i, (T i).size ≤ 1000) (hf : rformedB a b c d e = true) (w : World) :
    Calls Tryd.prog 14 #[.agg #[.int .u64 a, .int .u64 b, .int .u64 c, .int .u64 d, .int .u64 e]] w fun x w' => x = .returned (.tuple #[.string (raccT T 4), .int .i64 0]) ∧ Below w.heap.size w w' := by
  have hF := fun W => rformed_any a b c d e W
  rw [hf] at hF
  have HF := Lib.hid hF; clear hF hf
  have HS := Lib.hid (fun W => rsets_any a b c d e W)
  have HT0 := Lib.hid (fun W => OA.capstanref04_told.calls kk a 0 (T 0) W (hT 0 (by omega)))
  have HT := Lib.hid hT; have HSZ := Lib.hid hs; clear hT hs
  obtain ⟨R, hR⟩ : ∃ R, raccT T 4 = R := ⟨_, rfl⟩
  rw [hR]
  have HR := Lib.hid hR; clear hR
  go_enter Tryd.func14, Tryd.ntmps14
  go_wp2_with fail
  refine (HF.out _).mono ?_
  rintro x w1 ⟨rfl, hb⟩
  have hc := blk_call (Blk.blk_new w (.cells #[.int .u64 a, .int .u64 b, .int .u64 c, .int .u64 d, .int .u64 e] 25)) hb
  have HB1 := Lib.hid (below_then ((Below.refl _ _).alloc (Nat.le_refl _) _) hb (by simp)); clear hb
  have c0 := Blk.blk_cell hc 0
  have c1 := Blk.blk_cell hc 1
  have c2 := Blk.blk_cell hc 2
  have c3 := Blk.blk_cell hc 3
  have c4 := Blk.blk_cell hc 4
  simp at c0 c1 c2 c3 c4
  clear hc
  go_wp2_with fail
  refine (HS.out _).mono ?_
  rintro x w2 ⟨rfl, hb⟩
  have HB2 := Lib.hid (below_then HB1.out hb HB1.out.size); clear hb c0 c1 c2 c3 c4
  go_wp2_with fail
  refine (HT0.out _).mono ?_
  rintro x w3 ⟨rfl, hb0⟩
  have hb := hb0.below
  clear hb0
  have HBLK : Hid (w3.heap[w2.heap.size]? = some (C40 a b c d e)) := blk_call (Blk.blk_new w2 _) hb
  have HB3 := Lib.hid (Blk.below_then (HB2.out.alloc HB2.out.size _) hb (HB2.out.alloc HB2.out.size (C40 a b c d e)).size); clear hb
  go_wp2
  go_loopg [5, 6] 4 (fun gf v5 v6 wx => ∃ k : Nat, v5 = .string (raccT T k) ∧ v6 = .int .i64 (k + 1 : Nat) ∧ k + gf = 4 ∧ Below w.heap.size w wx ∧ wx.heap[w2.heap.size]? = some (C40 a b c d e))
  case atStart => exact ⟨0, rfl, rfl, rfl, HB3.out, HBLK.out⟩
  case round =>
    clear HBLK HB3
    obtain ⟨k, rfl, rfl, hk, hbw, hblk⟩ := hrel
    have HBW := Lib.hid hbw; have HBLK := Lib.hid hblk; clear hbw hblk
    by_cases hlt : k < 4
    · obtain ⟨g', rfl⟩ : ∃ g', gk = g' + 1 := ⟨gk - 1, by omega⟩
      have htold := fun W => OA.capstanref04_told.calls kk _ _ _ W (HT.out (k + 1) (by omega))
      have hsz := HSZ.out (k + 1)
      have hac := raccT_size T HSZ.out k
      have c0 := cell40 HBLK.out (k + 1) (by omega)
      obtain ⟨s, hs⟩ : ∃ s, fld a b c d e (k + 1) = s := ⟨_, rfl⟩
      rw [hs] at c0 htold
      have hnext : raccT T (k + 1) = raccT T k ++ ((⟨#[32]⟩ : ByteArray) ++ T (k + 1)) := rfl
      obtain ⟨A, hA⟩ : ∃ A, raccT T k = A := ⟨_, rfl⟩
      obtain ⟨U, hU⟩ : ∃ U, T (k + 1) = U := ⟨_, rfl⟩
      rw [hA] at hac hnext ⊢
      rw [hU] at hsz htold hnext
      obtain ⟨j, hj⟩ : ∃ j, k + 1 = j := ⟨_, rfl⟩
      rw [hj] at htold c0 hnext ⊢
      have hj4 : j < 5 := by omega
      have HTOLD := Lib.hid htold; have HN := Lib.hid hnext; have HJ := Lib.hid hj
      have hz1 : 1 + U.size ≤ 9223372036854775807 := by omega
      have hz3 : A.size + ((⟨#[32]⟩ : ByteArray) ++ U).size ≤ 9223372036854775807 := by rw [ByteArray.size_append]; have : (⟨#[32]⟩ : ByteArray).size = 1 := rfl; omega
      clear hs htold hnext hA hU hj
      go_wp2_with (go_at_call 28; refine (HTOLD.out _).mono ?_; rintro x w4 ⟨rfl, hb4⟩; have HB4 := Lib.hid hb4.below; clear hb4)
      go_roundg g'
      case measure => omega
      case rel => exact ⟨j, by rw [HN.out], by go_num, by have := HJ.out; omega, below_then HBW.out HB4.out HBW.out.size, blk_call HBLK.out HB4.out⟩
    · obtain rfl : k = 4 := by omega
      have e := HR.out
      rw [e]
      clear e hk
      go_wp2
      go_ret2
      exact ⟨rfl, HBW.out⟩
set_option maxHeartbeats 1000000 in
theorem rtext_no (a b c d e : Int) (hf : rformedB a b c d e = false) (w : World) :
    Calls Tryd.prog 14 #[.agg #[.int .u64 a, .int .u64 b, .int .u64 c, .int .u64 d, .int .u64 e]] w fun x w' => x = .returned (.tuple #[.string ⟨#[]⟩, .int .i64 1]) ∧ Below w.heap.size w w' := by
  have hF := fun W => rformed_any a b c d e W
  rw [hf] at hF
  have HF := Lib.hid hF; clear hF hf
  go_enter Tryd.func14, Tryd.ntmps14
  go_wp2_with fail
  refine (HF.out _).mono ?_
  rintro x w1 ⟨rfl, hb⟩
  have HB1 := Lib.hid (below_then ((Below.refl _ _).alloc (Nat.le_refl _) _) hb (by simp)); clear hb
  go_wp2
  go_ret2
  exact ⟨rfl, HB1.out⟩
def RText.f (k : Nat) (a b c d e : Int) : Option (ByteArray × Int) :=
  if rformedB a b c d e = true then
    (OA.capstanref04_told.f k a 0).bind fun t0 => (OA.capstanref04_told.f k b 1).bind fun t1 => (OA.capstanref04_told.f k c 2).bind fun t2 => (OA.capstanref04_told.f k d 3).bind fun t3 => (OA.capstanref04_told.f k e 4).bind fun t4 =>
      if t0.size ≤ 1000 ∧ t1.size ≤ 1000 ∧ t2.size ≤ 1000 ∧ t3.size ≤ 1000 ∧ t4.size ≤ 1000 then some (raccT (pick5 t0 t1 t2 t3 t4) 4, 0) else none
  else some (⟨#[]⟩, 1)
theorem RText.mono : ∀ a b c d e k, LeO (RText.f k a b c d e) (RText.f (k + 1) a b c d e) := by
  intro a b c d e k
  unfold RText.f
  repeat' first
    | (with_reducible exact OA.capstanref04_told.mono _ _ _)
    | (with_reducible exact LeO.refl _)
    | (with_reducible refine LeO.ite ?_ ?_)
    | (with_reducible refine LeO.bind ?_ (fun _ => ?_))
theorem RText.calls (k : Nat) (a0_0 a0_1 a0_2 a0_3 a0_4 : Int) (r1 : ByteArray) (r2 : Int) (w : World) (h : RText.f k a0_0 a0_1 a0_2 a0_3 a0_4 = some (r1, r2)) :
    Calls Tryd.prog 14 #[.agg #[.int .u64 a0_0, .int .u64 a0_1, .int .u64 a0_2, .int .u64 a0_3, .int .u64 a0_4]] w fun e w' => e = .returned (.tuple #[.string r1, .int .i64 r2]) ∧ Below w.heap.size w w' := by
  unfold RText.f at h
  split at h
  · rename_i hf
    obtain ⟨t0, h0, h⟩ := Option.bind_eq_some_iff.1 h
    obtain ⟨t1, h1, h⟩ := Option.bind_eq_some_iff.1 h
    obtain ⟨t2, h2, h⟩ := Option.bind_eq_some_iff.1 h
    obtain ⟨t3, h3, h⟩ := Option.bind_eq_some_iff.1 h
    obtain ⟨t4, h4, h⟩ := Option.bind_eq_some_iff.1 h
    split at h
    · rename_i hz
      injection h with h
      simp only [Prod.mk.injEq] at h
      obtain ⟨rfl, rfl⟩ := h
      refine rtext_yes k _ _ _ _ _ (pick5 t0 t1 t2 t3 t4) (fun i hi => ?_) (fun i => ?_) hf w
      · have : i = 0 ∨ i = 1 ∨ i = 2 ∨ i = 3 ∨ i = 4 := by omega
        rcases this with rfl | rfl | rfl | rfl | rfl
        · exact h0
        · exact h1
        · exact h2
        · exact h3
        · exact h4
      · unfold pick5
        repeat' split
        all_goals omega
    · cases h
  · rename_i hf
    injection h with h
    simp only [Prod.mk.injEq] at h
    obtain ⟨rfl, rfl⟩ := h
    exact rtext_no _ _ _ _ _ (by simpa using hf) w
end Go.Proofs.YtkmcmgfmahildaaDoor.Cx
