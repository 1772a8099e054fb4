/- cron.Text, and the reference's Formed and Text. -/
import Derived.Test.YtkmcmgfmahildaaDoorCf
import Derived.Test.YtkmcmgfmahildaaDoorOAx1
namespace Go.Proofs.YtkmcmgfmahildaaDoor.Ct
set_option linter.unusedVariables false
open Go.RowKit Go.Proofs.YtkmcmgfmahildaaDoorW.PrintWords Go.Proofs.YtkmcmgfmahildaaDoor.Laid Go.Proofs.YtkmcmgfmahildaaDoor.Ca Go.Proofs.YtkmcmgfmahildaaDoor.Cf Go.Proofs.YtkmcmgfmahildaaDoor.Blk2
open Go.Proofs.YtkmcmgfmahildaaDoor.Blk (below_then)

def sp : ByteArray := ⟨#[32]⟩
/-- The fields' texts one behind the other. -/
def accT (T : Nat → ByteArray) : Nat → ByteArray
  | 0 => ⟨#[]⟩
  | k + 1 => (if 0 < k then accT T k ++ sp else accT T k) ++ T k
theorem accT_size (T : Nat → ByteArray) (h : ∀ i, (T i).size ≤ 1000) : ∀ k, (accT T k).size ≤ 1001 * k
  | 0 => Nat.le_refl 0
  | k + 1 => by
    have := accT_size T h k
    have := h k
    unfold accT
    split
    · have hsp : sp.size = 1 := rfl
      rw [ByteArray.size_append, ByteArray.size_append]; omega
    · rw [ByteArray.size_append]; omega
def pick5 (t0 t1 t2 t3 t4 : ByteArray) (i : Nat) : ByteArray := if i = 0 then t0 else if i = 1 then t1 else if i = 2 then t2 else if i = 3 then t3 else t4
set_option maxHeartbeats 4000000 in
set_option maxRecDepth 100000 in
theorem text_yes (kk : Nat) (a b c d e : Int) (T : Nat → ByteArray) (hT : ∀ i, i < 5 → OA.cron_told.f kk (fld a b c d e i) (low i) (high i) = some (T i)) (hs : ∀ i, (T i).size ≤ 1000) (hf : formedB a b c d e = true) (w : World) (hL : Laid w) :
    Calls Tryd.prog 13 #[.agg #[.int .u64 a, .int .u64 b, .int .u64 c, .int .u64 d, .int .u64 e]] w fun x w' => x = .returned (.tuple #[.string (accT T 5), .int .i64 0]) ∧ Below w.heap.size w w' := by
  have HL := Lib.hid hL; clear hL
  have hF := fun W hW => formed_any a b c d e W hW
  rw [hf] at hF
  have HF := Lib.hid hF; clear hF hf
  have HS := Lib.hid (fun W => sets_any a b c d e W)
  have HT := Lib.hid hT; have HSZ := Lib.hid hs; clear hT hs
  obtain ⟨R, hR⟩ : ∃ R, accT T 5 = R := ⟨_, rfl⟩
  rw [hR]
  have HR := Lib.hid hR; clear hR
  go_enter Tryd.func13, Tryd.ntmps13
  go_wp2_with fail
  refine (HF.out _ (HL.out.below ((Below.refl _ _).alloc (Nat.le_refl _) _))).mono ?_
  rintro x w1 ⟨rfl, hb⟩
  have hc := blk_call (Blk.blk_new w (.cells #[.int .u64 a, .int .u64 b, .int .u64 c, .int .u64 d, .int .u64 e] 25)) hb
  have HB1 := Lib.hid (below_then ((Below.refl _ _).alloc (Nat.le_refl _) _) hb (by simp)); clear hb
  have c0 := Blk.blk_cell hc 0
  have c1 := Blk.blk_cell hc 1
  have c2 := Blk.blk_cell hc 2
  have c3 := Blk.blk_cell hc 3
  have c4 := Blk.blk_cell hc 4
  simp at c0 c1 c2 c3 c4
  clear hc
  go_wp2_with fail
  refine (HS.out _).mono ?_
  rintro x w2 ⟨rfl, hb⟩
  have HB2 := Lib.hid (below_then HB1.out hb HB1.out.size); clear hb c0 c1 c2 c3 c4
  go_wp2
  go_loopg [4, 12] 5 (fun gf v4 v12 wx => ∃ k : Nat, v4 = .string (accT T k) ∧ v12 = .int .i64 k ∧ k + gf = 5 ∧ Below w.heap.size w wx)
  case atStart => exact ⟨0, rfl, rfl, rfl, HB2.out⟩
  case round =>
    obtain ⟨k, rfl, rfl, hk, hbw⟩ := hrel
    have HBW := Lib.hid hbw; clear hbw
    by_cases hlt : k < 5
    · obtain ⟨g', rfl⟩ : ∃ g', gk = g' + 1 := ⟨gk - 1, by omega⟩
      have hix := fun W => index40 a b c d e k hlt W
      have htold := fun W hW => OA.cron_told.calls kk _ _ _ _ W (HT.out k hlt) hW
      have hsz := HSZ.out k
      have hac := accT_size T HSZ.out k
      have hl := HL.out.below HBW.out
      have c0 := (hl.2 k hlt).1
      have c1 := (hl.2 k hlt).2
      rw [Nat.mul_comm] at c0 c1
      obtain ⟨s, hs⟩ : ∃ s, fld a b c d e k = s := ⟨_, rfl⟩
      rw [hs] at hix htold
      obtain ⟨lo, hlo⟩ : ∃ lo, low k = lo := ⟨_, rfl⟩
      obtain ⟨hi, hhi⟩ : ∃ hi, high k = hi := ⟨_, rfl⟩
      rw [hlo] at c0 htold
      rw [hhi] at c1 htold
      have hnext : accT T (k + 1) = (if 0 < k then accT T k ++ sp else accT T k) ++ T k := rfl
      obtain ⟨A, hA⟩ : ∃ A, accT T k = A := ⟨_, rfl⟩
      obtain ⟨U, hU⟩ : ∃ U, T k = U := ⟨_, rfl⟩
      rw [hA] at hac hnext ⊢
      rw [hU] at hsz htold hnext
      have HTOLD := Lib.hid htold; have HN := Lib.hid hnext; have HLW := Lib.hid hl
      clear hs hlo hhi htold hnext hl hA hU
      have hspz : sp.size = 1 := rfl
      by_cases h0 : 0 < k
      · have HN2 : Hid (accT T (k + 1) = A ++ ⟨#[32]⟩ ++ U) := by have := HN.out; rw [if_pos h0] at this; exact this
        have hz2 : (A ++ (⟨#[32]⟩ : ByteArray)).size ≤ 10000 := by rw [ByteArray.size_append]; have : (⟨#[32]⟩ : ByteArray).size = 1 := rfl; omega
        have hz3 : (A ++ (⟨#[32]⟩ : ByteArray)).size + U.size ≤ 9223372036854775807 := by omega
        have hz4 : A.size + 1 ≤ 9223372036854775807 := by omega
        clear HN hspz
        go_wp2_with (go_at_call 26; refine (HTOLD.out _ HLW.out).mono ?_; rintro x w3 ⟨rfl, hb3⟩; have HB3 := Lib.hid hb3; clear hb3)
        go_roundg g'
        case measure => omega
        case rel => exact ⟨k + 1, by rw [HN2.out], by go_num, by omega, below_then HBW.out HB3.out HBW.out.size⟩
      · have HN2 : Hid (accT T (k + 1) = A ++ U) := by have := HN.out; rw [if_neg h0] at this; exact this
        have hz3 : A.size + U.size ≤ 9223372036854775807 := by omega
        clear HN hspz
        go_wp2_with (go_at_call 26; refine (HTOLD.out _ HLW.out).mono ?_; rintro x w3 ⟨rfl, hb3⟩; have HB3 := Lib.hid hb3; clear hb3)
        go_roundg g'
        case measure => omega
        case rel => exact ⟨k + 1, by rw [HN2.out], by go_num, by omega, below_then HBW.out HB3.out HBW.out.size⟩
    · obtain rfl : k = 5 := by omega
      have e := HR.out
      rw [e]
      clear e hk
      go_wp2
      go_ret2
      exact ⟨rfl, HBW.out⟩
set_option maxHeartbeats 1000000 in
theorem text_no (a b c d e : Int) (hf : formedB a b c d e = false) (w : World) (hL : Laid w) :
    Calls Tryd.prog 13 #[.agg #[.int .u64 a, .int .u64 b, .int .u64 c, .int .u64 d, .int .u64 e]] w fun x w' => x = .returned (.tuple #[.string ⟨#[]⟩, .int .i64 1]) ∧ Below w.heap.size w w' := by
  have HL := Lib.hid hL; clear hL
  have hF := fun W hW => formed_any a b c d e W hW
  rw [hf] at hF
  have HF := Lib.hid hF; clear hF hf
  go_enter Tryd.func13, Tryd.ntmps13
  go_wp2_with fail
  refine (HF.out _ (HL.out.below ((Below.refl _ _).alloc (Nat.le_refl _) _))).mono ?_
  rintro x w1 ⟨rfl, hb⟩
  have HB1 := Lib.hid (below_then ((Below.refl _ _).alloc (Nat.le_refl _) _) hb (by simp)); clear hb
  go_wp2
  go_ret2
  exact ⟨rfl, HB1.out⟩
/-- cron.Text in the form of the printed functions. -/
def Text.f (k : Nat) (a b c d e : Int) : Option (ByteArray × Int) :=
  if formedB a b c d e = true then
    (OA.cron_told.f k a 0 59).bind fun t0 => (OA.cron_told.f k b 0 23).bind fun t1 => (OA.cron_told.f k c 1 31).bind fun t2 => (OA.cron_told.f k d 1 12).bind fun t3 => (OA.cron_told.f k e 0 6).bind fun t4 =>
      if t0.size ≤ 1000 ∧ t1.size ≤ 1000 ∧ t2.size ≤ 1000 ∧ t3.size ≤ 1000 ∧ t4.size ≤ 1000 then some (accT (pick5 t0 t1 t2 t3 t4) 5, 0) else none
  else some (⟨#[]⟩, 1)
theorem Text.mono : ∀ a b c d e k, LeO (Text.f k a b c d e) (Text.f (k + 1) a b c d e) := by
  intro a b c d e k
  unfold Text.f
  repeat' first
    | (with_reducible exact OA.cron_told.mono _ _ _ _)
    | (with_reducible exact LeO.refl _)
    | (with_reducible refine LeO.ite ?_ ?_)
    | (with_reducible refine LeO.bind ?_ (fun _ => ?_))
theorem Text.calls (k : Nat) (a0_0 a0_1 a0_2 a0_3 a0_4 : Int) (r1 : ByteArray) (r2 : Int) (w : World) (h : Text.f k a0_0 a0_1 a0_2 a0_3 a0_4 = some (r1, r2)) (hL_ : Laid w) :
    Calls Tryd.prog 13 #[.agg #[.int .u64 a0_0, .int .u64 a0_1, .int .u64 a0_2, .int .u64 a0_3, .int .u64 a0_4]] w fun e w' => e = .returned (.tuple #[.string r1, .int .i64 r2]) ∧ Below w.heap.size w w' := by
  unfold Text.f at h
  split at h
  · rename_i hf
    obtain ⟨t0, h0, h⟩ := Option.bind_eq_some_iff.1 h
    obtain ⟨t1, h1, h⟩ := Option.bind_eq_some_iff.1 h
    obtain ⟨t2, h2, h⟩ := Option.bind_eq_some_iff.1 h
    obtain ⟨t3, h3, h⟩ := Option.bind_eq_some_iff.1 h
    obtain ⟨t4, h4, h⟩ := Option.bind_eq_some_iff.1 h
    split at h
    · rename_i hz
      injection h with h
      simp only [Prod.mk.injEq] at h
      obtain ⟨rfl, rfl⟩ := h
      refine text_yes k _ _ _ _ _ (pick5 t0 t1 t2 t3 t4) (fun i hi => ?_) (fun i => ?_) hf w hL_
      · have : i = 0 ∨ i = 1 ∨ i = 2 ∨ i = 3 ∨ i = 4 := by omega
        rcases this with rfl | rfl | rfl | rfl | rfl
        · exact h0
        · exact h1
        · exact h2
        · exact h3
        · exact h4
      · unfold pick5
        repeat' split
        all_goals omega
    · cases h
  · rename_i hf
    injection h with h
    simp only [Prod.mk.injEq] at h
    obtain ⟨rfl, rfl⟩ := h
    exact text_no _ _ _ _ _ (by simpa using hf) w hL_
end Go.Proofs.YtkmcmgfmahildaaDoor.Ct
