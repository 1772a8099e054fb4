/- num.Read, whole: the printed walk, and the way on which the whole part is no uint64. -/
import Derived.Test.YtekcdokgpjmbgaaDoorNe
import Derived.Test.YtekcdokgpjmbgaaDoorNa
import Derived.Test.YtekcdokgpjmbgaaDoorOAx4
namespace Go.Proofs.YtekcdokgpjmbgaaDoor.Nb
set_option linter.unusedVariables false
set_option linter.unusedSimpArgs false
open Go.RowKit Go.Proofs.YtekcdokgpjmbgaaDoorW.PrintWords Go.Proofs.YtekcdokgpjmbgaaDoor.OA Go.Proofs.YtekcdokgpjmbgaaDoor.Nd Go.Proofs.YtekcdokgpjmbgaaDoor.Ne Go.Proofs.YtekcdokgpjmbgaaDoor.Laid
/-- The first test: is the form wrong? -/
def badF (whole part : ByteArray) (pointed : Bool) : Bool :=
  !digB whole || (decide ((whole.size : Int) > 1) && decide (bt whole 0 = 48) || pointed && (!digB part || decide ((part.size : Int) > 6)))
def bigF (s : ByteArray) : Bool := !badF (Na.cutF s 46).1 (Na.cutF s 46).2.1 (Na.cutF s 46).2.2 && decide (18446744073709551615 < val 0 (Na.cutF s 46).1.data.toList)
set_option maxHeartbeats 4000000 in
set_option maxRecDepth 100000 in
theorem read_big (s : ByteArray) (w : World) (hs : s.size ≤ 281474976710656) (h : bigF s = true) (hL : Laid w) :
    Calls Tryd.prog 14 #[.string s] w fun e w' => e = .returned (.tuple #[.int .i64 0, .int .i64 13]) ∧ Below w.heap.size w w' := by
  have hcut := Na.cut.calls s ⟨#[46]⟩ (Na.cutF s 46).1 (Na.cutF s 46).2.1 (Na.cutF s 46).2.2 w (by unfold Na.cut.f; rw [if_pos ⟨by omega, rfl⟩])
  unfold bigF at h
  have hsz1 : (Na.cutF s 46).1.size ≤ s.size := by
    unfold Na.cutF; split
    · simp only [ByteArray.size_extract]; omega
    · exact Nat.le_refl _
  have hsz2 : (Na.cutF s 46).2.1.size ≤ s.size := by
    unfold Na.cutF; split
    · simp only [ByteArray.size_extract]; omega
    · exact Nat.zero_le _
  obtain ⟨⟨whole, part, pointed⟩, hC⟩ : ∃ t, Na.cutF s 46 = t := ⟨_, rfl⟩
  rw [hC] at hcut h hsz1 hsz2
  simp only [Bool.and_eq_true, decide_eq_true_eq, Bool.not_eq_true'] at h
  obtain ⟨hbad, hbig⟩ := h
  unfold badF at hbad
  simp only [Bool.or_eq_false_iff, Bool.not_eq_false'] at hbad
  obtain ⟨hdig, hlead, hpart⟩ := hbad
  have HC := Lib.hid hcut; clear hcut
  have hne : whole.data.toList ≠ [] := by
    intro e; rw [e] at hbig; simp [val] at hbig
  have hall : whole.data.toList.all isD = true := by unfold digB at hdig; rw [Bool.and_eq_true] at hdig; exact hdig.1
  have hrange : Lib.parseUintB 64 whole.data.toList = .range := by rw [pub _ hall hne, if_neg (by omega)]
  obtain ⟨hL1, tp, p, hL2⟩ := hL
  have HP := Lib.hid (fun W (hb : Below w.heap.size w W) => Tryd.strconv_ParseUint_10_at64_range_var whole (by simp only at hsz1; omega) hrange tp p W (var_stays gR hL2 hb (Nat.le_refl _)))
  have HD := Lib.hid (fun W => num_digits.calls (whole.size + 1) whole true W (by rw [digits_f whole (by simp only at hsz1; omega) _ (by omega), hdig]))
  have hlen : 1 < whole.size := by
    rcases Nat.lt_or_ge 1 whole.size with h | h
    · exact h
    · have h1 := val_lt 0 whole.data.toList hall
      have h2 : whole.data.toList.length ≤ 1 := by rw [Array.length_toList, ByteArray.size_data]; exact h
      have h3 : 10 ^ whole.data.toList.length ≤ 10 ^ 1 := Nat.pow_le_pow_right (by omega) h2
      omega
  have hz : 0 < whole.size := by omega
  have hx0 : ((whole[0]'hz).toNat : Int) = bt whole 0 := bt_at whole 0 hz
  have d1 : decide ((whole.size : Int) > 1) = true := by simp; omega
  have d1' : decide ((1 : Int) < (whole.size : Int)) = true := by simp; omega
  rw [d1, Bool.true_and] at hlead
  have d2 : (((whole[0]'hz).toNat : Int) == 48) = false := by rw [hx0]; simpa using hlead
  clear hL1 hL2 hbig hall hne hrange hdig hx0 hC hlead d1
  cases pointed with
  | false =>
    clear hpart
    go_enter Tryd.func14, Tryd.ntmps14
    go_wp2_with (first | (go_at_call 24; refine HC.out.mono ?_; rintro e W1 ⟨rfl, n1, rfl⟩) | (go_at_call 25; with_reducible refine (HD.out _).mono ?_; rintro e W2 ⟨rfl, n2, rfl⟩) | (go_at_call 26; refine (HP.out _ (Blk.below_drewN (Below.refl _ _) _)).mono ?_; rintro e W3 ⟨N, rfl, hN, hNb, hb3⟩))
    go_ret2
    exact ⟨rfl, Blk.below_then (Blk.below_drewN (Below.refl _ _) _) hb3 (by rw [World.heap_drewN]; exact Nat.le_refl _)⟩
  | true =>
    rw [Bool.true_and, Bool.or_eq_false_iff, Bool.not_eq_false'] at hpart
    obtain ⟨hp1, hp2⟩ := hpart
    have HD2 := Lib.hid (fun W => num_digits.calls (part.size + 1) part true W (by rw [digits_f part (by simp only at hsz2; omega) _ (by omega), hp1]))
    have d3 : decide ((6 : Int) < (part.size : Int)) = false := hp2
    clear hp1 hp2
    go_enter Tryd.func14, Tryd.ntmps14
    go_wp2_with (first | (go_at_call 24; refine HC.out.mono ?_; rintro e W1 ⟨rfl, n1, rfl⟩) | (go_at_call 25; with_reducible refine (HD.out _).mono ?_; rintro e W2 ⟨rfl, n2, rfl⟩) | (go_at_call 25; with_reducible refine (HD2.out _).mono ?_; rintro e W4 ⟨rfl, n4, rfl⟩) | (go_at_call 26; refine (HP.out _ (Blk.below_drewN (Below.refl _ _) _)).mono ?_; rintro e W3 ⟨N, rfl, hN, hNb, hb3⟩))
    go_ret2
    exact ⟨rfl, Blk.below_then (Blk.below_drewN (Below.refl _ _) _) hb3 (by rw [World.heap_drewN]; exact Nat.le_refl _)⟩
def Read.f (k : Nat) (s : ByteArray) : Option (Int × Int) := if s.size ≤ 281474976710656 ∧ bigF s = true then some (0, 13) else num_Read.f k s
theorem Read.mono (s : ByteArray) : ∀ k, LeO (Read.f k s) (Read.f (k + 1) s) := by
  intro k
  unfold Read.f
  split
  · exact LeO.refl _
  · exact num_Read.mono s k
theorem Read.calls (k : Nat) (s : ByteArray) (r1 r2 : Int) (w : World) (h : Read.f k s = some (r1, r2)) (hL_ : Laid w) :
    Calls Tryd.prog 14 #[.string s] w fun e w' => e = .returned (.tuple #[.int .i64 r1, .int .i64 r2]) ∧ Below w.heap.size w w' := by
  unfold Read.f at h
  split at h
  · rename_i hb
    injection h with h
    injection h with h1 h2
    subst h1 h2
    exact read_big s w hb.1 hb.2 hL_
  · exact num_Read.calls k s r1 r2 w h
end Go.Proofs.YtekcdokgpjmbgaaDoor.Nb
