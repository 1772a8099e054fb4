/- dim's small functions: letters and digits at the front of a text. Conditions: as each theorem states. -/
import Derived.Test.YtdplfphgomckfaaDoorLaid
import Derived.Test.YtdplfphgomckfaaDoorOBx1
import Derived.Test.YtdplfphgomckfaaDoorOBx3
import Derived.Test.YtdplfphgomckfaaDoorOBx4
import Derived.Test.YtdplfphgomckfaaDoorOBx5
import Derived.Handy
import Derived.WalkSpells
import Derived.WalkLawsBesides
import Derived.Lib.Hide
namespace Go.Proofs.YtdplfphgomckfaaDoor.Da
set_option linter.unusedVariables false
set_option linter.unusedSimpArgs false
open Go.RowKit Go.Proofs.YtdplfphgomckfaaDoorW.PrintWords Go.Proofs.YtdplfphgomckfaaDoor.Laid
def letB (c : UInt8) : Bool := (97 ≤ c && c ≤ 122) || (65 ≤ c && c ≤ 90)
def digB (c : UInt8) : Bool := 48 ≤ c && c ≤ 57
/-- How many at the front are of the kind. -/
def tw (p : UInt8 → Bool) (l : List UInt8) : Nat := (l.takeWhile p).length
theorem tw_le (p : UInt8 → Bool) (l : List UInt8) : tw p l ≤ l.length := by
  induction l with
  | nil => exact Nat.le_refl _
  | cons a r ih =>
    unfold tw at ih ⊢
    rw [List.takeWhile_cons]
    split
    · simp only [List.length_cons]; omega
    · simp
theorem tw_cons (p : UInt8 → Bool) (a : UInt8) (l : List UInt8) : tw p (a :: l) = if p a = true then tw p l + 1 else 0 := by
  unfold tw
  rw [List.takeWhile_cons]
  split <;> rfl
theorem tw_at (p : UInt8 → Bool) (s : ByteArray) (k : Nat) (h : k < s.size) : tw p (s.data.toList.drop k) = if p s[k] = true then tw p (s.data.toList.drop (k + 1)) + 1 else 0 := by
  have e : s.data.toList.drop k = s[k] :: s.data.toList.drop (k + 1) := (List.getElem_cons_drop (show k < s.data.toList.length by simpa using h)).symm
  rw [e, tw_cons]
theorem u8_le (a b : UInt8) : (a ≤ b) = ((a.toNat : Int) ≤ b.toNat) := by
  rw [eq_iff_iff, UInt8.le_iff_toNat_le]; omega
theorem letter_is (c : UInt8) : OB.dim_letter.f (c.toNat : Int) = some (letB c) := by
  unfold OB.dim_letter.f letB
  have e1 : decide (97 ≤ c) = decide ((c.toNat : Int) ≥ 97) := by congr 1; rw [u8_le]; rfl
  have e2 : decide (c ≤ 122) = decide ((c.toNat : Int) ≤ 122) := by congr 1; rw [u8_le]; rfl
  have e3 : decide (65 ≤ c) = decide ((c.toNat : Int) ≥ 65) := by congr 1; rw [u8_le]; rfl
  have e4 : decide (c ≤ 90) = decide ((c.toNat : Int) ≤ 90) := by congr 1; rw [u8_le]; rfl
  rw [e1, e2, e3, e4]
  by_cases h1 : (c.toNat : Int) ≥ 97 <;> by_cases h2 : (c.toNat : Int) ≤ 122 <;> by_cases h3 : (c.toNat : Int) ≥ 65 <;> simp [h1, h2, h3]
theorem digit_is (c : UInt8) : OB.dim_digit.f (c.toNat : Int) = some (digB c) := by
  unfold OB.dim_digit.f digB
  have e1 : decide (48 ≤ c) = decide ((c.toNat : Int) ≥ 48) := by congr 1; rw [u8_le]; rfl
  have e2 : decide (c ≤ 57) = decide ((c.toNat : Int) ≤ 57) := by congr 1; rw [u8_le]; rfl
  rw [e1, e2]
  by_cases h1 : (c.toNat : Int) ≥ 48 <;> simp [h1]
theorem letter_any (c : UInt8) (w : World) : Calls Tryd.prog 34 #[.int .u8 (c.toNat : Int)] w fun e w' => e = .returned (.bool (letB c)) ∧ Drawn0 w w' := OB.dim_letter.calls _ _ w (letter_is c)
theorem digit_any (c : UInt8) (w : World) : Calls Tryd.prog 35 #[.int .u8 (c.toNat : Int)] w fun e w' => e = .returned (.bool (digB c)) ∧ Drawn0 w w' := OB.dim_digit.calls _ _ w (digit_is c)
theorem ret_int {k : IntKind} {a b : Int} (h : a = b) : Ending.returned (.int k a) = .returned (.int k b) := by rw [h]
theorem drawn_trans {w w1 w2 : World} (h : Drawn0 w w1) (k : Drawn0 w1 w2) : Drawn0 w w2 := by
  obtain ⟨n, rfl⟩ := h
  obtain ⟨m, rfl⟩ := k
  exact ⟨n + m, by rw [World.drewN_drewN]⟩
set_option maxHeartbeats 2000000 in
set_option maxRecDepth 100000 in
theorem run_letter (s : ByteArray) (w : World) (hs : s.size ≤ 1000) : Calls Tryd.prog 33 #[.string s, .func (.func 34) #[] #[]] w fun e w' => e = .returned (.int .i64 ((tw letB s.data.toList : Nat) : Int)) ∧ Drawn0 w w' := by
  have htw := tw_le letB s.data.toList
  have hsz : s.data.toList.length = s.size := by simp
  obtain ⟨N, hN⟩ : ∃ N, tw letB s.data.toList = N := ⟨_, rfl⟩
  rw [hN] at htw ⊢
  have HN := Lib.hid hN
  have hnl : N ≤ s.size := by omega
  clear hN htw hsz
  go_enter Tryd.func33, Tryd.ntmps33
  go_wp2_with fail
  go_loopg [5] s.size (fun gf v5 wx => ∃ k : Nat, v5 = .int .i64 k ∧ k + gf = s.size ∧ k ≤ N ∧ Hid (k + tw letB (s.data.toList.drop k) = N) ∧ Hid (Drawn0 w wx))
  case atStart => exact ⟨0, rfl, by omega, by omega, Lib.hid (by rw [List.drop_zero, HN.out]; omega), Lib.hid ⟨0, rfl⟩⟩
  case round =>
    obtain ⟨k, rfl, hk, hkN, HK, HD⟩ := hrel
    by_cases hlt : k < s.size
    · obtain ⟨g', rfl⟩ : ∃ g', gk = g' + 1 := ⟨gk - 1, by omega⟩
      have h1 := tw_at letB s k hlt
      have HC := Lib.hid (fun W => letter_any s[k] W)
      cases hb : letB s[k] with
      | true =>
        rw [hb, if_pos rfl] at h1
        have HT := Lib.hid h1
        clear h1
        simp only [hb] at HC
        clear hb
        go_wp2_with (go_at_call 34; refine (HC.out _).mono ?_; rintro e wz ⟨rfl, hd⟩; have HD2 := Lib.hid hd; clear hd)
        go_roundg g'
        case measure => omega
        case rel => exact ⟨k + 1, by go_num, by omega, by have a := HK.out; have b := HT.out; omega, Lib.hid (by have a := HK.out; have b := HT.out; omega), Lib.hid (drawn_trans HD.out HD2.out)⟩
      | false =>
        rw [hb, if_neg (by decide)] at h1
        have HT := Lib.hid h1
        clear h1
        simp only [hb] at HC
        clear hb
        go_wp2_with (go_at_call 34; refine (HC.out _).mono ?_; rintro e wz ⟨rfl, hd⟩; have HD2 := Lib.hid hd; clear hd)
        go_ret
        have a := HK.out; have b := HT.out
        exact ⟨ret_int (by omega), drawn_trans HD.out HD2.out⟩
    · obtain rfl : k = s.size := by omega
      go_wp2_with fail
      go_ret
      exact ⟨ret_int (by omega), HD.out⟩
set_option maxHeartbeats 2000000 in
set_option maxRecDepth 100000 in
theorem run_digit (s : ByteArray) (w : World) (hs : s.size ≤ 1000) : Calls Tryd.prog 33 #[.string s, .func (.func 35) #[] #[]] w fun e w' => e = .returned (.int .i64 ((tw digB s.data.toList : Nat) : Int)) ∧ Drawn0 w w' := by
  have htw := tw_le digB s.data.toList
  have hsz : s.data.toList.length = s.size := by simp
  obtain ⟨N, hN⟩ : ∃ N, tw digB s.data.toList = N := ⟨_, rfl⟩
  rw [hN] at htw ⊢
  have HN := Lib.hid hN
  have hnl : N ≤ s.size := by omega
  clear hN htw hsz
  go_enter Tryd.func33, Tryd.ntmps33
  go_wp2_with fail
  go_loopg [5] s.size (fun gf v5 wx => ∃ k : Nat, v5 = .int .i64 k ∧ k + gf = s.size ∧ k ≤ N ∧ Hid (k + tw digB (s.data.toList.drop k) = N) ∧ Hid (Drawn0 w wx))
  case atStart => exact ⟨0, rfl, by omega, by omega, Lib.hid (by rw [List.drop_zero, HN.out]; omega), Lib.hid ⟨0, rfl⟩⟩
  case round =>
    obtain ⟨k, rfl, hk, hkN, HK, HD⟩ := hrel
    by_cases hlt : k < s.size
    · obtain ⟨g', rfl⟩ : ∃ g', gk = g' + 1 := ⟨gk - 1, by omega⟩
      have h1 := tw_at digB s k hlt
      have HC := Lib.hid (fun W => digit_any s[k] W)
      cases hb : digB s[k] with
      | true =>
        rw [hb, if_pos rfl] at h1
        have HT := Lib.hid h1
        clear h1
        simp only [hb] at HC
        clear hb
        go_wp2_with (go_at_call 35; refine (HC.out _).mono ?_; rintro e wz ⟨rfl, hd⟩; have HD2 := Lib.hid hd; clear hd)
        go_roundg g'
        case measure => omega
        case rel => exact ⟨k + 1, by go_num, by omega, by have a := HK.out; have b := HT.out; omega, Lib.hid (by have a := HK.out; have b := HT.out; omega), Lib.hid (drawn_trans HD.out HD2.out)⟩
      | false =>
        rw [hb, if_neg (by decide)] at h1
        have HT := Lib.hid h1
        clear h1
        simp only [hb] at HC
        clear hb
        go_wp2_with (go_at_call 35; refine (HC.out _).mono ?_; rintro e wz ⟨rfl, hd⟩; have HD2 := Lib.hid hd; clear hd)
        go_ret
        have a := HK.out; have b := HT.out
        exact ⟨ret_int (by omega), drawn_trans HD.out HD2.out⟩
    · obtain rfl : k = s.size := by omega
      go_wp2_with fail
      go_ret
      exact ⟨ret_int (by omega), HD.out⟩
end Go.Proofs.YtdplfphgomckfaaDoor.Da
