/- num.SpanText, walked by hand. -/
import Derived.Test.YtekcdokgpjmbgaaDoorNg
import Derived.Test.YtekcdokgpjmbgaaDoorNa
namespace Go.Proofs.YtekcdokgpjmbgaaDoor.Nx
set_option linter.unusedVariables false
set_option linter.unusedSimpArgs false
open Go.RowKit Go.Proofs.YtekcdokgpjmbgaaDoorW.PrintWords Go.Proofs.YtekcdokgpjmbgaaDoor.Nd Go.Proofs.YtekcdokgpjmbgaaDoor.Nf Go.Proofs.YtekcdokgpjmbgaaDoor.Ng Go.Proofs.YtekcdokgpjmbgaaDoor.Laid
def wo : Nat → Nat | 0 => 86400 | 1 => 3600 | 2 => 60 | _ => 1
def lt : Nat → UInt8 | 0 => 100 | 1 => 104 | 2 => 109 | _ => 115
def re (n : Nat) : Nat → Nat | 0 => n | k + 1 => re n k % wo k
def tx (n : Nat) : Nat → List UInt8 | 0 => [] | k + 1 => if wo k ≤ re n k then tx n k ++ (Lib.decDigits (re n k / wo k) ++ [lt k]) else tx n k
theorem wo_pos (k : Nat) : 0 < wo k := by unfold wo; split <;> omega
theorem re_le (n : Nat) : ∀ k, re n k ≤ n
  | 0 => Nat.le_refl _
  | k + 1 => Nat.le_trans (Nat.mod_le _ _) (re_le n k)
theorem tx_len (n : Nat) (h : n ≤ 604800) : ∀ k, (tx n k).length ≤ 21 * k
  | 0 => Nat.le_refl _
  | k + 1 => by
    have := tx_len n h k
    unfold tx
    split
    · rw [List.length_append, List.length_append, List.length_singleton]
      have h1 := re_le n k
      have h2 : re n k / wo k ≤ re n k := Nat.div_le_self _ _
      have := dec_len20 (re n k / wo k) (by omega)
      omega
    · omega
theorem fmt_any (r k : Nat) (h : r ≤ 604800) (hk : 0 < k) : ∃ (q : Nat) (D : ByteArray), IntKind.i64.wrap ((r : Int) / (k : Int)) = (q : Int) ∧ D = B (Lib.decDigits (r / k)) ∧ D.size ≤ 20 ∧ Na.fi.f (q : Int) 10 = some D := by
  have h2 : r / k ≤ r := Nat.div_le_self _ _
  refine ⟨r / k, _, ?_, rfl, by rw [B_size]; exact dec_len20 _ (by omega), ?_⟩
  · rw [Go.Proofs.YtekcdokgpjmbgaaDoorW.PrintLast.i64_w]
    show wrap64 ((r / k : Nat) : Int) = _
    generalize r / k = q at h2
    rw [w64 (by omega) (by omega)]
  · generalize r / k = q at h2
    unfold Na.fi.f
    rw [if_pos ⟨⟨by omega, by omega⟩, rfl⟩]
    rfl
theorem le_big {a : Nat} (h : a ≤ 1000) : (a ≤ 9223372036854775807) = True := eq_true (by omega)
theorem not_big {a : Nat} (h : a ≤ 1000) : (9223372036854775807 < a) = False := eq_false (by omega)
set_option maxHeartbeats 8000000 in
set_option maxRecDepth 100000 in
theorem span_ok (n : Nat) (h1 : 1 ≤ n) (h2 : n ≤ 604800) (w : World) (hL : Laid w) :
    Calls Tryd.prog 12 #[.int .i64 (n : Int)] w fun e w' => e = .returned (.tuple #[.string (B (tx n 4)), .int .i64 0]) ∧ Below w.heap.size w w' := by
  have i0 : ∀ w : World, (Instr.index 40 (.agg #[.int .i64 86400, .int .i64 3600, .int .i64 60, .int .i64 1]) (.int .i64 0)).run Tryd.prog w = .ok (.int .i64 86400) w := fun _ => by kernel_rfl
  have i1 : ∀ w : World, (Instr.index 40 (.agg #[.int .i64 86400, .int .i64 3600, .int .i64 60, .int .i64 1]) (.int .i64 1)).run Tryd.prog w = .ok (.int .i64 3600) w := fun _ => by kernel_rfl
  have i2 : ∀ w : World, (Instr.index 40 (.agg #[.int .i64 86400, .int .i64 3600, .int .i64 60, .int .i64 1]) (.int .i64 2)).run Tryd.prog w = .ok (.int .i64 60) w := fun _ => by kernel_rfl
  have i3 : ∀ w : World, (Instr.index 40 (.agg #[.int .i64 86400, .int .i64 3600, .int .i64 60, .int .i64 1]) (.int .i64 3)).run Tryd.prog w = .ok (.int .i64 1) w := fun _ => by kernel_rfl
  have HL := Lib.hid hL
  have H1 := Lib.hid h1
  have H2 := Lib.hid h2
  have d1 : decide ((n : Int) < 1) = false := by simp; omega
  have d2 : decide (604800 < (n : Int)) = false := by simp; omega
  clear hL h1 h2
  go_enter Tryd.func12, Tryd.ntmps12
  go_wp2_with fail
  go_loopw [0, 4, 14] (fun v0 v4 v14 wr => ∃ k : Nat, k ≤ 4 ∧ v14 = .int .i64 (k : Int) ∧ v0 = .int .i64 ((re n k : Nat) : Int) ∧ v4 = .string (B (tx n k)) ∧ Below w.heap.size w wr)
    (fun _ _ v14 _ => 4 - (intOf v14).toNat)
  case atStart => exact ⟨0, by omega, rfl, rfl, rfl, Below.refl _ _⟩
  case round =>
    obtain ⟨k, hk, rfl, rfl, rfl, hb⟩ := hrel
    have hr := Nat.le_trans (re_le n k) H2.out
    have ht : (B (tx n k)).size ≤ 100 := by rw [B_size]; have := tx_len n H2.out k; omega
    obtain ⟨r, er⟩ : ∃ r, r = re n k := ⟨_, rfl⟩
    obtain ⟨t, et⟩ : ∃ t, t = B (tx n k) := ⟨_, rfl⟩
    rw [← er, ← et]
    rw [← er] at hr
    rw [← et] at ht
    have hstep : ∀ D, D = B (Lib.decDigits (r / wo k)) → wo k ≤ r → t ++ (D ++ (⟨#[lt k]⟩ : ByteArray)) = B (tx n (k + 1)) := by
      intro D hD hc
      have e1 : (⟨#[lt k]⟩ : ByteArray) = B [lt k] := rfl
      rw [hD, et, e1, B_app, B_app]
      show _ = B (if wo k ≤ re n k then _ else _)
      rw [← er, if_pos hc]
    have hstay : ¬ wo k ≤ r → t = B (tx n (k + 1)) := by
      intro hc
      rw [et]
      show _ = B (if wo k ≤ re n k then _ else _)
      rw [← er, if_neg hc]
    have hre : ((r % wo k : Nat) : Int) = ((re n (k + 1) : Nat) : Int) := by rw [er]; rfl
    have HB := Aside0.mk hb
    have HS := Lib.hid hstep
    have HY := Lib.hid hstay
    have HE := Lib.hid hre
    have HR := Lib.hid hr
    have HT := Lib.hid ht
    have ETX := Lib.hid et
    clear hb hstep hstay hre hr ht er et
    have hk5 : k = 0 ∨ k = 1 ∨ k = 2 ∨ k = 3 ∨ k = 4 := by omega
    clear hk
    rcases hk5 with rfl | rfl | rfl | rfl | rfl
    · by_cases c : 86400 ≤ r
      · have c1 : decide ((86400 : Int) ≤ (r : Int)) = true := by simp; omega
        obtain ⟨q, D, hq, hD, hDz, hDf⟩ := fmt_any r 86400 HR.out (by omega)
        have hq1 : IntKind.i64.wrap ((r : Int) / 86400) = (q : Int) := hq
        clear hq
        skip
        have HDf := Lib.hid hDf
        have HD := Lib.hid hD
        have HC := Lib.hid c
        have w1 : IntKind.i64.wrap (1 : Int) = 1 := by decide
        have s1 := le_big (a := D.size + 1) (by omega)
        have s2 := not_big (a := D.size + 1) (by omega)
        have s3 := le_big (a := t.size + (D ++ (⟨#[100]⟩ : ByteArray)).size) (by have := HT.out; rw [ByteArray.size_append]; show _ + (_ + 1) ≤ _; omega)
        have s4 := not_big (a := t.size + (D ++ (⟨#[100]⟩ : ByteArray)).size) (by have := HT.out; rw [ByteArray.size_append]; show _ + (_ + 1) ≤ _; omega)
        have s5 := le_big (a := t.size + (D.size + 1)) (by have := HT.out; omega)
        have s6 := not_big (a := t.size + (D.size + 1)) (by have := HT.out; omega)
        have x0 : (⟨#[100, 104, 109, 115]⟩ : ByteArray).extract 0 1 = ⟨#[100]⟩ := by decide +kernel
        clear c hD hDf hDz
        go_wp2
        go_region_held3 (fun W => Below w.heap.size w W) (first | exact below_drew1 HB.out | exact hb2) (first | (go_at_call 23; refine (Na.fi.calls _ _ D _ HDf.out (HL.out.below (below_drew1 HB.out))).mono ?_; rintro e W1 ⟨rfl, hb1⟩; have hb2 := below_step (below_drew1 HB.out) hb1))
        go_wp2
        go_roundw
        case rel => exact ⟨1, by omega, by go_num, by rw [← HE.out]; first | rfl | exact congrArg (Value.int .i64) (by show _ = ((r % 1 : Nat) : Int); omega), by rw [← HS.out D HD.out HC.out]; rfl, hb2⟩
        case measure => simp [intOf]
      · have c1 : decide ((86400 : Int) ≤ (r : Int)) = false := by simp; omega
        go_wp2
        go_roundw
        case rel => exact ⟨1, by omega, by go_num, by rw [← HE.out]; first | rfl | exact congrArg (Value.int .i64) (by show _ = ((r % 1 : Nat) : Int); omega), by rw [← HY.out c], HB.out⟩
        case measure => simp [intOf]
    · by_cases c : 3600 ≤ r
      · have c1 : decide ((3600 : Int) ≤ (r : Int)) = true := by simp; omega
        obtain ⟨q, D, hq, hD, hDz, hDf⟩ := fmt_any r 3600 HR.out (by omega)
        have hq1 : IntKind.i64.wrap ((r : Int) / 3600) = (q : Int) := hq
        clear hq
        skip
        have HDf := Lib.hid hDf
        have HD := Lib.hid hD
        have HC := Lib.hid c
        have w1 : IntKind.i64.wrap (2 : Int) = 2 := by decide
        have s1 := le_big (a := D.size + 1) (by omega)
        have s2 := not_big (a := D.size + 1) (by omega)
        have s3 := le_big (a := t.size + (D ++ (⟨#[104]⟩ : ByteArray)).size) (by have := HT.out; rw [ByteArray.size_append]; show _ + (_ + 1) ≤ _; omega)
        have s4 := not_big (a := t.size + (D ++ (⟨#[104]⟩ : ByteArray)).size) (by have := HT.out; rw [ByteArray.size_append]; show _ + (_ + 1) ≤ _; omega)
        have s5 := le_big (a := t.size + (D.size + 1)) (by have := HT.out; omega)
        have s6 := not_big (a := t.size + (D.size + 1)) (by have := HT.out; omega)
        have x0 : (⟨#[100, 104, 109, 115]⟩ : ByteArray).extract 1 2 = ⟨#[104]⟩ := by decide +kernel
        clear c hD hDf hDz
        go_wp2
        go_region_held3 (fun W => Below w.heap.size w W) (first | exact below_drew1 HB.out | exact hb2) (first | (go_at_call 23; refine (Na.fi.calls _ _ D _ HDf.out (HL.out.below (below_drew1 HB.out))).mono ?_; rintro e W1 ⟨rfl, hb1⟩; have hb2 := below_step (below_drew1 HB.out) hb1))
        go_wp2
        go_roundw
        case rel => exact ⟨2, by omega, by go_num, by rw [← HE.out]; first | rfl | exact congrArg (Value.int .i64) (by show _ = ((r % 1 : Nat) : Int); omega), by rw [← HS.out D HD.out HC.out]; rfl, hb2⟩
        case measure => simp [intOf]
      · have c1 : decide ((3600 : Int) ≤ (r : Int)) = false := by simp; omega
        go_wp2
        go_roundw
        case rel => exact ⟨2, by omega, by go_num, by rw [← HE.out]; first | rfl | exact congrArg (Value.int .i64) (by show _ = ((r % 1 : Nat) : Int); omega), by rw [← HY.out c], HB.out⟩
        case measure => simp [intOf]
    · by_cases c : 60 ≤ r
      · have c1 : decide ((60 : Int) ≤ (r : Int)) = true := by simp; omega
        obtain ⟨q, D, hq, hD, hDz, hDf⟩ := fmt_any r 60 HR.out (by omega)
        have hq1 : IntKind.i64.wrap ((r : Int) / 60) = (q : Int) := hq
        clear hq
        skip
        have HDf := Lib.hid hDf
        have HD := Lib.hid hD
        have HC := Lib.hid c
        have w1 : IntKind.i64.wrap (3 : Int) = 3 := by decide
        have s1 := le_big (a := D.size + 1) (by omega)
        have s2 := not_big (a := D.size + 1) (by omega)
        have s3 := le_big (a := t.size + (D ++ (⟨#[109]⟩ : ByteArray)).size) (by have := HT.out; rw [ByteArray.size_append]; show _ + (_ + 1) ≤ _; omega)
        have s4 := not_big (a := t.size + (D ++ (⟨#[109]⟩ : ByteArray)).size) (by have := HT.out; rw [ByteArray.size_append]; show _ + (_ + 1) ≤ _; omega)
        have s5 := le_big (a := t.size + (D.size + 1)) (by have := HT.out; omega)
        have s6 := not_big (a := t.size + (D.size + 1)) (by have := HT.out; omega)
        have x0 : (⟨#[100, 104, 109, 115]⟩ : ByteArray).extract 2 3 = ⟨#[109]⟩ := by decide +kernel
        clear c hD hDf hDz
        go_wp2
        go_region_held3 (fun W => Below w.heap.size w W) (first | exact below_drew1 HB.out | exact hb2) (first | (go_at_call 23; refine (Na.fi.calls _ _ D _ HDf.out (HL.out.below (below_drew1 HB.out))).mono ?_; rintro e W1 ⟨rfl, hb1⟩; have hb2 := below_step (below_drew1 HB.out) hb1))
        go_wp2
        go_roundw
        case rel => exact ⟨3, by omega, by go_num, by rw [← HE.out]; first | rfl | exact congrArg (Value.int .i64) (by show _ = ((r % 1 : Nat) : Int); omega), by rw [← HS.out D HD.out HC.out]; rfl, hb2⟩
        case measure => simp [intOf]
      · have c1 : decide ((60 : Int) ≤ (r : Int)) = false := by simp; omega
        go_wp2
        go_roundw
        case rel => exact ⟨3, by omega, by go_num, by rw [← HE.out]; first | rfl | exact congrArg (Value.int .i64) (by show _ = ((r % 1 : Nat) : Int); omega), by rw [← HY.out c], HB.out⟩
        case measure => simp [intOf]
    · by_cases c : 1 ≤ r
      · have c1 : decide ((1 : Int) ≤ (r : Int)) = true := by simp; omega
        obtain ⟨q, D, hq, hD, hDz, hDf⟩ := fmt_any r 1 HR.out (by omega)
        have hq1 : IntKind.i64.wrap ((r : Int) / 1) = (q : Int) := hq
        clear hq
        rw [Int.ediv_one] at hq1
        have HDf := Lib.hid hDf
        have HD := Lib.hid hD
        have HC := Lib.hid c
        have w1 : IntKind.i64.wrap (4 : Int) = 4 := by decide
        have s1 := le_big (a := D.size + 1) (by omega)
        have s2 := not_big (a := D.size + 1) (by omega)
        have s3 := le_big (a := t.size + (D ++ (⟨#[115]⟩ : ByteArray)).size) (by have := HT.out; rw [ByteArray.size_append]; show _ + (_ + 1) ≤ _; omega)
        have s4 := not_big (a := t.size + (D ++ (⟨#[115]⟩ : ByteArray)).size) (by have := HT.out; rw [ByteArray.size_append]; show _ + (_ + 1) ≤ _; omega)
        have s5 := le_big (a := t.size + (D.size + 1)) (by have := HT.out; omega)
        have s6 := not_big (a := t.size + (D.size + 1)) (by have := HT.out; omega)
        have x0 : (⟨#[100, 104, 109, 115]⟩ : ByteArray).extract 3 4 = ⟨#[115]⟩ := by decide +kernel
        clear c hD hDf hDz
        go_wp2
        go_region_held3 (fun W => Below w.heap.size w W) (first | exact below_drew1 HB.out | exact hb2) (first | (go_at_call 23; refine (Na.fi.calls _ _ D _ HDf.out (HL.out.below (below_drew1 HB.out))).mono ?_; rintro e W1 ⟨rfl, hb1⟩; have hb2 := below_step (below_drew1 HB.out) hb1))
        go_wp2
        go_roundw
        case rel => exact ⟨4, by omega, by go_num, by rw [← HE.out]; first | rfl | exact congrArg (Value.int .i64) (by show _ = ((r % 1 : Nat) : Int); omega), by rw [← HS.out D HD.out HC.out]; rfl, hb2⟩
        case measure => simp [intOf]
      · have c1 : decide ((1 : Int) ≤ (r : Int)) = false := by simp; omega
        go_wp2
        go_roundw
        case rel => exact ⟨4, by omega, by go_num, by rw [← HE.out]; first | rfl | exact congrArg (Value.int .i64) (by show _ = ((r % 1 : Nat) : Int); omega), by rw [← HY.out c], HB.out⟩
        case measure => simp [intOf]
    · go_wp2
      go_ret2
      exact ⟨by rw [← ETX.out]; rfl, HB.out⟩
set_option maxRecDepth 100000 in
theorem span_bad (n : Int) (h : n < 1 ∨ 604800 < n) (w : World) :
    Calls Tryd.prog 12 #[.int .i64 n] w fun e w' => e = .returned (.tuple #[.string ⟨#[]⟩, .int .i64 3]) ∧ Below w.heap.size w w' := by
  by_cases h1 : n < 1
  · have d1 : decide (n < 1) = true := decide_eq_true h1
    clear h h1
    go_enter Tryd.func12, Tryd.ntmps12
    go_wp2
    go_ret2
    exact ⟨rfl, Below.refl _ _⟩
  · have d1 : decide (n < 1) = false := decide_eq_false h1
    have d2 : decide (604800 < n) = true := by simp; omega
    clear h h1
    go_enter Tryd.func12, Tryd.ntmps12
    go_wp2
    go_ret2
    exact ⟨rfl, Below.refl _ _⟩
def SpanText.f (n : Int) : Option (ByteArray × Int) := if 1 ≤ n ∧ n ≤ 604800 then some (B (tx n.toNat 4), 0) else some (⟨#[]⟩, 3)
theorem SpanText.calls (n : Int) (r1 : ByteArray) (r2 : Int) (w : World) (h : SpanText.f n = some (r1, r2)) (hL_ : Laid w) :
    Calls Tryd.prog 12 #[.int .i64 n] w fun e w' => e = .returned (.tuple #[.string r1, .int .i64 r2]) ∧ Below w.heap.size w w' := by
  unfold SpanText.f at h
  split at h
  · rename_i hb
    injection h with h
    injection h with h1 h2
    subst h1 h2
    have := span_ok n.toNat (by omega) (by omega) w hL_
    rwa [Int.toNat_of_nonneg (by omega)] at this
  · rename_i hb
    injection h with h
    injection h with h1 h2
    subst h1 h2
    exact span_bad n (by omega) w
end Go.Proofs.YtekcdokgpjmbgaaDoor.Nx
