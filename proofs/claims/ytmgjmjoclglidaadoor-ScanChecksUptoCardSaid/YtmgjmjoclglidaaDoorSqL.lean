/- The reference's sequence of bytes is Go's own. -/
import Derived.Test.YtmgjmjoclglidaaDoorSb
import Derived.Test.YtmgjmjoclglidaaDoorOLx1
namespace Go.Proofs.YtmgjmjoclglidaaDoor.SqL
set_option linter.unusedVariables false
open Go.RowKit Go.Proofs.YtmgjmjoclglidaaDoorW.PrintWords Go.Proofs.YtmgjmjoclglidaaDoor.Sa Go.Proofs.YtmgjmjoclglidaaDoor.Sb Go.Proofs.YtmgjmjoclglidaaDoor.OL

/-- A rune and its bytes; none. -/
def res (d : Nat × Nat) : Int × Int := if d.1 = 65533 ∧ d.2 = 1 then (0, 0) else ((d.1 : Int), (d.2 : Int))
theorem brk_res (s : ByteArray) (pos : Nat) : (if brk s pos (Utf8.decode s pos).1 = true then ((0 : Int), (0 : Int)) else (((Utf8.decode s pos).1 : Int), ((Utf8.decode s pos).2 : Int))) = res (Utf8.decode s pos) := by
  unfold res brk
  have e : (decide (((Utf8.decode s pos).1 : Int) = 65533) && decide (((Utf8.decode s pos).2 : Int) = 1)) = true ↔ ((Utf8.decode s pos).1 = 65533 ∧ (Utf8.decode s pos).2 = 1) := by simp; omega
  by_cases h : (Utf8.decode s pos).1 = 65533 ∧ (Utf8.decode s pos).2 = 1
  · rw [if_pos h, if_pos (e.2 h)]
  · rw [if_neg h, if_neg (fun x => h (e.1 x))]
theorem w64 {a : Int} (h1 : -9223372036854775808 ≤ a) (h2 : a ≤ 9223372036854775807) : wrap64 a = a := by unfold wrap64; omega
theorem bt_get (s : ByteArray) (i : Nat) (h : i < s.size) : bt s (i : Int) = ((s.get! i).toNat : Int) := by
  have e : s.get! i = s[i]'h := by
    have := get_at s i h
    simpa using this
  unfold bt
  simp [h, e]
theorem td (a : Nat) (b : Int) : Int.tdiv (a : Int) b = (a : Int) / b := Int.tdiv_eq_ediv_of_nonneg (by omega)
theorem tm (a : Nat) (b : Int) : Int.tmod (a : Int) b = (a : Int) % b := Int.tmod_eq_emod_of_nonneg (by omega)
theorem res_no : res (65533, 1) = (0, 0) := by simp [res]
theorem res_some (r n : Nat) (hn : 2 ≤ n) : res (r, n) = ((r : Int), (n : Int)) := by unfold res; rw [if_neg (by simp; omega)]
theorem fin (r least n : Nat) (hn : 2 ≤ n) : (if (r : Int) < (least : Int) then some ((0 : Int), (0 : Int)) else if (r : Int) > 1114111 then some (0, 0) else if (r : Int) ≥ 55296 then (if (r : Int) ≤ 57343 then some (0, 0) else some ((r : Int), (n : Int))) else some ((r : Int), (n : Int))) =
    some (res (if r ≥ least ∧ (r < 55296 ∨ 57344 ≤ r ∧ r ≤ 1114111) then (r, n) else (65533, 1))) := by
  by_cases h : r ≥ least ∧ (r < 55296 ∨ 57344 ≤ r ∧ r ≤ 1114111)
  · rw [if_pos h, res_some r n hn, if_neg (by omega), if_neg (by omega)]
    by_cases g : (r : Int) ≥ 55296
    · rw [if_pos g, if_neg (by omega)]
    · rw [if_neg g]
  · rw [if_neg h, res_no]
    repeat' split
    all_goals first | rfl | (exfalso; omega)
set_option maxHeartbeats 8000000 in
set_option maxRecDepth 100000 in
theorem seq_f (k : Nat) (s : ByteArray) (pos : Nat) (hp : pos < s.size) (hs : s.size ≤ 4611686018427387904) : capstanref09_Sequence.f (k + 6) s pos = some (res (Utf8.decode s pos)) := by
  have hb0 := bt_get s pos hp
  have hb1 : pos + 1 < s.size → bt s ((pos : Int) + 1) = ((s.get! (pos + 1)).toNat : Int) := fun h => by have := bt_get s (pos + 1) h; simpa using this
  have hb2 : pos + 2 < s.size → bt s ((pos : Int) + 2) = ((s.get! (pos + 2)).toNat : Int) := fun h => by have := bt_get s (pos + 2) h; simpa using this
  have hb3 : pos + 3 < s.size → bt s ((pos : Int) + 3) = ((s.get! (pos + 3)).toNat : Int) := fun h => by have := bt_get s (pos + 3) h; simpa using this
  rw [Lib.decode_at]
  have l0 : (s.get! pos).toNat < 256 := (s.get! pos).toNat_lt
  have l1 : (s.get! (pos + 1)).toNat < 256 := (s.get! (pos + 1)).toNat_lt
  have l2 : (s.get! (pos + 2)).toNat < 256 := (s.get! (pos + 2)).toNat_lt
  have l3 : (s.get! (pos + 3)).toNat < 256 := (s.get! (pos + 3)).toNat_lt
  generalize (s.get! pos).toNat = c0 at *
  generalize (s.get! (pos + 1)).toNat = c1 at *
  generalize (s.get! (pos + 2)).toNat = c2 at *
  generalize (s.get! (pos + 3)).toNat = c3 at *
  generalize hsz : s.size = n at *
  unfold capstanref09_Sequence.f
  rw [if_pos (by omega), hsz, if_pos (by omega), hb0, w64 (by omega) (by omega), td, td, td, tm, tm, tm, w64 (a := (c0 : Int) / 32) (by omega) (by omega), w64 (a := (c0 : Int) / 16) (by omega) (by omega), w64 (a := (c0 : Int) / 8) (by omega) (by omega)]
  by_cases h1 : c0 < 128
  · rw [if_pos (by omega)]
    have e : Lib.decodeN (n - pos) c0 c1 c2 c3 = (c0, 1) := by unfold Lib.decodeN; rw [if_pos h1]
    rw [e]; unfold res
    rw [if_neg (by simp; omega)]; simp
  rw [if_neg (by omega)]
  by_cases h2 : c0 / 32 = 6
  · rw [if_pos (by omega)]
    rw [capstanref09_Sequence.j0, w64 (a := (pos : Int) + 2) (by omega) (by omega), hsz]
    by_cases g1 : (pos : Int) + 2 > n
    · rw [if_pos g1]
      have e : Lib.decodeN (n - pos) c0 c1 c2 c3 = (65533, 1) := by unfold Lib.decodeN; rw [if_neg h1, if_neg (by omega), if_neg (by omega), if_neg (by omega)]
      rw [e, res_no]
    rw [if_neg g1, capstanref09_Sequence.l0, if_pos (by omega), w64 (a := (pos : Int) + 1) (by omega) (by omega), if_pos (by omega), hsz, if_pos (by omega), hb1 (by omega)]
    rw [w64 (a := (c1 : Int)) (by omega) (by omega), td, tm, w64 (a := (c1 : Int) / 64) (by omega) (by omega)]
    by_cases g2 : (c1 : Int) / 64 = 2
    · rw [if_pos g2, w64 (a := (c0 : Int) % 32 * 64) (by omega) (by omega), w64 (a := (c0 : Int) % 32 * 64 + c1 % 64) (by omega) (by omega), w64 (a := (1 : Int) + 1) (by omega) (by omega)]
      rw [capstanref09_Sequence.l0, if_neg (by omega)]
      have e : Lib.decodeN (n - pos) c0 c1 c2 c3 = if (c0 % 32 * 64 + c1 % 64) ≥ 128 ∧ ((c0 % 32 * 64 + c1 % 64) < 55296 ∨ 57344 ≤ (c0 % 32 * 64 + c1 % 64) ∧ (c0 % 32 * 64 + c1 % 64) ≤ 1114111) then (c0 % 32 * 64 + c1 % 64, 2) else (65533, 1) := by
        unfold Lib.decodeN
        rw [if_neg h1, if_pos (by omega)]
        by_cases g : c0 % 32 * 64 + c1 % 64 ≥ 128
        · rw [if_pos g, if_pos (by omega)]
        · rw [if_neg g, if_neg (by omega)]
      rw [e, ← fin _ _ _ (by omega)]
      push_cast
      rfl
    · rw [if_neg g2]
      have e : Lib.decodeN (n - pos) c0 c1 c2 c3 = (65533, 1) := by unfold Lib.decodeN; rw [if_neg h1, if_neg (by omega), if_neg (by omega), if_neg (by omega)]
      rw [e, res_no]
  rw [if_neg (by omega)]
  by_cases h3 : c0 / 16 = 14
  · rw [if_pos (by omega)]
    rw [capstanref09_Sequence.j0, w64 (a := (pos : Int) + 3) (by omega) (by omega), hsz]
    by_cases g1 : (pos : Int) + 3 > n
    · rw [if_pos g1]
      have e : Lib.decodeN (n - pos) c0 c1 c2 c3 = (65533, 1) := by unfold Lib.decodeN; rw [if_neg h1, if_neg (by omega), if_neg (by omega), if_neg (by omega)]
      rw [e, res_no]
    rw [if_neg g1]
    rw [capstanref09_Sequence.l0, if_pos (by omega), w64 (a := (pos : Int) + 1) (by omega) (by omega), if_pos (by omega), hsz, if_pos (by omega), hb1 (by omega)]
    rw [w64 (a := (c1 : Int)) (by omega) (by omega), td, tm, w64 (a := (c1 : Int) / 64) (by omega) (by omega)]
    by_cases k1 : (c1 : Int) / 64 = 2
    case neg =>
      rw [if_neg k1]
      have e : Lib.decodeN (n - pos) c0 c1 c2 c3 = (65533, 1) := by unfold Lib.decodeN; rw [if_neg h1, if_neg (by omega), if_neg (by omega), if_neg (by omega)]
      rw [e, res_no]
    rw [if_pos k1, w64 (a := ((c0 : Int) % 16) * 64) (by omega) (by omega), w64 (a := ((c0 : Int) % 16) * 64 + c1 % 64) (by omega) (by omega), w64 (a := (1 : Int) + 1) (by omega) (by omega), show (1 : Int) + 1 = 2 from rfl]
    rw [capstanref09_Sequence.l0, if_pos (by omega), w64 (a := (pos : Int) + 2) (by omega) (by omega), if_pos (by omega), hsz, if_pos (by omega), hb2 (by omega)]
    rw [w64 (a := (c2 : Int)) (by omega) (by omega), td, tm, w64 (a := (c2 : Int) / 64) (by omega) (by omega)]
    by_cases k2 : (c2 : Int) / 64 = 2
    case neg =>
      rw [if_neg k2]
      have e : Lib.decodeN (n - pos) c0 c1 c2 c3 = (65533, 1) := by unfold Lib.decodeN; rw [if_neg h1, if_neg (by omega), if_neg (by omega), if_neg (by omega)]
      rw [e, res_no]
    rw [if_pos k2, w64 (a := (((c0 : Int) % 16) * 64 + c1 % 64) * 64) (by omega) (by omega), w64 (a := (((c0 : Int) % 16) * 64 + c1 % 64) * 64 + c2 % 64) (by omega) (by omega), w64 (a := (2 : Int) + 1) (by omega) (by omega), show (2 : Int) + 1 = 3 from rfl]
    rw [capstanref09_Sequence.l0, if_neg (by omega)]
    have er : c0 % 16 * 4096 + c1 % 64 * 64 + c2 % 64 = ((c0 % 16) * 64 + c1 % 64) * 64 + c2 % 64 := by omega
    have e : Lib.decodeN (n - pos) c0 c1 c2 c3 = if (((c0 % 16) * 64 + c1 % 64) * 64 + c2 % 64) ≥ 2048 ∧ ((((c0 % 16) * 64 + c1 % 64) * 64 + c2 % 64) < 55296 ∨ 57344 ≤ (((c0 % 16) * 64 + c1 % 64) * 64 + c2 % 64) ∧ (((c0 % 16) * 64 + c1 % 64) * 64 + c2 % 64) ≤ 1114111) then (((c0 % 16) * 64 + c1 % 64) * 64 + c2 % 64, 3) else (65533, 1) := by
      unfold Lib.decodeN
      rw [if_neg h1, if_neg (by omega), if_pos (by omega), er]
    rw [e, ← fin _ _ _ (by omega)]
    push_cast
    rfl
  rw [if_neg (by omega)]
  by_cases h4 : c0 / 8 = 30
  · rw [if_pos (by omega)]
    rw [capstanref09_Sequence.j0, w64 (a := (pos : Int) + 4) (by omega) (by omega), hsz]
    by_cases g1 : (pos : Int) + 4 > n
    · rw [if_pos g1]
      have e : Lib.decodeN (n - pos) c0 c1 c2 c3 = (65533, 1) := by unfold Lib.decodeN; rw [if_neg h1, if_neg (by omega), if_neg (by omega), if_neg (by omega)]
      rw [e, res_no]
    rw [if_neg g1]
    rw [capstanref09_Sequence.l0, if_pos (by omega), w64 (a := (pos : Int) + 1) (by omega) (by omega), if_pos (by omega), hsz, if_pos (by omega), hb1 (by omega)]
    rw [w64 (a := (c1 : Int)) (by omega) (by omega), td, tm, w64 (a := (c1 : Int) / 64) (by omega) (by omega)]
    by_cases k1 : (c1 : Int) / 64 = 2
    case neg =>
      rw [if_neg k1]
      have e : Lib.decodeN (n - pos) c0 c1 c2 c3 = (65533, 1) := by unfold Lib.decodeN; rw [if_neg h1, if_neg (by omega), if_neg (by omega), if_neg (by omega)]
      rw [e, res_no]
    rw [if_pos k1, w64 (a := ((c0 : Int) % 8) * 64) (by omega) (by omega), w64 (a := ((c0 : Int) % 8) * 64 + c1 % 64) (by omega) (by omega), w64 (a := (1 : Int) + 1) (by omega) (by omega), show (1 : Int) + 1 = 2 from rfl]
    rw [capstanref09_Sequence.l0, if_pos (by omega), w64 (a := (pos : Int) + 2) (by omega) (by omega), if_pos (by omega), hsz, if_pos (by omega), hb2 (by omega)]
    rw [w64 (a := (c2 : Int)) (by omega) (by omega), td, tm, w64 (a := (c2 : Int) / 64) (by omega) (by omega)]
    by_cases k2 : (c2 : Int) / 64 = 2
    case neg =>
      rw [if_neg k2]
      have e : Lib.decodeN (n - pos) c0 c1 c2 c3 = (65533, 1) := by unfold Lib.decodeN; rw [if_neg h1, if_neg (by omega), if_neg (by omega), if_neg (by omega)]
      rw [e, res_no]
    rw [if_pos k2, w64 (a := (((c0 : Int) % 8) * 64 + c1 % 64) * 64) (by omega) (by omega), w64 (a := (((c0 : Int) % 8) * 64 + c1 % 64) * 64 + c2 % 64) (by omega) (by omega), w64 (a := (2 : Int) + 1) (by omega) (by omega), show (2 : Int) + 1 = 3 from rfl]
    rw [capstanref09_Sequence.l0, if_pos (by omega), w64 (a := (pos : Int) + 3) (by omega) (by omega), if_pos (by omega), hsz, if_pos (by omega), hb3 (by omega)]
    rw [w64 (a := (c3 : Int)) (by omega) (by omega), td, tm, w64 (a := (c3 : Int) / 64) (by omega) (by omega)]
    by_cases k3 : (c3 : Int) / 64 = 2
    case neg =>
      rw [if_neg k3]
      have e : Lib.decodeN (n - pos) c0 c1 c2 c3 = (65533, 1) := by unfold Lib.decodeN; rw [if_neg h1, if_neg (by omega), if_neg (by omega), if_neg (by omega)]
      rw [e, res_no]
    rw [if_pos k3, w64 (a := ((((c0 : Int) % 8) * 64 + c1 % 64) * 64 + c2 % 64) * 64) (by omega) (by omega), w64 (a := ((((c0 : Int) % 8) * 64 + c1 % 64) * 64 + c2 % 64) * 64 + c3 % 64) (by omega) (by omega), w64 (a := (3 : Int) + 1) (by omega) (by omega), show (3 : Int) + 1 = 4 from rfl]
    rw [capstanref09_Sequence.l0, if_neg (by omega)]
    obtain ⟨r, hr⟩ : ∃ r : Nat, r = c0 % 8 * 262144 + c1 % 64 * 4096 + c2 % 64 * 64 + c3 % 64 := ⟨_, rfl⟩
    have e : Lib.decodeN (n - pos) c0 c1 c2 c3 = if r ≥ 65536 ∧ (r < 55296 ∨ 57344 ≤ r ∧ r ≤ 1114111) then (r, 4) else (65533, 1) := by
      unfold Lib.decodeN
      rw [if_neg h1, if_neg (by omega), if_neg (by omega), if_pos (by omega), hr]
    have hri : ((((c0 : Int) % 8) * 64 + c1 % 64) * 64 + c2 % 64) * 64 + c3 % 64 = (r : Int) := by omega
    rw [hri, e, ← fin _ _ _ (by omega)]
    rfl
  rw [if_neg (by omega)]
  have e : Lib.decodeN (n - pos) c0 c1 c2 c3 = (65533, 1) := by unfold Lib.decodeN; rw [if_neg h1, if_neg (by omega), if_neg (by omega), if_neg (by omega)]
  rw [e, res_no]
end Go.Proofs.YtmgjmjoclglidaaDoor.SqL
