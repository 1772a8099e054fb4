/- letIn, broken: what they answer. -/
import Derived.Test.YtmgjmjoclglidaaDoorLaid
import Derived.Test.YtmgjmjoclglidaaDoorPScanWheresx2
import Derived.Test.YtmgjmjoclglidaaDoorBlk
import Derived.Test.YtmgjmjoclglidaaDoorBlk2
import Derived.Lib.RuneCountTail
import Derived.Shelf.Unicode.DecodeLastEight
import Derived.Laws.RangeAny
import Derived.OpenShut
namespace Go.Proofs.YtmgjmjoclglidaaDoor.Sa
set_option linter.unusedVariables false
open Go.RowKit Go.Proofs.YtmgjmjoclglidaaDoor.Blk Go.Proofs.YtmgjmjoclglidaaDoor.Blk2 Go.Proofs.YtmgjmjoclglidaaDoor.Laid

theorem decodeGo_tail (s : ByteArray) (pos : Nat) (h : pos < s.size) : Lib.decodeGo (s.extract pos s.size) = Utf8.decode s pos := by
  unfold Lib.decodeGo
  rw [if_neg (by rw [Lib.tail_size]; omega), Lib.tail_decode, Nat.add_zero]
/-- May a text have the rune? -/
def lets (r : Int) : Bool := decide (r = 9 ∨ r = 10 ∨ r = 13 ∨ ¬ (r < 32 ∨ 127 ≤ r ∧ r ≤ 159 ∨ r = 65279))
theorem letIn_f (r : Int) : PScanWheres.scan_letIn.f 2 r = some (lets r) := by
  unfold PScanWheres.scan_letIn.f PScanWheres.scan_letIn.j0 lets
  by_cases h1 : r = 9
  · simp [h1]
  by_cases h2 : r = 10
  · simp [h2]
  by_cases h3 : r = 13
  · simp [h3]
  rw [if_neg h1, if_neg h2]
  simp only [h1, h2, h3, beq_eq_false_iff_ne.2 h3, false_or]
  repeat' split
  all_goals simp_all
  all_goals omega
theorem letIn_any (r : Int) (w : World) : Calls Tryd.prog 20 #[.int .i32 r] w fun e w' => e = .returned (.bool (lets r)) ∧ ∃ n, w' = w.drewN n :=
  (PScanWheres.scan_letIn.calls 2 r _ w (letIn_f r)).mono fun _ _ ⟨h1, h2⟩ => ⟨h1, h2.out⟩
/-- Is there no sequence, where the range tells r? -/
def brk (s : ByteArray) (pos : Nat) (r : Int) : Bool := decide (r = 65533) && decide (((Utf8.decode s pos).2 : Int) = 1)
set_option maxHeartbeats 2000000 in
theorem broken_any (s : ByteArray) (pos : Nat) (r : Int) (w : World) (hp : pos < s.size) (hL : Laid w) :
    Calls Tryd.prog 19 #[.string s, .int .i64 pos, .int .i32 r] w fun e w' => e = .returned (.bool (brk s pos r)) ∧ Below w.heap.size w w' := by
  by_cases hr : r = 65533
  · have e0 : brk s pos r = decide (((Utf8.decode s pos).2 : Int) = 1) := by simp [brk, hr]
    rw [e0]
    subst hr
    have hd := decodeGo_tail s pos hp
    have hc := fun W (hW : Laid W) => Tryd.utf8_DecodeRuneInString (s.extract pos s.size) W hW
    rw [hd] at hc
    have HC := Lib.hid hc
    clear hc hd e0
    go_enter Tryd.func19, Tryd.ntmps19
    go_wp2_with (go_at_call 25; refine (HC.out _ hL).mono ?_; rintro e w1 ⟨rfl, hb⟩)
    go_ret
    exact ⟨by by_cases h : ((Utf8.decode s pos).2 : Int) = 1 <;> simp [h], hb⟩
  · have e0 : brk s pos r = false := by simp [brk, hr]
    rw [e0]
    clear e0
    go_enter Tryd.func19, Tryd.ntmps19
    go_wp2
    go_ret
    exact ⟨rfl, Below.refl _ _⟩
end Go.Proofs.YtmgjmjoclglidaaDoor.Sa
