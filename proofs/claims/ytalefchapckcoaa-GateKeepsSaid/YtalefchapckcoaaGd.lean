/- The gate's laws' first fact, and the laws that reach no reference: their walks. -/
import Derived.Test.YtalefchapckcoaaGc
namespace Go.Proofs.Ytalefchapckcoaa.Gd
open Go.RowKit Go.Proofs.Ytalefchapckcoaa.Blk Go.Proofs.Ytalefchapckcoaa.Ga Go.Proofs.Ytalefchapckcoaa.Gc
attribute [local go_sem] max2_int min2_int max_two min_two

def NewOk (r : GR) (start : Int) (w : World) (e : Ending) (w' : World) : Prop :=
  ∃ g, e = .returned (.tuple #[.pointer (some ⟨g, 0, none⟩), .int .i64 0]) ∧ Below w.heap.size w w' ∧ w.heap.size ≤ g ∧ IsGate w' g r ⟨start, 0, false, 0, false⟩
theorem new_ok (r : GR) (start : Int) (w : World) (hr : rightB r = true) (h : ¬ (start < r.mn ∨ r.mx < start)) : Calls Try.prog 9 #[rv r, .int .i64 start] w (NewOk r start w) :=
  (new_any r start w).mono fun e w' hn => by
    unfold NewPost at hn; rw [if_pos hr, if_neg h] at hn; exact hn
theorem rts_start {r : GR} {start : Int} (hr : rightB r = true) (h : ¬ (start < r.mn ∨ r.mx < start)) : RtS r ⟨start, 0, false, 0, false⟩ := by
  simp only [rightB, decide_eq_true_eq] at hr
  unfold RtS Rt; dsimp only; omega

def AwakePost (w : World) (e : Ending) (w' : World) : Prop := e = .returned (.bool true) ∧ Below w.heap.size w w'
set_option maxHeartbeats 2000000 in
theorem awake_any (w : World) : Calls Try.prog 8 #[] w (AwakePost w) := by
  have ha : ansF ⟨1, 10, 3, 30, 60⟩ ⟨2, 0, false, 0, false⟩ false 0 9 0 = (false, 0, 5) := by decide
  have he : errF ⟨2, 0, false, 0, false⟩ 0 = 0 := by decide
  have hn : (nextF ⟨1, 10, 3, 30, 60⟩ ⟨2, 0, false, 0, false⟩ false 9 0).cnt = 5 := by decide
  have hR : RtS ⟨1, 10, 3, 30, 60⟩ ⟨2, 0, false, 0, false⟩ := rts_start (by decide) (by decide)
  have HA := Lib.hid ha; have HE := Lib.hid he; have HN := Lib.hid hn; have HR := Lib.hid hR
  clear ha he hn hR
  go_enter Try.func8, Try.ntmps8
  go_wp2_with fail
  refine (new_ok ⟨1, 10, 3, 30, 60⟩ 2 _ (by decide) (by decide)).mono ?_
  rintro e w1 ⟨g, rfl, hb, hg, hG⟩
  have HB := Lib.hid hb; have HG := Lib.hid hG
  clear hb hG
  go_wp2_with fail
  refine (bind_any g ⟨1, 10, 3, 30, 60⟩ ⟨2, 0, false, 0, false⟩ false 0 9 0 _ HG.out HR.out).mono ?_
  rintro e w2 ⟨rfl, hG2, hgb⟩
  rw [HA.out, HE.out]
  have HB2 := Lib.hid (below_of_gb HB.out hgb hg HB.out.size)
  have HG2 := Lib.hid hG2
  clear hgb hG2
  dsimp only [dv]
  go_wp2_with fail
  refine (count_gate g _ _ _ (show IsGate _ g ⟨1, 10, 3, 30, 60⟩ _ from blk_alloc HG2.out _) (next_right _ _ _ HR.out)).mono ?_
  rintro e w3 ⟨rfl, rfl⟩
  rw [HN.out]
  go_wp2
  go_ret
  exact ⟨rfl, HB2.out.alloc HB2.out.size _⟩
end Go.Proofs.Ytalefchapckcoaa.Gd
