/- Decode's deferred closure. -/
import Derived.Test.YtkdboaaganmagaaCd
import Derived.Recover
import Derived.Defers
import Derived.Deep.MidRow
import Derived.Laws.Pointers
namespace Go.Proofs.Ytkdboaaganmagaa.Cf0
set_option linter.unusedVariables false
set_option linter.unusedSimpArgs false
open Go.RowKit Go.Proofs.YtkdboaaganmagaaW.PrintWords Go.Proofs.Ytkdboaaganmagaa.OP Go.Proofs.Ytkdboaaganmagaa.Ca Go.Proofs.Ytkdboaaganmagaa.Cd
def Zp : Array Value := #[.int .i64 0, .int .i64 0, .int .i64 0, .int .i64 0, .int .i64 0, .int .i64 0, .slice none 0 0, .slice none 0 0, .slice none 0 0, .int .i64 0, .int .i64 0, .slice none 0 0]
theorem info29z : (Try.prog.info? 29).map (·.size) = some Zp.size := by kernel_rfl
theorem zall : Zp.all (·.oneCell') = true := by simp [Zp, Value.oneCell']
theorem there_z {W : World} {b t : Nat} (h : W.heap[b]? = some (.cells Zp t (0, 0))) : W.there b 0 Zp.size := fun j hj => by
  refine ⟨?_, ?_⟩
  · rw [Nat.zero_add, Blk.blk_cell h j, Array.getElem?_eq_getElem hj]; rfl
  · rw [Nat.zero_add]; exact Blk.blk_frozen h j
set_option maxHeartbeats 1000000 in
theorem catch_panicking (b : Nat) (u : TypeId) (pv : Value) (older : List PanicEntry) (w : World) (h2 : w.heap[b]? = some (.cells Zp 29 (0, 0))) (h3 : w.heap[b + 1]? = some (.cells #[.int .i64 0] 32 (0, 0))) :
    CallsD Try.prog 22 #[.pointer (some ⟨b, 0, none⟩), .pointer (some ⟨b + 1, 0, none⟩)] (.panicking ({ v := .iface u pv, recovered := false } :: older)) w fun e u' w' =>
      e = .returned (.tuple #[]) ∧ u' = .panicking ({ v := .iface u pv, recovered := true } :: older) ∧ w' = (w.setCells b 0 Zp.toList).setCell ⟨b + 1, 0, none⟩ (.int .i64 40) := by
  have t0 := Blk.blk_cell h2 0; have f0 := Blk.blk_frozen h2 0
  have t1 := Blk.blk_cell h2 1; have f1 := Blk.blk_frozen h2 1
  have t2 := Blk.blk_cell h2 2; have f2 := Blk.blk_frozen h2 2
  have t3 := Blk.blk_cell h2 3; have f3 := Blk.blk_frozen h2 3
  have t4 := Blk.blk_cell h2 4; have f4 := Blk.blk_frozen h2 4
  have t5 := Blk.blk_cell h2 5; have f5 := Blk.blk_frozen h2 5
  have t6 := Blk.blk_cell h2 6; have f6 := Blk.blk_frozen h2 6
  have t7 := Blk.blk_cell h2 7; have f7 := Blk.blk_frozen h2 7
  have t8 := Blk.blk_cell h2 8; have f8 := Blk.blk_frozen h2 8
  have t9 := Blk.blk_cell h2 9; have f9 := Blk.blk_frozen h2 9
  have t10 := Blk.blk_cell h2 10; have f10 := Blk.blk_frozen h2 10
  have t11 := Blk.blk_cell h2 11; have f11 := Blk.blk_frozen h2 11
  have hc := Blk.blk_cell h3 0
  have hf := Blk.blk_frozen h3 0
  unfold Zp at t0 t1 t2 t3 t4 t5 t6 t7 t8 t9 t10 t11
  simp at hc t0 t1 t2 t3 t4 t5 t6 t7 t8 t9 t10 t11
  refine callsD_of_wpS Try.func22 rfl fun c₀ cs hu => ?_
  apply wpS_seq
  apply wpS_region
  simp [wpOpsS, go_sem, recoverD, hu, Try.ntmps22, Exit.thenS]
  refine wpS_cond (t := true) (by simp [Act.eval, Array.replicate]) ?_
  simp only [if_true]
  apply wpS_region
  simp [wpOpsS, go_sem, t0, f0, t1, f1, t2, f2, t3, f3, t4, f4, t5, f5, t6, f6, t7, f7, t8, f8, t9, f9, t10, f10, t11, f11, hc, hf, bodyPostS, results, Try.results22, Zp, World.setCells]
theorem catch_idle (b : Nat) (w : World) :
    CallsD Try.prog 22 #[.pointer (some ⟨b, 0, none⟩), .pointer (some ⟨b + 1, 0, none⟩)] .returning w fun e u' w' => e = .returned (.tuple #[]) ∧ u' = .returning ∧ w' = w := by
  refine callsD_of_wpS Try.func22 rfl fun c₀ cs hu => ?_
  apply wpS_seq
  apply wpS_region
  simp [wpOpsS, go_sem, recoverD, hu, Try.ntmps22, Exit.thenS]
  refine wpS_cond (t := false) (by simp [Act.eval, Array.replicate]) ?_
  simp only [Bool.false_eq_true, if_false]
  refine wpS_of_wp (wp_skip ?_)
  cases c₀
  simp_all [bodyPostS, results, Try.results22]
end Go.Proofs.Ytkdboaaganmagaa.Cf0
