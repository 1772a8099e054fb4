/- More small facts on blocks that stay as they are behind calls. -/
import Derived.Test.YtkdboaaganmagaaBlk
namespace Go.Proofs.Ytkdboaaganmagaa.Blk2
open Go.RowKit Go.Proofs.Ytkdboaaganmagaa.Blk
theorem blk_call {w w' : World} {g : Nat} {o : Obj} (h : w.heap[g]? = some o) (hb : Below w.heap.size w w') : w'.heap[g]? = some o := blk_below h hb (blk_lt h)
theorem blk_drewN {w : World} {g : Nat} {o : Obj} (h : w.heap[g]? = some o) (n : Nat) : (w.drewN n).heap[g]? = some o := h
theorem blk_drew {w : World} {g : Nat} {o : Obj} (h : w.heap[g]? = some o) : w.drew.heap[g]? = some o := h
end Go.Proofs.Ytkdboaaganmagaa.Blk2
