/- What the listed variable months holds, cell for cell; and a world for the witness. -/
import Derived.Test.YtdeohkldlpknnaaDoorCards
import Derived.Test.YtdeohkldlpknnaaDoorTie
import Derived.WalkKit
import Derived.ProofKit
import Derived.OpenShut
import Derived.Deep.DeepHandedRow
import Derived.Lib.LaidTab
namespace Go.Proofs.YtdeohkldlpknnaaDoor.Laid
open Go.ChangeShapes Go.WideShapes Go.ChangeAt Go.RowKit

theorem gTab : Tryd.prog.globalNamed "capstan/civil.months" = some 0 := by kernel_rfl
theorem gTabType : (Tryd.prog.globals[0]?).map (·.type) = some 42 := by kernel_rfl
theorem cells42 : Tryd.prog.cellsOf 42 = 12 := by kernel_rfl
theorem cells3 : Tryd.prog.cellsOf 3 = 1 := by kernel_rfl
def months : List Int := [31, 28, 31, 30, 31, 30, 31, 31, 30, 31, 30, 31]
/-- The variable's cells. -/
def Laid (w : World) : Prop := ∀ i, i < 12 → w.cell? ⟨0, i, none⟩ = some (.int .i64 (months.getD i 0))
theorem Laid.below {w w' : World} (h : Laid w) (hb : Below w.heap.size w w') : Laid w' := fun i hi => (hb.cell (World.block_lt_of_cell? _ _ (h i hi))).trans (h i hi)
theorem table {W : World} (h : laidMetH Tryd.prog [("capstan/civil.months", Rows.laid_capstan_civil_months)] W) : Lib.TabIs Tryd.prog W "capstan/civil.months" .i64 months :=
  Lib.tabIs_of_head (rest := []) gTab gTabType Tryd.underlying42 Tryd.underlying3 cells3 cells42 h
theorem of_laid {W : World} (h : laidMetH Tryd.prog [("capstan/civil.months", Rows.laid_capstan_civil_months)] W) : Laid W := fun i hi => by
  have := (table h).cell gTab i (by simpa [months] using hi)
  rw [this]
/-- A world for the witness: the settled one, the table holding what its initialiser lays. -/
noncomputable def laidWorld (os : Os) : World :=
  { World.holding Tryd.prog os ⟨#[], #[], []⟩ with heap := (World.holding Tryd.prog os ⟨#[], #[], []⟩).heap.modify 0 fun
      | .cells _ t frozen => .cells #[.int .i64 31, .int .i64 28, .int .i64 31, .int .i64 30, .int .i64 31, .int .i64 30, .int .i64 31, .int .i64 31, .int .i64 30, .int .i64 31, .int .i64 30, .int .i64 31] t frozen
      | o => o }
end Go.Proofs.YtdeohkldlpknnaaDoor.Laid
