/- What the listed variables math/bits.deBruijn64tab and capstan/cron.fields hold, cell for cell. -/
import Derived.Test.YtkmcmgfmahildaaDoorCards
import Derived.Test.YtkmcmgfmahildaaDoorTie
import Derived.WalkKit
import Derived.ProofKit
import Derived.OpenShut
import Derived.Deep.DeepHandedRow
import Derived.Lib.LaidTab
import Derived.Lib.LaidU8
import Derived.Lib.TrailingZeros
namespace Go.Proofs.YtkmcmgfmahildaaDoor.Laid
open Go.ChangeShapes Go.WideShapes Go.ChangeAt Go.RowKit

theorem gB : Tryd.prog.globalNamed "math/bits.deBruijn64tab" = some 1 := by kernel_rfl
theorem gBType : (Tryd.prog.globals[1]?).map (·.type) = some 75 := by kernel_rfl
theorem gF : Tryd.prog.globalNamed "capstan/cron.fields" = some 0 := by kernel_rfl
theorem gFType : (Tryd.prog.globals[0]?).map (·.type) = some 43 := by kernel_rfl
theorem cells75 : Tryd.prog.cellsOf 75 = 64 := by kernel_rfl
theorem cells5 : Tryd.prog.cellsOf 5 = 1 := by kernel_rfl
theorem cells42 : Tryd.prog.cellsOf 42 = 2 := by kernel_rfl
theorem cells3 : Tryd.prog.cellsOf 3 = 1 := by kernel_rfl
def low (i : Nat) : Int := if i = 2 ∨ i = 3 then 1 else 0
def high (i : Nat) : Int := if i = 0 then 59 else if i = 1 then 23 else if i = 2 then 31 else if i = 3 then 12 else 6
/-- The two variables' cells. -/
def Laid (w : World) : Prop := (∀ i, i < 64 → w.cell? ⟨1, i, none⟩ = some (.int .u8 (Lib.deBruijn64tab.getD i 0))) ∧
  (∀ i, i < 5 → w.cell? ⟨0, 2 * i, none⟩ = some (.int .i64 (low i)) ∧ w.cell? ⟨0, 2 * i + 1, none⟩ = some (.int .i64 (high i)))
theorem Laid.below {w w' : World} (h : Laid w) (hb : Below w.heap.size w w') : Laid w' :=
  ⟨fun i hi => (hb.cell (World.block_lt_of_cell? _ _ (h.1 i hi))).trans (h.1 i hi),
   fun i hi => ⟨(hb.cell (World.block_lt_of_cell? _ _ (h.2 i hi).1)).trans (h.2 i hi).1, (hb.cell (World.block_lt_of_cell? _ _ (h.2 i hi).2)).trans (h.2 i hi).2⟩⟩
def theList : List (String × DataW Unit) := [("math/bits.deBruijn32tab", Rows.laid_math_bits_deBruijn32tab), ("math/bits.deBruijn64tab", Rows.laid_math_bits_deBruijn64tab), ("internal/strconv.uint64pow10", Rows.laid_internal_strconv_uint64pow10), ("strconv.ErrRange", Rows.laid_strconv_ErrRange), ("strconv.ErrSyntax", Rows.laid_strconv_ErrSyntax), ("capstan/cron.fields", Rows.laid_capstan_cron_fields)]
theorem tab_eq : (Rows.laid_math_bits_deBruijn64tab : DataW Unit) = Lib.tabData .u8 (Lib.deBruijn64tab.map fun (n : Nat) => (n : Int)) := by kernel_rfl
theorem fld_eq : (Rows.laid_capstan_cron_fields : DataW Unit) = .agg ((List.range 5).map fun i => .agg ([low i, high i].map fun z => .lit (.int .i64 z))) := by kernel_rfl
theorem under43 : Tryd.prog.underlying 43 = some (.array 5 42) := by kernel_rfl
theorem of_laid {W : World} (h : laidMetH Tryd.prog theList W) : Laid W := by
  have h' : laidMet Tryd.prog theList W := h
  refine ⟨fun i hi => ?_, fun i hi => ?_⟩
  · obtain ⟨g, t, cs, fuel, p, hg, hty, hvar, hd⟩ := Lib.laidMet.reads h' (n := "math/bits.deBruijn64tab") (d := Rows.laid_math_bits_deBruijn64tab) (by simp [theList])
    obtain rfl := Option.some.inj (gB.symm.trans hg)
    obtain rfl := Option.some.inj (gBType.symm.trans hty)
    rw [tab_eq] at hd
    have hcs := Lib.cells_of_tab Tryd.underlying75 Tryd.underlying5 cells5 cells75 hd
    rw [World.var?_cell hg hvar i, ← Array.getElem?_toList, hcs]
    have hl : Lib.deBruijn64tab.length = 64 := by decide
    simp [List.getD, hl, hi]
  · obtain ⟨g, t, cs, fuel, p, hg, hty, hvar, hd⟩ := Lib.laidMet.reads h' (n := "capstan/cron.fields") (d := Rows.laid_capstan_cron_fields) (by simp [theList])
    obtain rfl := Option.some.inj (gF.symm.trans hg)
    obtain rfl := Option.some.inj (gFType.symm.trans hty)
    rw [fld_eq] at hd
    obtain ⟨fuel', d, q, hdi, he⟩ := Lib.array_elem under43 hd i hi
    simp only [List.getElem?_map, List.getElem?_range hi, Option.map_some, Option.some.injEq] at hdi
    subst hdi
    rw [cells42] at he
    have hcs := Lib.ints_of_struct Tryd.underlying42 (fun j f hj => by
      match j, hj with
      | 0, hj => simp at hj; subst hj; exact ⟨Tryd.underlying3, rfl, cells3⟩
      | 1, hj => simp at hj; subst hj; exact ⟨Tryd.underlying3, rfl, cells3⟩
      | j + 2, hj => simp at hj) (by rw [cells42]; rfl) he
    have e0 := congrArg (·[0]?) hcs
    have e1 := congrArg (·[1]?) hcs
    simp only [List.getElem?_take, List.getElem?_drop] at e0 e1
    constructor
    · rw [World.var?_cell hg hvar (2 * i), ← Array.getElem?_toList]
      simpa [Nat.mul_comm] using e0
    · rw [World.var?_cell hg hvar (2 * i + 1), ← Array.getElem?_toList]
      simpa [Nat.mul_comm] using e1
end Go.Proofs.YtkmcmgfmahildaaDoor.Laid
