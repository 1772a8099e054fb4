/- What the listed variables internal/strconv.uint64pow10 and strconv.ErrRange hold. -/
import Derived.Test.YtekcdokgpjmbgaaDoorCards
import Derived.Test.YtekcdokgpjmbgaaDoorTie
import Derived.WalkKit
import Derived.ProofKit
import Derived.OpenShut
import Derived.Deep.DeepHandedRow
import Derived.Stop.LaidErr
import Derived.Lib.LaidTab
import Derived.Lib.ItoaMem
namespace Go.Proofs.YtekcdokgpjmbgaaDoor.Laid
open Go.ChangeShapes Go.WideShapes Go.ChangeAt Go.RowKit
theorem gP : Tryd.prog.globalNamed "internal/strconv.uint64pow10" = some 3 := by kernel_rfl
theorem gPType : (Tryd.prog.globals[3]?).map (·.type) = some 87 := by kernel_rfl
theorem gR : Tryd.prog.globalNamed "strconv.ErrRange" = some 2 := by kernel_rfl
theorem gRType : (Tryd.prog.globals[2]?).map (·.type) = some 43 := by kernel_rfl
theorem cells87 : Tryd.prog.cellsOf 87 = 20 := by kernel_rfl
theorem cells49 : Tryd.prog.cellsOf 49 = 1 := by kernel_rfl
theorem cells95 : Tryd.prog.cellsOf 95 = 1 := by kernel_rfl
theorem cells9 : Tryd.prog.cellsOf 9 = 1 := by kernel_rfl
theorem star : "*" ++ "errors.errorString" = "*errors.errorString" := by decide
theorem row93 (u : TypeId) (h : Tryd.prog.typeName? 3 u = some "*errors.errorString") : u = 93 :=
  typeName_ptr_named (nm := "errors.errorString") (by rw [star]; kernel_rfl) (by kernel_rfl) (by decide) u (by rw [star]; exact h)
/-- The two variables. -/
def Laid (w : World) : Prop := Lib.TabIs Tryd.prog w "internal/strconv.uint64pow10" .u64 Lib.pow10Tab ∧ ∃ tp p, w.var? Tryd.prog "strconv.ErrRange" = some #[.iface tp p]
theorem var_stays {W W' : World} {B g : Nat} {n : String} {cs : Array Value} (hg : Tryd.prog.globalNamed n = some g) (h : W.var? Tryd.prog n = some cs) (hb : Below B W W') (hB : W.heap.size ≤ B) : W'.var? Tryd.prog n = some cs := by
  unfold World.var? at h ⊢
  rw [hg] at h ⊢
  simp only [Option.bind_some] at h ⊢
  have hlt : g < W.heap.size := by
    rcases Nat.lt_or_ge g W.heap.size with h' | h'
    · exact h'
    · rw [Array.getElem?_eq_none h'] at h; cases h
  rw [hb.block g (by omega)]
  exact h
theorem Laid.below {w w' : World} (h : Laid w) (hb : Below w.heap.size w w') : Laid w' := by
  obtain ⟨h1, tp, p, h2⟩ := h
  exact ⟨var_stays gP h1 hb (Nat.le_refl _), tp, p, var_stays gR h2 hb (Nat.le_refl _)⟩
def theList : List (String × DataW Unit) := [("math/bits.deBruijn32tab", Rows.laid_math_bits_deBruijn32tab), ("math/bits.deBruijn64tab", Rows.laid_math_bits_deBruijn64tab), ("internal/strconv.uint64pow10", Rows.laid_internal_strconv_uint64pow10), ("unicode/utf8.acceptRanges", Rows.laid_unicode_utf8_acceptRanges), ("strconv.ErrRange", Rows.laid_strconv_ErrRange), ("strconv.ErrSyntax", Rows.laid_strconv_ErrSyntax), ("unicode/utf8.first", Rows.laid_unicode_utf8_first)]
theorem tab_eq : (Rows.laid_internal_strconv_uint64pow10 : DataW Unit) = Lib.tabData .u64 Lib.pow10Tab := by kernel_rfl
theorem of_laid {W : World} (h : laidMetH Tryd.prog theList W) : Laid W := by
  have h1 : laidMet Tryd.prog theList W := h
  have h2 := laidMet.tail (laidMet.tail h1)
  have h3 := laidMet.tail (laidMet.tail h2)
  refine ⟨?_, ?_⟩
  · rw [tab_eq] at h2
    exact Lib.tabIs_of_head gP gPType Tryd.underlying87 Tryd.underlying49 cells49 cells87 h2
  · obtain ⟨a, s, hv, _⟩ := laid_sentinel h3 gR gRType Tryd.underlying43 row93 Tryd.underlying93 Tryd.underlying95 rfl rfl Tryd.underlying9 cells95 cells9
    exact ⟨_, _, hv⟩
end Go.Proofs.YtekcdokgpjmbgaaDoor.Laid
