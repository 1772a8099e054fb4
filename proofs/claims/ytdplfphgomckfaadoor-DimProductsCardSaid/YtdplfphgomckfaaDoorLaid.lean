/- What the listed variables hold: the powers of ten, dim's table of units, dim's names of base units. Conditions: as each theorem states. -/
import Derived.Test.YtdplfphgomckfaaDoorCards
import Derived.Test.YtdplfphgomckfaaDoorTie
import Derived.WalkKit
import Derived.ProofKit
import Derived.OpenShut
import Derived.Deep.DeepHandedRow
import Derived.Stop.LaidErr
import Derived.Lib.LaidTab
import Derived.Lib.ItoaMem
namespace Go.Proofs.YtdplfphgomckfaaDoor.Laid
open Go.ChangeShapes Go.WideShapes Go.ChangeAt Go.RowKit
theorem gP : Tryd.prog.globalNamed "internal/strconv.uint64pow10" = some 6 := by kernel_rfl
theorem gPType : (Tryd.prog.globals[6]?).map (·.type) = some 134 := by kernel_rfl
theorem gT : Tryd.prog.globalNamed "capstan/dim.table" = some 1 := by kernel_rfl
theorem gTType : (Tryd.prog.globals[1]?).map (·.type) = some 71 := by kernel_rfl
theorem gB : Tryd.prog.globalNamed "capstan/dim.bases" = some 0 := by kernel_rfl
theorem gBType : (Tryd.prog.globals[0]?).map (·.type) = some 65 := by kernel_rfl
theorem cells134 : Tryd.prog.cellsOf 134 = 20 := by kernel_rfl
theorem cells84 : Tryd.prog.cellsOf 84 = 1 := by kernel_rfl
theorem cells71 : Tryd.prog.cellsOf 71 = 72 := by kernel_rfl
theorem cells65 : Tryd.prog.cellsOf 65 = 5 := by kernel_rfl
theorem cells41 : Tryd.prog.cellsOf 41 = 4 := by kernel_rfl
theorem cells9 : Tryd.prog.cellsOf 9 = 1 := by kernel_rfl
theorem cells2 : Tryd.prog.cellsOf 2 = 1 := by kernel_rfl
theorem cells3 : Tryd.prog.cellsOf 3 = 1 := by kernel_rfl
/-- A row of the table: its name's bytes, its factor, its base unit's place. -/
structure Rw where
  name : List UInt8
  num : Int
  den : Int
  base : Int
def table : List Rw := [⟨[111, 110, 101], 1, 1, -1⟩, ⟨[112, 99, 116], 1, 100, -1⟩, ⟨[115], 1, 1, 0⟩, ⟨[109, 115], 1, 1000, 0⟩, ⟨[109, 105, 110], 60, 1, 0⟩, ⟨[104], 3600, 1, 0⟩, ⟨[100], 86400, 1, 0⟩, ⟨[114, 101, 113], 1, 1, 1⟩, ⟨[107, 114, 101, 113], 1000, 1, 1⟩, ⟨[66], 1, 1, 2⟩, ⟨[107, 66], 1000, 1, 2⟩, ⟨[77, 66], 1000000, 1, 2⟩, ⟨[75, 105, 66], 1024, 1, 2⟩, ⟨[77, 105, 66], 1048576, 1, 2⟩, ⟨[71, 105, 66], 1073741824, 1, 2⟩, ⟨[114, 101, 112], 1, 1, 3⟩, ⟨[99, 111, 114, 101], 1, 1, 4⟩, ⟨[109, 99, 111, 114, 101], 1, 1000, 4⟩]
def bases : List (List UInt8) := [[115], [114, 101, 113], [66], [114, 101, 112], [99, 111, 114, 101]]
def cellsR (r : Rw) : List Value := [.string ⟨r.name.toArray⟩, .int .i64 r.num, .int .i64 r.den, .int .i64 r.base]
def dataR {H : Type} (r : Rw) : DataW H := .agg [.lit (.string r.name), .lit (.int .i64 r.num), .lit (.int .i64 r.den), .lit (.int .i64 r.base)]
theorem table_eq : (Rows.laid_capstan_dim_table : DataW Unit) = .agg (table.map dataR) := by kernel_rfl
theorem bases_eq : (Rows.laid_capstan_dim_bases : DataW Unit) = .agg (bases.map fun b => .lit (.string b)) := by kernel_rfl
section
variable {H : Type} {enc : TypeId × Value → H} {w : World} {base : Nat} {sp : Nat → Bool} {held : Bool} {fuel : Nat} {cs : List Value} {p : List MemPlace}
theorem string_of {s : ByteArray} {l : List UInt8} (h : s.data.toList = l) : s = ⟨l.toArray⟩ := by subst h; rfl
theorem str_cells {b : List UInt8} (h : DataW.trod enc Tryd.prog w base sp held fuel 9 cs = some (.lit (.string b), p)) : cs = [.string ⟨b.toArray⟩] := by
  obtain ⟨s, hc, hx, _⟩ := DataW.trod_string Tryd.underlying9 h
  simp only [Prod.mk.injEq, DataW.lit.injEq, Lit.string.injEq] at hx
  rw [hc, string_of hx.1.symm]
theorem int_cells {t : TypeId} {n : Int} (ht : Tryd.prog.underlying t = some (.int .i64)) (h : DataW.trod enc Tryd.prog w base sp held fuel t cs = some (.lit (.int .i64 n), p)) : cs = [.int .i64 n] := by
  obtain ⟨m, hc, hx, _⟩ := DataW.trod_int ht h
  simp only [Prod.mk.injEq, DataW.lit.injEq, Lit.int.injEq, true_and] at hx
  rw [hc, hx.1]
set_option maxRecDepth 100000 in
theorem row_cells {r : Rw} (h : DataW.trod enc Tryd.prog w base sp held fuel 41 cs = some (dataR r, p)) : cs = cellsR r := by
  obtain ⟨xs, n, _, hx, hl, hlen, hf⟩ := DataW.trod_struct Tryd.underlying41 h
  rw [cells41] at hl
  match xs, hlen with
  | [y0, y1, y2, y3], _ =>
    match cs, hl with
    | [c0, c1, c2, c3], _ =>
      injection hx with h1 h2
      injection h1 with h1
      simp only [List.map_cons, List.map_nil, List.cons.injEq, and_true] at h1
      obtain ⟨e0, e1, e2, e3⟩ := h1
      have f0 : DataW.trod enc Tryd.prog w base sp held n 9 (([c0, c1, c2, c3].drop 0).take (Tryd.prog.cellsOf 9)) = some y0 := hf 0 _ rfl
      have f1 : DataW.trod enc Tryd.prog w base sp held n 2 (([c0, c1, c2, c3].drop 1).take (Tryd.prog.cellsOf 2)) = some y1 := hf 1 _ rfl
      have f2 : DataW.trod enc Tryd.prog w base sp held n 2 (([c0, c1, c2, c3].drop 2).take (Tryd.prog.cellsOf 2)) = some y2 := hf 2 _ rfl
      have f3 : DataW.trod enc Tryd.prog w base sp held n 3 (([c0, c1, c2, c3].drop 3).take (Tryd.prog.cellsOf 3)) = some y3 := hf 3 _ rfl
      rw [cells9] at f0
      rw [cells2] at f1 f2
      rw [cells3] at f3
      simp only [List.drop_succ_cons, List.drop_zero, List.take_succ_cons, List.take_zero] at f0 f1 f2 f3
      rw [show y0 = (y0.1, y0.2) from rfl, ← e0] at f0
      rw [show y1 = (y1.1, y1.2) from rfl, ← e1] at f1
      rw [show y2 = (y2.1, y2.2) from rfl, ← e2] at f2
      rw [show y3 = (y3.1, y3.2) from rfl, ← e3] at f3
      have g0 := str_cells f0
      have g1 := int_cells Tryd.underlying2 f1
      have g2 := int_cells Tryd.underlying2 f2
      have g3 := int_cells Tryd.underlying3 f3
      simp only [List.cons.injEq, and_true] at g0 g1 g2 g3
      rw [g0, g1, g2, g3]
      rfl
end
theorem flat_take {α : Type} (s : Nat) (f : Nat → List α) : ∀ (n : Nat) (cs : List α), cs.length = n * s → (∀ i, i < n → (cs.drop (i * s)).take s = f i) → cs = (List.range n).flatMap f
  | 0, cs, hl, _ => by
    rw [Nat.zero_mul] at hl
    rw [List.length_eq_zero_iff.1 hl]
    rfl
  | n + 1, cs, hl, h => by
    rw [List.range_succ, List.flatMap_append]
    have ht : (cs.take (n * s)).length = n * s := by rw [List.length_take, hl]; exact Nat.min_eq_left (Nat.mul_le_mul_right s (Nat.le_succ n))
    have := flat_take s f n (cs.take (n * s)) ht (fun i hi => by
      rw [← h i (by omega), List.drop_take, List.take_take]
      congr 1
      have : (i + 1) * s ≤ n * s := Nat.mul_le_mul_right s hi
      rw [Nat.succ_mul] at this
      omega)
    rw [← this]
    have h2 := h n (by omega)
    rw [List.take_of_length_le (by rw [List.length_drop, hl, Nat.succ_mul]; omega)] at h2
    rw [List.flatMap_cons, List.flatMap_nil, List.append_nil, ← h2, List.take_append_drop]
section
variable {H : Type} {enc : TypeId × Value → H} {w : World} {base : Nat} {sp : Nat → Bool} {held : Bool} {fuel : Nat} {cs : List Value} {p : List MemPlace}
theorem table_cells (h : DataW.trod enc Tryd.prog w base sp held fuel 71 cs = some (.agg (table.map dataR), p)) : cs = table.flatMap cellsR := by
  obtain ⟨xs, m, _, hx, hl, hlen, hf⟩ := DataW.trod_array Tryd.underlying71 h
  rw [cells71] at hl
  simp only [cells41] at hf
  injection hx with h1 h2
  injection h1 with h1
  have key : cs = (List.range 18).flatMap fun i => cellsR (table.getD i ⟨[], 0, 0, 0⟩) := by
    refine flat_take 4 _ 18 cs (by rw [hl]) (fun i hi => ?_)
    have hi2 : i < xs.length := by omega
    have hf2 := hf i hi
    rw [List.getElem?_eq_getElem hi2] at hf2
    have e : (table.map (dataR (H := H)))[i]? = some xs[i].1 := by rw [h1, List.getElem?_map, List.getElem?_eq_getElem hi2]; rfl
    have hi3 : i < table.length := hi
    rw [List.getElem?_map, List.getElem?_eq_getElem hi3] at e
    injection e with e
    rw [show xs[i] = (xs[i].1, xs[i].2) from rfl, ← e] at hf2
    rw [row_cells hf2, List.getD_eq_getElem?_getD, List.getElem?_eq_getElem hi3]
    rfl
  rw [key]
  rfl
theorem bases_cells (h : DataW.trod enc Tryd.prog w base sp held fuel 65 cs = some (.agg (bases.map fun b => .lit (.string b)), p)) : cs = bases.map fun b => Value.string ⟨b.toArray⟩ := by
  obtain ⟨xs, m, _, hx, hl, hlen, hf⟩ := DataW.trod_array Tryd.underlying65 h
  rw [cells65] at hl
  simp only [cells9] at hf
  injection hx with h1 h2
  injection h1 with h1
  have key : cs = (List.range 5).flatMap fun i => [Value.string ⟨(bases.getD i []).toArray⟩] := by
    refine flat_take 1 _ 5 cs (by rw [hl]) (fun i hi => ?_)
    have hi2 : i < xs.length := by omega
    have hf2 := hf i hi
    rw [List.getElem?_eq_getElem hi2] at hf2
    have e : (bases.map fun b => (DataW.lit (.string b) : DataW H))[i]? = some xs[i].1 := by rw [h1, List.getElem?_map, List.getElem?_eq_getElem hi2]; rfl
    have hi3 : i < bases.length := hi
    rw [List.getElem?_map, List.getElem?_eq_getElem hi3] at e
    injection e with e
    rw [show xs[i] = (xs[i].1, xs[i].2) from rfl, ← e] at hf2
    rw [str_cells hf2, List.getD_eq_getElem?_getD, List.getElem?_eq_getElem hi3]
    rfl
  rw [key]
  rfl
end
def tabC : Array Value := (table.flatMap cellsR).toArray
def basC : Array Value := (bases.map fun b => Value.string ⟨b.toArray⟩).toArray
/-- The variables that every law of this seat asks; the names of base units besides. -/
def Laid (w : World) : Prop := Lib.TabIs Tryd.prog w "internal/strconv.uint64pow10" .u64 Lib.pow10Tab ∧ w.var? Tryd.prog "capstan/dim.table" = some tabC
def LaidB (w : World) : Prop := Laid w ∧ w.var? Tryd.prog "capstan/dim.bases" = some basC
theorem var_stays {W W' : World} {B g : Nat} {n : String} {cs : Array Value} (hg : Tryd.prog.globalNamed n = some g) (h : W.var? Tryd.prog n = some cs) (hb : Below B W W') (hB : W.heap.size ≤ B) : W'.var? Tryd.prog n = some cs := by
  unfold World.var? at h ⊢
  rw [hg] at h ⊢
  simp only [Option.bind_some] at h ⊢
  have hlt : g < W.heap.size := by
    rcases Nat.lt_or_ge g W.heap.size with h' | h'
    · exact h'
    · rw [Array.getElem?_eq_none h'] at h; cases h
  rw [hb.block g (by omega)]
  exact h
theorem Laid.below {w w' : World} (h : Laid w) (hb : Below w.heap.size w w') : Laid w' := ⟨var_stays gP h.1 hb (Nat.le_refl _), var_stays gT h.2 hb (Nat.le_refl _)⟩
theorem LaidB.below {w w' : World} (h : LaidB w) (hb : Below w.heap.size w w') : LaidB w' := ⟨h.1.below hb, var_stays gB h.2 hb (Nat.le_refl _)⟩
def theList : List (String × DataW Unit) := [("math/bits.deBruijn32tab", Rows.laid_math_bits_deBruijn32tab), ("math/bits.deBruijn64tab", Rows.laid_math_bits_deBruijn64tab), ("internal/strconv.uint64pow10", Rows.laid_internal_strconv_uint64pow10), ("strconv.ErrRange", Rows.laid_strconv_ErrRange), ("strconv.ErrSyntax", Rows.laid_strconv_ErrSyntax), ("capstan/dim.table", Rows.laid_capstan_dim_table)]
def theListB : List (String × DataW Unit) := theList ++ [("capstan/dim.bases", Rows.laid_capstan_dim_bases)]
theorem tab_eq : (Rows.laid_internal_strconv_uint64pow10 : DataW Unit) = Lib.tabData .u64 Lib.pow10Tab := by kernel_rfl
theorem head_var {W : World} {name : String} {d : DataW Unit} {rest : List (String × DataW Unit)} {g : Nat} {t : TypeId} (hg : Tryd.prog.globalNamed name = some g) (hty : (Tryd.prog.globals[g]?).map (·.type) = some t) (h : laidMet Tryd.prog ((name, d) :: rest) W) :
    ∃ cs fuel p q, W.var? Tryd.prog name = some cs ∧ DataW.trod (fun _ => ()) Tryd.prog W 0 (fun _ => q) false fuel t cs.toList = some (d, p) := by
  obtain ⟨ps, ⟨g', t', cs, fuel, p, q, hg', ht', hvar, hd, _, _⟩, _⟩ := h
  obtain rfl := Option.some.inj (hg.symm.trans hg')
  obtain rfl := Option.some.inj (hty.symm.trans ht')
  exact ⟨cs, fuel, p, _, hvar, hd⟩
theorem arr_of {cs : Array Value} {l : List Value} (h : cs.toList = l) : cs = l.toArray := by subst h; rfl
theorem of_laid {W : World} (h : laidMetH Tryd.prog theList W) : Laid W := by
  have h1 : laidMet Tryd.prog theList W := h
  have h2 := laidMet.tail (laidMet.tail h1)
  have h3 := laidMet.tail (laidMet.tail (laidMet.tail h2))
  refine ⟨?_, ?_⟩
  · rw [tab_eq] at h2
    exact Lib.tabIs_of_head gP gPType Tryd.underlying134 Tryd.underlying84 cells84 cells134 h2
  · obtain ⟨cs, fuel, p, q, hv, hd⟩ := head_var gT gTType h3
    rw [table_eq] at hd
    rw [hv, arr_of (table_cells hd)]
    rfl
theorem of_laidB {W : World} (h : laidMetH Tryd.prog theListB W) : LaidB W := by
  have h1 : laidMet Tryd.prog theListB W := h
  have h2 := laidMet.tail (laidMet.tail h1)
  have h3 := laidMet.tail (laidMet.tail (laidMet.tail h2))
  have h4 := laidMet.tail h3
  refine ⟨⟨?_, ?_⟩, ?_⟩
  · rw [tab_eq] at h2
    exact Lib.tabIs_of_head gP gPType Tryd.underlying134 Tryd.underlying84 cells84 cells134 h2
  · obtain ⟨cs, fuel, p, q, hv, hd⟩ := head_var gT gTType h3
    rw [table_eq] at hd
    rw [hv, arr_of (table_cells hd)]
    rfl
  · obtain ⟨cs, fuel, p, q, hv, hd⟩ := head_var gB gBType h4
    rw [bases_eq] at hd
    rw [hv, arr_of (bases_cells hd)]
    rfl
/-- What a walk reads of them. -/
theorem Laid.table_cell {W : World} (h : Laid W) (i : Nat) : W.cell? ⟨1, i, none⟩ = tabC[i]? := World.var?_cell gT h.2 i
theorem LaidB.bases_cell {W : World} (h : LaidB W) (i : Nat) : W.cell? ⟨0, i, none⟩ = basC[i]? := World.var?_cell gB h.2 i
end Go.Proofs.YtdplfphgomckfaaDoor.Laid
