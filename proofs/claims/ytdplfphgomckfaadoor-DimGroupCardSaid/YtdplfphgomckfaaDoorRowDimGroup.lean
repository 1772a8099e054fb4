/- The row of the law DimGroup: for every input the call answers true, and each argument reads behind it as it read before. -/
import Derived.Test.YtdplfphgomckfaaDoorRows
import Derived.Test.YtdplfphgomckfaaDoorFlat
import Derived.Test.YtdplfphgomckfaaDoorArgDimGroup
import Derived.Test.YtdplfphgomckfaaDoorHc
import Derived.Test.YtdplfphgomckfaaDoorCards
import Derived.Test.YtdplfphgomckfaaDoorTie
import Derived.Test.YtdplfphgomckfaaDoorLaid
import Derived.Test.YtdplfphgomckfaaDoorLw
import Derived.WalkKit
import Derived.ProofKit
import Derived.OpenShut
import Derived.ShutString
import Derived.ChangeOld
import Derived.Below
import Derived.SizedLaws
import Derived.Deep.DeepHandedRow
import Derived.Lib.LaidTab
namespace Go.Proofs.YtdplfphgomckfaaDoor.dimGroup
open Go.ChangeShapes Go.WideShapes Go.ChangeAt Go.RowKit
open Go.ChangeMaps (open_string shut_string)
set_option linter.unusedVariables false
set_option linter.unusedSimpArgs false
theorem own : ownKnob Tryd.prog.godebug = none := by kernel_rfl
theorem laidOut : laidOutB Tryd.prog = true := by kernel_rfl
theorem cells24 : Tryd.prog.cellsOf 24 = 5 := by kernel_rfl
theorem at24_0 : Flat.leafAt Tryd.prog 8 24 0 = some 3 := by kernel_rfl
theorem at24_1 : Flat.leafAt Tryd.prog 8 24 1 = some 3 := by kernel_rfl
theorem at24_2 : Flat.leafAt Tryd.prog 8 24 2 = some 3 := by kernel_rfl
theorem at24_3 : Flat.leafAt Tryd.prog 8 24 3 = some 3 := by kernel_rfl
theorem at24_4 : Flat.leafAt Tryd.prog 8 24 4 = some 3 := by kernel_rfl
set_option maxRecDepth 100000 in
theorem contract (H : Type) (enc : TypeId × Value → H) (W : World) (base : Nat) (args : Array Value) (ds gs : List (DataW H)) (before : List MemPlace)
    (hval : ∀ (j : Nat) t v, Tryd.f6.params[j]? = some t → args[j]? = some v → Value.okWide Tryd.prog W .any base t v)
    (hW : DataW.Whole enc Tryd.prog Tryd.f6.params.toList Rows.dimGroupSpec.vars false W args.toList ds gs before) (hL : Laid.LaidB W)
    (hsz : (DataW.weightsEach Tryd.prog (Tryd.f6.params.toList ++ Rows.dimGroupSpec.plain.varTypes Tryd.prog) (ds ++ gs)).all (· ≤ reachBytes) = true) :
    Calls Tryd.prog 6 args W fun e W' => ∃ v, e = .returned v ∧ Rows.dimGroupSpec.post enc Tryd.prog Tryd.f6 false true false false W args v W' := by
  have hW' := hW
  obtain ⟨p, q, hA0, hV, rfl, hfz, hnd⟩ := hW
  have hA : DataW.TrodAll enc Tryd.prog W 0 (fun _ => true) true Tryd.f6.params.toList args.toList ds p := hA0
  rw [Tryd.params6] at hA hval hsz
  obtain ⟨v0, vs0, d0, ds0, p0, q0, hargs, rfl, rfl, h0, r0⟩ := trodAll_cons hA
  obtain ⟨v1, vs1, d1, ds1, p1, q1, rfl, rfl, rfl, h1, r1⟩ := trodAll_cons r0
  obtain ⟨rfl, rfl, rfl⟩ := trodAll_nil r1
  obtain rfl : args = #[v0, v1] := by cases args; simp_all
  obtain ⟨rfl, rfl⟩ := trodVars_none hV
  have k0 := h0
  have lt0 : ∀ x ∈ p0, x.block < W.heap.size := by obtain ⟨m, hm⟩ := k0; exact DataW.trod_lt m _ _ _ hm
  obtain ⟨cs0, rfl, hc0⟩ : ∃ cs, v0 = .agg cs ∧ cs.size = Tryd.prog.cellsOf 24 := by
    have z := (hval 0 24 v0 rfl rfl)
    simp only [Value.okWide, Tryd.underlying24] at z
    obtain ⟨cs, h1, h2, _⟩ := z
    exact ⟨cs, h1, h2⟩
  obtain ⟨fu0, hf0⟩ := h0
  simp only [Value.cells] at hf0
  obtain ⟨a0_0, e0_0, w0_0⟩ := Flat.leaf_int at24_0 Tryd.underlying3 hf0
  obtain ⟨a0_1, e0_1, w0_1⟩ := Flat.leaf_int at24_1 Tryd.underlying3 hf0
  obtain ⟨a0_2, e0_2, w0_2⟩ := Flat.leaf_int at24_2 Tryd.underlying3 hf0
  obtain ⟨a0_3, e0_3, w0_3⟩ := Flat.leaf_int at24_3 Tryd.underlying3 hf0
  obtain ⟨a0_4, e0_4, w0_4⟩ := Flat.leaf_int at24_4 Tryd.underlying3 hf0
  obtain ⟨l0⟩ := cs0
  rw [cells24] at hc0
  obtain rfl : l0 = [.int .i64 a0_0, .int .i64 a0_1, .int .i64 a0_2, .int .i64 a0_3, .int .i64 a0_4] := by
    apply List.ext_getElem?
    intro n
    by_cases hn : n < 5
    · have : n = 0 ∨ n = 1 ∨ n = 2 ∨ n = 3 ∨ n = 4 := by omega
      rcases this with rfl | rfl | rfl | rfl | rfl
      · exact e0_0
      · exact e0_1
      · exact e0_2
      · exact e0_3
      · exact e0_4
    · rw [List.getElem?_eq_none (by simpa [← hc0] using hn), List.getElem?_eq_none (by simpa using hn)]
  have k1 := h1
  have lt1 : ∀ x ∈ p1, x.block < W.heap.size := by obtain ⟨m, hm⟩ := k1; exact DataW.trod_lt m _ _ _ hm
  obtain ⟨cs1, rfl, hc1⟩ : ∃ cs, v1 = .agg cs ∧ cs.size = Tryd.prog.cellsOf 24 := by
    have z := (hval 1 24 v1 rfl rfl)
    simp only [Value.okWide, Tryd.underlying24] at z
    obtain ⟨cs, h1, h2, _⟩ := z
    exact ⟨cs, h1, h2⟩
  obtain ⟨fu1, hf1⟩ := h1
  simp only [Value.cells] at hf1
  obtain ⟨a1_0, e1_0, w1_0⟩ := Flat.leaf_int at24_0 Tryd.underlying3 hf1
  obtain ⟨a1_1, e1_1, w1_1⟩ := Flat.leaf_int at24_1 Tryd.underlying3 hf1
  obtain ⟨a1_2, e1_2, w1_2⟩ := Flat.leaf_int at24_2 Tryd.underlying3 hf1
  obtain ⟨a1_3, e1_3, w1_3⟩ := Flat.leaf_int at24_3 Tryd.underlying3 hf1
  obtain ⟨a1_4, e1_4, w1_4⟩ := Flat.leaf_int at24_4 Tryd.underlying3 hf1
  obtain ⟨l1⟩ := cs1
  rw [cells24] at hc1
  obtain rfl : l1 = [.int .i64 a1_0, .int .i64 a1_1, .int .i64 a1_2, .int .i64 a1_3, .int .i64 a1_4] := by
    apply List.ext_getElem?
    intro n
    by_cases hn : n < 5
    · have : n = 0 ∨ n = 1 ∨ n = 2 ∨ n = 3 ∨ n = 4 := by omega
      rcases this with rfl | rfl | rfl | rfl | rfl
      · exact e1_0
      · exact e1_1
      · exact e1_2
      · exact e1_3
      · exact e1_4
    · rw [List.getElem?_eq_none (by simpa [← hc1] using hn), List.getElem?_eq_none (by simpa using hn)]
  clear hA0 hsz
  refine (Hc.walk a0_0 a0_1 a0_2 a0_3 a0_4 a1_0 a1_1 a1_2 a1_3 a1_4 W hL w0_0 w0_1 w0_2 w0_3 w0_4 w1_0 w1_1 w1_2 w1_3 w1_4).mono fun e W' ⟨he, bel⟩ => ?_
  subst he
  exact ⟨_, rfl, _, _, _, [], _, [], hW', trodAll_mk1 (shut_bool Tryd.underlying4 _), (trodAll_cons_mk (Below.trod laidOut (by kernel_rfl) (of_decide_eq_true (by kernel_rfl)) k0 bel lt0) (trodAll_cons_mk (Below.trod laidOut (by kernel_rfl) (of_decide_eq_true (by kernel_rfl)) k1 bel lt1) trodAll_mk0)), rfl, bel.frame _, fun h => by cases h⟩
theorem laid_met (os : Os) : laidMet Tryd.prog Rows.dimGroupRow.laid ((Laid.laidWorld os).forCall (fun _ _ => 0) ⟨#[], #[.agg #[.int .i64 0, .int .i64 0, .int .i64 0, .int .i64 0, .int .i64 0], .agg #[.int .i64 0, .int .i64 0, .int .i64 0, .int .i64 0, .int .i64 0]], []⟩).memory := Laid.metB os _
set_option maxRecDepth 100000 in
theorem reads (os : Os) {H : Type} (enc : TypeId × Value → H) : ∃ places, DataW.whole enc Tryd.prog ((Laid.laidWorld os).forCall (fun _ _ => 0) ⟨#[], #[.agg #[.int .i64 0, .int .i64 0, .int .i64 0, .int .i64 0, .int .i64 0], .agg #[.int .i64 0, .int .i64 0, .int .i64 0, .int .i64 0, .int .i64 0]], []⟩).memory Tryd.f6.params.toList Rows.dimGroupSpec.vars false #[Value.agg #[.int .i64 0, .int .i64 0, .int .i64 0, .int .i64 0, .int .i64 0], .agg #[.int .i64 0, .int .i64 0, .int .i64 0, .int .i64 0, .int .i64 0]].toList 8 = some ([.agg [.lit (.int .i64 0), .lit (.int .i64 0), .lit (.int .i64 0), .lit (.int .i64 0), .lit (.int .i64 0)], .agg [.lit (.int .i64 0), .lit (.int .i64 0), .lit (.int .i64 0), .lit (.int .i64 0), .lit (.int .i64 0)]], [], places) :=
  ⟨[], by kernel_rfl⟩
set_option maxRecDepth 100000 in
theorem lifted (os : Os) (started : os.Started) (H : Type) (enc : TypeId × Value → H) (F : Stop.Interp) :
    ReturnsInHanded {} Tryd.checked os 6 .any ((OpenSpec.ofChange Rows.dimGroupSpec).preRow enc Tryd.prog Tryd.f6 Rows.dimGroupRow.domain false Rows.dimGroupRow.laid) (((OpenSpec.ofChange Rows.dimGroupSpec).at F).post enc Tryd.prog Tryd.f6 false true false false) := by
  obtain ⟨places, hx⟩ := reads os enc
  refine returnsInHanded_of_row (C := Tryd.checked) (s := OpenSpec.ofChange Rows.dimGroupSpec) own started (by kernel_rfl) Tryd.func6
    (witness_row_atRef (enc := enc) (C := Tryd.checked) false (Laid.laidWorld os) #[.agg #[.int .i64 0, .int .i64 0, .int .i64 0, .int .i64 0, .int .i64 0], .agg #[.int .i64 0, .int .i64 0, .int .i64 0, .int .i64 0, .int .i64 0]] rfl (Laid.vars os _) (Laid.drops os _) (by kernel_rfl)
      (OpenSpec.preRow_of_cond 8 hx (by kernel_rfl) (fun k hk => by cases hk) (by kernel_rfl) (laid_met os))) ?_
  intro W base args ds gs before hval hW hcnd hcond hsz hL _ _
  exact contract H enc W base args ds gs before hval hW (Laid.of_laidB hL) hsz
theorem said : Rows.DimGroupSaid :=
  OpenClaim.holds_of_cond 6 Tryd.f6 rfl rfl rfl rfl rfl rfl rfl ⟨rfl, rfl, rfl, rfl, rfl⟩ rfl rfl rfl rfl rfl (by kernel_rfl) Tryd.func6 (by kernel_rfl)
    (of_decide_eq_true (by kernel_rfl)) (by unfold Func.isWrapper; first | (rw [if_pos (by decide +kernel)]; kernel_rfl) | (rw [if_neg (by decide +kernel)]; exact ⟨rfl, rfl⟩))
    (fun os started H enc _ F => by rw [OpenClaim.pre_eq_preRow]; exact lifted os started H enc F)
set_option maxRecDepth 100000 in
theorem plain (f : FuncId) (fn : Func) (hf : Tryd.pinned.checked.prog.funcNamed Rows.dimGroupRow.func = some f) (hfn : Tryd.pinned.checked.prog.funcs[f]? = some fn) :
    true = Tryd.pinned.checked.prog.looks [] ∧ ∀ (j : Nat) t, fn.params[j]? = some t → Tryd.pinned.checked.prog.wantsStandIn t = false := by
  obtain rfl : f = 6 := Option.some.inj ((show Tryd.prog.funcNamed Rows.dimGroupRow.func = some 6 by kernel_rfl).symm.trans hf) |>.symm
  obtain rfl : fn = Tryd.f6 := (Option.some.inj (Tryd.func6.symm.trans hfn)).symm
  refine ⟨by kernel_rfl, fun j t ht => ?_⟩
  rw [Tryd.params6] at ht
  have hm : t ∈ [24, 24] := by simpa using Array.mem_of_getElem? ht
  have hall : ([24, 24].all fun u => !Tryd.prog.wantsStandIn u) = true := by kernel_rfl
  exact (show Tryd.prog.wantsStandIn t = false by simpa using List.all_eq_true.1 hall t hm)
theorem proved : Rows.DimGroupCardSaid :=
  Claim7.holds_tied_plain_at .later [] _ _ _ _ said (fun _ h => by cases h) (by kernel_rfl) (fun _ h => by cases h) dimGroup_row_tie rfl ⟨rfl, rfl⟩ (by kernel_rfl) rfl plain (by kernel_rfl)
#print axioms proved
end Go.Proofs.YtdplfphgomckfaaDoor.dimGroup
namespace Go.Proofs.YtdplfphgomckfaaDoor
/-- The row, under a short name, for the claim. -/
theorem dimGroup_holds : Rows.DimGroupCardSaid := dimGroup.proved
end Go.Proofs.YtdplfphgomckfaaDoor