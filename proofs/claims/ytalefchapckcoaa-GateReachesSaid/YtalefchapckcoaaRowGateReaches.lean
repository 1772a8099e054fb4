/- The row of the law GateReaches: for every input the call answers true, and each argument reads behind it as it read before. -/
import Derived.Test.YtalefchapckcoaaRows
import Derived.Test.YtalefchapckcoaaFlat
import Derived.Test.YtalefchapckcoaaArgGateReaches
import Derived.Test.YtalefchapckcoaaGe2
import Derived.WalkKit
import Derived.ProofKit
import Derived.OpenShut
import Derived.ShutString
import Derived.ChangeOld
import Derived.Below
import Derived.SizedLaws
namespace Go.Proofs.Ytalefchapckcoaa.gateReaches
open Go.ChangeShapes Go.WideShapes Go.ChangeAt Go.RowKit
open Go.ChangeMaps (open_string shut_string)
set_option linter.unusedVariables false
set_option linter.unusedSimpArgs false
theorem own : ownKnob Try.prog.godebug = none := by kernel_rfl
theorem laidOut : laidOutB Try.prog = true := by kernel_rfl
theorem cells23 : Try.prog.cellsOf 23 = 5 := by kernel_rfl
theorem at23_0 : Flat.leafAt Try.prog 8 23 0 = some 2 := by kernel_rfl
theorem at23_1 : Flat.leafAt Try.prog 8 23 1 = some 2 := by kernel_rfl
theorem at23_2 : Flat.leafAt Try.prog 8 23 2 = some 2 := by kernel_rfl
theorem at23_3 : Flat.leafAt Try.prog 8 23 3 = some 2 := by kernel_rfl
theorem at23_4 : Flat.leafAt Try.prog 8 23 4 = some 2 := by kernel_rfl
theorem cells46 : Try.prog.cellsOf 46 = 2 := by kernel_rfl
theorem at46_0 : Flat.leafAt Try.prog 8 46 0 = some 2 := by kernel_rfl
theorem at46_1 : Flat.leafAt Try.prog 8 46 1 = some 2 := by kernel_rfl
/-- What the walk gives, for every argument that reads. -/
theorem contract (H : Type) (enc : TypeId × Value → H) (W : World) (base : Nat) (args : Array Value) (ds gs : List (DataW H)) (before : List MemPlace)
    (hval : ∀ (j : Nat) t v, Try.f4.params[j]? = some t → args[j]? = some v → Value.okWide Try.prog W .any base t v)
    (hW : DataW.Whole enc Try.prog Try.f4.params.toList Rows.gateReachesSpec.vars false W args.toList ds gs before)
    (hsz : (DataW.weightsEach Try.prog (Try.f4.params.toList ++ Rows.gateReachesSpec.plain.varTypes Try.prog) (ds ++ gs)).all (· ≤ reachBytes) = true) :
    Calls Try.prog 4 args W fun e W' => ∃ v, e = .returned v ∧ Rows.gateReachesSpec.post enc Try.prog Try.f4 false true false false W args v W' := by
  have hW' := hW
  obtain ⟨p, q, hA0, hV, rfl, hfz, hnd⟩ := hW
  have hA : DataW.TrodAll enc Try.prog W 0 (fun _ => true) true Try.f4.params.toList args.toList ds p := hA0
  rw [Try.params4] at hA hval hsz
  obtain ⟨v0, vs0, d0, ds0, p0, q0, hargs, rfl, rfl, h0, r0⟩ := trodAll_cons hA
  obtain ⟨v1, vs1, d1, ds1, p1, q1, rfl, rfl, rfl, h1, r1⟩ := trodAll_cons r0
  obtain ⟨v2, vs2, d2, ds2, p2, q2, rfl, rfl, rfl, h2, r2⟩ := trodAll_cons r1
  obtain ⟨rfl, rfl, rfl⟩ := trodAll_nil r2
  obtain rfl : args = #[v0, v1, v2] := by cases args; simp_all
  obtain ⟨rfl, rfl⟩ := trodVars_none hV
  have k0 := h0
  have lt0 : ∀ x ∈ p0, x.block < W.heap.size := by obtain ⟨m, hm⟩ := k0; exact DataW.trod_lt m _ _ _ hm
  obtain ⟨cs0, rfl, hc0⟩ : ∃ cs, v0 = .agg cs ∧ cs.size = Try.prog.cellsOf 23 := by
    have z := (hval 0 23 v0 rfl rfl)
    simp only [Value.okWide, Try.underlying23] at z
    obtain ⟨cs, h1, h2, _⟩ := z
    exact ⟨cs, h1, h2⟩
  obtain ⟨fu0, hf0⟩ := h0
  simp only [Value.cells] at hf0
  obtain ⟨a0_0, e0_0, w0_0⟩ := Flat.leaf_int at23_0 Try.underlying2 hf0
  obtain ⟨a0_1, e0_1, w0_1⟩ := Flat.leaf_int at23_1 Try.underlying2 hf0
  obtain ⟨a0_2, e0_2, w0_2⟩ := Flat.leaf_int at23_2 Try.underlying2 hf0
  obtain ⟨a0_3, e0_3, w0_3⟩ := Flat.leaf_int at23_3 Try.underlying2 hf0
  obtain ⟨a0_4, e0_4, w0_4⟩ := Flat.leaf_int at23_4 Try.underlying2 hf0
  obtain ⟨l0⟩ := cs0
  rw [cells23] at hc0
  obtain rfl : l0 = [.int .i64 a0_0, .int .i64 a0_1, .int .i64 a0_2, .int .i64 a0_3, .int .i64 a0_4] := by
    apply List.ext_getElem?
    intro n
    by_cases hn : n < 5
    · have : n = 0 ∨ n = 1 ∨ n = 2 ∨ n = 3 ∨ n = 4 := by omega
      rcases this with rfl | rfl | rfl | rfl | rfl
      · exact e0_0
      · exact e0_1
      · exact e0_2
      · exact e0_3
      · exact e0_4
    · rw [List.getElem?_eq_none (by simpa [← hc0] using hn), List.getElem?_eq_none (by simpa using hn)]
  have k1 := h1
  have lt1 : ∀ x ∈ p1, x.block < W.heap.size := by obtain ⟨m, hm⟩ := k1; exact DataW.trod_lt m _ _ _ hm
  obtain ⟨cs1, rfl, hc1⟩ : ∃ cs, v1 = .agg cs ∧ cs.size = Try.prog.cellsOf 46 := by
    have z := (hval 1 46 v1 rfl rfl)
    simp only [Value.okWide, Try.underlying46] at z
    obtain ⟨cs, h1, h2, _⟩ := z
    exact ⟨cs, h1, h2⟩
  obtain ⟨fu1, hf1⟩ := h1
  simp only [Value.cells] at hf1
  obtain ⟨a1_0, e1_0, w1_0⟩ := Flat.leaf_int at46_0 Try.underlying2 hf1
  obtain ⟨a1_1, e1_1, w1_1⟩ := Flat.leaf_int at46_1 Try.underlying2 hf1
  obtain ⟨l1⟩ := cs1
  rw [cells46] at hc1
  obtain rfl : l1 = [.int .i64 a1_0, .int .i64 a1_1] := by
    apply List.ext_getElem?
    intro n
    by_cases hn : n < 2
    · have : n = 0 ∨ n = 1 := by omega
      rcases this with rfl | rfl
      · exact e1_0
      · exact e1_1
    · rw [List.getElem?_eq_none (by simpa [← hc1] using hn), List.getElem?_eq_none (by simpa using hn)]
  have k2 := h2
  have lt2 : ∀ x ∈ p2, x.block < W.heap.size := by obtain ⟨m, hm⟩ := k2; exact DataW.trod_lt m _ _ _ hm
  obtain ⟨a2, rfl, rfl, rfl, w2⟩ := open_int Try.underlying5 (hval 2 5 v2 rfl rfl) h2
  clear hA0 hsz
  refine (Ge2.walk a0_0 a0_1 a0_2 a0_3 a0_4 a1_0 a1_1 a2 W w0_0 w0_1 w0_2 w0_3 w0_4 w1_0 w1_1 w2).mono fun e W' ⟨he, bel⟩ => ?_
  subst he
  exact ⟨_, rfl, _, _, _, [], _, [], hW', trodAll_mk1 (shut_bool Try.underlying4 _), (trodAll_cons_mk (Below.trod laidOut (by kernel_rfl) (of_decide_eq_true (by kernel_rfl)) k0 bel lt0) (trodAll_cons_mk (Below.trod laidOut (by kernel_rfl) (of_decide_eq_true (by kernel_rfl)) k1 bel lt1) (trodAll_cons_mk (Below.trod laidOut (by kernel_rfl) (of_decide_eq_true (by kernel_rfl)) k2 bel lt2) trodAll_mk0))), rfl, bel.frame _, fun h => by cases h⟩
set_option maxRecDepth 100000 in
theorem lifted (os : Os) (started : os.Started) (H : Type) (enc : TypeId × Value → H) :
    ReturnsInHanded {} Try.checked os 4 .any (Rows.gateReachesSpec.pre6 enc Try.prog Try.f4 Rows.gateReachesRow.domain false) (Rows.gateReachesSpec.post enc Try.prog Try.f4 false true false false) := by
  refine returnsInHanded_of_change_sized (C := Try.checked) own started (by kernel_rfl) Try.func4
    (ChangeSpec.witness6 (enc := enc) (C := Try.checked) false ⟨#[], #[.agg #[.int .i64 0, .int .i64 0, .int .i64 0, .int .i64 0, .int .i64 0], .agg #[.int .i64 0, .int .i64 0], .int .u8 0], []⟩ 8 (by kernel_rfl) (by kernel_rfl) (by kernel_rfl) (by kernel_rfl)) ?_
  intro W base args ds gs before hval hW hcnd hsz _
  exact contract H enc W base args ds gs before hval hW hsz
theorem proved : Rows.GateReachesSaid :=
  OpenClaim.holds_of_wide 4 Try.f4 rfl rfl rfl rfl rfl rfl rfl ⟨rfl, rfl, rfl, rfl, rfl⟩ rfl rfl rfl rfl rfl (by kernel_rfl) Try.func4 (by kernel_rfl)
    (of_decide_eq_true (by kernel_rfl)) (by unfold Func.isWrapper; first | (rw [if_pos (by decide +kernel)]; kernel_rfl) | (rw [if_neg (by decide +kernel)]; exact ⟨rfl, rfl⟩))
    (fun os started H enc _ => lifted os started H enc)
#print axioms proved
end Go.Proofs.Ytalefchapckcoaa.gateReaches
namespace Go.Proofs.Ytalefchapckcoaa
/-- The row, under a short name, for the claim. -/
theorem gateReaches_holds : Rows.GateReachesSaid := gateReaches.proved
end Go.Proofs.Ytalefchapckcoaa