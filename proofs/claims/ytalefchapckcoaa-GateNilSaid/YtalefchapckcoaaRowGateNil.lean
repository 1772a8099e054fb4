/- The row of the law GateNil: for every input the call answers true, and each argument reads behind it as it read before. -/
import Derived.Test.YtalefchapckcoaaRows
import Derived.Test.YtalefchapckcoaaFlat
import Derived.Test.YtalefchapckcoaaArgGateNil
import Derived.Test.YtalefchapckcoaaGn2
import Derived.WalkKit
import Derived.ProofKit
import Derived.OpenShut
import Derived.ShutString
import Derived.ChangeOld
import Derived.Below
import Derived.SizedLaws
namespace Go.Proofs.Ytalefchapckcoaa.gateNil
open Go.ChangeShapes Go.WideShapes Go.ChangeAt Go.RowKit
open Go.ChangeMaps (open_string shut_string)
set_option linter.unusedVariables false
set_option linter.unusedSimpArgs false
theorem own : ownKnob Try.prog.godebug = none := by kernel_rfl
theorem laidOut : laidOutB Try.prog = true := by kernel_rfl
theorem cells36 : Try.prog.cellsOf 36 = 4 := by kernel_rfl
theorem at36_0 : Flat.leafAt Try.prog 8 36 0 = some 4 := by kernel_rfl
theorem at36_1 : Flat.leafAt Try.prog 8 36 1 = some 32 := by kernel_rfl
theorem at36_2 : Flat.leafAt Try.prog 8 36 2 = some 2 := by kernel_rfl
theorem at36_3 : Flat.leafAt Try.prog 8 36 3 = some 2 := by kernel_rfl
/-- What the walk gives, for every argument that reads. -/
theorem contract (H : Type) (enc : TypeId × Value → H) (W : World) (base : Nat) (args : Array Value) (ds gs : List (DataW H)) (before : List MemPlace)
    (hval : ∀ (j : Nat) t v, Try.f7.params[j]? = some t → args[j]? = some v → Value.okWide Try.prog W .any base t v)
    (hW : DataW.Whole enc Try.prog Try.f7.params.toList Rows.gateNilSpec.vars false W args.toList ds gs before)
    (hsz : (DataW.weightsEach Try.prog (Try.f7.params.toList ++ Rows.gateNilSpec.plain.varTypes Try.prog) (ds ++ gs)).all (· ≤ reachBytes) = true) :
    Calls Try.prog 7 args W fun e W' => ∃ v, e = .returned v ∧ Rows.gateNilSpec.post enc Try.prog Try.f7 false true false false W args v W' := by
  have hW' := hW
  obtain ⟨p, q, hA0, hV, rfl, hfz, hnd⟩ := hW
  have hA : DataW.TrodAll enc Try.prog W 0 (fun _ => true) true Try.f7.params.toList args.toList ds p := hA0
  rw [Try.params7] at hA hval hsz
  obtain ⟨v0, vs0, d0, ds0, p0, q0, hargs, rfl, rfl, h0, r0⟩ := trodAll_cons hA
  obtain ⟨rfl, rfl, rfl⟩ := trodAll_nil r0
  obtain rfl : args = #[v0] := by cases args; simp_all
  obtain ⟨rfl, rfl⟩ := trodVars_none hV
  have k0 := h0
  have lt0 : ∀ x ∈ p0, x.block < W.heap.size := by obtain ⟨m, hm⟩ := k0; exact DataW.trod_lt m _ _ _ hm
  obtain ⟨cs0, rfl, hc0⟩ : ∃ cs, v0 = .agg cs ∧ cs.size = Try.prog.cellsOf 36 := by
    have z := (hval 0 36 v0 rfl rfl)
    simp only [Value.okWide, Try.underlying36] at z
    obtain ⟨cs, h1, h2, _⟩ := z
    exact ⟨cs, h1, h2⟩
  obtain ⟨fu0, hf0⟩ := h0
  simp only [Value.cells] at hf0
  obtain ⟨a0_0, e0_0⟩ := Flat.leaf_bool at36_0 Try.underlying4 hf0
  obtain ⟨a0_1, e0_1, w0_1⟩ := Flat.leaf_int at36_1 Try.underlying32 hf0
  obtain ⟨a0_2, e0_2, w0_2⟩ := Flat.leaf_int at36_2 Try.underlying2 hf0
  obtain ⟨a0_3, e0_3, w0_3⟩ := Flat.leaf_int at36_3 Try.underlying2 hf0
  obtain ⟨l0⟩ := cs0
  rw [cells36] at hc0
  obtain rfl : l0 = [.bool a0_0, .int .i64 a0_1, .int .i64 a0_2, .int .i64 a0_3] := by
    apply List.ext_getElem?
    intro n
    by_cases hn : n < 4
    · have : n = 0 ∨ n = 1 ∨ n = 2 ∨ n = 3 := by omega
      rcases this with rfl | rfl | rfl | rfl
      · exact e0_0
      · exact e0_1
      · exact e0_2
      · exact e0_3
    · rw [List.getElem?_eq_none (by simpa [← hc0] using hn), List.getElem?_eq_none (by simpa using hn)]
  clear hA0 hsz
  refine (Gn2.walk a0_0 a0_1 a0_2 a0_3 W w0_1 w0_2 w0_3).mono fun e W' ⟨he, bel⟩ => ?_
  subst he
  exact ⟨_, rfl, _, _, _, [], _, [], hW', trodAll_mk1 (shut_bool Try.underlying4 _), (trodAll_cons_mk (Below.trod laidOut (by kernel_rfl) (of_decide_eq_true (by kernel_rfl)) k0 bel lt0) trodAll_mk0), rfl, bel.frame _, fun h => by cases h⟩
set_option maxRecDepth 100000 in
theorem lifted (os : Os) (started : os.Started) (H : Type) (enc : TypeId × Value → H) :
    ReturnsInHanded {} Try.checked os 7 .any (Rows.gateNilSpec.pre6 enc Try.prog Try.f7 Rows.gateNilRow.domain false) (Rows.gateNilSpec.post enc Try.prog Try.f7 false true false false) := by
  refine returnsInHanded_of_change_sized (C := Try.checked) own started (by kernel_rfl) Try.func7
    (ChangeSpec.witness6 (enc := enc) (C := Try.checked) false ⟨#[], #[.agg #[.bool false, .int .i64 0, .int .i64 0, .int .i64 0]], []⟩ 8 (by kernel_rfl) (by kernel_rfl) (by kernel_rfl) (by kernel_rfl)) ?_
  intro W base args ds gs before hval hW hcnd hsz _
  exact contract H enc W base args ds gs before hval hW hsz
theorem proved : Rows.GateNilSaid :=
  OpenClaim.holds_of_wide 7 Try.f7 rfl rfl rfl rfl rfl rfl rfl ⟨rfl, rfl, rfl, rfl, rfl⟩ rfl rfl rfl rfl rfl (by kernel_rfl) Try.func7 (by kernel_rfl)
    (of_decide_eq_true (by kernel_rfl)) (by unfold Func.isWrapper; first | (rw [if_pos (by decide +kernel)]; kernel_rfl) | (rw [if_neg (by decide +kernel)]; exact ⟨rfl, rfl⟩))
    (fun os started H enc _ => lifted os started H enc)
#print axioms proved
end Go.Proofs.Ytalefchapckcoaa.gateNil
namespace Go.Proofs.Ytalefchapckcoaa
/-- The row, under a short name, for the claim. -/
theorem gateNil_holds : Rows.GateNilSaid := gateNil.proved
end Go.Proofs.Ytalefchapckcoaa