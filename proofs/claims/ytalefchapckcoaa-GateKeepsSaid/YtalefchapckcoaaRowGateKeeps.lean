/- The row of the law GateKeeps: for every input the call answers true, and each argument reads behind it as it read before. -/
import Derived.Test.YtalefchapckcoaaRows
import Derived.Test.YtalefchapckcoaaFlat
import Derived.Test.YtalefchapckcoaaArgGateKeeps
import Derived.Test.YtalefchapckcoaaKd
import Derived.WalkKit
import Derived.ProofKit
import Derived.OpenShut
import Derived.ShutString
import Derived.ChangeOld
import Derived.Below
import Derived.SizedLaws
namespace Go.Proofs.Ytalefchapckcoaa.gateKeeps
open Go.ChangeShapes Go.WideShapes Go.ChangeAt Go.RowKit
open Go.ChangeMaps (open_string shut_string)
set_option linter.unusedVariables false
set_option linter.unusedSimpArgs false
theorem own : ownKnob Try.prog.godebug = none := by kernel_rfl
theorem laidOut : laidOutB Try.prog = true := by kernel_rfl
theorem cells23 : Try.prog.cellsOf 23 = 5 := by kernel_rfl
theorem at23_0 : Flat.leafAt Try.prog 8 23 0 = some 2 := by kernel_rfl
theorem at23_1 : Flat.leafAt Try.prog 8 23 1 = some 2 := by kernel_rfl
theorem at23_2 : Flat.leafAt Try.prog 8 23 2 = some 2 := by kernel_rfl
theorem at23_3 : Flat.leafAt Try.prog 8 23 3 = some 2 := by kernel_rfl
theorem at23_4 : Flat.leafAt Try.prog 8 23 4 = some 2 := by kernel_rfl
theorem cells36 : Try.prog.cellsOf 36 = 4 := by kernel_rfl
theorem at36_0 : Flat.leafAt Try.prog 8 36 0 = some 4 := by kernel_rfl
theorem at36_1 : Flat.leafAt Try.prog 8 36 1 = some 32 := by kernel_rfl
theorem at36_2 : Flat.leafAt Try.prog 8 36 2 = some 2 := by kernel_rfl
theorem at36_3 : Flat.leafAt Try.prog 8 36 3 = some 2 := by kernel_rfl
/-- What the walk gives, for every argument that reads. -/
theorem contract (H : Type) (enc : TypeId × Value → H) (W : World) (base : Nat) (args : Array Value) (ds gs : List (DataW H)) (before : List MemPlace)
    (hval : ∀ (j : Nat) t v, Try.f3.params[j]? = some t → args[j]? = some v → Value.okWide Try.prog W .any base t v)
    (hW : DataW.Whole enc Try.prog Try.f3.params.toList Rows.gateKeepsSpec.vars false W args.toList ds gs before)
    (hsz : (DataW.weightsEach Try.prog (Try.f3.params.toList ++ Rows.gateKeepsSpec.plain.varTypes Try.prog) (ds ++ gs)).all (· ≤ reachBytes) = true) :
    Calls Try.prog 3 args W fun e W' => ∃ v, e = .returned v ∧ Rows.gateKeepsSpec.post enc Try.prog Try.f3 false true false false W args v W' := by
  have hW' := hW
  obtain ⟨p, q, hA0, hV, rfl, hfz, hnd⟩ := hW
  have hA : DataW.TrodAll enc Try.prog W 0 (fun _ => true) true Try.f3.params.toList args.toList ds p := hA0
  rw [Try.params3] at hA hval hsz
  obtain ⟨v0, vs0, d0, ds0, p0, q0, hargs, rfl, rfl, h0, r0⟩ := trodAll_cons hA
  obtain ⟨v1, vs1, d1, ds1, p1, q1, rfl, rfl, rfl, h1, r1⟩ := trodAll_cons r0
  obtain ⟨v2, vs2, d2, ds2, p2, q2, rfl, rfl, rfl, h2, r2⟩ := trodAll_cons r1
  obtain ⟨rfl, rfl, rfl⟩ := trodAll_nil r2
  obtain rfl : args = #[v0, v1, v2] := by cases args; simp_all
  obtain ⟨rfl, rfl⟩ := trodVars_none hV
  have k0 := h0
  have lt0 : ∀ x ∈ p0, x.block < W.heap.size := by obtain ⟨m, hm⟩ := k0; exact DataW.trod_lt m _ _ _ hm
  obtain ⟨cs0, rfl, hc0⟩ : ∃ cs, v0 = .agg cs ∧ cs.size = Try.prog.cellsOf 23 := by
    have z := (hval 0 23 v0 rfl rfl)
    simp only [Value.okWide, Try.underlying23] at z
    obtain ⟨cs, h1, h2, _⟩ := z
    exact ⟨cs, h1, h2⟩
  obtain ⟨fu0, hf0⟩ := h0
  simp only [Value.cells] at hf0
  obtain ⟨a0_0, e0_0, w0_0⟩ := Flat.leaf_int at23_0 Try.underlying2 hf0
  obtain ⟨a0_1, e0_1, w0_1⟩ := Flat.leaf_int at23_1 Try.underlying2 hf0
  obtain ⟨a0_2, e0_2, w0_2⟩ := Flat.leaf_int at23_2 Try.underlying2 hf0
  obtain ⟨a0_3, e0_3, w0_3⟩ := Flat.leaf_int at23_3 Try.underlying2 hf0
  obtain ⟨a0_4, e0_4, w0_4⟩ := Flat.leaf_int at23_4 Try.underlying2 hf0
  obtain ⟨l0⟩ := cs0
  rw [cells23] at hc0
  obtain rfl : l0 = [.int .i64 a0_0, .int .i64 a0_1, .int .i64 a0_2, .int .i64 a0_3, .int .i64 a0_4] := by
    apply List.ext_getElem?
    intro n
    by_cases hn : n < 5
    · have : n = 0 ∨ n = 1 ∨ n = 2 ∨ n = 3 ∨ n = 4 := by omega
      rcases this with rfl | rfl | rfl | rfl | rfl
      · exact e0_0
      · exact e0_1
      · exact e0_2
      · exact e0_3
      · exact e0_4
    · rw [List.getElem?_eq_none (by simpa [← hc0] using hn), List.getElem?_eq_none (by simpa using hn)]
  have k1 := h1
  have lt1 : ∀ x ∈ p1, x.block < W.heap.size := by obtain ⟨m, hm⟩ := k1; exact DataW.trod_lt m _ _ _ hm
  obtain ⟨a1, rfl, rfl, rfl, w1⟩ := open_int Try.underlying2 (hval 1 2 v1 rfl rfl) h1
  have k2 := h2
  have lt2 : ∀ x ∈ p2, x.block < W.heap.size := by obtain ⟨m, hm⟩ := k2; exact DataW.trod_lt m _ _ _ hm
  obtain ⟨a2, len2, cap2, rfl⟩ := okWide_slice Try.underlying24 (hval 2 24 v2 rfl rfl)
  obtain ⟨fu2, hf2⟩ := h2
  have z2 : ArgGateKeeps.Elems2 W a2 len2 cap2 := by
    rcases Flat.open_elems Try.underlying24 hf2 with h | ⟨ad, h1, h2, h3, hel⟩
    · exact .inl h
    · refine .inr ⟨ad, h1, h2, h3, fun i hi => ?_⟩
      obtain ⟨cs, n, y, hl, hat, ht⟩ := hel i hi
      rw [cells36] at hl hat
      obtain ⟨x0, e0⟩ := Flat.leaf_bool at36_0 Try.underlying4 ht
      obtain ⟨x1, e1, w1⟩ := Flat.leaf_int at36_1 Try.underlying32 ht
      obtain ⟨x2, e2, w2⟩ := Flat.leaf_int at36_2 Try.underlying2 ht
      obtain ⟨x3, e3, w3⟩ := Flat.leaf_int at36_3 Try.underlying2 ht
      exact ⟨x0, x1, x2, x3, (hat 0 (by decide)).trans e0, (hat 1 (by decide)).trans e1, (hat 2 (by decide)).trans e2, (hat 3 (by decide)).trans e3, w1, w2, w3⟩
  have y2 : len2 * 32 ≤ 140737488351232 := Flat.sized_len hsz (j := 2) (t := 24) rfl rfl Try.underlying24 (by kernel_rfl) (by decide) hf2
  clear hA0 hsz
  refine (Kd1.walk2 a0_0 a0_1 a0_2 a0_3 a0_4 a1 a2 len2 cap2 W w0_0 w0_1 w0_2 w0_3 w0_4 w1 z2 y2).mono fun e W' ⟨he, bel⟩ => ?_
  subst he
  exact ⟨_, rfl, _, _, _, [], _, [], hW', trodAll_mk1 (shut_bool Try.underlying4 _), (trodAll_cons_mk (Below.trod laidOut (by kernel_rfl) (of_decide_eq_true (by kernel_rfl)) k0 bel lt0) (trodAll_cons_mk (Below.trod laidOut (by kernel_rfl) (of_decide_eq_true (by kernel_rfl)) k1 bel lt1) (trodAll_cons_mk (Below.trod laidOut (by kernel_rfl) (of_decide_eq_true (by kernel_rfl)) k2 bel lt2) trodAll_mk0))), rfl, bel.frame _, fun h => by cases h⟩
set_option maxRecDepth 100000 in
theorem lifted (os : Os) (started : os.Started) (H : Type) (enc : TypeId × Value → H) :
    ReturnsInHanded {} Try.checked os 3 .any (Rows.gateKeepsSpec.pre6 enc Try.prog Try.f3 Rows.gateKeepsRow.domain false) (Rows.gateKeepsSpec.post enc Try.prog Try.f3 false true false false) := by
  refine returnsInHanded_of_change_sized (C := Try.checked) own started (by kernel_rfl) Try.func3
    (ChangeSpec.witness6 (enc := enc) (C := Try.checked) false ⟨#[], #[.agg #[.int .i64 0, .int .i64 0, .int .i64 0, .int .i64 0, .int .i64 0], .int .i64 0, .slice none 0 0], []⟩ 8 (by kernel_rfl) (by kernel_rfl) (by kernel_rfl) (by kernel_rfl)) ?_
  intro W base args ds gs before hval hW hcnd hsz _
  exact contract H enc W base args ds gs before hval hW hsz
theorem proved : Rows.GateKeepsSaid :=
  OpenClaim.holds_of_wide 3 Try.f3 rfl rfl rfl rfl rfl rfl rfl ⟨rfl, rfl, rfl, rfl, rfl⟩ rfl rfl rfl rfl rfl (by kernel_rfl) Try.func3 (by kernel_rfl)
    (of_decide_eq_true (by kernel_rfl)) (by unfold Func.isWrapper; first | (rw [if_pos (by decide +kernel)]; kernel_rfl) | (rw [if_neg (by decide +kernel)]; exact ⟨rfl, rfl⟩))
    (fun os started H enc _ => lifted os started H enc)
#print axioms proved
end Go.Proofs.Ytalefchapckcoaa.gateKeeps
namespace Go.Proofs.Ytalefchapckcoaa
/-- The row, under a short name, for the claim. -/
theorem gateKeeps_holds : Rows.GateKeepsSaid := gateKeeps.proved
end Go.Proofs.Ytalefchapckcoaa