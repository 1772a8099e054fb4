/- The row of the law CodecDecodes: for every input the call answers true, and each argument reads behind it as it read before. -/
import Derived.Test.YtkdboaaganmagaaRows
import Derived.Test.YtkdboaaganmagaaFlat
import Derived.Test.YtkdboaaganmagaaArgCodecDecodes
import Derived.Test.YtkdboaaganmagaaWd
import Derived.WalkKit
import Derived.ProofKit
import Derived.OpenShut
import Derived.ShutString
import Derived.ChangeOld
import Derived.Below
import Derived.SizedLaws
namespace Go.Proofs.Ytkdboaaganmagaa.codecDecodes
open Go.ChangeShapes Go.WideShapes Go.ChangeAt Go.RowKit
open Go.ChangeMaps (open_string shut_string)
set_option linter.unusedVariables false
set_option linter.unusedSimpArgs false
theorem own : ownKnob Try.prog.godebug = none := by kernel_rfl
theorem laidOut : laidOutB Try.prog = true := by kernel_rfl
theorem cells5 : Try.prog.cellsOf 5 = 1 := by kernel_rfl
theorem at5_0 : Flat.leafAt Try.prog 8 5 0 = some 5 := by kernel_rfl
/-- What the walk gives, for every argument that reads. -/
theorem contract (H : Type) (enc : TypeId × Value → H) (W : World) (base : Nat) (args : Array Value) (ds gs : List (DataW H)) (before : List MemPlace)
    (hval : ∀ (j : Nat) t v, Try.f4.params[j]? = some t → args[j]? = some v → Value.okWide Try.prog W .any base t v)
    (hW : DataW.Whole enc Try.prog Try.f4.params.toList Rows.codecDecodesSpec.vars false W args.toList ds gs before)
    (hsz : (DataW.weightsEach Try.prog (Try.f4.params.toList ++ Rows.codecDecodesSpec.plain.varTypes Try.prog) (ds ++ gs)).all (· ≤ reachBytes) = true) :
    Calls Try.prog 4 args W fun e W' => ∃ v, e = .returned v ∧ Rows.codecDecodesSpec.post enc Try.prog Try.f4 false true false false W args v W' := by
  have hW' := hW
  obtain ⟨p, q, hA0, hV, rfl, hfz, hnd⟩ := hW
  have hA : DataW.TrodAll enc Try.prog W 0 (fun _ => true) true Try.f4.params.toList args.toList ds p := hA0
  rw [Try.params4] at hA hval hsz
  obtain ⟨v0, vs0, d0, ds0, p0, q0, hargs, rfl, rfl, h0, r0⟩ := trodAll_cons hA
  obtain ⟨rfl, rfl, rfl⟩ := trodAll_nil r0
  obtain rfl : args = #[v0] := by cases args; simp_all
  obtain ⟨rfl, rfl⟩ := trodVars_none hV
  have k0 := h0
  have lt0 : ∀ x ∈ p0, x.block < W.heap.size := by obtain ⟨m, hm⟩ := k0; exact DataW.trod_lt m _ _ _ hm
  obtain ⟨a0, len0, cap0, rfl⟩ := okWide_slice Try.underlying31 (hval 0 31 v0 rfl rfl)
  obtain ⟨fu0, hf0⟩ := h0
  have z0 : ArgCodecDecodes.Elems0 W a0 len0 cap0 := by
    rcases Flat.open_elems Try.underlying31 hf0 with h | ⟨ad, h1, h2, h3, hel⟩
    · exact .inl h
    · refine .inr ⟨ad, h1, h2, h3, fun i hi => ?_⟩
      obtain ⟨cs, n, y, hl, hat, ht⟩ := hel i hi
      rw [cells5] at hl hat
      obtain ⟨x0, e0, w0⟩ := Flat.leaf_int at5_0 Try.underlying5 ht
      exact ⟨x0, (hat 0 (by decide)).trans e0, w0⟩
  have y0 : len0 * 1 ≤ 140737488351232 := Flat.sized_len hsz (j := 0) (t := 31) rfl rfl Try.underlying31 (by kernel_rfl) (by decide) hf0
  clear hA0 hsz
  refine (Wd.walk a0 len0 cap0 W z0 y0).mono fun e W' ⟨he, bel⟩ => ?_
  subst he
  exact ⟨_, rfl, _, _, _, [], _, [], hW', trodAll_mk1 (shut_bool Try.underlying4 _), (trodAll_cons_mk (Below.trod laidOut (by kernel_rfl) (of_decide_eq_true (by kernel_rfl)) k0 bel lt0) trodAll_mk0), rfl, bel.frame _, fun h => by cases h⟩
set_option maxRecDepth 100000 in
theorem lifted (os : Os) (started : os.Started) (H : Type) (enc : TypeId × Value → H) :
    ReturnsInHanded {} Try.checked os 4 .any (Rows.codecDecodesSpec.pre6 enc Try.prog Try.f4 Rows.codecDecodesRow.domain false) (Rows.codecDecodesSpec.post enc Try.prog Try.f4 false true false false) := by
  refine returnsInHanded_of_change_sized (C := Try.checked) own started (by kernel_rfl) Try.func4
    (ChangeSpec.witness6 (enc := enc) (C := Try.checked) false ⟨#[], #[.slice none 0 0], []⟩ 8 (by kernel_rfl) (by kernel_rfl) (by kernel_rfl) (by kernel_rfl)) ?_
  intro W base args ds gs before hval hW hcnd hsz _
  exact contract H enc W base args ds gs before hval hW hsz
theorem proved : Rows.CodecDecodesSaid :=
  OpenClaim.holds_of_wide 4 Try.f4 rfl rfl rfl rfl rfl rfl rfl ⟨rfl, rfl, rfl, rfl, rfl⟩ rfl rfl rfl rfl rfl (by kernel_rfl) Try.func4 (by kernel_rfl)
    (of_decide_eq_true (by kernel_rfl)) (by unfold Func.isWrapper; first | (rw [if_pos (by decide +kernel)]; kernel_rfl) | (rw [if_neg (by decide +kernel)]; exact ⟨rfl, rfl⟩))
    (fun os started H enc _ => lifted os started H enc)
#print axioms proved
end Go.Proofs.Ytkdboaaganmagaa.codecDecodes
namespace Go.Proofs.Ytkdboaaganmagaa
/-- The row, under a short name, for the claim. -/
theorem codecDecodes_holds : Rows.CodecDecodesSaid := codecDecodes.proved
end Go.Proofs.Ytkdboaaganmagaa