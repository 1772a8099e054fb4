/- The row of the law CodecKeeps: for every input the call answers true, and each argument reads behind it as it read before. -/
import Derived.Test.YtkdboaaganmagaaRows
import Derived.Test.YtkdboaaganmagaaFlat
import Derived.Test.YtkdboaaganmagaaFlatS
import Derived.Test.YtkdboaaganmagaaArgCodecKeeps
import Derived.Test.YtkdboaaganmagaaWk
import Derived.WalkKit
import Derived.ProofKit
import Derived.OpenShut
import Derived.ShutString
import Derived.ChangeOld
import Derived.Below
import Derived.SizedLaws
namespace Go.Proofs.Ytkdboaaganmagaa.codecKeeps
open Go.ChangeShapes Go.WideShapes Go.ChangeAt Go.RowKit
open Go.ChangeMaps (open_string shut_string)
set_option linter.unusedVariables false
set_option linter.unusedSimpArgs false
theorem own : ownKnob Try.prog.godebug = none := by kernel_rfl
theorem laidOut : laidOutB Try.prog = true := by kernel_rfl
theorem cells2 : Try.prog.cellsOf 2 = 1 := by kernel_rfl
theorem at2_0 : Flat.leafAt Try.prog 8 2 0 = some 2 := by kernel_rfl
theorem cells29 : Try.prog.cellsOf 29 = 12 := by kernel_rfl
theorem at29_0 : Flat.leafAt Try.prog 8 29 0 = some 3 := by kernel_rfl
theorem at29_1 : Flat.leafAt Try.prog 8 29 1 = some 2 := by kernel_rfl
theorem at29_2 : Flat.leafAt Try.prog 8 29 2 = some 2 := by kernel_rfl
theorem at29_3 : Flat.leafAt Try.prog 8 29 3 = some 2 := by kernel_rfl
theorem at29_4 : Flat.leafAt Try.prog 8 29 4 = some 2 := by kernel_rfl
theorem at29_5 : Flat.leafAt Try.prog 8 29 5 = some 2 := by kernel_rfl
theorem at29_6 : Flat.leafAt Try.prog 8 29 6 = some 24 := by kernel_rfl
theorem at29_7 : Flat.leafAt Try.prog 8 29 7 = some 25 := by kernel_rfl
theorem at29_8 : Flat.leafAt Try.prog 8 29 8 = some 26 := by kernel_rfl
theorem at29_9 : Flat.leafAt Try.prog 8 29 9 = some 3 := by kernel_rfl
theorem at29_10 : Flat.leafAt Try.prog 8 29 10 = some 3 := by kernel_rfl
theorem at29_11 : Flat.leafAt Try.prog 8 29 11 = some 27 := by kernel_rfl
theorem cells45 : Try.prog.cellsOf 45 = 2 := by kernel_rfl
theorem at45_0 : Flat.leafAt Try.prog 8 45 0 = some 3 := by kernel_rfl
theorem at45_1 : Flat.leafAt Try.prog 8 45 1 = some 2 := by kernel_rfl
theorem cells51 : Try.prog.cellsOf 51 = 4 := by kernel_rfl
theorem at51_0 : Flat.leafAt Try.prog 8 51 0 = some 3 := by kernel_rfl
theorem at51_1 : Flat.leafAt Try.prog 8 51 1 = some 3 := by kernel_rfl
theorem at51_2 : Flat.leafAt Try.prog 8 51 2 = some 2 := by kernel_rfl
theorem at51_3 : Flat.leafAt Try.prog 8 51 3 = some 2 := by kernel_rfl
theorem cells54 : Try.prog.cellsOf 54 = 5 := by kernel_rfl
theorem at54_0 : Flat.leafAt Try.prog 8 54 0 = some 52 := by kernel_rfl
theorem at54_1 : Flat.leafAt Try.prog 8 54 1 = some 52 := by kernel_rfl
theorem at54_2 : Flat.leafAt Try.prog 8 54 2 = some 52 := by kernel_rfl
theorem at54_3 : Flat.leafAt Try.prog 8 54 3 = some 52 := by kernel_rfl
theorem at54_4 : Flat.leafAt Try.prog 8 54 4 = some 52 := by kernel_rfl
/-- What the walk gives, for every argument that reads. -/
theorem contract (H : Type) (enc : TypeId × Value → H) (W : World) (base : Nat) (args : Array Value) (ds gs : List (DataW H)) (before : List MemPlace)
    (hval : ∀ (j : Nat) t v, Try.f8.params[j]? = some t → args[j]? = some v → Value.okWide Try.prog W .any base t v)
    (hW : DataW.Whole enc Try.prog Try.f8.params.toList Rows.codecKeepsSpec.vars false W args.toList ds gs before)
    (hsz : (DataW.weightsEach Try.prog (Try.f8.params.toList ++ Rows.codecKeepsSpec.plain.varTypes Try.prog) (ds ++ gs)).all (· ≤ reachBytes) = true) :
    Calls Try.prog 8 args W fun e W' => ∃ v, e = .returned v ∧ Rows.codecKeepsSpec.post enc Try.prog Try.f8 false true false false W args v W' := by
  have hW' := hW
  obtain ⟨p, q, hA0, hV, rfl, hfz, hnd⟩ := hW
  have hA : DataW.TrodAll enc Try.prog W 0 (fun _ => true) true Try.f8.params.toList args.toList ds p := hA0
  rw [Try.params8] at hA hval hsz
  obtain ⟨v0, vs0, d0, ds0, p0, q0, hargs, rfl, rfl, h0, r0⟩ := trodAll_cons hA
  obtain ⟨rfl, rfl, rfl⟩ := trodAll_nil r0
  obtain rfl : args = #[v0] := by cases args; simp_all
  obtain ⟨rfl, rfl⟩ := trodVars_none hV
  have k0 := h0
  have lt0 : ∀ x ∈ p0, x.block < W.heap.size := by obtain ⟨m, hm⟩ := k0; exact DataW.trod_lt m _ _ _ hm
  obtain ⟨cs0, rfl, hc0⟩ : ∃ cs, v0 = .agg cs ∧ cs.size = Try.prog.cellsOf 29 := by
    have z := (hval 0 29 v0 rfl rfl)
    simp only [Value.okWide, Try.underlying29] at z
    obtain ⟨cs, h1, h2, _⟩ := z
    exact ⟨cs, h1, h2⟩
  obtain ⟨fu0, hf0⟩ := h0
  simp only [Value.cells] at hf0
  obtain ⟨a0_0, e0_0, w0_0⟩ := Flat.leaf_int at29_0 Try.underlying3 hf0
  obtain ⟨a0_1, e0_1, w0_1⟩ := Flat.leaf_int at29_1 Try.underlying2 hf0
  obtain ⟨a0_2, e0_2, w0_2⟩ := Flat.leaf_int at29_2 Try.underlying2 hf0
  obtain ⟨a0_3, e0_3, w0_3⟩ := Flat.leaf_int at29_3 Try.underlying2 hf0
  obtain ⟨a0_4, e0_4, w0_4⟩ := Flat.leaf_int at29_4 Try.underlying2 hf0
  obtain ⟨a0_5, e0_5, w0_5⟩ := Flat.leaf_int at29_5 Try.underlying2 hf0
  obtain ⟨a0_6, len0_6, cap0_6, m0_6, y0_6, e0_6, s0_6⟩ := FlatS.leaf_slice at29_6 Try.underlying24 hf0
  have z0_6 : ArgCodecKeeps.Elems0_6 W a0_6 len0_6 cap0_6 := by
    rcases Flat.open_elems Try.underlying24 s0_6 with h | ⟨ad, h1, h2, h3, hel⟩
    · exact .inl h
    · refine .inr ⟨ad, h1, h2, h3, fun i hi => ?_⟩
      obtain ⟨cs, n, y, hl, hat, ht⟩ := hel i hi
      rw [cells2] at hl hat
      obtain ⟨x0, e0, w0⟩ := Flat.leaf_int at2_0 Try.underlying2 ht
      exact ⟨x0, (hat 0 (by decide)).trans e0, w0⟩
  obtain ⟨a0_7, len0_7, cap0_7, m0_7, y0_7, e0_7, s0_7⟩ := FlatS.leaf_slice at29_7 Try.underlying25 hf0
  have z0_7 : ArgCodecKeeps.Elems0_7 W a0_7 len0_7 cap0_7 := by
    rcases Flat.open_elems Try.underlying25 s0_7 with h | ⟨ad, h1, h2, h3, hel⟩
    · exact .inl h
    · refine .inr ⟨ad, h1, h2, h3, fun i hi => ?_⟩
      obtain ⟨cs, n, y, hl, hat, ht⟩ := hel i hi
      rw [cells51] at hl hat
      obtain ⟨x0, e0, w0⟩ := Flat.leaf_int at51_0 Try.underlying3 ht
      obtain ⟨x1, e1, w1⟩ := Flat.leaf_int at51_1 Try.underlying3 ht
      obtain ⟨x2, e2, w2⟩ := Flat.leaf_int at51_2 Try.underlying2 ht
      obtain ⟨x3, e3, w3⟩ := Flat.leaf_int at51_3 Try.underlying2 ht
      exact ⟨x0, x1, x2, x3, (hat 0 (by decide)).trans e0, (hat 1 (by decide)).trans e1, (hat 2 (by decide)).trans e2, (hat 3 (by decide)).trans e3, w0, w1, w2, w3⟩
  obtain ⟨a0_8, len0_8, cap0_8, m0_8, y0_8, e0_8, s0_8⟩ := FlatS.leaf_slice at29_8 Try.underlying26 hf0
  have z0_8 : ArgCodecKeeps.Elems0_8 W a0_8 len0_8 cap0_8 := by
    rcases Flat.open_elems Try.underlying26 s0_8 with h | ⟨ad, h1, h2, h3, hel⟩
    · exact .inl h
    · refine .inr ⟨ad, h1, h2, h3, fun i hi => ?_⟩
      obtain ⟨cs, n, y, hl, hat, ht⟩ := hel i hi
      rw [cells54] at hl hat
      obtain ⟨x0, e0, w0⟩ := Flat.leaf_int at54_0 Try.underlying52 ht
      obtain ⟨x1, e1, w1⟩ := Flat.leaf_int at54_1 Try.underlying52 ht
      obtain ⟨x2, e2, w2⟩ := Flat.leaf_int at54_2 Try.underlying52 ht
      obtain ⟨x3, e3, w3⟩ := Flat.leaf_int at54_3 Try.underlying52 ht
      obtain ⟨x4, e4, w4⟩ := Flat.leaf_int at54_4 Try.underlying52 ht
      exact ⟨x0, x1, x2, x3, x4, (hat 0 (by decide)).trans e0, (hat 1 (by decide)).trans e1, (hat 2 (by decide)).trans e2, (hat 3 (by decide)).trans e3, (hat 4 (by decide)).trans e4, w0, w1, w2, w3, w4⟩
  obtain ⟨a0_9, e0_9, w0_9⟩ := Flat.leaf_int at29_9 Try.underlying3 hf0
  obtain ⟨a0_10, e0_10, w0_10⟩ := Flat.leaf_int at29_10 Try.underlying3 hf0
  obtain ⟨a0_11, len0_11, cap0_11, m0_11, y0_11, e0_11, s0_11⟩ := FlatS.leaf_slice at29_11 Try.underlying27 hf0
  have z0_11 : ArgCodecKeeps.Elems0_11 W a0_11 len0_11 cap0_11 := by
    rcases Flat.open_elems Try.underlying27 s0_11 with h | ⟨ad, h1, h2, h3, hel⟩
    · exact .inl h
    · refine .inr ⟨ad, h1, h2, h3, fun i hi => ?_⟩
      obtain ⟨cs, n, y, hl, hat, ht⟩ := hel i hi
      rw [cells45] at hl hat
      obtain ⟨x0, e0, w0⟩ := Flat.leaf_int at45_0 Try.underlying3 ht
      obtain ⟨x1, e1, w1⟩ := Flat.leaf_int at45_1 Try.underlying2 ht
      exact ⟨x0, x1, (hat 0 (by decide)).trans e0, (hat 1 (by decide)).trans e1, w0, w1⟩
  obtain ⟨l0⟩ := cs0
  rw [cells29] at hc0
  obtain rfl : l0 = [.int .i64 a0_0, .int .i64 a0_1, .int .i64 a0_2, .int .i64 a0_3, .int .i64 a0_4, .int .i64 a0_5, .slice a0_6 len0_6 cap0_6, .slice a0_7 len0_7 cap0_7, .slice a0_8 len0_8 cap0_8, .int .i64 a0_9, .int .i64 a0_10, .slice a0_11 len0_11 cap0_11] := by
    apply List.ext_getElem?
    intro n
    by_cases hn : n < 12
    · have : n = 0 ∨ n = 1 ∨ n = 2 ∨ n = 3 ∨ n = 4 ∨ n = 5 ∨ n = 6 ∨ n = 7 ∨ n = 8 ∨ n = 9 ∨ n = 10 ∨ n = 11 := by omega
      rcases this with rfl | rfl | rfl | rfl | rfl | rfl | rfl | rfl | rfl | rfl | rfl | rfl
      · exact e0_0
      · exact e0_1
      · exact e0_2
      · exact e0_3
      · exact e0_4
      · exact e0_5
      · exact e0_6
      · exact e0_7
      · exact e0_8
      · exact e0_9
      · exact e0_10
      · exact e0_11
    · rw [List.getElem?_eq_none (by simpa [← hc0] using hn), List.getElem?_eq_none (by simpa using hn)]
  clear hA0 hsz
  refine (Go.Proofs.Ytkdboaaganmagaa.Wk.walk a0_0 a0_1 a0_2 a0_3 a0_4 a0_5 a0_6 len0_6 cap0_6 a0_7 len0_7 cap0_7 a0_8 len0_8 cap0_8 a0_9 a0_10 a0_11 len0_11 cap0_11 W w0_0 w0_1 w0_2 w0_3 w0_4 w0_5 z0_6 z0_7 z0_8 w0_9 w0_10 z0_11).mono fun e W' ⟨he, bel⟩ => ?_
  subst he
  exact ⟨_, rfl, _, _, _, [], _, [], hW', trodAll_mk1 (shut_bool Try.underlying4 _), (trodAll_cons_mk (Below.trod laidOut (by kernel_rfl) (of_decide_eq_true (by kernel_rfl)) k0 bel lt0) trodAll_mk0), rfl, bel.frame _, fun h => by cases h⟩
set_option maxRecDepth 100000 in
theorem lifted (os : Os) (started : os.Started) (H : Type) (enc : TypeId × Value → H) :
    ReturnsInHanded {} Try.checked os 8 .any (Rows.codecKeepsSpec.pre6 enc Try.prog Try.f8 Rows.codecKeepsRow.domain false) (Rows.codecKeepsSpec.post enc Try.prog Try.f8 false true false false) := by
  refine returnsInHanded_of_change_sized (C := Try.checked) own started (by kernel_rfl) Try.func8
    (ChangeSpec.witness6 (enc := enc) (C := Try.checked) false ⟨#[], #[.agg #[.int .i64 0, .int .i64 0, .int .i64 0, .int .i64 0, .int .i64 0, .int .i64 0, .slice none 0 0, .slice none 0 0, .slice none 0 0, .int .i64 0, .int .i64 0, .slice none 0 0]], []⟩ 8 (by kernel_rfl) (by kernel_rfl) (by kernel_rfl) (by kernel_rfl)) ?_
  intro W base args ds gs before hval hW hcnd hsz _
  exact contract H enc W base args ds gs before hval hW hsz
theorem proved : Rows.CodecKeepsSaid :=
  OpenClaim.holds_of_wide 8 Try.f8 rfl rfl rfl rfl rfl rfl rfl ⟨rfl, rfl, rfl, rfl, rfl⟩ rfl rfl rfl rfl rfl (by kernel_rfl) Try.func8 (by kernel_rfl)
    (of_decide_eq_true (by kernel_rfl)) (by unfold Func.isWrapper; first | (rw [if_pos (by decide +kernel)]; kernel_rfl) | (rw [if_neg (by decide +kernel)]; exact ⟨rfl, rfl⟩))
    (fun os started H enc _ => lifted os started H enc)
#print axioms proved
end Go.Proofs.Ytkdboaaganmagaa.codecKeeps
namespace Go.Proofs.Ytkdboaaganmagaa
/-- The row, under a short name, for the claim. -/
theorem codecKeeps_holds : Rows.CodecKeepsSaid := codecKeeps.proved
end Go.Proofs.Ytkdboaaganmagaa