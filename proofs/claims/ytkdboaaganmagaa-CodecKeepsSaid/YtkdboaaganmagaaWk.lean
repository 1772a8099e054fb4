/- CodecKeeps: what is to be shown of the call. -/
import Derived.Test.YtkdboaaganmagaaTh
import Derived.Test.YtkdboaaganmagaaTg5
import Derived.Test.YtkdboaaganmagaaArgCodecKeeps
namespace Go.Proofs.Ytkdboaaganmagaa.Wk
set_option linter.unusedVariables false
open Go.RowKit Go.Proofs.YtkdboaaganmagaaW.PrintWords Go.Proofs.Ytkdboaaganmagaa.OP Go.Proofs.Ytkdboaaganmagaa.Ce Go.Proofs.Ytkdboaaganmagaa.Tc Go.Proofs.Ytkdboaaganmagaa.Te Go.Proofs.Ytkdboaaganmagaa.Th
theorem walk : ArgCodecKeeps.Walk := by
  intro a0_0 a0_1 a0_2 a0_3 a0_4 a0_5 A06 n06 c06 A07 n07 c07 A08 n08 c08 a0_9 a0_10 A011 n011 c011 w h0_0 h0_1 h0_2 h0_3 h0_4 h0_5 e0_6 e0_7 e0_8 h0_9 h0_10 e0_11
  obtain ⟨l0_6, rfl, k0_6, i0_6, m0_6, r0_6⟩ := rows6 w A06 _ _ e0_6
  obtain ⟨l0_7, rfl, k0_7, i0_7, m0_7, r0_7⟩ := rows7 w A07 _ _ e0_7
  obtain ⟨l0_8, rfl, k0_8, i0_8, m0_8, r0_8⟩ := rows8 w A08 _ _ e0_8
  obtain ⟨l0_11, rfl, k0_11, i0_11, m0_11, r0_11⟩ := rows11 w A011 _ _ e0_11
  unfold maxLen at m0_6 m0_7 m0_8 m0_11
  obtain ⟨K, hK⟩ : ∃ K, K = l0_6.length + l0_7.length + l0_8.length + l0_11.length + 1000000 := ⟨_, rfl⟩
  refine OL.Kp.calls K a0_0 a0_1 a0_2 a0_3 a0_4 a0_5 A06 c06 l0_6 A07 c07 l0_7 A08 c08 l0_8 a0_9 a0_10 A011 c011 l0_11 true w k0_6 i0_6 k0_7 i0_7 k0_8 i0_8 k0_11 i0_11 (Tg5.keeps_f (⟨a0_0, a0_1, a0_2, a0_3, a0_4, a0_5, l0_6, l0_7, l0_8, a0_9, a0_10, l0_11⟩ : Pg) ⟨i64 h0_1, i64 h0_2, i64 h0_3, i64 h0_4, i64 h0_5, r0_6, r0_7, r0_8, r0_11⟩ K (by unfold Fits; simp only; omega) (by omega)) rfl
end Go.Proofs.Ytkdboaaganmagaa.Wk
