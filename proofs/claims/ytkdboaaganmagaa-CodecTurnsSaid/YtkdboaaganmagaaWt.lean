/- CodecTurns: what is to be shown of the call. -/
import Derived.Test.YtkdboaaganmagaaTh
import Derived.Test.YtkdboaaganmagaaTg4
import Derived.Test.YtkdboaaganmagaaArgCodecTurns
namespace Go.Proofs.Ytkdboaaganmagaa.Wt
set_option linter.unusedVariables false
open Go.RowKit Go.Proofs.YtkdboaaganmagaaW.PrintWords Go.Proofs.Ytkdboaaganmagaa.OP Go.Proofs.Ytkdboaaganmagaa.Ce Go.Proofs.Ytkdboaaganmagaa.Tc Go.Proofs.Ytkdboaaganmagaa.Te Go.Proofs.Ytkdboaaganmagaa.Th
theorem walk : ArgCodecTurns.Walk := by
  intro a0_0 a0_1 a0_2 a0_3 a0_4 a0_5 A06 n06 c06 A07 n07 c07 A08 n08 c08 a0_9 a0_10 A011 n011 c011 a1_0 a1_1 a1_2 a1_3 a1_4 a1_5 A16 n16 c16 A17 n17 c17 A18 n18 c18 a1_9 a1_10 A111 n111 c111 w h0_0 h0_1 h0_2 h0_3 h0_4 h0_5 e0_6 e0_7 e0_8 h0_9 h0_10 e0_11 h1_0 h1_1 h1_2 h1_3 h1_4 h1_5 e1_6 e1_7 e1_8 h1_9 h1_10 e1_11
  obtain ⟨l0_6, rfl, k0_6, i0_6, m0_6, r0_6⟩ := rows6 w A06 _ _ e0_6
  obtain ⟨l0_7, rfl, k0_7, i0_7, m0_7, r0_7⟩ := rows7 w A07 _ _ e0_7
  obtain ⟨l0_8, rfl, k0_8, i0_8, m0_8, r0_8⟩ := rows8 w A08 _ _ e0_8
  obtain ⟨l0_11, rfl, k0_11, i0_11, m0_11, r0_11⟩ := rows11 w A011 _ _ e0_11
  obtain ⟨l1_6, rfl, k1_6, i1_6, m1_6, r1_6⟩ := rows6 w A16 _ _ e1_6
  obtain ⟨l1_7, rfl, k1_7, i1_7, m1_7, r1_7⟩ := rows7 w A17 _ _ e1_7
  obtain ⟨l1_8, rfl, k1_8, i1_8, m1_8, r1_8⟩ := rows8 w A18 _ _ e1_8
  obtain ⟨l1_11, rfl, k1_11, i1_11, m1_11, r1_11⟩ := rows11 w A111 _ _ e1_11
  unfold maxLen at m0_6 m0_7 m0_8 m0_11 m1_6 m1_7 m1_8 m1_11
  obtain ⟨K, hK⟩ : ∃ K, K = l0_6.length + l0_7.length + l0_8.length + l0_11.length + l1_6.length + l1_7.length + l1_8.length + l1_11.length + 100000 := ⟨_, rfl⟩
  refine OL.capstanlaw22_CodecTurns.calls K a0_0 a0_1 a0_2 a0_3 a0_4 a0_5 A06 c06 l0_6 A07 c07 l0_7 A08 c08 l0_8 a0_9 a0_10 A011 c011 l0_11 a1_0 a1_1 a1_2 a1_3 a1_4 a1_5 A16 c16 l1_6 A17 c17 l1_7 A18 c18 l1_8 a1_9 a1_10 A111 c111 l1_11 true w k0_6 i0_6 k0_7 i0_7 k0_8 i0_8 k0_11 i0_11 k1_6 i1_6 k1_7 i1_7 k1_8 i1_8 k1_11 i1_11 (Tg4.turns_f (⟨a0_0, a0_1, a0_2, a0_3, a0_4, a0_5, l0_6, l0_7, l0_8, a0_9, a0_10, l0_11⟩ : Pg) (⟨a1_0, a1_1, a1_2, a1_3, a1_4, a1_5, l1_6, l1_7, l1_8, a1_9, a1_10, l1_11⟩ : Pg) ⟨i64 h0_1, i64 h0_2, i64 h0_3, i64 h0_4, i64 h0_5, r0_6, r0_7, r0_8, r0_11⟩ ⟨i64 h1_1, i64 h1_2, i64 h1_3, i64 h1_4, i64 h1_5, r1_6, r1_7, r1_8, r1_11⟩ K (by unfold Fits; simp only; omega) (by unfold Fits; simp only; omega) (by omega)) rfl
end Go.Proofs.Ytkdboaaganmagaa.Wt
