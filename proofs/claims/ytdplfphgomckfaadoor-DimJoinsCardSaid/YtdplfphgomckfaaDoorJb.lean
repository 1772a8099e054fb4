/- DimJoins: what is to be shown of the call. -/
import Derived.Test.YtdplfphgomckfaaDoorOJx1
import Derived.Test.YtdplfphgomckfaaDoorArgDimJoins
import Derived.OpenShut
namespace Go.Proofs.YtdplfphgomckfaaDoor.Jb
set_option linter.unusedVariables false
open Go.RowKit Go.Proofs.YtdplfphgomckfaaDoorW.PrintWords Go.Proofs.YtdplfphgomckfaaDoor.Dj Go.Proofs.YtdplfphgomckfaaDoor.Bx
theorem read_awake : De.Read.f 8 (⟨#[107, 114, 101, 113, 47, 109, 105, 110]⟩ : ByteArray) = some (50, 3, -1, 1, 0, 0, 0, 0, 0) := by kernel_rfl
theorem awake_f : OJ.capstanlaw02_awake.f 8 = some true := by
  unfold OJ.capstanlaw02_awake.f
  rw [read_awake]
  rfl
theorem joins_f (a0 a1 a2 a3 a4 b0 b1 b2 b3 b4 : Int) (ha : ∀ x ∈ [a0, a1, a2, a3, a4], I64 x) (hb : ∀ x ∈ [b0, b1, b2, b3, b4], I64 x) : OJ.capstanlaw02_DimJoins.f 8 a0 a1 a2 a3 a4 b0 b1 b2 b3 b4 = some true := by
  have h1 : ∃ R, both.f a0 a1 a2 a3 a4 b0 b1 b2 b3 b4 1 = some R := ⟨_, if_pos ⟨ok5_iff.2 ha, ok5_iff.2 hb⟩⟩
  have h2 : ∃ R, both.f a0 a1 a2 a3 a4 b0 b1 b2 b3 b4 (-1) = some R := ⟨_, if_pos ⟨ok5_iff.2 ha, ok5_iff.2 hb⟩⟩
  obtain ⟨⟨r1, r2, r3, r4, r5, r6⟩, h1⟩ := h1
  obtain ⟨⟨s1, s2, s3, s4, s5, s6⟩, h2⟩ := h2
  unfold OJ.capstanlaw02_DimJoins.f OJ.dim_Mul.f OJ.dim_Div.f Dk.Join.f
  rw [awake_f, h1, h2]
  simp
theorem walk : ArgDimJoins.Walk := by
  intro a0 a1 a2 a3 a4 b0 b1 b2 b3 b4 w hL h0 h1 h2 h3 h4 g0 g1 g2 g3 g4
  refine OJ.capstanlaw02_DimJoins.calls 8 a0 a1 a2 a3 a4 b0 b1 b2 b3 b4 true w (joins_f a0 a1 a2 a3 a4 b0 b1 b2 b3 b4 ?_ ?_) hL
  · intro x hx
    simp only [List.mem_cons, List.not_mem_nil, or_false] at hx
    rcases hx with rfl | rfl | rfl | rfl | rfl
    · exact bounds_i64 h0
    · exact bounds_i64 h1
    · exact bounds_i64 h2
    · exact bounds_i64 h3
    · exact bounds_i64 h4
  · intro x hx
    simp only [List.mem_cons, List.not_mem_nil, or_false] at hx
    rcases hx with rfl | rfl | rfl | rfl | rfl
    · exact bounds_i64 g0
    · exact bounds_i64 g1
    · exact bounds_i64 g2
    · exact bounds_i64 g3
    · exact bounds_i64 g4
end Go.Proofs.YtdplfphgomckfaaDoor.Jb
