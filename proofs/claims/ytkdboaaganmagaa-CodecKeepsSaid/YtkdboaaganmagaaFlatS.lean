/- A slice that lies inside an argument that is a struct by value. -/
import Derived.Test.YtkdboaaganmagaaFlat
namespace Go.Proofs.Ytkdboaaganmagaa.FlatS
open Go.ChangeShapes Go.WideShapes Go.Deep
theorem leaf_slice {H : Type} {enc : TypeId × Value → H} {P : Program} {w : World} {base : Nat} {spare : Nat → Bool} {held : Bool} {f : Nat} {t : TypeId} {o : Nat} {u e : TypeId} {fuel : Nat} {cs : List Value} {x : DataW H × List MemPlace} (h : Flat.leafAt P f t o = some u) (hu : P.underlying u = some (.slice e)) (hx : DataW.trod enc P w base spare held fuel t cs = some x) :
    ∃ (a : Option Addr) (len cap m : Nat) (y : DataW H × List MemPlace), cs[o]? = some (.slice a len cap) ∧ DataW.trod enc P w base spare held m u [.slice a len cap] = some y := by
  obtain ⟨c, m, y, hc, hy, _⟩ := Flat.leaf f t o u fuel cs x h hx
  rcases open_slice hu hy with ⟨h0, _⟩ | ⟨ad, l, cp, m2, n, D, Pl, hcs, _⟩
  · simp at h0; subst h0
    exact ⟨none, 0, 0, m, y, hc, hy⟩
  · simp at hcs; subst hcs
    exact ⟨some ad, l, cp, m, y, hc, hy⟩
end Go.Proofs.Ytkdboaaganmagaa.FlatS
