/- Arguments that are structs or arrays by value, however nested, opened to their leaves: at each cell of such a value stands what the leaf's type says. -/
import Derived.OpenShut
import Derived.Deep.Slices
import Derived.Deep.Fields
import Derived.ChangeSame
import Derived.SizedLaws
namespace Go.Proofs.YtdplfphgomckfaaDoor.Flat
open Go.ChangeShapes Go.WideShapes Go.Deep

/-- The type of the leaf at cell o of a value of type t. -/
def leafAt (P : Program) : Nat → TypeId → Nat → Option TypeId
  | 0, _, _ => none
  | f + 1, t, o =>
    match P.underlying t with
    | some (.struct fs) => fs.toList.findSome? fun fd => if fd.offset ≤ o ∧ o < fd.offset + P.cellsOf fd.type then leafAt P f fd.type (o - fd.offset) else none
    | some (.array n e) => if o / P.cellsOf e < n ∧ 0 < P.cellsOf e then leafAt P f e (o % P.cellsOf e) else none
    | some (.int _) => if o = 0 then some t else none
    | some .bool => if o = 0 then some t else none
    | some .string => if o = 0 then some t else none
    | some (.slice _) => if o = 0 then some t else none
    | _ => none

section
variable {H : Type} {enc : TypeId × Value → H} {P : Program} {w : World} {base : Nat} {spare : Nat → Bool} {held : Bool}
theorem leaf : ∀ (f : Nat) (t : TypeId) (o : Nat) (u : TypeId) (fuel : Nat) (cs : List Value) (x : DataW H × List MemPlace), leafAt P f t o = some u → DataW.trod enc P w base spare held fuel t cs = some x →
    ∃ (c : Value) (m : Nat) (y : DataW H × List MemPlace), cs[o]? = some c ∧ DataW.trod enc P w base spare held m u [c] = some y ∧ ∀ p ∈ y.2, p ∈ x.2 := by
  intro f
  induction f with
  | zero => intro t o u fuel cs x h; simp [leafAt] at h
  | succ f ih =>
    intro t o u fuel cs x h hx
    unfold leafAt at h
    split at h
    · rename_i fs hu
      obtain ⟨fd, hfd, hl⟩ := List.exists_of_findSome?_eq_some h
      split at hl
      · rename_i ho
        obtain ⟨xs, n, _, hxe, hlen, hxl, hf⟩ := DataW.trod_struct hu hx
        obtain ⟨i, hi, hie⟩ := List.mem_iff_getElem.1 hfd
        have hi' : fs[i]? = some fd := by
          rw [← hie]; simp at hi; simp [hi]
        have h1 := hf i fd hi'
        have hil : i < xs.length := by rw [hxl]; simpa using hi
        rw [List.getElem?_eq_getElem hil] at h1
        obtain ⟨c, m, y, hc, hy, hp⟩ := ih _ _ _ _ _ _ hl h1
        refine ⟨c, m, y, ?_, hy, fun p hp' => ?_⟩
        · rw [List.getElem?_take] at hc
          split at hc
          · rw [List.getElem?_drop] at hc
            rw [show fd.offset + (o - fd.offset) = o from by omega] at hc
            exact hc
          · cases hc
        · rw [hxe]
          exact List.mem_flatMap.2 ⟨_, List.getElem_mem hil, hp p hp'⟩
      · cases hl
    · rename_i n e hu
      split at h
      · rename_i ho
        obtain ⟨xs, m, _, hxe, hlen, hxl, hf⟩ := DataW.trod_array hu hx
        have h1 := hf _ ho.1
        have hil : o / P.cellsOf e < xs.length := by rw [hxl]; exact ho.1
        rw [List.getElem?_eq_getElem hil] at h1
        obtain ⟨c, m, y, hc, hy, hp⟩ := ih _ _ _ _ _ _ h h1
        refine ⟨c, m, y, ?_, hy, fun p hp' => ?_⟩
        · rw [List.getElem?_take] at hc
          split at hc
          · rw [List.getElem?_drop] at hc
            rw [show o / P.cellsOf e * P.cellsOf e + o % P.cellsOf e = o from by rw [Nat.mul_comm]; exact Nat.div_add_mod _ _] at hc
            exact hc
          · cases hc
        · rw [hxe]
          exact List.mem_flatMap.2 ⟨_, List.getElem_mem hil, hp p hp'⟩
      · cases h
    · rename_i k hu
      split at h
      · rename_i ho
        subst ho
        injection h with h; subst h
        obtain ⟨n, rfl, rfl, hw⟩ := DataW.trod_int hu hx
        exact ⟨_, fuel, _, rfl, hx, fun p hp => hp⟩
      · cases h
    · rename_i hu
      split at h
      · rename_i ho
        subst ho
        injection h with h; subst h
        obtain ⟨n, rfl, rfl⟩ := DataW.trod_bool hu hx
        exact ⟨_, fuel, _, rfl, hx, fun p hp => hp⟩
      · cases h
    · rename_i hu
      split at h
      · rename_i ho
        subst ho
        injection h with h; subst h
        obtain ⟨n, rfl, rfl, hw⟩ := DataW.trod_string hu hx
        exact ⟨_, fuel, _, rfl, hx, fun p hp => hp⟩
      · cases h
    · rename_i e hu
      split at h
      · rename_i ho
        subst ho
        injection h with h; subst h
        rcases open_slice hu hx with ⟨rfl, rfl⟩ | ⟨a, len, cap, m, n, D, Pl, rfl, _⟩
        · exact ⟨_, fuel, _, rfl, hx, fun p hp => hp⟩
        · exact ⟨_, fuel, _, rfl, hx, fun p hp => hp⟩
      · cases h
    · cases h

theorem leaf_int {f : Nat} {t : TypeId} {o : Nat} {u : TypeId} {k : IntKind} {fuel : Nat} {cs : List Value} {x : DataW H × List MemPlace} (h : leafAt P f t o = some u) (hu : P.underlying u = some (.int k)) (hx : DataW.trod enc P w base spare held fuel t cs = some x) :
    ∃ n : Int, cs[o]? = some (.int k n) ∧ (Lit.int k n).wf = true := by
  obtain ⟨c, m, y, hc, hy, _⟩ := leaf f t o u fuel cs x h hx
  obtain ⟨n, hn, _, hw⟩ := DataW.trod_int hu hy
  simp at hn; subst hn
  exact ⟨n, hc, hw⟩
theorem leaf_bool {f : Nat} {t : TypeId} {o : Nat} {u : TypeId} {fuel : Nat} {cs : List Value} {x : DataW H × List MemPlace} (h : leafAt P f t o = some u) (hu : P.underlying u = some .bool) (hx : DataW.trod enc P w base spare held fuel t cs = some x) :
    ∃ b : Bool, cs[o]? = some (.bool b) := by
  obtain ⟨c, m, y, hc, hy, _⟩ := leaf f t o u fuel cs x h hx
  obtain ⟨n, hn, _⟩ := DataW.trod_bool hu hy
  simp at hn; subst hn
  exact ⟨n, hc⟩
/-- A slice that came in: nil, or an address; each element's cells read as the element's type. -/
theorem open_elems {t e : TypeId} {fuel : Nat} {a : Option Addr} {len cap : Nat} {x : DataW H × List MemPlace} (ht : P.underlying t = some (.slice e)) (h : DataW.trod enc P w 0 spare held fuel t [.slice a len cap] = some x) :
    (a = none ∧ len = 0 ∧ cap = 0) ∨ ∃ ad, a = some ad ∧ len ≤ cap ∧ cap ≤ maxLen ∧ ∀ i, i < len → ∃ (cs : List Value) (n : Nat) (y : DataW H × List MemPlace), cs.length = P.cellsOf e ∧ (∀ j, j < P.cellsOf e → w.cell? (ad.add (i * P.cellsOf e + j)) = cs[j]?) ∧ DataW.trod enc P w 0 spare held n e cs = some y := by
  rcases open_slice ht h with ⟨h0, _⟩ | ⟨ad, l, c, m, n, D, Pl, hcs, _, hl, hm, hmm, hx, hi⟩
  · simp at h0; exact .inl h0
  · simp at hcs
    obtain ⟨rfl, rfl, rfl⟩ := hcs
    refine .inr ⟨ad, rfl, hl, hm, fun i hil => ?_⟩
    have him : i < m := by rw [hmm]; split <;> omega
    obtain ⟨cs', hc, ht'⟩ := hi i him
    obtain ⟨_, hcl, hat⟩ := World.cells?_some hc
    refine ⟨cs', n, _, hcl, fun j hj => ?_, ht'⟩
    have h2 := hat j hj
    rw [← h2, ← Go.Deep.add_add]
/-- How long a slice that came in can be: its elements' bytes are within the form's reach. -/
theorem sized_len {t e : TypeId} {a : Option Addr} {len cap b : Nat} {d : DataW H} {ps : List MemPlace} {fuel : Nat} {ts : List TypeId} {ds : List (DataW H)} {j : Nat} (h : (DataW.weightsEach P ts ds).all (· ≤ reachBytes) = true) (hts : ts[j]? = some t) (hds : ds[j]? = some d)
    (ht : P.underlying t = some (.slice e)) (hb : P.bytesOf e = b) (hr : reachBytes ≤ 140737488351232) (hx : DataW.trod enc P w 0 spare held fuel t [.slice a len cap] = some (d, ps)) : len * b ≤ 140737488351232 := by
  rcases open_slice ht hx with ⟨h0, _⟩ | ⟨ad, l, c, m, n, D, Pl, hcs, _, hl, hm, hmm, hxe, hi⟩
  · simp at h0; obtain ⟨_, rfl, _⟩ := h0; simp
  · simp at hcs
    obtain ⟨rfl, rfl, rfl⟩ := hcs
    simp only [Prod.mk.injEq] at hxe
    rw [hxe.1] at hds
    have z := sized_slice h hts hds ht
    simp only [List.length_map, List.length_range, hb] at z
    refine Nat.le_trans (Nat.le_trans (Nat.mul_le_mul_right b ?_) z) hr
    exact Nat.le_add_right _ _
end
end Go.Proofs.YtdplfphgomckfaaDoor.Flat
