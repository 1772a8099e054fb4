/- A program that came in as an argument: its rows as lists. -/
import Derived.Test.YtkdboaaganmagaaTe
import Derived.ChangeShapes
import Derived.OpenShut
namespace Go.Proofs.Ytkdboaaganmagaa.Th
set_option linter.unusedVariables false
open Go.RowKit Go.Proofs.YtkdboaaganmagaaW.PrintWords Go.Proofs.Ytkdboaaganmagaa.OP Go.Proofs.Ytkdboaaganmagaa.Tc Go.Proofs.Ytkdboaaganmagaa.Te
theorem row_of {α : Type} (R : α → List Value → Prop) (sz : Nat) (w : World) (A : Option Addr) (len cap : Nat) (Pr : α → Prop)
    (h : (A = none ∧ len = 0 ∧ cap = 0) ∨ ∃ ad, A = some ad ∧ len ≤ cap ∧ cap ≤ maxLen ∧ ∀ i, i < len → ∃ (x : α) (c : List Value), c.length = sz ∧ R x c ∧ (∀ j u, c[j]? = some u → w.cell? (ad.add (i * sz + j)) = some u) ∧ Pr x) :
    ∃ l : List α, l.length = len ∧ ReadsRow R sz w A len l ∧ len ≤ cap ∧ len ≤ maxLen ∧ ∀ x ∈ l, Pr x := by
  rcases h with ⟨rfl, rfl, rfl⟩ | ⟨ad, rfl, h1, h2, h3⟩
  · exact ⟨[], rfl, ⟨rfl, by omega, fun h => absurd h (by omega)⟩, Nat.le_refl _, Nat.zero_le _, fun _ h => by cases h⟩
  · have key : ∀ n, n ≤ len → ∃ l : List α, l.length = n ∧ (∀ j p, l[j]? = some p → (∃ c : List Value, c.length = sz ∧ R p c ∧ ∀ i u, c[i]? = some u → w.cell? (ad.add (j * sz + i)) = some u) ∧ Pr p) := by
      intro n
      induction n with
      | zero => intro _; exact ⟨[], rfl, fun j p hj => by simp at hj⟩
      | succ n ih =>
        intro hn
        obtain ⟨l, hl, hp⟩ := ih (by omega)
        obtain ⟨x, c, c1, c2, c3, c4⟩ := h3 n (by omega)
        refine ⟨l ++ [x], by simp [hl], fun j p hj => ?_⟩
        by_cases e : j < n
        · rw [List.getElem?_append_left (by omega)] at hj
          exact hp j p hj
        · have hj2 := (List.getElem?_eq_some_iff.1 hj).1
          simp at hj2
          obtain rfl : j = n := by omega
          rw [List.getElem?_append_right (by omega), hl, Nat.sub_self] at hj
          simp at hj
          subst hj
          exact ⟨⟨c, c1, c2, c3⟩, c4⟩
    obtain ⟨l, hl, hp⟩ := key len (Nat.le_refl _)
    refine ⟨l, hl, ⟨hl, by unfold maxLen at h2; omega, fun _ => ⟨ad, rfl, fun j p hj => (hp j p hj).1⟩⟩, h1, by omega, fun x hx => ?_⟩
    obtain ⟨j, hj⟩ := List.getElem?_of_mem hx
    exact (hp j x hj).2
theorem i64 {n : Int} (h : (Lit.int .i64 n).wf = true) : I64 n := bounds_i64 h
theorem u64 {n : Int} (h : (Lit.int .u64 n).wf = true) : U64 n := by
  have := bounds_u64 h
  unfold U64; omega
theorem rows6 (w : World) (A : Option Addr) (len cap : Nat) (h : (A = none ∧ len = 0 ∧ cap = 0) ∨ ∃ ad, A = some ad ∧ len ≤ cap ∧ cap ≤ maxLen ∧ ∀ i, i < len → ∃ (x0 : Int), w.cell? (ad.add (i * 1 + 0)) = some (.int .i64 x0) ∧ (Lit.int .i64 x0).wf = true) :
    ∃ l : List Int, l.length = len ∧ Kd.C (Kd.int .i64) w A len l ∧ len ≤ cap ∧ len ≤ maxLen ∧ ∀ x ∈ l, I64 x := by
  refine row_of _ 1 w A len cap I64 (h.imp id fun ⟨ad, e, h1, h2, h3⟩ => ⟨ad, e, h1, h2, fun i hi => ?_⟩)
  obtain ⟨x, hx, hw⟩ := h3 i hi
  refine ⟨x, [.int .i64 x], rfl, rfl, fun j u hj => ?_, i64 hw⟩
  match j, hj with
  | 0, hj => cases hj; exact hx
theorem rows31 (w : World) (A : Option Addr) (len cap : Nat) (h : (A = none ∧ len = 0 ∧ cap = 0) ∨ ∃ ad, A = some ad ∧ len ≤ cap ∧ cap ≤ maxLen ∧ ∀ i, i < len → ∃ (x0 : Int), w.cell? (ad.add (i * 1 + 0)) = some (.int .u8 x0) ∧ (Lit.int .u8 x0).wf = true) :
    ∃ l : List Int, l.length = len ∧ Kd.C (Kd.int .u8) w A len l ∧ len ≤ cap ∧ len ≤ maxLen ∧ Cd.InB l := by
  refine row_of _ 1 w A len cap (fun x => 0 ≤ x ∧ x ≤ 255) (h.imp id fun ⟨ad, e, h1, h2, h3⟩ => ⟨ad, e, h1, h2, fun i hi => ?_⟩)
  obtain ⟨x, hx, hw⟩ := h3 i hi
  refine ⟨x, [.int .u8 x], rfl, rfl, fun j u hj => ?_, by have := bounds_u8 hw; omega⟩
  match j, hj with
  | 0, hj => cases hj; exact hx
theorem rows7 (w : World) (A : Option Addr) (len cap : Nat) (h : (A = none ∧ len = 0 ∧ cap = 0) ∨ ∃ ad, A = some ad ∧ len ≤ cap ∧ cap ≤ maxLen ∧ ∀ i, i < len → ∃ (x0 : Int) (x1 : Int) (x2 : Int) (x3 : Int), w.cell? (ad.add (i * 4 + 0)) = some (.int .i64 x0) ∧ w.cell? (ad.add (i * 4 + 1)) = some (.int .i64 x1) ∧ w.cell? (ad.add (i * 4 + 2)) = some (.int .i64 x2) ∧ w.cell? (ad.add (i * 4 + 3)) = some (.int .i64 x3) ∧ (Lit.int .i64 x0).wf = true ∧ (Lit.int .i64 x1).wf = true ∧ (Lit.int .i64 x2).wf = true ∧ (Lit.int .i64 x3).wf = true) :
    ∃ l : List S51, l.length = len ∧ Kd.C k51 w A len l ∧ len ≤ cap ∧ len ≤ maxLen ∧ ∀ x ∈ l, I64 x.f2 ∧ I64 x.f3 := by
  refine row_of _ 4 w A len cap (fun x : S51 => I64 x.f2 ∧ I64 x.f3) (h.imp id fun ⟨ad, e, h1, h2, h3⟩ => ⟨ad, e, h1, h2, fun i hi => ?_⟩)
  obtain ⟨x0, x1, x2, x3, y0, y1, y2, y3, w0, w1, w2, w3⟩ := h3 i hi
  refine ⟨⟨x0, x1, x2, x3⟩, [.int .i64 x0, .int .i64 x1, .int .i64 x2, .int .i64 x3], rfl, k51_mk w ⟨x0, x1, x2, x3⟩, fun j u hj => ?_, i64 w2, i64 w3⟩
  match j, hj with
  | 0, hj => cases hj; exact y0
  | 1, hj => cases hj; exact y1
  | 2, hj => cases hj; exact y2
  | 3, hj => cases hj; exact y3
theorem rows8 (w : World) (A : Option Addr) (len cap : Nat) (h : (A = none ∧ len = 0 ∧ cap = 0) ∨ ∃ ad, A = some ad ∧ len ≤ cap ∧ cap ≤ maxLen ∧ ∀ i, i < len → ∃ (x0 : Int) (x1 : Int) (x2 : Int) (x3 : Int) (x4 : Int), w.cell? (ad.add (i * 5 + 0)) = some (.int .u64 x0) ∧ w.cell? (ad.add (i * 5 + 1)) = some (.int .u64 x1) ∧ w.cell? (ad.add (i * 5 + 2)) = some (.int .u64 x2) ∧ w.cell? (ad.add (i * 5 + 3)) = some (.int .u64 x3) ∧ w.cell? (ad.add (i * 5 + 4)) = some (.int .u64 x4) ∧ (Lit.int .u64 x0).wf = true ∧ (Lit.int .u64 x1).wf = true ∧ (Lit.int .u64 x2).wf = true ∧ (Lit.int .u64 x3).wf = true ∧ (Lit.int .u64 x4).wf = true) :
    ∃ l : List S54, l.length = len ∧ Kd.C k54 w A len l ∧ len ≤ cap ∧ len ≤ maxLen ∧ ∀ x ∈ l, U64 x.f0 ∧ U64 x.f1 ∧ U64 x.f2 ∧ U64 x.f3 ∧ U64 x.f4 := by
  refine row_of _ 5 w A len cap (fun x : S54 => U64 x.f0 ∧ U64 x.f1 ∧ U64 x.f2 ∧ U64 x.f3 ∧ U64 x.f4) (h.imp id fun ⟨ad, e, h1, h2, h3⟩ => ⟨ad, e, h1, h2, fun i hi => ?_⟩)
  obtain ⟨x0, x1, x2, x3, x4, y0, y1, y2, y3, y4, w0, w1, w2, w3, w4⟩ := h3 i hi
  refine ⟨⟨x0, x1, x2, x3, x4⟩, [.int .u64 x0, .int .u64 x1, .int .u64 x2, .int .u64 x3, .int .u64 x4], rfl, k54_mk w ⟨x0, x1, x2, x3, x4⟩, fun j u hj => ?_, u64 w0, u64 w1, u64 w2, u64 w3, u64 w4⟩
  match j, hj with
  | 0, hj => cases hj; exact y0
  | 1, hj => cases hj; exact y1
  | 2, hj => cases hj; exact y2
  | 3, hj => cases hj; exact y3
  | 4, hj => cases hj; exact y4
theorem rows11 (w : World) (A : Option Addr) (len cap : Nat) (h : (A = none ∧ len = 0 ∧ cap = 0) ∨ ∃ ad, A = some ad ∧ len ≤ cap ∧ cap ≤ maxLen ∧ ∀ i, i < len → ∃ (x0 : Int) (x1 : Int), w.cell? (ad.add (i * 2 + 0)) = some (.int .i64 x0) ∧ w.cell? (ad.add (i * 2 + 1)) = some (.int .i64 x1) ∧ (Lit.int .i64 x0).wf = true ∧ (Lit.int .i64 x1).wf = true) :
    ∃ l : List S45, l.length = len ∧ Kd.C k45 w A len l ∧ len ≤ cap ∧ len ≤ maxLen ∧ ∀ x ∈ l, I64 x.f1 := by
  refine row_of _ 2 w A len cap (fun x : S45 => I64 x.f1) (h.imp id fun ⟨ad, e, h1, h2, h3⟩ => ⟨ad, e, h1, h2, fun i hi => ?_⟩)
  obtain ⟨x0, x1, y0, y1, w0, w1⟩ := h3 i hi
  refine ⟨⟨x0, x1⟩, [.int .i64 x0, .int .i64 x1], rfl, k45_mk w ⟨x0, x1⟩, fun j u hj => ?_, i64 w1⟩
  match j, hj with
  | 0, hj => cases hj; exact y0
  | 1, hj => cases hj; exact y1
end Go.Proofs.Ytkdboaaganmagaa.Th
