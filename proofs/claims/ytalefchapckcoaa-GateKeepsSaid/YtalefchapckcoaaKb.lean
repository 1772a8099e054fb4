/- capstanref25.Keeps in plain Lean: decisions that keep to the rules are told to do so. -/
import Derived.Test.YtalefchapckcoaaOKx2
namespace Go.Proofs.Ytalefchapckcoaa.Kb
set_option linter.unusedVariables false
set_option linter.unusedSimpArgs false
open Go.RowKit Go.Proofs.Ytalefchapckcoaa.Gc Go.Proofs.Ytalefchapckcoaa.OK Go.Proofs.YtalefchapckcoaaW.PrintWords
def J64 (a : Int) : Prop := -9223372036854775808 ≤ a ∧ a ≤ 9223372036854775807
structure KS where
  cnt : Int
  ch : Int
  cd : Bool
/-- A decision that keeps to the rules. -/
structure OkT (r : GR) (s : KS) (x : S43) : Prop where
  lo : ¬ x.f0.f2 < r.mn
  hi : ¬ x.f0.f2 > r.mx
  up : ¬ wrap64 (x.f0.f2 - s.cnt) > r.st
  dn : ¬ wrap64 (s.cnt - x.f0.f2) > r.st
  hold : x.f0.f0 = true → x.f0.f2 = s.cnt
  why : (x.f0.f0 != (x.f0.f1 != 0)) = false
  cup : x.f0.f2 > s.cnt → s.cd = true → Kl.Less.f x.f1 s.ch r.up = some false
  cdn : x.f0.f2 < s.cnt → s.cd = true → Kl.Less.f x.f1 s.ch r.dn = some false
def nextT (s : KS) (x : S43) : KS := if x.f0.f2 = s.cnt then ⟨x.f0.f2, s.ch, s.cd⟩ else ⟨x.f0.f2, x.f1, true⟩
def Kept (r : GR) : KS → List S43 → Prop
  | _, [] => True
  | s, x :: l => OkT r s x ∧ Kept r (nextT s x) l
theorem kept_snoc (r : GR) : ∀ (l : List S43) (s : KS) (x : S43), Kept r s l → OkT r (l.foldl nextT s) x → Kept r s (l ++ [x])
  | [], s, x, _, h => ⟨h, trivial⟩
  | y :: l, s, x, h1, h2 => ⟨h1.1, kept_snoc r l (nextT s y) x h1.2 h2⟩
theorem drop_get (xs : List S43) (i : Nat) (h : i < xs.length) : xs.drop i = xs.getD i z43 :: xs.drop (i + 1) := by
  rw [List.drop_eq_getElem_cons h]; congr 1; simp [List.getD, List.getElem?_eq_getElem h]
theorem j2_no (k : Nat) (l : List S43) (r : GR) (s : KS) (i : Nat) (hi : i < l.length) (hl : l.length ≤ 9223372036854775807) (x : S43) (hx : l.getD i z43 = x) :
    capstanref25_Keeps.j2 (k + 1) l s.cnt s.ch s.cd i x.f0.f2 false r.mn r.mx r.st r.up r.dn = capstanref25_Keeps.l0 k l (nextT s x).cnt (nextT s x).ch (nextT s x).cd (i + 1 : Nat) r.mn r.mx r.st r.up r.dn := by
  have hw : wrap64 ((i : Int) + 1) = ((i + 1 : Nat) : Int) := by unfold wrap64; omega
  have er : rd_T43 l (i : Int) = x := by unfold rd_T43; rw [Int.toNat_natCast, hx]
  rw [capstanref25_Keeps.j2, if_neg (by decide), hw]
  unfold nextT
  by_cases h : x.f0.f2 = s.cnt
  · rw [if_pos h, if_pos h]
  · rw [if_neg h, if_neg h, if_pos (by omega), if_pos (by omega), er]
theorem l0_kept (l : List S43) (r : GR) (hl : l.length ≤ 9223372036854775807) : ∀ (n i : Nat) (s : KS) (K : Nat), i + n = l.length → 3 * n < K → Kept r s (l.drop i) →
    capstanref25_Keeps.l0 K l s.cnt s.ch s.cd i r.mn r.mx r.st r.up r.dn = some true := by
  intro n
  induction n with
  | zero =>
    intro i s K hi hK _
    obtain ⟨K, rfl⟩ : ∃ m, K = m + 1 := ⟨K - 1, by omega⟩
    rw [capstanref25_Keeps.l0, if_neg (by omega)]
  | succ n ih =>
    intro i s K hi hK hk
    obtain ⟨K, rfl⟩ : ∃ m, K = m + 1 + 1 + 1 := ⟨K - 3, by omega⟩
    rw [drop_get l i (by omega)] at hk
    obtain ⟨ok, hrest⟩ := hk
    obtain ⟨x, hx⟩ : ∃ x, l.getD i z43 = x := ⟨_, rfl⟩
    rw [hx] at ok hrest
    have er : rd_T43 l (i : Int) = x := by unfold rd_T43; rw [Int.toNat_natCast, hx]
    have fin := (j2_no K l r s i (by omega) hl x hx).trans (ih (i + 1) (nextT s x) K (by omega) (by omega) hrest)
    have fin1 : capstanref25_Keeps.j1 (K + 1 + 1) l s.cnt s.ch s.cd i x.f0.f2 false r.mn r.mx r.st r.up r.dn = some true := by
      rw [capstanref25_Keeps.j1, if_neg (by decide), er]
      by_cases h1 : x.f0.f2 > s.cnt
      · rw [if_pos h1]
        by_cases h2 : s.cd = true
        · rw [if_pos h2, if_pos (by omega), if_pos (by omega), ok.cup h1 h2, Option.bind_some, if_neg (by decide), if_neg (by omega)]
          exact fin
        · rw [if_neg h2, if_neg (by omega)]
          exact fin
      · rw [if_neg h1]
        by_cases h3 : x.f0.f2 < s.cnt
        · rw [if_pos h3]
          by_cases h2 : s.cd = true
          · rw [if_pos h2, if_pos (by omega), if_pos (by omega), ok.cdn h3 h2, Option.bind_some]
            exact fin
          · rw [if_neg h2]
            exact fin
        · rw [if_neg h3]
          exact fin
    rw [capstanref25_Keeps.l0, if_pos (by omega), if_pos (by omega), er, if_neg ok.lo, if_neg ok.hi, if_neg ok.up, if_neg ok.dn]
    by_cases h : x.f0.f0 = true
    · rw [if_pos h, if_pos (ok.hold h), ok.why]
      exact fin1
    · rw [if_neg h, ok.why]
      exact fin1
theorem keeps_any (r : GR) (start : Int) (A : Option Addr) (c : Nat) (l : List S43) (w : World) (hr : Kd.C k43 w A l.length l) (hc : l.length ≤ c) (hk : Kept r ⟨start, 0, false⟩ l) :
    Calls Try.prog 13 #[rv r, .int .i64 start, .slice A l.length c] w fun e w' => e = .returned (.bool true) ∧ Below w.heap.size w w' := by
  refine capstanref25_Keeps.calls (3 * l.length + 1) r.mn r.mx r.st r.up r.dn start A c l true w hr hc ?_ rfl
  unfold capstanref25_Keeps.f
  exact l0_kept l r hr.2.1 l.length 0 ⟨start, 0, false⟩ _ (by omega) (by omega) hk
end Go.Proofs.Ytalefchapckcoaa.Kb
