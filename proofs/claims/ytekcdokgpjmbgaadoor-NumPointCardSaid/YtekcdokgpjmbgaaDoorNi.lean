/- num.Read and the reference's Read answer alike. -/
import Derived.Test.YtekcdokgpjmbgaaDoorNg
import Derived.Test.YtekcdokgpjmbgaaDoorNb
import Derived.Test.YtekcdokgpjmbgaaDoorOAx9
namespace Go.Proofs.YtekcdokgpjmbgaaDoor.Ni
set_option linter.unusedVariables false
set_option linter.unusedSimpArgs false
open Go.RowKit Go.Proofs.YtekcdokgpjmbgaaDoorW.PrintWords Go.Proofs.YtekcdokgpjmbgaaDoor.OA Go.Proofs.YtekcdokgpjmbgaaDoor.Nd Go.Proofs.YtekcdokgpjmbgaaDoor.Ne Go.Proofs.YtekcdokgpjmbgaaDoor.Nf Go.Proofs.YtekcdokgpjmbgaaDoor.Ng Go.Proofs.YtekcdokgpjmbgaaDoor.Nb
def fin (v : Nat) : Option Nat := if v ≤ 9223372036854775807 then some v else none
def num (w p : List UInt8) : Nat := val 0 (w ++ (p ++ padN (6 - p.length)))
def restL (w : List UInt8) : List UInt8 → Option Nat
  | [] => fin (num w [])
  | c :: p => if c = 46 ∧ p.all isD = true ∧ 1 ≤ p.length ∧ p.length ≤ 6 then fin (num w p) else none
def readL (l : List UInt8) : Option Nat :=
  if D l = [] ∨ (1 < (D l).length ∧ (D l).head? = some 48) then none else restL (D l) (l.drop (D l).length)
def ansR : Option Nat → Int × Int
  | none => (0, 13)
  | some v => (v, 0)
theorem D_all (w : List UInt8) (h : w.all isD = true) (r : List UInt8) (hr : ∀ c r', r = c :: r' → isD c = false) : D (w ++ r) = w := by
  induction w with
  | nil =>
    cases r with
    | nil => rfl
    | cons c r' => unfold D; rw [List.nil_append, List.takeWhile_cons, if_neg (by rw [hr c r' rfl]; decide)]
  | cons a w ih =>
    rw [List.all_cons, Bool.and_eq_true] at h
    have := ih h.2
    unfold D at this ⊢
    rw [List.cons_append, List.takeWhile_cons, if_pos h.1, this]
theorem not_all (w : List UInt8) (h : ¬ w.all isD = true) : ∃ u c v, w = u ++ c :: v ∧ u.all isD = true ∧ isD c = false := by
  induction w with
  | nil => exact absurd rfl h
  | cons a w ih =>
    by_cases ha : isD a = true
    · obtain ⟨u, c, v, e, h1, h2⟩ := ih (by intro hw; apply h; rw [List.all_cons, ha, hw]; rfl)
      exact ⟨a :: u, c, v, by rw [e]; rfl, by rw [List.all_cons, ha, h1]; rfl, h2⟩
    · exact ⟨[], a, w, rfl, rfl, by simpa using ha⟩
theorem read_not (w r : List UInt8) (h : ¬ w.all isD = true) (h46 : ∀ c ∈ w, c ≠ 46) : readL (w ++ r) = none := by
  obtain ⟨u, c, v, e, h1, h2⟩ := not_all w h
  have eD : D (w ++ r) = u := by
    rw [e, List.append_assoc]
    exact D_all u h1 _ (fun c' r' e' => by injection e' with e1 _; rw [← e1]; exact h2)
  unfold readL
  rw [eD]
  split
  · rfl
  · have ed : (w ++ r).drop u.length = c :: (v ++ r) := by rw [e, List.append_assoc, List.drop_left]; rfl
    rw [ed, restL, if_neg (by intro hh; exact h46 c (by rw [e]; simp) hh.1)]
theorem dot_isD : isD 46 = false := by decide
theorem read_dot (w p : List UInt8) (h : w.all isD = true) : readL (w ++ 46 :: p) = if w = [] ∨ (1 < w.length ∧ w.head? = some 48) then none else if p.all isD = true ∧ 1 ≤ p.length ∧ p.length ≤ 6 then fin (num w p) else none := by
  have eD : D (w ++ 46 :: p) = w := D_all w h _ (fun c' r' e' => by injection e' with e1 _; rw [← e1]; exact dot_isD)
  unfold readL
  rw [eD, List.drop_left, restL]
  simp only [true_and]
theorem read_whole (w : List UInt8) (h : w.all isD = true) : readL w = if w = [] ∨ (1 < w.length ∧ w.head? = some 48) then none else fin (num w []) := by
  have eD : D w = w := by have := D_all w h [] (fun c' r' e' => by cases e'); rwa [List.append_nil] at this
  unfold readL
  rw [eD, List.drop_length, restL]
theorem num_is (w p : List UInt8) (hp : p.length ≤ 6) : num w p = val 0 w * 1000000 + val 0 (p ++ padN (6 - p.length)) := by
  unfold num
  rw [val_app, val_add]
  have : (p ++ padN (6 - p.length)).length = 6 := by rw [List.length_append]; simp [padN]; omega
  rw [this]
/-! ### Go's -/
theorem digB_is (w : List UInt8) : digB (B w) = (w.all isD && decide (w ≠ [])) := by
  unfold digB
  rw [B_toList, B_list]
  congr 1
  cases w <;> simp
theorem head_is (w : List UInt8) (h : w.all isD = true) : (decide (((B w).size : Int) > 1) && decide (bt (B w) 0 = 48)) = decide (1 < w.length ∧ w.head? = some 48) := by
  cases w with
  | nil => simp [B_size]
  | cons c r =>
    rw [B_bt, B_size, Bool.eq_iff_iff]
    simp only [Bool.and_eq_true, decide_eq_true_eq, List.head?_cons, Option.some.injEq, List.length_cons]
    constructor
    · rintro ⟨h1, h2⟩
      exact ⟨by omega, UInt8.toNat_inj.1 (by show c.toNat = 48; omega)⟩
    · rintro ⟨h1, rfl⟩
      exact ⟨by omega, rfl⟩
theorem go_cond (K : Nat) (s : ByteArray) (hs : s.size ≤ 281474976710656) (hK : s.size < K) : num_Read.f K s = num_Read.j0 K (Na.cutF s 46).1 (Na.cutF s 46).2.1 (badF (Na.cutF s 46).1 (Na.cutF s 46).2.1 (Na.cutF s 46).2.2) := by
  have h1 : (Na.cutF s 46).1.size ≤ s.size := by
    unfold Na.cutF; split
    · simp only [ByteArray.size_extract]; omega
    · exact Nat.le_refl _
  have h2 : (Na.cutF s 46).2.1.size ≤ s.size := by
    unfold Na.cutF; split
    · simp only [ByteArray.size_extract]; omega
    · exact Nat.zero_le _
  unfold num_Read.f
  have hc : Na.cut.f s ⟨#[46]⟩ = some (Na.cutF s 46) := by unfold Na.cut.f; rw [if_pos ⟨by omega, rfl⟩]
  rw [hc, Option.bind_some]
  generalize Na.cutF s 46 = t at h1 h2 ⊢
  obtain ⟨whole, part, pointed⟩ := t
  simp only at h1 h2 ⊢
  rw [digits_f whole (by omega) K (by omega), Option.bind_some, digits_f part (by omega) K (by omega)]
  unfold badF
  cases hd : digB whole with
  | false => rw [if_neg (by decide)]; rfl
  | true =>
    rw [if_pos rfl]
    have tl : (if pointed = true then ((some (digB part)).bind fun t105 => (if t105 = true then (num_Read.j0 K whole part (decide ((part.size : Int) > 6))) else (num_Read.j0 K whole part true))) else (num_Read.j0 K whole part false)) = num_Read.j0 K whole part (pointed && (!digB part || decide ((part.size : Int) > 6))) := by
      cases pointed with
      | false => rw [if_neg (by decide)]; rfl
      | true =>
        rw [if_pos rfl, Option.bind_some]
        cases digB part with
        | false => rw [if_neg (by decide)]; rfl
        | true => rw [if_pos rfl]; rfl
    rw [tl]
    by_cases hg : (whole.size : Int) > 1
    · rw [if_pos hg, if_pos (by omega), decide_eq_true hg]
      by_cases hb : bt whole 0 = 48
      · rw [if_pos hb, decide_eq_true hb]; rfl
      · rw [if_neg hb, decide_eq_false hb]; rfl
    · rw [if_neg hg, decide_eq_false hg]; rfl
theorem go_j0 (w p : List UInt8) (K : Nat) (hw : w.all isD = true) (hne : w ≠ []) (hp : p.all isD = true) (hpl : p.length ≤ 6) (hsz : w.length ≤ 281474976710656) (hv : val 0 w ≤ 18446744073709551615) :
    num_Read.j0 (K + 2) (B w) (B p) false = some (ansR (fin (num w p))) := by
  have hpu : Na.pu.f (B w) 10 64 = some ((val 0 w : Int), none) := by
    unfold Na.pu.f
    rw [if_pos ⟨by rw [B_size]; omega, rfl, rfl⟩, B_list, pub w hw hne, if_pos hv]
  have hnum := num_is w p hpl
  have hq : (p ++ padN (6 - p.length)).all isD = true := by
    rw [List.all_append, hp, Bool.true_and]
    unfold padN
    rw [List.all_replicate]
    simp
    exact .inr (by decide)
  have hql : (p ++ padN (6 - p.length)).length = 6 := by rw [List.length_append]; simp [padN]; omega
  have hf := val_lt 0 _ hq
  rw [hql] at hf
  have hpu2 : Na.pu.f (((B p) ++ (⟨#[48, 48, 48, 48, 48, 48]⟩ : ByteArray)).extract 0 6) 10 64 = some ((val 0 (p ++ padN (6 - p.length)) : Int), none) := by
    have e : ((B p) ++ (⟨#[48, 48, 48, 48, 48, 48]⟩ : ByteArray)).extract 0 6 = B (p ++ padN (6 - p.length)) := by
      have e1 : (⟨#[48, 48, 48, 48, 48, 48]⟩ : ByteArray) = B (padN 6) := rfl
      rw [e1, B_app, B_ext, List.drop_zero]
      congr 1
      rw [List.take_append, List.take_of_length_le hpl]
      congr 1
      unfold padN
      rw [List.take_replicate]
      congr 1
      omega
    unfold Na.pu.f
    rw [e, if_pos ⟨by rw [B_size, hql]; omega, rfl, rfl⟩, B_list, pub _ hq (by intro e; rw [e] at hql; simp at hql), if_pos (by omega)]
  rw [num_Read.j0, if_neg (by decide), hpu, Option.bind_some, if_pos (by rfl), num_Read.j1]
  show (if decide ((val 0 w : Int) > 9223372036854) = true then _ else _) = _
  rw [hnum]
  generalize val 0 w = V at hv ⊢
  by_cases hV : (V : Int) > 9223372036854
  · rw [decide_eq_true hV, if_pos rfl]
    unfold fin
    rw [if_neg (by omega)]
    rfl
  · rw [decide_eq_false hV, if_neg (by decide), if_pos (by rw [B_size]; omega), if_pos (by omega), if_pos (by
      have e1 : (⟨#[48, 48, 48, 48, 48, 48]⟩ : ByteArray) = B (padN 6) := rfl
      rw [e1, B_app, B_size, List.length_append]; simp [padN]; omega), hpu2, Option.bind_some]
    show (if IntKind.u64.wrap (IntKind.u64.wrap ((V : Int) * 1000000) + (val 0 (p ++ padN (6 - p.length)) : Int)) > 9223372036854775807 then _ else some (wrap64 (IntKind.u64.wrap (IntKind.u64.wrap ((V : Int) * 1000000) + (val 0 (p ++ padN (6 - p.length)) : Int))), _)) = _
    generalize val 0 (p ++ padN (6 - p.length)) = f at hf ⊢
    have e2 : IntKind.u64.wrap (IntKind.u64.wrap ((V : Int) * 1000000) + (f : Int)) = ((V * 1000000 + f : Nat) : Int) := by
      rw [IntKind.wrap_u64, IntKind.wrap_u64]; omega
    rw [e2]
    unfold fin
    by_cases hm : V * 1000000 + f ≤ 9223372036854775807
    · rw [if_neg (by omega), if_pos hm, w64 (by omega) (by omega)]; rfl
    · rw [if_pos (by omega), if_neg hm]; rfl
theorem cut_cases (l : List UInt8) : ((∀ c ∈ l, c ≠ 46) ∧ Na.cutF (B l) 46 = (B l, B [], false)) ∨ ∃ w p, l = w ++ 46 :: p ∧ (∀ c ∈ w, c ≠ 46) ∧ Na.cutF (B l) 46 = (B w, B p, true) := by
  have hge := Lib.indexByte_ge l 46
  by_cases h : 0 ≤ Lib.indexByte l 46
  · right
    obtain ⟨k, hk⟩ : ∃ k : Nat, Lib.indexByte l 46 = k := ⟨(Lib.indexByte l 46).toNat, by omega⟩
    obtain ⟨h1, h2⟩ := Lib.indexByte_some hk
    obtain ⟨h3, h4⟩ := List.getElem?_eq_some_iff.1 h1
    refine ⟨l.take k, l.drop (k + 1), ?_, ?_, ?_⟩
    · rw [← h4]
      rw [← List.drop_eq_getElem_cons h3, List.take_append_drop]
    · intro c hc e
      subst e
      obtain ⟨j, hj⟩ := List.getElem?_of_mem hc
      have hjl := (List.getElem?_eq_some_iff.1 hj).1
      rw [List.length_take] at hjl
      rw [List.getElem?_take, if_pos (by omega)] at hj
      exact h2 j (by omega) hj
    · unfold Na.cutF
      rw [B_list, if_pos h, hk, B_ext, B_ext, B_size, Int.toNat_natCast, List.drop_zero, List.take_length]
      rfl
  · left
    have hm : Lib.indexByte l 46 = -1 := by omega
    refine ⟨fun c hc e => ?_, ?_⟩
    · subst e
      obtain ⟨j, hj⟩ := List.getElem?_of_mem hc
      exact Lib.indexByte_none hm j hj
    · unfold Na.cutF
      rw [B_list, if_neg h]
      rfl
theorem go_read (l : List UInt8) (hl : l.length ≤ 281474976710656) (K : Nat) (hK : l.length + 10 < K) : Nb.Read.f K (B l) = some (ansR (readL l)) := by
  have hgc := go_cond K (B l) (by rw [B_size]; exact hl) (by rw [B_size]; omega)
  obtain ⟨K, rfl⟩ : ∃ k, K = k + 2 := ⟨K - 2, by omega⟩
  have bad : ∀ x y, num_Read.j0 (K + 2) x y true = some (ansR none) := by
    intro x y; rw [num_Read.j0, if_pos rfl]; rfl
  -- what both tests come to
  have key : ∀ (w p : List UInt8) (pt : Bool), Na.cutF (B l) 46 = (B w, B p, pt) → w.length ≤ l.length → (pt = false → p = []) →
      readL l = (if badF (B w) (B p) pt = true then none else fin (num w p)) → Nb.Read.f (K + 2) (B l) = some (ansR (readL l)) := by
    intro w p pt hc hwl hpt hr
    unfold Nb.Read.f
    rw [hc] at hgc
    simp only at hgc
    have hbig : bigF (B l) = (!badF (B w) (B p) pt && decide (18446744073709551615 < val 0 w)) := by unfold bigF; rw [hc]; rfl
    rw [hbig, hgc, hr]
    cases hb : badF (B w) (B p) pt with
    | true => rw [if_neg (by simp), if_pos rfl]; exact bad _ _
    | false =>
      rw [if_neg (by decide : ¬ false = true)]
      have hb2 := hb
      unfold badF at hb2
      rw [Bool.or_eq_false_iff, Bool.or_eq_false_iff, Bool.not_eq_false', digB_is, Bool.and_eq_true, decide_eq_true_eq] at hb2
      obtain ⟨⟨hw, hne⟩, hh, hpp⟩ := hb2
      have hp : p.all isD = true ∧ p.length ≤ 6 := by
        cases pt with
        | false => rw [hpt rfl]; exact ⟨rfl, by simp⟩
        | true =>
          rw [Bool.true_and, Bool.or_eq_false_iff, Bool.not_eq_false', digB_is, Bool.and_eq_true, B_size] at hpp
          exact ⟨hpp.1.1, by have := hpp.2; simp at this; omega⟩
      by_cases hv : val 0 w ≤ 18446744073709551615
      · rw [if_neg (by rw [decide_eq_false (by omega)]; simp)]
        exact go_j0 w p K hw hne hp.1 hp.2 (by omega) hv
      · rw [if_pos ⟨by rw [B_size]; exact hl, by rw [decide_eq_true (by omega)]; rfl⟩]
        unfold fin
        rw [num_is w p hp.2, if_neg (by omega)]
        rfl
  rcases cut_cases l with ⟨h46, hc⟩ | ⟨w, p, e, h46, hc⟩
  · refine key l [] false hc (Nat.le_refl _) (fun _ => rfl) ?_
    by_cases hw : l.all isD = true
    · rw [read_whole l hw]
      have : badF (B l) (B []) false = decide (l = [] ∨ 1 < l.length ∧ l.head? = some 48) := by
        unfold badF
        rw [digB_is, hw, head_is l hw]
        by_cases hn : l = []
        · simp [hn]
        · simp [hn]
      rw [this]
      by_cases hh : l = [] ∨ 1 < l.length ∧ l.head? = some 48
      · rw [if_pos hh, if_pos (decide_eq_true hh)]
      · rw [if_neg hh, if_neg (by rw [decide_eq_false hh]; decide)]
    · have := read_not l [] hw h46
      rw [List.append_nil] at this
      rw [this]
      have hb : badF (B l) (B []) false = true := by
        unfold badF
        rw [digB_is]
        have : l.all isD = false := by simpa using hw
        rw [this]; rfl
      rw [if_pos hb]
  · refine key w p true hc (by rw [e, List.length_append]; omega) (fun h => by cases h) ?_
    by_cases hw : w.all isD = true
    · rw [e, read_dot w p hw]
      have hbd : badF (B w) (B p) true = (decide (w = [] ∨ 1 < w.length ∧ w.head? = some 48) || !decide (p.all isD = true ∧ 1 ≤ p.length ∧ p.length ≤ 6)) := by
        unfold badF
        rw [digB_is, hw, head_is w hw, digB_is, B_size, Bool.true_and]
        have e1 : decide ((p.length : Int) > 6) = !decide (p.length ≤ 6) := by
          by_cases h : p.length ≤ 6
          · rw [decide_eq_true h, decide_eq_false (by omega)]; rfl
          · rw [decide_eq_false h, decide_eq_true (by omega)]; rfl
        have e2 : decide (p ≠ []) = decide (1 ≤ p.length) := by
          cases p <;> simp
        rw [e1, e2]
        by_cases hn : w = [] <;> by_cases h2 : p.all isD = true <;> by_cases h3 : 1 ≤ p.length <;> by_cases h4 : p.length ≤ 6 <;> simp [hn, h2, h3, h4]
      rw [hbd]
      by_cases hh : w = [] ∨ 1 < w.length ∧ w.head? = some 48
      · rw [if_pos hh, if_pos (by rw [decide_eq_true hh]; rfl)]
      · rw [if_neg hh, decide_eq_false hh, Bool.false_or]
        by_cases h2 : p.all isD = true ∧ 1 ≤ p.length ∧ p.length ≤ 6
        · rw [if_pos h2, decide_eq_true h2, if_neg (by decide)]
        · rw [if_neg h2, decide_eq_false h2, if_pos (by rfl)]
    · rw [e, read_not w (46 :: p) hw h46]
      have hb : badF (B w) (B p) true = true := by
        unfold badF
        rw [digB_is]
        have : w.all isD = false := by simpa using hw
        rw [this]; rfl
      rw [if_pos hb]
/-! ### the reference's -/
theorem val_mono (l r : List UInt8) (a : Nat) : val a l ≤ val a (l ++ r) := by rw [val_app]; exact val_le _ r
theorem val_a_mono (a b : Nat) (h : a ≤ b) (l : List UInt8) : val a l ≤ val b l := by
  rw [val_add a, val_add b]
  exact Nat.add_le_add_right (Nat.mul_le_mul_right _ h) _
theorem more_le (n d : Nat) (h : ¬ (n : Int) > (9223372036854775807 - (d : Int)) / 10) : 10 * n + d ≤ 9223372036854775807 := by omega
theorem more_gt (n d : Nat) (hd : d ≤ 9) (h : (n : Int) > (9223372036854775807 - (d : Int)) / 10) : ¬ 10 * n + d ≤ 9223372036854775807 := by omega
theorem more_w (n d : Nat) (h : 10 * n + d ≤ 9223372036854775807) : wrap64 (wrap64 (10 * (n : Int)) + (d : Int)) = ((10 * n + d : Nat) : Int) := by
  rw [w64 (a := 10 * (n : Int)) (by omega) (by omega), w64 (by omega) (by omega)]; omega
theorem more_m (c : Nat) (h : 48 ≤ c) (h2 : c ≤ 57) : ((c : Int) - 48) % 256 = ((c - 48 : Nat) : Int) := by omega
theorem ref_loop (s : ByteArray) (k f : Nat) (hk : k ≤ 281474976710656) (hs : s.size ≤ 281474976710656) (ds : List UInt8) (hds : ds.all isD = true) (hlen : ds.length = k + 6)
    (hd : ∀ i, i < k + 6 → (i < k → i < s.size ∧ bt s (i : Int) = ((ds.getD i 0).toNat : Int)) ∧ (¬ i < k → i - k < f → i + 1 < s.size ∧ bt s ((i + 1 : Nat) : Int) = ((ds.getD i 0).toNat : Int)) ∧ (¬ i < k → ¬ i - k < f → ds.getD i 0 = 48)) :
    ∀ (m i n K : Nat), i + m = k + 6 → 2 * m + 2 < K → n ≤ 9223372036854775807 → capstanref10_Read.l0 K s (k : Int) (f : Int) (n : Int) true (i : Int) = some (ansR (fin (val n (ds.drop i)))) := by
  intro m
  induction m with
  | zero =>
    intro i n K hi hK hn
    obtain ⟨K, rfl⟩ : ∃ k, K = k + 2 := ⟨K - 2, by omega⟩
    rw [capstanref10_Read.l0, w64 (by omega) (by omega), if_neg (by omega), capstanref10_Read.j3, if_neg (by decide), if_pos rfl, List.drop_eq_nil_of_le (by omega)]
    unfold fin
    rw [if_pos (show val n [] ≤ _ from hn)]
    rfl
  | succ m ih =>
    intro i n K hi hK hn
    obtain ⟨K, rfl⟩ : ∃ k, K = k + 2 := ⟨K - 2, by omega⟩
    have hil : i < ds.length := by omega
    have hw1 : wrap64 ((i : Int) + 1) = ((i + 1 : Nat) : Int) := by rw [w64 (by omega) (by omega)]; omega
    rw [capstanref10_Read.l0, w64 (by omega) (by omega), if_pos (by omega), capstanref10_Read.j3, if_pos rfl, hw1]
    have hdi : ds.drop i = ds.getD i 0 :: ds.drop (i + 1) := by
      rw [List.drop_eq_getElem_cons hil]; congr 1; simp [List.getD, List.getElem?_eq_getElem hil]
    obtain ⟨c, hc⟩ : ∃ c, ds.getD i 0 = c := ⟨_, rfl⟩
    have hcD : isD c = true := by
      have : c ∈ ds := by rw [← hc]; simp [List.getD, List.getElem?_eq_getElem hil]
      exact List.all_eq_true.1 hds c this
    have hcr := (isD_iff c).1 hcD
    rw [hdi, hc, val_cons]
    have hdd := hd i (by omega)
    rw [hc] at hdd
    -- one digit more
    have more : ∀ (Q : Int × Bool → Option (Int × Int)), (Q = fun bt => capstanref10_Read.l0 K s (k : Int) (f : Int) bt.1 bt.2 ((i + 1 : Nat) : Int)) →
        (capstanref10_more.f (n : Int) (c.toNat : Int)).bind Q = some (ansR (fin (val (10 * n + (c.toNat - 48)) (ds.drop (i + 1))))) := by
      intro Q hQ
      subst hQ
      unfold capstanref10_more.f
      have hd9 : c.toNat - 48 ≤ 9 := by omega
      rw [more_m c.toNat (by omega) (by omega)]
      clear hdd hcr hcD hc hdi hd
      generalize c.toNat - 48 = d at hd9 ⊢
      by_cases hbig : (n : Int) > (9223372036854775807 - (d : Int)) / 10
      · rw [if_pos hbig, Option.bind_some]
        have hg := more_gt n d hd9 hbig
        have hv := val_le (10 * n + d) (ds.drop (i + 1))
        have hfin : fin (val (10 * n + d) (ds.drop (i + 1))) = none := by unfold fin; rw [if_neg (fun h => hg (Nat.le_trans hv h))]
        rw [hfin]
        clear hg hv hfin hbig ih
        obtain ⟨K', rfl⟩ : ∃ q, K = q + 2 := ⟨K - 2, by omega⟩
        show capstanref10_Read.l0 (K' + 2) s (k : Int) (f : Int) 0 false ((i + 1 : Nat) : Int) = _
        rw [capstanref10_Read.l0]
        split
        · rw [capstanref10_Read.j3, if_neg (by decide), if_neg (by decide)]; rfl
        · rw [capstanref10_Read.j3, if_neg (by decide), if_neg (by decide)]; rfl
      · rw [if_neg hbig, Option.bind_some]
        have hle := more_le n d hbig
        show capstanref10_Read.l0 K s (k : Int) (f : Int) (wrap64 (wrap64 (10 * (n : Int)) + (d : Int))) true ((i + 1 : Nat) : Int) = _
        rw [more_w n d hle]
        exact ih (i + 1) (10 * n + d) K (by omega) (by omega) hle
    by_cases h1 : i < k
    · obtain ⟨g1, g2⟩ := hdd.1 h1
      rw [if_pos (by omega), if_pos (by omega), if_pos (by omega), g2]
      exact more _ rfl
    · rw [if_neg (by omega), show wrap64 ((i : Int) - (k : Int)) = ((i - k : Nat) : Int) by rw [w64 (by omega) (by omega)]; omega]
      by_cases h2 : i - k < f
      · obtain ⟨g1, g2⟩ := hdd.2.1 h1 h2
        rw [if_pos (by omega), if_pos (by omega), if_pos (by omega), g2]
        exact more _ rfl
      · have g := hdd.2.2 h1 h2
        subst g
        rw [if_neg (by omega)]
        exact more _ rfl
theorem B_at (l : List UInt8) (i : Nat) (h : i < l.length) : bt (B l) (i : Int) = ((l.getD i 0).toNat : Int) := by
  rw [bt_nat (B l) i (by rw [B_size]; exact h)]
  have : (B l)[i]'(by rw [B_size]; exact h) = l[i] := rfl
  rw [this]
  simp [List.getD, List.getElem?_eq_getElem h]
theorem D_pre (l : List UInt8) : ∃ r, l = D l ++ r ∧ r = l.drop (D l).length := by
  refine ⟨l.drop (D l).length, ?_, rfl⟩
  have hp : D l <+: l := List.takeWhile_prefix isD
  obtain ⟨r, hr⟩ := hp
  rw [← hr]
  have : D (D l ++ r) = D l := by rw [hr]
  rw [this, List.drop_left]
theorem D_isD (l : List UInt8) : (D l).all isD = true := by
  induction l with
  | nil => rfl
  | cons a l ih =>
    unfold D at ih ⊢
    rw [List.takeWhile_cons]
    by_cases h : isD a = true
    · rw [if_pos h, List.all_cons, h, ih]; rfl
    · rw [if_neg h]; rfl
theorem D_whole (p : List UInt8) : (D p).length = p.length ↔ p.all isD = true := by
  constructor
  · intro h
    obtain ⟨r, h1, _⟩ := D_pre p
    have : r = [] := by
      have := congrArg List.length h1
      rw [List.length_append] at this
      exact List.eq_nil_of_length_eq_zero (by omega)
    rw [this, List.append_nil] at h1
    rw [h1]; exact D_isD p
  · intro h
    have := D_all p h [] (fun c r' e => by cases e)
    rw [List.append_nil] at this
    rw [this]
theorem L_B (l : List UInt8) (i : Nat) : L (B l) i = l.drop i := rfl
theorem pad_all (k : Nat) : (padN k).all isD = true := by
  unfold padN
  rw [List.all_replicate]
  simp
  exact .inr (by decide)
theorem ref_read (l : List UInt8) (hl : l.length ≤ 281474976710600) (K : Nat) (hK : 2 * l.length + 40 < K) : capstanref10_Read.f K (B l) = some (ansR (readL l)) := by
  obtain ⟨K, rfl⟩ : ∃ k, K = k + 2 := ⟨K - 2, by omega⟩
  have hsz : (B l).size = l.length := B_size l
  unfold capstanref10_Read.f
  have hrun := run_f (B l) (by omega) 0 (by omega) (K + 2) (by omega)
  have hrun' : capstanref10_run.f (K + 2) (B l) 0 = some ((D l).length : Int) := by rw [show (0 : Int) = ((0 : Nat) : Int) from rfl, hrun, L_B]; rfl
  rw [hrun', Option.bind_some]
  obtain ⟨r, hlr, hrd⟩ := D_pre l
  have hDall := D_isD l
  have hDl : (D l).length ≤ l.length := by have := congrArg List.length hlr; rw [List.length_append] at this; omega
  have bad : capstanref10_Read.j0 (K + 2) (B l) ((D l).length : Int) true = some (ansR none) := by rw [capstanref10_Read.j0, if_pos rfl]; rfl
  by_cases h0 : D l = []
  · have hR : readL l = none := by unfold readL; rw [if_pos (.inl h0)]
    rw [hR, if_pos (by rw [h0]; rfl)]
    exact bad
  · have hR1 : (1 < (D l).length ∧ (D l).head? = some 48) → readL l = none := fun h => by unfold readL; rw [if_pos (.inr h)]
    have hR2 : ¬ (1 < (D l).length ∧ (D l).head? = some 48) → readL l = restL (D l) r := fun h => by unfold readL; rw [if_neg (by rintro (h1 | h1); exact h0 h1; exact h h1), ← hrd]
    have hpos := List.length_pos_iff.2 h0
    rw [if_neg (by omega)]
    -- the rest, once the head is right
    have good : capstanref10_Read.j0 (K + 2) (B l) ((D l).length : Int) false = some (ansR (restL (D l) r)) := by
      rw [capstanref10_Read.j0, if_neg (by decide)]
      cases hr : r with
      | nil =>
        rw [hr, List.append_nil] at hlr
        have hkl : (D l).length = l.length := by rw [← hlr]
        rw [if_neg (by rw [hsz]; omega), capstanref10_Read.j1, restL]
        have hd := ref_loop (B l) (D l).length 0 (by omega) (by omega) (D l ++ padN 6) (by rw [List.all_append, hDall, pad_all]; rfl) (by rw [List.length_append]; simp [padN]) (by
          intro i hi
          refine ⟨fun h => ⟨by omega, ?_⟩, fun _ h => by omega, fun h _ => ?_⟩
          · rw [B_at l i (by omega), ← hlr]
            simp only [List.getD, List.getElem?_append_left (show i < l.length by rw [← hkl]; exact h)]
          · simp only [List.getD]
            rw [List.getElem?_append_right (by omega)]
            unfold padN
            rw [List.getElem?_replicate, if_pos (by omega)]
            rfl) ((D l).length + 6) 0 0 K (by omega) (by omega) (by omega)
        have hd' : capstanref10_Read.l0 K (B l) ((D l).length : Int) 0 0 true 0 = some (ansR (fin (val 0 (D l ++ padN 6)))) := hd
        rw [hd']
        rfl
      | cons c p =>
        have hll : l.length = (D l).length + (p.length + 1) := by have := congrArg List.length hlr; rw [hr, List.length_append, List.length_cons] at this; exact this
        have hw1 : wrap64 (((D l).length : Int) + 1) = (((D l).length + 1 : Nat) : Int) := by rw [w64 (by omega) (by omega)]; omega
        have hdrop : l.drop ((D l).length + 1) = p := by
          have e1 : l.drop (D l).length = c :: p := by rw [← hrd, hr]
          rw [← List.drop_drop, e1]; rfl
        have hDp : (D p).length ≤ p.length := (List.takeWhile_prefix isD).length_le
        rw [if_pos (by rw [hsz]; omega), hw1, run_f (B l) (by omega) ((D l).length + 1) (by omega) (K + 1) (by omega), L_B, hdrop, Option.bind_some, if_pos (by omega), B_at l (D l).length (by omega)]
        have hgc : l.getD (D l).length 0 = c := by
          have e1 : l.drop (D l).length = c :: p := by rw [← hrd, hr]
          have := List.getElem?_drop (xs := l) (i := (D l).length) (j := 0)
          rw [e1] at this
          simp only [List.getD]
          rw [Nat.add_zero] at this
          rw [← this]; rfl
        rw [hgc, restL]
        by_cases h46 : c = 46
        · subst h46
          rw [if_pos (by rfl)]
          have hw2 : wrap64 ((((D l).length + 1 : Nat) : Int) + ((D p).length : Int)) = (((D l).length + 1 + (D p).length : Nat) : Int) := by rw [w64 (by omega) (by omega)]; omega
          rw [hw2]
          by_cases hf1 : (D p).length < 1
          · rw [if_pos (by omega), if_neg (by
              rintro ⟨_, h2, h3, _⟩
              have := (D_whole p).2 h2
              omega)]
            rfl
          · rw [if_neg (by omega)]
            by_cases hf6 : (D p).length > 6
            · rw [if_pos (by omega), if_neg (by
                rintro ⟨_, h2, _, h4⟩
                have := (D_whole p).2 h2
                omega)]
              rfl
            · rw [if_neg (by omega)]
              by_cases hall : (D p).length = p.length
              · have hpall := (D_whole p).1 hall
                rw [if_pos (by rw [hsz]; omega), if_pos ⟨rfl, hpall, by omega, by omega⟩, capstanref10_Read.j1, hall]
                have hd := ref_loop (B l) (D l).length p.length (by omega) (by omega) (D l ++ (p ++ padN (6 - p.length))) (by rw [List.all_append, List.all_append, hDall, pad_all, hpall]; rfl) (by rw [List.length_append, List.length_append]; simp [padN]; omega) (by
                  intro i hi
                  have hl2 : l = D l ++ 46 :: p := by rw [hr] at hlr; exact hlr
                  refine ⟨fun h => ⟨by omega, ?_⟩, fun h h2 => ⟨by omega, ?_⟩, fun h h2 => ?_⟩
                  · rw [B_at l i (by omega)]
                    congr 2
                    have e1 : l[i]? = (D l)[i]? := by
                      have : (D l ++ 46 :: p)[i]? = (D l)[i]? := List.getElem?_append_left h
                      rw [← hl2] at this; exact this
                    simp only [List.getD]
                    rw [e1, List.getElem?_append_left h]
                  · rw [B_at l (i + 1) (by omega)]
                    congr 2
                    have e1 : l[i + 1]? = p[i - (D l).length]? := by
                      have : (D l ++ 46 :: p)[i + 1]? = (46 :: p)[i + 1 - (D l).length]? := List.getElem?_append_right (by omega)
                      rw [← hl2] at this
                      rw [this, show i + 1 - (D l).length = (i - (D l).length) + 1 by omega, List.getElem?_cons_succ]
                    simp only [List.getD]
                    rw [e1, List.getElem?_append_right (by omega), List.getElem?_append_left h2]
                  · simp only [List.getD]
                    rw [List.getElem?_append_right (by omega), List.getElem?_append_right (by omega)]
                    unfold padN
                    rw [List.getElem?_replicate, if_pos (by omega)]
                    rfl) ((D l).length + 6) 0 0 K (by omega) (by omega) (by omega)
                have hd' : capstanref10_Read.l0 K (B l) ((D l).length : Int) (p.length : Int) 0 true 0 = some (ansR (fin (val 0 (D l ++ (p ++ padN (6 - p.length)))))) := hd
                rw [hd']
                rfl
              · rw [if_neg (by rw [hsz]; omega), if_neg (by
                  rintro ⟨_, h2, _⟩
                  exact hall ((D_whole p).2 h2))]
                rfl
        · have hcn : ¬ (c.toNat : Int) = 46 := by
            intro e
            apply h46
            apply UInt8.toNat_inj.1
            show c.toNat = 46
            omega
          rw [if_neg hcn, if_neg (fun h => h46 h.1)]
          rfl
    by_cases h1 : (D l).length > 1
    · rw [if_pos (by omega), if_pos (by omega)]
      have hhead : (bt (B l) 0 == 48) = decide ((D l).head? = some 48) := by
        cases hd : D l with
        | nil => exact absurd hd h0
        | cons a t =>
          have e1 : l = a :: (t ++ r) := by rw [hlr, hd]; rfl
          have e2 : bt (B l) 0 = (a.toNat : Int) := by rw [e1]; exact B_bt a _
          rw [e2, List.head?_cons, Bool.eq_iff_iff, beq_iff_eq, decide_eq_true_eq, Option.some.injEq]
          constructor
          · intro h; exact UInt8.toNat_inj.1 (by show a.toNat = 48; omega)
          · rintro rfl; rfl
      rw [hhead]
      by_cases hh : (D l).head? = some 48
      · rw [decide_eq_true hh, bad, hR1 ⟨h1, hh⟩]
      · rw [decide_eq_false hh, good, hR2 (fun h => hh h.2)]
    · rw [if_neg (by omega), good, hR2 (fun h => h1 h.1)]
end Go.Proofs.YtekcdokgpjmbgaaDoor.Ni
