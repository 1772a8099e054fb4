/- num.ReadSpan and the reference's ReadSpan answer alike; both SpanTexts; NumSpans: what is to be shown of the call. -/
import Derived.Test.YtekcdokgpjmbgaaDoorNz
import Derived.Test.YtekcdokgpjmbgaaDoorNr
import Derived.Test.YtekcdokgpjmbgaaDoorOAx12
import Derived.Test.YtekcdokgpjmbgaaDoorNh
import Derived.Test.YtekcdokgpjmbgaaDoorODx2
import Derived.Test.YtekcdokgpjmbgaaDoorArgNumSpans
import Derived.OpenShut
namespace Go.Proofs.YtekcdokgpjmbgaaDoor.Nq
set_option linter.unusedVariables false
set_option linter.unusedSimpArgs false
open Go.RowKit Go.Proofs.YtekcdokgpjmbgaaDoorW.PrintWords Go.Proofs.YtekcdokgpjmbgaaDoor.OA Go.Proofs.YtekcdokgpjmbgaaDoor.Nd Go.Proofs.YtekcdokgpjmbgaaDoor.Nr Go.Proofs.YtekcdokgpjmbgaaDoor.Nf Go.Proofs.YtekcdokgpjmbgaaDoor.Ng Go.Proofs.YtekcdokgpjmbgaaDoor.Nx Go.Proofs.YtekcdokgpjmbgaaDoor.Nz
theorem ib_at : ∀ (p : List UInt8) (c : UInt8) (r : List UInt8), (∀ x ∈ p, x ≠ c) → Lib.indexByte (p ++ c :: r) c = (p.length : Int)
  | [], c, r, _ => by simp [Lib.indexByte]
  | x :: p, c, r, h => by
    have hx := h x (by simp)
    have := ib_at p c r (fun y hy => h y (by simp [hy]))
    rw [List.cons_append]
    unfold Lib.indexByte
    rw [this]
    simp [hx]
    try omega
theorem idx_B (l : List UInt8) (c : UInt8) : idx (B l) (c.toNat : Int) = Lib.indexByte l c := by
  unfold idx
  rw [B_list]
  congr 1
  simp
theorem D_all (w : List UInt8) (h : w.all isD = true) (r : List UInt8) (hr : ∀ c r', r = c :: r' → isD c = false) : D (w ++ r) = w := by
  induction w with
  | nil =>
    cases r with
    | nil => rfl
    | cons c r' => unfold D; rw [List.nil_append, List.takeWhile_cons, if_neg (by rw [hr c r' rfl]; decide)]
  | cons a w ih =>
    rw [List.all_cons, Bool.and_eq_true] at h
    have := ih h.2
    unfold D at this ⊢
    rw [List.cons_append, List.takeWhile_cons, if_pos h.1, this]
theorem add_none (s : ByteArray) (n c wo : Int) (h : partOk s c = false) (h0 : 0 ≤ n) (h1 : n ≤ 1000000000000000) : addF (s, n) c wo = (s, n) := by
  unfold addF partF
  simp [h]
  exact w64 (by omega) (by omega)
theorem spanA_none (s : ByteArray) (c wo : Int) (h : ¬ 0 ≤ idx s c) : addF (s, 0) c wo = (s, 0) := by
  refine add_none s 0 c wo ?_ (by decide) (by decide)
  unfold partOk
  rw [decide_eq_false (by omega)]
  rfl
theorem spanA_is (s : ByteArray) : spanA s = addF (addF (addF (addF (s, 0) 100 86400) 104 3600) 109 60) 115 1 := by
  unfold spanA
  split
  · rfl
  · rename_i h0
    rw [spanA_none s 100 86400 h0]
    split
    · rfl
    · rename_i h1
      rw [spanA_none s 104 3600 h1]
      split
      · rfl
      · rename_i h2
        rw [spanA_none s 109 60 h2]
/-- What a part that is read says of the text. -/
theorem part_true (l : List UInt8) (x : UInt8) (hx : isD x = false) (h : partOk (B l) (x.toNat : Int) = true) :
    1 ≤ (D l).length ∧ (D l).length ≤ 6 ∧ bt (B l) 0 ≠ 48 ∧ l[(D l).length]? = some x := by
  unfold partOk at h
  rw [idx_B] at h
  simp only [Bool.and_eq_true, decide_eq_true_eq, Bool.not_eq_true', decide_eq_false_iff_not] at h
  obtain ⟨⟨h1, h2⟩, h3, h4⟩ := h
  obtain ⟨i, hi⟩ : ∃ i : Nat, Lib.indexByte l x = i := ⟨(Lib.indexByte l x).toNat, by omega⟩
  rw [hi] at h1 h2 h3
  rw [Int.toNat_natCast, B_ext] at h3
  unfold digB at h3
  rw [Bool.and_eq_true, B_list, List.drop_zero] at h3
  have hat := (Lib.indexByte_some hi).1
  obtain ⟨hlt, hel⟩ := List.getElem?_eq_some_iff.1 hat
  have hsp : l = l.take i ++ x :: l.drop (i + 1) := by
    rw [← hel, List.getElem_cons_drop, List.take_append_drop]
  have hD : D l = l.take i := by
    conv => lhs; rw [hsp]
    exact D_all _ h3.1 _ (fun c r' e => by injection e with e1 _; rw [← e1]; exact hx)
  have hlen : (D l).length = i := by rw [hD, List.length_take]; omega
  rw [hlen]
  exact ⟨by omega, by omega, h4, hat⟩
/-- A part is read. -/
theorem add_gen (w r : List UInt8) (n : Int) (c : UInt8) (wo : Int) (hc : isD c = false) (hw : w.all isD = true) (h1 : 1 ≤ w.length) (hq : w.length ≤ 6) (hb : bt (B (w ++ c :: r)) 0 ≠ 48) :
    addF (B (w ++ c :: r), n) (c.toNat : Int) wo = (B r, wrap64 (n + wrap64 ((val 0 w : Int) * wo))) := by
  have hne : ∀ x ∈ w, x ≠ c := by
    intro x hx e
    have := List.all_eq_true.1 hw x hx
    rw [e, hc] at this
    cases this
  have hi := ib_at w c r hne
  have hx : (B (w ++ c :: r)).extract 0 w.length = B w := by rw [B_ext, List.take_left, List.drop_zero]
  have hwne : w ≠ [] := by intro e; rw [e] at h1; simp at h1
  have hp : partOk (B (w ++ c :: r)) (c.toNat : Int) = true := by
    unfold partOk
    rw [idx_B, hi, decide_eq_true ⟨by omega, by omega⟩, Int.toNat_natCast, hx, decide_eq_false hb, Bool.true_and]
    unfold digB
    rw [B_list, hw, B_toList]
    simp [hwne]
  have hv : partV (B (w ++ c :: r)) (c.toNat : Int) wo = wrap64 ((val 0 w : Int) * wo) := by
    unfold partV
    rw [idx_B, hi, Int.toNat_natCast, hx, B_list]
  have hr : partR (B (w ++ c :: r)) (c.toNat : Int) = B r := by
    unfold partR
    rw [idx_B, hi, Int.toNat_natCast, B_ext, B_size, List.take_length]
    congr 1
    rw [show w ++ c :: r = (w ++ [c]) ++ r by simp]
    exact List.drop_left' (by simp)
  unfold addF partF
  simp [hp, hv, hr]
def ch : Nat → Nat → ByteArray × Int → ByteArray × Int
  | 0, _, t => t
  | f + 1, j, t => ch f (j + 1) (addF t ((lt j).toNat : Int) (wo j : Int))
def fin2 (t : ByteArray × Int) : Int × Int := if ¬ t.1.toList = [] ∨ t.2 < 1 ∨ 604800 < t.2 then (0, 13) else (t.2, 0)
theorem lt_D : ∀ k, isD (lt k) = false := by
  intro k; unfold lt; split <;> decide
theorem ch_none (l : List UInt8) (n : Int) (h0 : 0 ≤ n) (h1 : n ≤ 1000000000000000) (h : ∀ x : UInt8, isD x = false → partOk (B l) (x.toNat : Int) = false) : ∀ f j, ch f j (B l, n) = (B l, n)
  | 0, _ => rfl
  | f + 1, j => by
    rw [ch, add_none _ _ _ _ (h (lt j) (lt_D j)) h0 h1]
    exact ch_none l n h0 h1 h f (j + 1)
theorem wo_le (j : Nat) : wo j ≤ 86400 := by unfold wo; split <;> omega
theorem bt_L (s : ByteArray) (p : Nat) (h : p < s.size) : bt (B (L s p)) 0 = bt s (p : Int) := by
  have e : L s p = s.data.toList[p]'(by rw [Array.length_toList]; exact h) :: s.data.toList.drop (p + 1) := by unfold L; rw [List.getElem_cons_drop]
  rw [e, B_bt, bt_nat s p h]
  rfl
theorem main (s : ByteArray) : ∀ (f j p : Nat) (n : Int) (g : Nat), j + f = 4 → p ≤ s.size → s.size < p + g → 0 ≤ n → n ≤ j * 86399913600 → rs s g p j n = fin2 (ch f j (B (L s p), n)) := by
  intro f
  induction f with
  | zero =>
    intro j p n g hj hp hg h0 h1
    obtain rfl : j = 4 := by omega
    obtain ⟨g, rfl⟩ : ∃ q, g = q + 1 := ⟨g - 1, by omega⟩
    rw [rs, ch]
    by_cases c : p < s.size
    · have hne : ¬ (B (L s p)).toList = [] := by
        rw [B_toList]; intro e
        have := congrArg List.length e
        unfold L at this
        rw [List.length_drop, Array.length_toList, ByteArray.size_data] at this
        simp at this; omega
      rw [if_pos c]
      have : fin2 (B (L s p), n) = (0, 13) := by unfold fin2; rw [if_pos (.inl hne)]
      rw [this]
      split
      · rfl
      · rw [if_pos (by rfl)]
    · have he : L s p = [] := by unfold L; rw [List.drop_eq_nil_of_le (by rw [Array.length_toList, ByteArray.size_data]; omega)]
      rw [if_neg c, he]
      unfold fin fin2
      rw [B_toList]
      simp
  | succ f ih =>
    intro j p n g hj hp hg h0 h1
    have hn : n ≤ 1000000000000000 := by
      have : (j : Int) * 86399913600 ≤ 4 * 86399913600 := Int.mul_le_mul_of_nonneg_right (by omega) (by omega)
      omega
    obtain ⟨g, rfl⟩ : ∃ q, g = q + 1 := ⟨g - 1, by omega⟩
    have hlen : (L s p).length = s.size - p := by unfold L; rw [List.length_drop, Array.length_toList, ByteArray.size_data]
    by_cases c : p < s.size
    · have hne : ¬ (B (L s p)).toList = [] := by
        rw [B_toList]; intro e
        have := congrArg List.length e
        rw [hlen] at this
        simp at this; omega
      by_cases hb : (D (L s p)).length < 1 ∨ 6 < (D (L s p)).length ∨ bt s p = 48 ∨ s.size ≤ p + (D (L s p)).length
      · have hno : ∀ x : UInt8, isD x = false → partOk (B (L s p)) (x.toNat : Int) = false := by
          intro x hx
          cases hpo : partOk (B (L s p)) (x.toNat : Int) with
          | false => rfl
          | true =>
            obtain ⟨a1, a2, a3, a4⟩ := part_true _ x hx hpo
            rw [bt_L s p c] at a3
            have a5 := (List.getElem?_eq_some_iff.1 a4).1
            rcases hb with h | h | h | h
            · omega
            · omega
            · exact absurd h a3
            · omega
        rw [rs, if_pos c, if_pos hb, ch_none _ n h0 hn hno]
        unfold fin2
        rw [if_pos (.inl hne)]
      · obtain ⟨r, hr1, hr2⟩ := D_pre' (L s p)
        have hKl : (D (L s p)).length < (L s p).length := by omega
        have hd : D (L s p) = D (L s p) := rfl
        obtain ⟨x, hx⟩ : ∃ x, (L s p)[(D (L s p)).length]? = some x := ⟨_, List.getElem?_eq_getElem hKl⟩
        have hdrop : (L s p).drop (D (L s p)).length = x :: L s (p + (D (L s p)).length + 1) := by
          have e1 := (List.getElem?_eq_some_iff.1 hx).2
          rw [← e1, ← List.getElem_cons_drop hKl]
          congr 1
          unfold L
          rw [List.drop_drop]
          congr 1
        have hsplit : L s p = D (L s p) ++ x :: L s (p + (D (L s p)).length + 1) := by rw [← hdrop, ← hr2]; exact hr1
        have hxD : isD x = false := by
          cases hh : isD x with
          | false => rfl
          | true =>
            have e : L s p = (D (L s p) ++ [x]) ++ L s (p + (D (L s p)).length + 1) := by
              rw [List.append_assoc, List.singleton_append]
              exact hsplit
            have hpre : (D (L s p) ++ [x]).length ≤ (D (L s p)).length := by
              have h1 : D (L s p) = (D (L s p) ++ [x]) ++ D (L s (p + (D (L s p)).length + 1)) := by
                conv => lhs; rw [e]
                unfold D
                rw [List.takeWhile_append_of_pos]
                intro a ha
                rw [List.mem_append] at ha
                rcases ha with ha | ha
                · exact List.all_eq_true.1 (D_isD' _) a ha
                · rw [List.mem_singleton] at ha; rw [ha]; exact hh
              have := congrArg List.length h1
              rw [List.length_append] at this
              omega
            rw [List.length_append, List.length_singleton] at hpre
            omega
        have hbx : bt s ((p + (D (L s p)).length : Nat) : Int) = (x.toNat : Int) := by
          rw [bt_nat s _ (by omega)]
          have h2 := hx
          unfold L at h2
          rw [List.getElem?_drop] at h2
          have h3 := (List.getElem?_eq_some_iff.1 h2).2
          rw [← h3]
          rfl
        have hb' : ¬ bt s p = 48 := fun h => hb (.inr (.inr (.inl h)))
        by_cases hxj : lt j = x
        · have hJ : nxt (x.toNat : Int) (4 - j) j = j := by
            obtain ⟨q, hq⟩ : ∃ q, 4 - j = q + 1 := ⟨4 - j - 1, by omega⟩
            rw [hq, nxt, if_pos (by rw [hxj])]
          have hv := val_lt 0 (D (L s p)) (D_isD' _)
          have hv2 : 10 ^ (D (L s p)).length ≤ 10 ^ 6 := Nat.pow_le_pow_right (by omega) (by omega)
          have hm := mul_le (val 0 (D (L s p)) : Int) (wo j) (by omega) (by omega) (wo_le j)
          rw [rs, if_pos c, if_neg hb, hbx, hJ, if_neg (by omega), ih (j + 1) _ _ g (by omega) (by omega) (by omega) (by omega) (by
            have : ((j + 1 : Nat) : Int) * 86399913600 = (j : Int) * 86399913600 + 86399913600 := by rw [Int.natCast_add, Int.add_mul]; rfl
            omega)]
          rw [ch]
          have hadd := add_gen (D (L s p)) (L s (p + (D (L s p)).length + 1)) n x (wo j : Int) hxD (D_isD' _) (by omega) (by omega) (by rw [← hsplit, bt_L s p c]; exact hb')
          rw [← hsplit] at hadd
          rw [hxj, hadd]
          generalize (val 0 (D (L s p)) : Int) * (wo j : Int) = m at hm
          rw [w64 (a := m) (by omega) (by omega), w64 (by omega) (by omega)]
        · have hJ : nxt (x.toNat : Int) (4 - j) j = nxt (x.toNat : Int) (4 - (j + 1)) (j + 1) := by
            obtain ⟨q, hq⟩ : ∃ q, 4 - j = q + 1 := ⟨4 - j - 1, by omega⟩
            rw [hq, nxt, if_neg (fun e => hxj (UInt8.toNat_inj.1 (by omega))), show 4 - (j + 1) = q by omega]
          have hsame : rs s (g + 1) p j n = rs s (g + 1) p (j + 1) n := by rw [rs, rs, hbx, hJ]
          have hpo : partOk (B (L s p)) ((lt j).toNat : Int) = false := by
            cases hpo : partOk (B (L s p)) ((lt j).toNat : Int) with
            | false => rfl
            | true =>
              obtain ⟨a1, a2, a3, a4⟩ := part_true _ (lt j) (lt_D j) hpo
              rw [hx] at a4
              injection a4 with a4
              exact absurd a4.symm hxj
          rw [hsame, ch, add_none _ _ _ _ hpo h0 hn]
          exact ih (j + 1) p n (g + 1) (by omega) hp hg h0 (by
            have : ((j + 1 : Nat) : Int) * 86399913600 = (j : Int) * 86399913600 + 86399913600 := by rw [Int.natCast_add, Int.add_mul]; rfl
            omega)
    · have he : L s p = [] := by unfold L; rw [List.drop_eq_nil_of_le (by rw [Array.length_toList, ByteArray.size_data]; omega)]
      have hno : ∀ x : UInt8, isD x = false → partOk (B ([] : List UInt8)) (x.toNat : Int) = false := by
        intro x hx
        cases hpo : partOk (B []) (x.toNat : Int) with
        | false => rfl
        | true =>
          obtain ⟨a1, _⟩ := part_true _ x hx hpo
          exact absurd a1 (by decide)
      rw [rs, if_neg c, he, ch_none [] n h0 hn hno]
      unfold fin fin2
      rw [B_toList]
      simp
theorem spans_eq (s : ByteArray) : spanF s = rs s (s.size + 1) 0 0 0 := by
  have h := main s 4 0 0 0 (s.size + 1) rfl (Nat.zero_le _) (by omega) (by omega) (by omega)
  have e : B (L s 0) = s := by unfold L; rw [List.drop_zero, B_eta]
  rw [h, e]
  have hc : ch 4 0 (s, 0) = spanA s := by rw [spanA_is]; rfl
  rw [hc]
  unfold spanF fin2
  split
  · rename_i h0
    have hz : s = B [] := by
      rw [← B_eta s]
      congr 1
      rw [ByteArray.toList_eq] at h0
      exact h0
    have : (spanA s).2 < 1 := by rw [hz]; decide +kernel
    rw [if_pos (.inr (.inl this))]
  · rfl
/-! ### SpanText -/
theorem fmt_is (r k : Nat) (h : r ≤ 604800) (e : Int) (he : e = ((r / k : Nat) : Int)) : Na.fi.f e 10 = some (B (Lib.decDigits (r / k))) := by
  have h2 : r / k ≤ r := Nat.div_le_self _ _
  generalize r / k = q at h2 he
  subst he
  unfold Na.fi.f
  rw [if_pos ⟨⟨by omega, by omega⟩, rfl⟩]
  rfl
theorem div_w (r k : Nat) (h : r ≤ 604800) : wrap64 (Int.tdiv (r : Int) (k : Int)) = ((r / k : Nat) : Int) := by
  have h2 : r / k ≤ r := Nat.div_le_self _ _
  have e : Int.tdiv (r : Int) (k : Int) = ((r / k : Nat) : Int) := rfl
  rw [e]
  generalize r / k = q at h2
  exact w64 (by omega) (by omega)
theorem dlen (r k : Nat) (h : r ≤ 604800) : (Lib.decDigits (r / k)).length ≤ 20 := by
  have h2 : r / k ≤ r := Nat.div_le_self _ _
  exact dec_len20 _ (by omega)
theorem one_is (c : UInt8) : (⟨#[c]⟩ : ByteArray) = B [c] := rfl
theorem step (m k : Nat) (h : wo k ≤ re m k) : B (tx m k) ++ (B (Lib.decDigits (re m k / wo k)) ++ (⟨#[lt k]⟩ : ByteArray)) = B (tx m (k + 1)) := by
  rw [one_is, B_app, B_app]
  show _ = B (if wo k ≤ re m k then _ else _)
  rw [if_pos h]
theorem stay (m k : Nat) (h : ¬ wo k ≤ re m k) : B (tx m k) = B (tx m (k + 1)) := by
  show _ = B (if wo k ≤ re m k then _ else _)
  rw [if_neg h]
theorem size_ok (m k : Nat) (hm : m ≤ 604800) (c : UInt8) (q : Nat) (hq : (Lib.decDigits q).length ≤ 20) : (B (tx m k)).size + (B (Lib.decDigits q) ++ (⟨#[c]⟩ : ByteArray)).size ≤ 21 * k + 21 := by
  have := tx_len m hm k
  rw [one_is, B_app, B_size, B_size, List.length_append, List.length_singleton]
  omega
theorem size1 (q : Nat) (hq : (Lib.decDigits q).length ≤ 20) : (B (Lib.decDigits q)).size + 1 ≤ 9223372036854775807 := by rw [B_size]; omega
theorem last_f (m : Nat) (hm : m ≤ 604800) (h1 : 1 ≤ m) (x : ByteArray) (hx : x = B (tx m 3)) :
    (if (Int.tmod (m : Int) 60) > 0 then ((Na.fi.f (Int.tmod (m : Int) 60) 10).bind fun t127 => (if t127.size + 1 ≤ 9223372036854775807 then (if x.size + (t127 ++ (⟨#[115]⟩ : ByteArray)).size ≤ 9223372036854775807 then (some (x ++ (t127 ++ (⟨#[115]⟩ : ByteArray)), (0 : Int))) else (none)) else (none))) else (some (x, 0))) = some (B (tx m 4), 0) := by
  subst hx
  have e : Int.tmod (m : Int) 60 = ((m % 60 : Nat) : Int) := rfl
  have e3 : re m 3 = m % 60 := by show m % 86400 % 3600 % 60 = m % 60; omega
  rw [e]
  by_cases h : m % 60 > 0
  · have hf := fmt_is (m % 60) 1 (by omega) ((m % 60 : Nat) : Int) (by rw [Nat.div_one])
    have hd := dlen (m % 60) 1 (by omega)
    have hs := size_ok m 3 hm 115 (m % 60 / 1) hd
    have hst := step m 3 (by show 1 ≤ re m 3; omega)
    rw [e3] at hst
    rw [if_pos (by omega), hf, Option.bind_some, if_pos (size1 _ hd), if_pos (by omega)]
    exact congrArg (fun z => some (z, (0 : Int))) hst
  · rw [if_neg (by omega)]
    have hst := stay m 3 (by show ¬ 1 ≤ re m 3; omega)
    exact congrArg (fun z => some (z, (0 : Int))) hst
theorem j2_f (m : Nat) (hm : m ≤ 604800) (h1 : 1 ≤ m) (K : Nat) : capstanref10_SpanText.j2 (K + 1) (m : Int) (B (tx m 2)) = some (B (tx m 4), 0) := by
  have e : Int.tmod (m : Int) 3600 = ((m % 3600 : Nat) : Int) := rfl
  have e2 : re m 2 = m % 3600 := by show m % 86400 % 3600 = m % 3600; omega
  rw [capstanref10_SpanText.j2, e]
  by_cases h : m % 3600 ≥ 60
  · have hd := dlen (m % 3600) 60 (by omega)
    have hf := fmt_is (m % 3600) 60 (by omega) _ (div_w (m % 3600) 60 (by omega))
    have hs := size_ok m 2 hm 109 (m % 3600 / 60) hd
    have hst := step m 2 (by show 60 ≤ re m 2; omega)
    rw [e2] at hst
    have hst' : B (tx m 2) ++ (B (Lib.decDigits (m % 3600 / 60)) ++ (⟨#[109]⟩ : ByteArray)) = B (tx m 3) := hst
    rw [if_pos (by omega)]
    have hf' : Na.fi.f (wrap64 (Int.tdiv ((m % 3600 : Nat) : Int) 60)) 10 = some (B (Lib.decDigits (m % 3600 / 60))) := hf
    rw [hf', Option.bind_some, if_pos (size1 _ hd), if_pos (by omega), hst']
    exact last_f m hm h1 _ rfl
  · rw [if_neg (by omega), stay m 2 (by show ¬ 60 ≤ re m 2; omega)]
    exact last_f m hm h1 _ rfl
theorem j1_f (m : Nat) (hm : m ≤ 604800) (h1 : 1 ≤ m) (K : Nat) : capstanref10_SpanText.j1 (K + 2) (m : Int) (B (tx m 1)) = some (B (tx m 4), 0) := by
  have e : Int.tmod (m : Int) 86400 = ((m % 86400 : Nat) : Int) := rfl
  have e2 : re m 1 = m % 86400 := rfl
  rw [capstanref10_SpanText.j1, e]
  by_cases h : m % 86400 ≥ 3600
  · have hd := dlen (m % 86400) 3600 (by omega)
    have hf := fmt_is (m % 86400) 3600 (by omega) _ (div_w (m % 86400) 3600 (by omega))
    have hs := size_ok m 1 hm 104 (m % 86400 / 3600) hd
    have hst := step m 1 (by show 3600 ≤ re m 1; omega)
    rw [e2] at hst
    have hst' : B (tx m 1) ++ (B (Lib.decDigits (m % 86400 / 3600)) ++ (⟨#[104]⟩ : ByteArray)) = B (tx m 2) := hst
    rw [if_pos (by omega)]
    have hf' : Na.fi.f (wrap64 (Int.tdiv ((m % 86400 : Nat) : Int) 3600)) 10 = some (B (Lib.decDigits (m % 86400 / 3600))) := hf
    rw [hf', Option.bind_some, if_pos (size1 _ hd), if_pos (by omega), hst']
    exact j2_f m hm h1 K
  · rw [if_neg (by omega), stay m 1 (by show ¬ 3600 ≤ re m 1; omega)]
    exact j2_f m hm h1 K
theorem ref_span (n : Int) (K : Nat) : capstanref10_SpanText.f (K + 3) n = Nx.SpanText.f n := by
  unfold capstanref10_SpanText.f Nx.SpanText.f
  by_cases h1 : n < 1
  · rw [if_pos h1, if_neg (by omega)]
    rw [capstanref10_SpanText.j0, if_pos rfl]
  · rw [if_neg h1]
    by_cases h2 : n > 604800
    · rw [decide_eq_true h2, if_neg (by omega), capstanref10_SpanText.j0, if_pos rfl]
    · rw [decide_eq_false h2, if_pos (by omega), capstanref10_SpanText.j0, if_neg (by decide)]
      obtain ⟨m, rfl⟩ := Int.eq_ofNat_of_zero_le (show 0 ≤ n by omega)
      rw [Int.toNat_natCast]
      have hm : m ≤ 604800 := by omega
      by_cases h : (m : Int) ≥ 86400
      · have hd := dlen m 86400 hm
        have hf : Na.fi.f (wrap64 (Int.tdiv (m : Int) 86400)) 10 = some (B (Lib.decDigits (m / 86400))) := fmt_is m 86400 hm _ (div_w m 86400 hm)
        have hs := size_ok m 0 hm 100 (m / 86400) hd
        have hst : (⟨#[]⟩ : ByteArray) ++ (B (Lib.decDigits (m / 86400)) ++ (⟨#[100]⟩ : ByteArray)) = B (tx m 1) := step m 0 (by show 86400 ≤ m; omega)
        rw [if_pos h, hf, Option.bind_some, if_pos (size1 _ hd), if_pos (by omega), hst]
        exact j1_f m hm (by omega) K
      · rw [if_neg h]
        have hst : (⟨#[]⟩ : ByteArray) = B (tx m 1) := stay m 0 (by show ¬ 86400 ≤ m; omega)
        rw [hst]
        exact j1_f m hm (by omega) K
end Go.Proofs.YtekcdokgpjmbgaaDoor.Nq
namespace Go.Proofs.YtekcdokgpjmbgaaDoor.Np
set_option linter.unusedVariables false
set_option linter.unusedSimpArgs false
open Go.RowKit Go.Proofs.YtekcdokgpjmbgaaDoorW.PrintWords Go.Proofs.YtekcdokgpjmbgaaDoor.OD Go.Proofs.YtekcdokgpjmbgaaDoor.Nr
theorem awake_K (K : Nat) (h : 100 ≤ K) : OB.capstanlaw10_awake.f K = some true := at_rounds (g := fun k => OB.capstanlaw10_awake.f k) (fun k => OB.capstanlaw10_awake.mono k) h Nh.awake_is
theorem span_some (n : Int) : ∃ x e, Nx.SpanText.f n = some (x, e) := by
  unfold Nx.SpanText.f
  split
  · exact ⟨_, _, rfl⟩
  · exact ⟨_, _, rfl⟩
theorem spans_f (s : ByteArray) (n : Int) (hs : s.size ≤ 281474976710656) (K : Nat) (hK : 1000 < K) : capstanlaw10_NumSpans.f K s n = some true := by
  obtain ⟨K, rfl⟩ : ∃ q, K = q + 3 := ⟨K - 3, by omega⟩
  unfold capstanlaw10_NumSpans.f
  have h1 : Ns.ReadSpan.f s = some (spanF s) := by unfold Ns.ReadSpan.f; rw [if_pos (by omega)]
  have h2 : Nz.RefSpan.f s = some (spanF s) := by unfold Nz.RefSpan.f; rw [if_pos hs, Nq.spans_eq]
  obtain ⟨x, e, hx⟩ := span_some n
  rw [awake_K _ (by omega), Option.bind_some, if_pos rfl, h1, Option.bind_some, h2, Option.bind_some, Nq.ref_span, hx, Option.bind_some, Option.bind_some, if_pos rfl, if_pos rfl, if_pos rfl]
  show some (e == e) = _
  rw [beq_self_eq_true]
theorem walk : ArgNumSpans.Walk := fun s n w hL hs hn =>
  capstanlaw10_NumSpans.calls 4000 s n true w (spans_f s n (by omega) _ (by omega)) hL
end Go.Proofs.YtekcdokgpjmbgaaDoor.Np
