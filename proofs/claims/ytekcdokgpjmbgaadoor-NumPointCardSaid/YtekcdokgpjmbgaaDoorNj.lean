/- What is read of a number's text, and how long the text is of what was read. -/
import Derived.Test.YtekcdokgpjmbgaaDoorNi
namespace Go.Proofs.YtekcdokgpjmbgaaDoor.Nj
set_option linter.unusedVariables false
set_option linter.unusedSimpArgs false
open Go.Proofs.YtekcdokgpjmbgaaDoor.Nd Go.Proofs.YtekcdokgpjmbgaaDoor.Ne Go.Proofs.YtekcdokgpjmbgaaDoor.Nf Go.Proofs.YtekcdokgpjmbgaaDoor.Ng Go.Proofs.YtekcdokgpjmbgaaDoor.Ni
theorem dg_of_val : ∀ (k : Nat) (l : List UInt8), l.length = k → l.all isD = true → dg k (val 0 l) = l
  | 0, l, h, _ => by rw [List.eq_nil_of_length_eq_zero h]; rfl
  | k + 1, l, h, hall => by
    have hne : l ≠ [] := by intro e; rw [e] at h; simp at h
    obtain ⟨q, c, rfl⟩ : ∃ q c, l = q ++ [c] := ⟨l.dropLast, l.getLast hne, (List.dropLast_concat_getLast hne).symm⟩
    rw [List.all_append, Bool.and_eq_true] at hall
    have hc := isD_dch c (by simpa using hall.2)
    have hq : q.length = k := by simpa using h
    rw [val_app, val_one]
    show dg k ((10 * val 0 q + (c.toNat - 48)) / 10) ++ [dch ((10 * val 0 q + (c.toNat - 48)) % 10)] = _
    rw [show (10 * val 0 q + (c.toNat - 48)) / 10 = val 0 q by omega, show (10 * val 0 q + (c.toNat - 48)) % 10 = c.toNat - 48 by omega, dg_of_val k q hq hall.1, ← hc.1]
theorem padN_snoc (z : Nat) : padN (z + 1) = padN z ++ [48] := by unfold padN; rw [List.replicate_succ']
theorem trim_app_pad (p : List UInt8) : ∀ z, trim (p ++ padN z) = trim p
  | 0 => by simp [padN]
  | z + 1 => by rw [padN_snoc, ← List.append_assoc, trim_snoc, if_pos rfl, trim_app_pad p z]
theorem trim_pad : ∀ (n : Nat) (l : List UInt8), l.length = n → trim l ++ padN (l.length - (trim l).length) = l
  | 0, l, h => by rw [List.eq_nil_of_length_eq_zero h]; rfl
  | n + 1, l, h => by
    have hne : l ≠ [] := by intro e; rw [e] at h; simp at h
    obtain ⟨q, c, rfl⟩ : ∃ q c, l = q ++ [c] := ⟨l.dropLast, l.getLast hne, (List.dropLast_concat_getLast hne).symm⟩
    have hq : q.length = n := by simpa using h
    rw [trim_snoc]
    by_cases hc : c = 48
    · subst hc
      rw [if_pos rfl]
      have := trim_pad n q hq
      have hl := trim_len q
      have hz : (q ++ [(48 : UInt8)]).length - (trim q).length = (q.length - (trim q).length) + 1 := by rw [List.length_append]; simp; omega
      rw [hz, padN_snoc, ← List.append_assoc, this]
    · rw [if_neg hc, Nat.sub_self]; simp [padN]
theorem trim_all (l : List UInt8) (h : l.all isD = true) : (trim l).all isD = true := by
  have e := trim_pad l.length l rfl
  rw [← e, List.all_append, Bool.and_eq_true] at h
  exact h.1
theorem frac_cases (f : Nat) (h : f < 1000000) : (f = 0 ∧ frac f = []) ∨ (f ≠ 0 ∧ frac f = 46 :: trim (dg 6 f) ∧ (trim (dg 6 f)).all isD = true ∧ 1 ≤ (trim (dg 6 f)).length ∧ (trim (dg 6 f)).length ≤ 6 ∧ val 0 (trim (dg 6 f) ++ padN (6 - (trim (dg 6 f)).length)) = f) := by
  unfold frac
  by_cases h0 : f = 0
  · exact .inl ⟨h0, by rw [if_pos h0]⟩
  · refine .inr ⟨h0, by rw [if_neg h0], trim_all _ (dg_isD 6 f), ?_, ?_, ?_⟩
    · exact List.length_pos_iff.2 (fun e => h0 ((trim_zero f h).1 e))
    · have := trim_len (dg 6 f); rw [dg_len] at this; exact this
    · have e := trim_pad 6 (dg 6 f) (dg_len 6 f)
      rw [dg_len] at e
      rw [e, dg_val, Nat.zero_mul, Nat.zero_add, Nat.mod_eq_of_lt (by omega)]
theorem dec_ok (q : Nat) : ¬ (Lib.decDigits q = [] ∨ (1 < (Lib.decDigits q).length ∧ (Lib.decDigits q).head? = some 48)) := by
  rintro (h | ⟨h1, h2⟩)
  · exact dec_ne q h
  · by_cases h0 : q = 0
    · subst h0; rw [dec_one 0 (by omega)] at h1; simp at h1
    · exact dec_head q (by omega) h2
theorem val_pad0 : val 0 (padN 6) = 0 := by rw [val_pad, Nat.zero_mul]
theorem read_text (q f : Nat) (hf : f < 1000000) : readL (Lib.decDigits q ++ frac f) = fin (q * 1000000 + f) := by
  rcases frac_cases f hf with ⟨h0, e⟩ | ⟨h0, e, h1, h2, h3, h4⟩
  · rw [e, List.append_nil, read_whole _ (dec_all q), if_neg (dec_ok q), num_is _ [] (by simp), dec_val, h0]
    have : val 0 ([] ++ padN (6 - ([] : List UInt8).length)) = 0 := val_pad0
    rw [this]
  · rw [e, read_dot _ _ (dec_all q), if_neg (dec_ok q), if_pos ⟨h1, h2, h3⟩, num_is _ _ h3, dec_val, h4]
theorem read_textN (m : Nat) : readL (textN m) = fin m := by
  unfold textN
  rw [read_text _ _ (by omega)]
  congr 1
  omega
theorem read_neg (l : List UInt8) : readL (45 :: l) = none := by
  have : D (45 :: l) = [] := by unfold D; rw [List.takeWhile_cons, if_neg (by decide)]
  unfold readL
  rw [if_pos (.inl this)]
theorem text_len (l : List UInt8) (m : Nat) (h : readL l = some m) : (textN m).length ≤ l.length ∧ m ≤ 9223372036854775807 := by
  obtain ⟨r, hlr, hrd⟩ := D_pre l
  have hDall := D_isD l
  unfold readL at h
  split at h
  · cases h
  · rename_i hok
    rw [← hrd] at h
    have hne : D l ≠ [] := fun e => hok (.inl e)
    have huniq := dec_uniq _ (D l) rfl hDall hne (fun h1 h2 => hok (.inr ⟨h1, h2⟩))
    have hfin : ∀ v, fin v = some m → v = m ∧ m ≤ 9223372036854775807 := by
      intro v hv
      unfold fin at hv
      split at hv
      · injection hv with hv; subst hv; exact ⟨rfl, by assumption⟩
      · cases hv
    cases r with
    | nil =>
      rw [restL] at h
      obtain ⟨e, hm⟩ := hfin _ h
      rw [num_is _ [] (by simp)] at e
      have e2 : val 0 (D l) * 1000000 = m := by
        rw [← e]
        have : val 0 ([] ++ padN (6 - ([] : List UInt8).length)) = 0 := val_pad0
        rw [this, Nat.add_zero]
      refine ⟨?_, hm⟩
      unfold textN
      rw [← e2, Nat.mul_div_cancel _ (by omega), Nat.mul_mod_left, huniq]
      rw [List.append_nil] at hlr
      show (D l ++ []).length ≤ _
      rw [List.append_nil, ← hlr]
      exact Nat.le_refl _
    | cons c p =>
      rw [restL] at h
      split at h
      · rename_i hc
        obtain ⟨rfl, hp, hp1, hp6⟩ := hc
        obtain ⟨e, hm⟩ := hfin _ h
        rw [num_is _ p hp6] at e
        refine ⟨?_, hm⟩
        have hall : (p ++ padN (6 - p.length)).all isD = true := by rw [List.all_append, hp, pad_all]; rfl
        have hlen : (p ++ padN (6 - p.length)).length = 6 := by rw [List.length_append]; simp [padN]; omega
        have hlt := val_lt 0 _ hall
        rw [hlen] at hlt
        have hdg := dg_of_val 6 _ hlen hall
        have htr : (frac (val 0 (p ++ padN (6 - p.length)))).length ≤ p.length + 1 := by
          unfold frac
          split
          · simp
          · rw [hdg, trim_app_pad, List.length_cons]
            have := trim_len p
            omega
        generalize val 0 (p ++ padN (6 - p.length)) = f at e hlt htr
        unfold textN
        rw [← e, show (val 0 (D l) * 1000000 + f) / 1000000 = val 0 (D l) by omega, show (val 0 (D l) * 1000000 + f) % 1000000 = f by omega, huniq]
        have hll := congrArg List.length hlr
        rw [List.length_append, List.length_cons] at hll
        rw [List.length_append]
        omega
      · cases h
end Go.Proofs.YtekcdokgpjmbgaaDoor.Nj
