/- num.Text and the reference's Text tell the same text. -/
import Derived.Test.YtekcdokgpjmbgaaDoorNf
import Derived.Test.YtekcdokgpjmbgaaDoorOAx6
import Derived.Test.YtekcdokgpjmbgaaDoorOAx11
namespace Go.Proofs.YtekcdokgpjmbgaaDoor.Ng
set_option linter.unusedVariables false
set_option linter.unusedSimpArgs false
open Go.RowKit Go.Proofs.YtekcdokgpjmbgaaDoorW.PrintWords Go.Proofs.YtekcdokgpjmbgaaDoor.OA Go.Proofs.YtekcdokgpjmbgaaDoor.Nd Go.Proofs.YtekcdokgpjmbgaaDoor.Ne Go.Proofs.YtekcdokgpjmbgaaDoor.Nf
/-- A text out of its bytes. -/
def B (l : List UInt8) : ByteArray := ⟨l.toArray⟩
theorem B_list (l : List UInt8) : (B l).data.toList = l := rfl
theorem B_size (l : List UInt8) : (B l).size = l.length := by simp [B, ByteArray.size]
theorem B_eta (s : ByteArray) : B s.data.toList = s := rfl
theorem B_app (a b : List UInt8) : B a ++ B b = B (a ++ b) := by
  apply ByteArray.ext
  rw [ByteArray.data_append]
  simp [B]
theorem B_ext (l : List UInt8) (i j : Nat) : (B l).extract i j = B ((l.take j).drop i) := by
  apply ByteArray.ext
  rw [ByteArray.data_extract]
  simp [B, List.extract]
  rw [List.drop_take]
theorem B_toList (l : List UInt8) : (B l).toList = l := by rw [ByteArray.toList_eq]; rfl
theorem B_bt (c : UInt8) (l : List UInt8) : bt (B (c :: l)) 0 = c.toNat := bt_nat (B (c :: l)) 0 (by rw [B_size]; simp)
def trim (l : List UInt8) : List UInt8 := Lib.trimRightB l 48
def frac (f : Nat) : List UInt8 := if f = 0 then [] else 46 :: trim (dg 6 f)
def textN (m : Nat) : List UInt8 := Lib.decDigits (m / 1000000) ++ frac (m % 1000000)
def sign (n : Int) : List UInt8 := if n < 0 then [45] else []
def textL (n : Int) : List UInt8 := sign n ++ textN n.natAbs
theorem dec_len_le (u k : Nat) (h : u < 10 ^ (k + 1)) : (Lib.decDigits u).length ≤ k + 1 := by
  obtain ⟨z, _, e⟩ := dg_pad k u h
  omega
theorem dec_len20 (u : Nat) (h : u < 18446744073709551616) : (Lib.decDigits u).length ≤ 20 := dec_len_le u 19 (Nat.lt_trans h (by decide))
theorem trim_len (l : List UInt8) : (trim l).length ≤ l.length := by
  unfold trim Lib.trimRightB
  rw [List.length_reverse]
  refine Nat.le_trans (List.dropWhile_suffix _).length_le ?_
  rw [List.length_reverse]; exact Nat.le_refl _
theorem dec_million (f : Nat) (h : f < 1000000) : (Lib.decDigits (1000000 + f)).drop 1 = dg 6 f := by
  rw [dec_app 6 (1000000 + f) (by omega), show (1000000 + f) / 10 ^ 6 = 1 by omega, dec_one 1 (by omega)]
  rw [← dg_mod 6 (1000000 + f), show (1000000 + f) % 10 ^ 6 = f by omega]
  rfl
theorem fu_is (u : Nat) (h : u < 18446744073709551616) : Na.fu.f (u : Int) 10 = some (B (Lib.decDigits u)) := by
  unfold Na.fu.f
  rw [if_pos ⟨by omega, rfl⟩, Int.toNat_natCast]
  rfl
theorem go_j0 (sg : List UInt8) (hsg : sg.length ≤ 1) (m : Nat) (hm : m < 18446744073709551616) (k : Nat) : num_Text.j0 (k + 1) (B sg) (m : Int) = some (B (sg ++ textN m)) := by
  rw [num_Text.j0]
  have e1 : Int.tdiv (m : Int) 1000000 = ((m / 1000000 : Nat) : Int) := rfl
  have e2 : Int.tmod (m : Int) 1000000 = ((m % 1000000 : Nat) : Int) := rfl
  have hq : m / 1000000 < 18446744073709551616 := by omega
  have hf : m % 1000000 < 1000000 := by omega
  rw [e1, e2]
  unfold textN
  generalize m / 1000000 = q at hq
  generalize m % 1000000 = f at hf
  have hl := dec_len20 q hq
  rw [show IntKind.u64.wrap (q : Int) = (q : Int) by rw [IntKind.wrap_u64]; omega, fu_is q hq, Option.bind_some, if_pos (by rw [B_size, B_size]; omega)]
  unfold frac
  by_cases h0 : f = 0
  · subst h0
    rw [if_neg (by decide), if_pos rfl, B_app, List.append_nil]
  · have hl2 := dec_len20 (1000000 + f) (by omega)
    have ht := trim_len (dg 6 f)
    rw [dg_len] at ht
    have hpos := List.length_pos_iff.2 (dec_ne (1000000 + f))
    rw [if_pos (by omega), if_neg h0, show IntKind.u64.wrap (1000000 + (f : Int)) = ((1000000 + f : Nat) : Int) by rw [IntKind.wrap_u64]; omega, fu_is _ (by omega), Option.bind_some, if_pos (by rw [B_size]; omega)]
    have htr : Na.tr.f ((B (Lib.decDigits (1000000 + f))).extract 1 (B (Lib.decDigits (1000000 + f))).size) ⟨#[48]⟩ = some (B (trim (dg 6 f))) := by
      unfold Na.tr.f
      have hsz : (B (Lib.decDigits (1000000 + f))).size = (Lib.decDigits (1000000 + f)).length := B_size _
      rw [B_ext, hsz, List.take_length, dec_million f hf, if_pos ⟨by rw [B_size, dg_len]; omega, rfl⟩]
      rfl
    rw [htr, Option.bind_some, if_pos (by rw [B_size]; omega)]
    have ed : (⟨#[46]⟩ : ByteArray) = B [46] := rfl
    rw [ed, B_app, B_app, B_app, if_pos (by rw [B_size, B_size, List.length_append, List.length_append]; simp; omega), List.append_assoc]
    rfl
theorem go_f (n : Int) (h0 : -9223372036854775808 ≤ n) (h1 : n ≤ 9223372036854775807) (k : Nat) : num_Text.f (k + 1) n = some (B (textL n)) := by
  unfold num_Text.f textL sign
  by_cases h : n < 0
  · rw [if_pos h, if_pos h]
    have e : IntKind.u64.wrap (-IntKind.u64.wrap n) = (n.natAbs : Int) := by rw [IntKind.wrap_u64, IntKind.wrap_u64]; omega
    rw [e]
    exact go_j0 [45] (by simp) n.natAbs (by omega) k
  · rw [if_neg h, if_neg h]
    have e : IntKind.u64.wrap n = (n.natAbs : Int) := by rw [IntKind.wrap_u64]; omega
    rw [e]
    exact go_j0 [] (by simp) n.natAbs (by omega) k
/-! ### the reference's -/
theorem trim_nil : trim [] = [] := rfl
theorem trim_snoc (l : List UInt8) (c : UInt8) : trim (l ++ [c]) = if c = 48 then trim l else l ++ [c] := by
  unfold trim Lib.trimRightB
  rw [List.reverse_append, List.reverse_singleton, List.singleton_append, List.dropWhile_cons]
  by_cases h : c = 48
  · rw [if_pos (by simpa using h), if_pos h]
  · rw [if_neg (by simpa using h), if_neg h, List.reverse_cons, List.reverse_reverse]
def tail (l : List UInt8) : List UInt8 := if trim l = [] then [] else 46 :: trim l
theorem ref_l1 (sg w : List UInt8) (hs : sg.length ≤ 1) (hw : w.length ≤ 1000) : ∀ (n : Nat) (p : List UInt8) (K : Nat), p.length = n → n ≤ 1000 → n < K → capstanref10_Text.l1 K (B sg) (B w) (B p) = some (B (sg ++ w ++ tail p)) := by
  intro n
  induction n with
  | zero =>
    intro p K hp _ hK
    obtain ⟨K, rfl⟩ : ∃ k, K = k + 1 := ⟨K - 1, by omega⟩
    obtain rfl := List.eq_nil_of_length_eq_zero hp
    rw [capstanref10_Text.l1, if_pos (B_toList []), if_pos (by rw [B_size, B_size]; omega), B_app]
    simp [tail, trim_nil]
  | succ n ih =>
    intro p K hp hn hK
    obtain ⟨K, rfl⟩ : ∃ k, K = k + 1 := ⟨K - 1, by omega⟩
    have hne : p ≠ [] := by intro e; rw [e] at hp; simp at hp
    obtain ⟨q, c, rfl⟩ : ∃ q c, p = q ++ [c] := ⟨p.dropLast, p.getLast hne, (List.dropLast_concat_getLast hne).symm⟩
    have hq : q.length = n := by simpa using hp
    have hw1 : wrap64 (((B (q ++ [c])).size : Int) - 1) = ((n : Nat) : Int) := by rw [B_size, hp, w64 (by omega) (by omega)]; omega
    have hbt : bt (B (q ++ [c])) (n : Int) = c.toNat := by
      rw [bt_nat _ n (by rw [B_size, hp]; omega)]
      have : (B (q ++ [c]))[n]'(by rw [B_size, hp]; omega) = (q ++ [c])[n]'(by rw [hp]; omega) := rfl
      rw [this, List.getElem_append_right (by omega)]
      simp [hq]
    rw [capstanref10_Text.l1, if_neg (by rw [B_toList]; exact hne), hw1, if_pos (by omega), if_pos (by rw [B_size, hp]; omega), hbt]
    by_cases h : c = 48
    · subst h
      rw [if_pos (by rfl), if_pos (by rw [B_size, hp]; omega), Int.toNat_natCast, B_ext]
      have e : List.drop 0 (List.take n (q ++ [48])) = q := by rw [List.drop_zero, List.take_append_of_le_length (by omega), List.take_of_length_le (by omega)]
      rw [e, ih q K hq (by omega) (by omega)]
      unfold tail
      rw [trim_snoc, if_pos rfl]
    · have hcn : ¬ (c.toNat : Int) = 48 := by
        intro e
        apply h
        apply UInt8.toNat_inj.1
        show c.toNat = 48
        omega
      have ed : (⟨#[46]⟩ : ByteArray) = B [46] := rfl
      rw [if_neg hcn, if_pos (by rw [B_size, B_size]; omega), ed, B_app, if_pos (by rw [B_size, List.length_append]; omega), B_app, if_pos (by rw [B_size, B_size, List.length_append, List.length_append]; simp; omega), B_app]
      unfold tail
      rw [trim_snoc, if_neg h, if_neg (by simp)]
      simp
theorem ref_l0 (sg : List UInt8) (hs : sg.length ≤ 1) : ∀ (z : Nat) (l : List UInt8) (K : Nat), (l.length + z = 7 ∨ z = 0 ∧ 7 ≤ l.length) → l.length ≤ 1000 → z + 1010 < K →
    capstanref10_Text.l0 K (B l) (B sg) = some (B (sg ++ (padN z ++ l).take ((padN z ++ l).length - 6) ++ tail ((padN z ++ l).drop ((padN z ++ l).length - 6)))) := by
  intro z
  induction z with
  | zero =>
    intro l K hl hl2 hK
    obtain ⟨K, rfl⟩ : ∃ k, K = k + 1 := ⟨K - 1, by omega⟩
    have h7 : 7 ≤ l.length := by omega
    have hw : wrap64 (((B l).size : Int) - 6) = ((l.length - 6 : Nat) : Int) := by rw [B_size, w64 (by omega) (by omega)]; omega
    have ez : padN 0 ++ l = l := rfl
    rw [capstanref10_Text.l0, if_neg (by rw [B_size]; omega), hw, if_pos (by omega), if_pos (by rw [B_size]; omega), Int.toNat_natCast, B_ext, B_ext, B_size, List.take_length, List.drop_zero, ez]
    exact ref_l1 sg _ hs (by rw [List.length_take]; omega) 6 _ K (by rw [List.length_drop]; omega) (by omega) (by omega)
  | succ z ih =>
    intro l K hl hl2 hK
    obtain ⟨K, rfl⟩ : ∃ k, K = k + 1 := ⟨K - 1, by omega⟩
    have ed : (⟨#[48]⟩ : ByteArray) = B [48] := rfl
    rw [capstanref10_Text.l0, if_pos (by rw [B_size]; omega), if_pos (by rw [B_size]; omega), ed, B_app, ih ([48] ++ l) K (by simp; omega) (by simp; omega) (by omega)]
    have e : padN z ++ ([48] ++ l) = padN (z + 1) ++ l := by
      unfold padN; rw [List.replicate_succ', List.append_assoc]
    rw [e]
theorem trim_zero (f : Nat) (h : f < 1000000) : trim (dg 6 f) = [] ↔ f = 0 := by
  constructor
  · intro e
    have hall : ∀ (n : Nat) (l : List UInt8), l.length = n → trim l = [] → val 0 l = 0 := by
      intro n
      induction n with
      | zero => intro l hl _; rw [List.eq_nil_of_length_eq_zero hl]; rfl
      | succ n ih =>
        intro l hl ht
        have hne : l ≠ [] := by intro e; rw [e] at hl; simp at hl
        obtain ⟨q, c, rfl⟩ : ∃ q c, l = q ++ [c] := ⟨l.dropLast, l.getLast hne, (List.dropLast_concat_getLast hne).symm⟩
        rw [trim_snoc] at ht
        split at ht
        · rename_i hc
          subst hc
          rw [val_app, ih q (by simpa using hl) ht, val_one]
          rfl
        · simp at ht
    have h1 := hall 6 (dg 6 f) (dg_len 6 f) e
    rw [dg_val, Nat.zero_mul, Nat.zero_add, Nat.mod_eq_of_lt (by omega)] at h1
    exact h1
  · rintro rfl
    decide
theorem tail_frac (m : Nat) : tail (dg 6 m) = frac (m % 1000000) := by
  have hf : m % 1000000 < 1000000 := by omega
  have e : dg 6 m = dg 6 (m % 1000000) := (dg_mod 6 m).symm
  rw [e]
  unfold tail frac
  by_cases h : m % 1000000 = 0
  · rw [if_pos ((trim_zero _ hf).2 h), if_pos h]
  · rw [if_neg (fun hh => h ((trim_zero _ hf).1 hh)), if_neg h]
theorem take_drop6 (w p : List UInt8) (h : p.length = 6) : (w ++ p).take ((w ++ p).length - 6) = w ∧ (w ++ p).drop ((w ++ p).length - 6) = p := by
  have e : (w ++ p).length - 6 = w.length := by rw [List.length_append, h]; omega
  rw [e]
  exact ⟨by simp, by simp⟩
theorem ref_j0 (sg : List UInt8) (hs : sg.length ≤ 1) (m : Nat) (hm : m < 18446744073709551616) (K : Nat) (hK : 1020 < K) : capstanref10_Text.j0 K (B (Lib.decDigits m)) (B sg) = some (B (sg ++ textN m)) := by
  obtain ⟨K, rfl⟩ : ∃ k, K = k + 1 := ⟨K - 1, by omega⟩
  rw [capstanref10_Text.j0]
  have hl := dec_len20 m hm
  unfold textN
  by_cases h : 1000000 ≤ m
  · have e := dec_app 6 m (by omega)
    have h7 : 7 ≤ (Lib.decDigits m).length := by
      rw [e, List.length_append, dg_len]
      have := List.length_pos_iff.2 (dec_ne (m / 10 ^ 6)); omega
    rw [ref_l0 sg hs 0 _ K (.inr ⟨rfl, h7⟩) (by omega) (by omega), show padN 0 ++ Lib.decDigits m = Lib.decDigits m from rfl, e]
    obtain ⟨t1, t2⟩ := take_drop6 (Lib.decDigits (m / 10 ^ 6)) (dg 6 m) (dg_len 6 m)
    rw [t1, t2, tail_frac, List.append_assoc]
  · obtain ⟨z, e1, e2⟩ := dg_pad 6 m (by omega)
    have e3 : dg 7 m = [dch 0] ++ dg 6 m := by
      have : ∀ u, dg 7 u = dg 1 (u / 10 ^ 6) ++ dg 6 u := by
        intro u
        simp only [dg, List.nil_append, List.append_assoc, Nat.div_div_eq_div_mul]
      rw [this, show m / 10 ^ 6 = 0 by omega]
      rfl
    have e4 : padN z ++ Lib.decDigits m = [dch 0] ++ dg 6 m := by rw [← e3]; exact e1.symm
    rw [ref_l0 sg hs z _ K (.inl (by omega)) (by omega) (by omega), e4]
    obtain ⟨t1, t2⟩ := take_drop6 [dch 0] (dg 6 m) (dg_len 6 m)
    rw [t1, t2, tail_frac, show m / 1000000 = 0 by omega, dec_one 0 (by omega), List.append_assoc]
theorem ref_f (n : Int) (h0 : -9223372036854775808 ≤ n) (h1 : n ≤ 9223372036854775807) (K : Nat) (hK : 1020 < K) : capstanref10_Text.f K n = some (B (textL n)) := by
  unfold capstanref10_Text.f
  have hfi : Na.fi.f n 10 = some (B (Lib.itoa n)) := by
    unfold Na.fi.f; rw [if_pos ⟨⟨h0, h1⟩, rfl⟩]; rfl
  rw [hfi, Option.bind_some]
  unfold textL sign Lib.itoa
  have hl := dec_len20 n.natAbs (by omega)
  by_cases h : n < 0
  · rw [if_pos h, if_pos h, if_pos (by rw [B_size]; simp), B_bt, if_pos (by rfl), if_pos (by rw [B_size]; simp; omega), B_ext, B_size, List.take_length]
    exact ref_j0 [45] (by simp) n.natAbs (by omega) K hK
  · have hne := dec_ne n.toNat
    have e : n.toNat = n.natAbs := by omega
    rw [if_neg h, if_neg h, e]
    cases hd : Lib.decDigits n.natAbs with
    | nil => exact absurd hd (dec_ne _)
    | cons c r =>
      have hc := dec_all n.natAbs
      rw [hd, List.all_cons, Bool.and_eq_true] at hc
      have hc2 := (isD_iff c).1 hc.1
      rw [if_pos (by rw [B_size]; simp), B_bt, if_neg (by omega), ← hd]
      exact ref_j0 [] (by simp) n.natAbs (by omega) K hK
end Go.Proofs.YtekcdokgpjmbgaaDoor.Ng
