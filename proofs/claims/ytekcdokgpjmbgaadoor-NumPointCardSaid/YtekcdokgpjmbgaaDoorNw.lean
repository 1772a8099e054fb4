/- NumPoint: what is to be shown of the call. -/
import Derived.Test.YtekcdokgpjmbgaaDoorNj
import Derived.Test.YtekcdokgpjmbgaaDoorNh
import Derived.Test.YtekcdokgpjmbgaaDoorOBx8
import Derived.Test.YtekcdokgpjmbgaaDoorArgNumPoint
import Derived.OpenShut
namespace Go.Proofs.YtekcdokgpjmbgaaDoor.Nw
set_option linter.unusedVariables false
set_option linter.unusedSimpArgs false
open Go.RowKit Go.Proofs.YtekcdokgpjmbgaaDoorW.PrintWords Go.Proofs.YtekcdokgpjmbgaaDoor.OB Go.Proofs.YtekcdokgpjmbgaaDoor.Nd Go.Proofs.YtekcdokgpjmbgaaDoor.Nf Go.Proofs.YtekcdokgpjmbgaaDoor.Ng Go.Proofs.YtekcdokgpjmbgaaDoor.Ni Go.Proofs.YtekcdokgpjmbgaaDoor.Nj
theorem awake_K (K : Nat) (h : 100 ≤ K) : capstanlaw10_awake.f K = some true := at_rounds (g := fun k => capstanlaw10_awake.f k) (fun k => capstanlaw10_awake.mono k) h Nh.awake_is
theorem read_l (l : List UInt8) (K : Nat) (h : l.length ≤ 140737488355328) (hK : l.length + 10 < K) : Nb.Read.f K (B l) = some (ansR (readL l)) := go_read l (by omega) K hK
theorem text_n (m K : Nat) (h : m ≤ 9223372036854775807) : OA.num_Text.f (K + 1) (m : Int) = some (B (Lib.decDigits (m / 1000000) ++ frac (m % 1000000))) := by
  rw [go_f (m : Int) (by omega) (by omega) K]
  unfold textL sign
  rw [if_neg (by omega)]
  rfl
theorem frac_len (f : Nat) : (frac f).length ≤ 7 := by
  unfold frac
  split
  · simp
  · have := trim_len (dg 6 f); rw [dg_len] at this; rw [List.length_cons]; omega
/-- One more naught behind the point. -/
theorem more_zero (W : Nat) (t : List UInt8) (h1 : t.all isD = true) (h2 : 1 ≤ t.length) (h3 : t.length ≤ 6) :
    readL (Lib.decDigits W ++ 46 :: (t ++ [48])) = if t.length = 6 then none else fin (W * 1000000 + val 0 (t ++ padN (6 - t.length))) := by
  have ha : (t ++ [48]).all isD = true := by rw [List.all_append, h1]; rfl
  rw [read_dot _ _ (dec_all W), if_neg (dec_ok W)]
  by_cases h6 : t.length = 6
  · rw [if_pos h6, if_neg (by rw [List.length_append]; simp; omega)]
  · have hl : (t ++ [(48 : UInt8)]).length = t.length + 1 := by rw [List.length_append]; rfl
    rw [if_neg h6, if_pos ⟨ha, by omega, by omega⟩, num_is _ _ (by omega), dec_val]
    have e : (t ++ [48]) ++ padN (6 - (t ++ [(48 : UInt8)]).length) = t ++ padN (6 - t.length) := by
      rw [hl, List.append_assoc]
      congr 1
      rw [show 6 - t.length = (6 - (t.length + 1)) + 1 by omega]
      unfold padN
      rw [List.replicate_succ]
      rfl
    rw [e]
theorem one_app : (⟨#[48]⟩ : ByteArray) = B [48] := rfl
theorem j0_f (W p : Nat) (hW : W < 4294967296) (hp : p < 1000000) (K : Nat) (hK : 1000 < K) :
    capstanlaw10_NumPoint.j0 (K + 1) (W : Int) (B (Lib.decDigits W)) (p : Int) (B (49 :: frac p)) false = some true := by
  have hd := dec_len20 W (by omega)
  have hf := frac_len p
  have hext : (B (49 :: frac p)).extract 1 (B (49 :: frac p)).size = B (frac p) := by rw [B_ext, B_size, List.take_length, List.drop_one, List.tail_cons]
  rw [capstanlaw10_NumPoint.j0, if_neg (by decide), if_pos (by rw [B_size, List.length_cons]; omega), hext, B_size, B_size, if_pos (by omega), B_app,
    read_l _ K (by rw [List.length_append]; omega) (by rw [List.length_append]; omega), read_text W p hp, Option.bind_some]
  have hfin : fin (W * 1000000 + p) = some (W * 1000000 + p) := by unfold fin; rw [if_pos (by omega)]
  have hw : wrap64 ((wrap64 (W : Int)) * 1000000) = (W : Int) * 1000000 := by rw [w64 (a := (W : Int)) (by omega) (by omega), w64 (by omega) (by omega)]
  have hw2 : wrap64 ((W : Int) * 1000000 + (p : Int)) = (W : Int) * 1000000 + p := w64 (by omega) (by omega)
  rw [hfin, hw, hw2]
  rcases frac_cases p hp with ⟨h0, e⟩ | ⟨h0, e, h1, h2, h3, h4⟩
  · subst h0
    rw [e]
    show (if (0 : Int) = 0 then (if (0 : Int) = 0 then (if ((W * 1000000 + 0 : Nat) : Int) = _ then _ else _) else _) else _) = _
    rw [if_pos rfl, if_pos rfl, if_pos (by omega), B_toList]
    rfl
  · rw [if_neg (by omega), B_size, if_pos (by rw [List.length_append]; omega), one_app, B_app, List.append_assoc,
      read_l _ K (by rw [List.length_append, List.length_append]; simp; omega) (by rw [List.length_append, List.length_append]; simp; omega), e,
      show (46 :: trim (dg 6 p)) ++ [48] = 46 :: (trim (dg 6 p) ++ [48]) from rfl, more_zero W _ h1 h2 h3, h4, Option.bind_some, B_size, List.length_cons, List.length_cons]
    generalize (trim (dg 6 p)).length = n at h2 h3
    by_cases h6 : n = 6
    · rw [if_pos h6]
      subst h6
      show (if (0 : Int) = 0 then (if ((W * 1000000 + p : Nat) : Int) = _ then _ else _) else _) = _
      rw [if_pos rfl, if_pos (by omega), if_pos (by rfl), if_pos (by rfl)]
    · rw [if_neg h6, hfin]
      show (if (0 : Int) = 0 then (if ((W * 1000000 + p : Nat) : Int) = _ then (if (((0 : Int) == 0) == (!(((n + 1 + 1 : Nat) : Int) == 8))) = true then _ else _) else _) else _) = _
      have e8 : (((n + 1 + 1 : Nat) : Int) == 8) = false := beq_eq_false_iff_ne.2 (by omega)
      rw [if_pos rfl, if_pos (by omega), e8, if_pos (by rfl), if_neg (by omega)]
      show some (((W * 1000000 + p : Nat) : Int) == ((W * 1000000 + p : Nat) : Int)) = _
      rw [beq_self_eq_true]
theorem point_f (a0 a1 : Nat) (h0 : a0 < 4294967296) (h1 : a1 < 4294967296) (K : Nat) (hK : 2000 < K) : capstanlaw10_NumPoint.f K (a0 : Int) (a1 : Int) = some true := by
  obtain ⟨K, rfl⟩ : ∃ q, K = q + 1 := ⟨K - 1, by omega⟩
  unfold capstanlaw10_NumPoint.f
  have hp : wrap64 (Int.tmod (a1 : Int) 1000000) = ((a1 % 1000000 : Nat) : Int) := by
    have : Int.tmod (a1 : Int) 1000000 = ((a1 % 1000000 : Nat) : Int) := rfl
    rw [this, w64 (by omega) (by omega)]
  have hw : wrap64 ((wrap64 (a0 : Int)) * 1000000) = ((a0 * 1000000 : Nat) : Int) := by rw [w64 (a := (a0 : Int)) (by omega) (by omega), w64 (by omega) (by omega)]; omega
  have hlt : a1 % 1000000 < 1000000 := Nat.mod_lt _ (by omega)
  generalize a1 % 1000000 = p at hp hlt
  have hw2 : wrap64 (1000000 + (p : Int)) = ((1000000 + p : Nat) : Int) := by rw [w64 (by omega) (by omega)]; omega
  rw [awake_K _ (by omega), Option.bind_some, if_pos rfl, hp, hw, hw2, text_n _ K (by omega), Option.bind_some, text_n _ K (by omega), Option.bind_some,
    Nat.mul_div_cancel _ (by omega), Nat.mul_mod_left, show (1000000 + p) / 1000000 = 1 by omega, show (1000000 + p) % 1000000 = p by omega, dec_one 1 (by omega)]
  have hf0 : frac 0 = [] := by unfold frac; rw [if_pos rfl]
  rw [hf0, List.append_nil, show [dch 1] ++ frac p = 49 :: frac p from rfl, if_neg (by rw [B_size, List.length_cons]; omega), if_pos (by rw [B_size, List.length_cons]; omega), B_bt]
  exact j0_f a0 p h0 hlt K (by omega)
theorem walk : ArgNumPoint.Walk := by
  intro a0 a1 w hL h0 h1
  obtain ⟨l0, u0⟩ := bounds_u32 h0
  obtain ⟨l1, u1⟩ := bounds_u32 h1
  obtain ⟨n0, rfl⟩ := Int.eq_ofNat_of_zero_le l0
  obtain ⟨n1, rfl⟩ := Int.eq_ofNat_of_zero_le l1
  exact capstanlaw10_NumPoint.calls 4000 n0 n1 true w (point_f n0 n1 (by omega) (by omega) _ (by omega)) hL rfl
end Go.Proofs.YtekcdokgpjmbgaaDoor.Nw
