/- NumBack: what is to be shown of the call. -/
import Derived.Test.YtekcdokgpjmbgaaDoorNj
import Derived.Test.YtekcdokgpjmbgaaDoorNh
import Derived.Test.YtekcdokgpjmbgaaDoorOBx7
import Derived.Test.YtekcdokgpjmbgaaDoorArgNumBack
import Derived.OpenShut
namespace Go.Proofs.YtekcdokgpjmbgaaDoor.Nv
set_option linter.unusedVariables false
set_option linter.unusedSimpArgs false
open Go.RowKit Go.Proofs.YtekcdokgpjmbgaaDoorW.PrintWords Go.Proofs.YtekcdokgpjmbgaaDoor.OB Go.Proofs.YtekcdokgpjmbgaaDoor.Nd Go.Proofs.YtekcdokgpjmbgaaDoor.Nf Go.Proofs.YtekcdokgpjmbgaaDoor.Ng Go.Proofs.YtekcdokgpjmbgaaDoor.Ni Go.Proofs.YtekcdokgpjmbgaaDoor.Nj
theorem awake_K (K : Nat) (h : 100 ≤ K) : capstanlaw10_awake.f K = some true := at_rounds (g := fun k => capstanlaw10_awake.f k) (fun k => capstanlaw10_awake.mono k) h Nh.awake_is
theorem textN_len (m : Nat) (h : m < 18446744073709551616) : (textN m).length ≤ 40 := by
  unfold textN
  rw [List.length_append]
  have h1 := dec_len20 (m / 1000000) (by omega)
  have h2 : (frac (m % 1000000)).length ≤ 7 := by
    unfold frac
    split
    · simp
    · have := trim_len (dg 6 (m % 1000000)); rw [dg_len] at this; rw [List.length_cons]; omega
  omega
theorem read_l (l : List UInt8) (K : Nat) (h : l.length ≤ 140737488355328) (hK : l.length + 10 < K) : Nb.Read.f K (B l) = some (ansR (readL l)) := go_read l (by omega) K hK
/-- What both roads end with. -/
theorem rest (l : List UInt8) (hl : l.length ≤ 140737488351232) (K : Nat) (hK : l.length + 2000 < K) :
    ((Nb.Read.f K (B l)).bind fun bt118 => (if bt118.2 = 0 then (if bt118.1 ≥ 0 then ((OA.num_Text.f K bt118.1).bind fun t120 => (some (decide ((t120.size : Int) ≤ ((B l).size : Int))))) else (some false)) else (if bt118.1 = 0 then (some true) else (some false)))) = some true := by
  rw [read_l l K (by omega) (by omega), Option.bind_some]
  cases hr : readL l with
  | none => rfl
  | some m =>
    obtain ⟨h1, h2⟩ := text_len l m hr
    obtain ⟨K', rfl⟩ : ∃ q, K = q + 1 := ⟨K - 1, by omega⟩
    show (if (0 : Int) = 0 then (if (m : Int) ≥ 0 then ((OA.num_Text.f (K' + 1) (m : Int)).bind _) else _) else _) = _
    rw [if_pos rfl, if_pos (by omega), go_f (m : Int) (by omega) (by omega) K', Option.bind_some]
    have e : textL (m : Int) = textN m := by
      unfold textL sign
      rw [if_neg (by omega), Int.natAbs_natCast]
      rfl
    rw [e, B_size, B_size, decide_eq_true (by omega)]
theorem back_f (n : Int) (h0 : -9223372036854775808 ≤ n) (h1 : n ≤ 9223372036854775807) (l : List UInt8) (hl : l.length ≤ 140737488351232) (K : Nat) (hK : l.length + 3000 < K) : capstanlaw10_NumBack.f K n (B l) = some true := by
  obtain ⟨K, rfl⟩ : ∃ q, K = q + 3 := ⟨K - 3, by omega⟩
  unfold capstanlaw10_NumBack.f
  rw [awake_K _ (by omega), Option.bind_some, if_pos rfl, go_f n h0 h1 (K + 2), Option.bind_some]
  have htl := textN_len n.natAbs (by omega)
  by_cases hn : n ≥ 0
  · have e : textL n = textN n.natAbs := by unfold textL sign; rw [if_neg (by omega)]; rfl
    have hr : readL (textN n.natAbs) = some n.natAbs := by rw [read_textN]; unfold fin; rw [if_pos (by omega)]
    rw [if_pos hn, e, read_l _ (K + 3) (by omega) (by omega), hr, Option.bind_some]
    show (if ((n.natAbs : Nat) : Int) = n then capstanlaw10_NumBack.j0 (K + 3) (B l) ((0 : Int) != 0) else _) = _
    rw [if_pos (by omega)]
    show capstanlaw10_NumBack.j0 (K + 2 + 1) (B l) false = _
    rw [capstanlaw10_NumBack.j0, if_neg (by decide)]
    exact rest l hl (K + 2) (by omega)
  · have e : textL n = 45 :: textN n.natAbs := by unfold textL sign; rw [if_pos (by omega)]; rfl
    rw [if_neg hn, e, read_l _ (K + 3) (by rw [List.length_cons]; omega) (by rw [List.length_cons]; omega), read_neg, Option.bind_some]
    show (if (0 : Int) = 0 then (if (13 : Int) = 13 then _ else _) else _) = _
    rw [if_pos rfl, if_pos rfl, if_neg (by rw [B_toList]; simp), if_pos (by rw [B_size, List.length_cons]; omega), B_bt]
    show capstanlaw10_NumBack.j1 (K + 2 + 1) n (B l) (B (45 :: textN n.natAbs)) false = _
    rw [capstanlaw10_NumBack.j1, if_neg (by decide), if_pos (by rw [B_size, List.length_cons]; omega), B_ext, B_size, List.take_length, List.drop_one, List.tail_cons, read_l _ (K + 2) (by omega) (by omega), read_textN, Option.bind_some]
    have j2 : capstanlaw10_NumBack.j2 (K + 2) (B l) false = some true := by
      show capstanlaw10_NumBack.j2 (K + 1 + 1) (B l) false = _
      rw [capstanlaw10_NumBack.j2, if_neg (by decide)]
      exact rest l hl (K + 1) (by omega)
    by_cases hm : n = -9223372036854775808
    · rw [if_pos hm]; exact j2
    · rw [if_neg hm]
      have hfin : fin n.natAbs = some n.natAbs := by unfold fin; rw [if_pos (by omega)]
      rw [hfin]
      have hw : wrap64 (-n) = ((n.natAbs : Nat) : Int) := by rw [w64 (by omega) (by omega)]; omega
      rw [hw]
      show (if ((n.natAbs : Nat) : Int) = ((n.natAbs : Nat) : Int) then capstanlaw10_NumBack.j2 (K + 2) (B l) ((0 : Int) != 0) else _) = _
      rw [if_pos rfl]
      exact j2
theorem walk : ArgNumBack.Walk := fun n s w hL hn hs =>
  capstanlaw10_NumBack.calls (s.size + 4000) n s true w (back_f n (bounds_i64 hn).1 (bounds_i64 hn).2 s.data.toList (by rw [Array.length_toList, ByteArray.size_data]; exact hs) _ (by rw [Array.length_toList, ByteArray.size_data]; omega)) hL
end Go.Proofs.YtekcdokgpjmbgaaDoor.Nv
