/- NumSpanBack: a duration's text is read as the duration. -/
import Derived.Test.YtekcdokgpjmbgaaDoorNx
import Derived.Test.YtekcdokgpjmbgaaDoorNs
import Derived.Test.YtekcdokgpjmbgaaDoorNh
import Derived.Test.YtekcdokgpjmbgaaDoorOCx2
import Derived.Test.YtekcdokgpjmbgaaDoorArgNumSpanBack
import Derived.OpenShut
namespace Go.Proofs.YtekcdokgpjmbgaaDoor.Ny
set_option linter.unusedVariables false
set_option linter.unusedSimpArgs false
open Go.RowKit Go.Proofs.YtekcdokgpjmbgaaDoorW.PrintWords Go.Proofs.YtekcdokgpjmbgaaDoor.OC Go.Proofs.YtekcdokgpjmbgaaDoor.Nd Go.Proofs.YtekcdokgpjmbgaaDoor.Nr Go.Proofs.YtekcdokgpjmbgaaDoor.Nf Go.Proofs.YtekcdokgpjmbgaaDoor.Ng Go.Proofs.YtekcdokgpjmbgaaDoor.Nx
theorem ib_absent : ∀ (l : List UInt8) (c : UInt8), (∀ x ∈ l, x ≠ c) → Lib.indexByte l c = -1
  | [], _, _ => rfl
  | x :: l, c, h => by
    have hx := h x (by simp)
    have := ib_absent l c (fun y hy => h y (by simp [hy]))
    unfold Lib.indexByte
    rw [this]
    simp [hx]
theorem ib_at : ∀ (p : List UInt8) (c : UInt8) (r : List UInt8), (∀ x ∈ p, x ≠ c) → Lib.indexByte (p ++ c :: r) c = (p.length : Int)
  | [], c, r, _ => by simp [Lib.indexByte]
  | x :: p, c, r, h => by
    have hx := h x (by simp)
    have := ib_at p c r (fun y hy => h y (by simp [hy]))
    rw [List.cons_append]
    unfold Lib.indexByte
    rw [this]
    simp [hx]
    try omega
theorem idx_B (l : List UInt8) (c : UInt8) : idx (B l) (c.toNat : Int) = Lib.indexByte l c := by
  unfold idx
  rw [B_list]
  congr 1
  simp
/-- No such letter: nothing is read. -/
theorem add_absent (l : List UInt8) (n : Int) (c : UInt8) (wo : Int) (h : ∀ x ∈ l, x ≠ c) : addF (B l, n) (c.toNat : Int) wo = (B l, wrap64 n) := by
  have hp : partOk (B l) (c.toNat : Int) = false := by
    unfold partOk
    rw [idx_B, ib_absent l c h]
    rfl
  unfold addF partF
  simp [hp]
/-- A part is read. -/
theorem add_part (q : Nat) (r : List UInt8) (n : Int) (c : UInt8) (wo : Int) (hc : isD c = false) (h1 : 1 ≤ q) (hq : (Lib.decDigits q).length ≤ 6) :
    addF (B (Lib.decDigits q ++ c :: r), n) (c.toNat : Int) wo = (B r, wrap64 (n + wrap64 ((q : Int) * wo))) := by
  have hne : ∀ x ∈ Lib.decDigits q, x ≠ c := by
    intro x hx e
    have := List.all_eq_true.1 (dec_all q) x hx
    rw [e, hc] at this
    cases this
  have hi := ib_at (Lib.decDigits q) c r hne
  have hl : 1 ≤ (Lib.decDigits q).length := List.length_pos_iff.2 (dec_ne q)
  have hx : (B (Lib.decDigits q ++ c :: r)).extract 0 (Lib.decDigits q).length = B (Lib.decDigits q) := by rw [B_ext, List.take_left, List.drop_zero]
  have hb : bt (B (Lib.decDigits q ++ c :: r)) 0 ≠ 48 := by
    have hh := dec_head q h1
    cases hd : Lib.decDigits q with
    | nil => exact absurd hd (dec_ne q)
    | cons a t =>
      rw [hd] at hh
      rw [List.cons_append, B_bt]
      intro e
      apply hh
      rw [List.head?_cons]
      congr 1
      exact UInt8.toNat_inj.1 (by show a.toNat = 48; omega)
  have hp : partOk (B (Lib.decDigits q ++ c :: r)) (c.toNat : Int) = true := by
    unfold partOk
    rw [idx_B, hi, decide_eq_true ⟨by omega, by omega⟩, Int.toNat_natCast, hx, decide_eq_false hb, Bool.true_and]
    unfold digB
    rw [B_list, dec_all q, B_toList]
    simp [dec_ne q]
  have hv : partV (B (Lib.decDigits q ++ c :: r)) (c.toNat : Int) wo = wrap64 ((q : Int) * wo) := by
    unfold partV
    rw [idx_B, hi, Int.toNat_natCast, hx, B_list, dec_val]
  have hr : partR (B (Lib.decDigits q ++ c :: r)) (c.toNat : Int) = B r := by
    unfold partR
    rw [idx_B, hi, Int.toNat_natCast, B_ext, B_size, List.take_length]
    congr 1
    rw [show Lib.decDigits q ++ c :: r = (Lib.decDigits q ++ [c]) ++ r by simp]
    exact List.drop_left' (by simp)
  unfold addF partF
  simp [hp, hv, hr]
theorem add_none (s : ByteArray) (c wo : Int) (h : ¬ 0 ≤ idx s c) : addF (s, 0) c wo = (s, 0) := by
  have hp : partOk s c = false := by
    unfold partOk
    rw [decide_eq_false (by omega)]
    rfl
  unfold addF partF
  simp [hp]
  exact w64 (by decide) (by decide)
theorem spanA_is (s : ByteArray) : spanA s = addF (addF (addF (addF (s, 0) 100 86400) 104 3600) 109 60) 115 1 := by
  unfold spanA
  split
  · rfl
  · rename_i h0
    rw [add_none s 100 86400 h0]
    split
    · rfl
    · rename_i h1
      rw [add_none s 104 3600 h1]
      split
      · rfl
      · rename_i h2
        rw [add_none s 109 60 h2]
def seg (n k : Nat) : List UInt8 := if wo k ≤ re n k then Lib.decDigits (re n k / wo k) ++ [lt k] else []
theorem tx_seg (n : Nat) : ∀ k, tx n (k + 1) = tx n k ++ seg n k := by
  intro k
  show (if _ then _ else _) = _
  unfold seg
  split
  · rfl
  · rw [List.append_nil]
def okC (k : Nat) (c : UInt8) : Prop := isD c = true ∨ ∃ j, k ≤ j ∧ j < 4 ∧ c = lt j
theorem seg_ok (n k : Nat) (hk : k < 4) : ∀ c ∈ seg n k, okC k c := by
  intro c hc
  unfold seg at hc
  split at hc
  · rw [List.mem_append] at hc
    rcases hc with hc | hc
    · exact .inl (List.all_eq_true.1 (dec_all _) c hc)
    · exact .inr ⟨k, by omega, hk, by simpa using hc⟩
  · cases hc
theorem lt_D : ∀ k, isD (lt k) = false := by
  intro k; unfold lt; split <;> decide
theorem lt_ne (k j : Nat) (h : k < j) (hj : j < 4) : lt j ≠ lt k := by
  rcases (show (k = 0 ∧ j = 1) ∨ (k = 0 ∧ j = 2) ∨ (k = 0 ∧ j = 3) ∨ (k = 1 ∧ j = 2) ∨ (k = 1 ∧ j = 3) ∨ (k = 2 ∧ j = 3) by omega) with ⟨rfl, rfl⟩ | ⟨rfl, rfl⟩ | ⟨rfl, rfl⟩ | ⟨rfl, rfl⟩ | ⟨rfl, rfl⟩ | ⟨rfl, rfl⟩ <;> decide
/-- One round: what is behind holds later letters alone. -/
theorem add_seg (n k : Nat) (r : List UInt8) (v : Nat) (hk : k < 4) (hr : ∀ c ∈ r, okC (k + 1) c) (hn : n ≤ 604800) (hv : v ≤ 604800) :
    addF (B (seg n k ++ r), (v : Int)) ((lt k).toNat : Int) (wo k : Int) = (B r, ((v + re n k / wo k * wo k : Nat) : Int)) := by
  have hre := re_le n k
  have hmul : re n k / wo k * wo k ≤ re n k := Nat.div_mul_le_self _ _
  unfold seg
  by_cases h : wo k ≤ re n k
  · rw [if_pos h, List.append_assoc]
    have hq1 : 1 ≤ re n k / wo k := (Nat.one_le_div_iff (wo_pos k)).2 h
    have hq2 : re n k / wo k ≤ re n k := Nat.div_le_self _ _
    have hlen : (Lib.decDigits (re n k / wo k)).length ≤ 6 := dec_len_le _ 5 (by omega)
    show addF (B (Lib.decDigits (re n k / wo k) ++ lt k :: r), (v : Int)) _ _ = _
    rw [add_part _ r _ _ _ (lt_D k) hq1 hlen]
    have e : ((re n k / wo k : Nat) : Int) * (wo k : Int) = ((re n k / wo k * wo k : Nat) : Int) := by rw [Int.natCast_mul]
    rw [e]
    generalize re n k / wo k * wo k = m at hmul
    rw [w64 (a := (m : Int)) (by omega) (by omega), w64 (by omega) (by omega)]
    congr 1
  · rw [if_neg h, List.nil_append, Nat.div_eq_of_lt (by omega), Nat.zero_mul, Nat.add_zero, add_absent, w64 (by omega) (by omega)]
    intro x hx e
    rcases hr x hx with hd | ⟨j, h1, h2, rfl⟩
    · rw [e, lt_D] at hd; cases hd
    · exact lt_ne k j (by omega) h2 e
theorem span_tx (n : Nat) (hn : n ≤ 604800) : spanA (B (tx n 4)) = (B [], (n : Int)) := by
  have e : tx n 4 = seg n 0 ++ (seg n 1 ++ (seg n 2 ++ (seg n 3 ++ []))) := by
    rw [tx_seg, tx_seg, tx_seg, tx_seg]
    show [] ++ _ ++ _ ++ _ ++ _ = _
    simp
  have o4 : ∀ c ∈ ([] : List UInt8), okC 4 c := fun c h => by cases h
  have up : ∀ (k : Nat) (r : List UInt8), k < 4 → (∀ c ∈ r, okC (k + 1) c) → ∀ c ∈ seg n k ++ r, okC k c := by
    intro k r hk hr c hc
    rw [List.mem_append] at hc
    rcases hc with hc | hc
    · exact seg_ok n k hk c hc
    · rcases hr c hc with h | ⟨j, h1, h2, h3⟩
      · exact .inl h
      · exact .inr ⟨j, by omega, h2, h3⟩
  have o3 := up 3 [] (by omega) o4
  have o2 := up 2 _ (by omega) o3
  have o1 := up 1 _ (by omega) o2
  have s0 : re n 0 / wo 0 * wo 0 ≤ n := Nat.div_mul_le_self _ _
  have m0 : re n 0 / wo 0 * wo 0 + re n 1 = n := Nat.div_add_mod' _ _
  have m1 : re n 1 / wo 1 * wo 1 + re n 2 = re n 1 := Nat.div_add_mod' _ _
  have m2 : re n 2 / wo 2 * wo 2 + re n 3 = re n 2 := Nat.div_add_mod' _ _
  have m3 : re n 3 / wo 3 * wo 3 = re n 3 := by show re n 3 / 1 * 1 = _; rw [Nat.div_one, Nat.mul_one]
  have a0 := add_seg n 0 _ 0 (by omega) o1 hn (by omega)
  have a1 := add_seg n 1 _ (0 + re n 0 / wo 0 * wo 0) (by omega) o2 hn (by omega)
  have a2 := add_seg n 2 _ (0 + re n 0 / wo 0 * wo 0 + re n 1 / wo 1 * wo 1) (by omega) o3 hn (by omega)
  have a3 := add_seg n 3 _ (0 + re n 0 / wo 0 * wo 0 + re n 1 / wo 1 * wo 1 + re n 2 / wo 2 * wo 2) (by omega) o4 hn (by omega)
  rw [spanA_is, e]
  have a0' : addF (B (seg n 0 ++ (seg n 1 ++ (seg n 2 ++ (seg n 3 ++ [])))), 0) 100 86400 = _ := a0
  rw [a0']
  have a1' : addF (B (seg n 1 ++ (seg n 2 ++ (seg n 3 ++ []))), _) 104 3600 = _ := a1
  rw [a1']
  have a2' : addF (B (seg n 2 ++ (seg n 3 ++ [])), _) 109 60 = _ := a2
  rw [a2']
  have a3' : addF (B (seg n 3 ++ []), _) 115 1 = _ := a3
  rw [a3']
  congr 2
  omega
theorem spanF_tx (n : Nat) (h1 : 1 ≤ n) (hn : n ≤ 604800) : spanF (B (tx n 4)) = ((n : Int), 0) := by
  have hne : ¬ (B (tx n 4)).toList = [] := by
    intro e
    rw [B_toList] at e
    have h := span_tx n hn
    rw [e] at h
    have h2 : (spanA (B [])).2 = 0 := by decide +kernel
    rw [h] at h2
    have h3 : (n : Int) = 0 := h2
    omega
  unfold spanF
  rw [if_neg hne, span_tx n hn, if_neg]
  rintro (h | h | h)
  · exact h (B_toList [])
  · have h' : (n : Int) < 1 := h
    omega
  · have h' : 604800 < (n : Int) := h
    omega
theorem spanF_or (s : ByteArray) : spanF s = (0, 13) ∨ ∃ m : Int, 1 ≤ m ∧ m ≤ 604800 ∧ spanF s = (m, 0) := by
  unfold spanF
  split
  · exact .inl rfl
  · split
    · exact .inl rfl
    · rename_i h
      exact .inr ⟨_, by omega, by omega, rfl⟩
theorem awake_K (K : Nat) (h : 100 ≤ K) : OB.capstanlaw10_awake.f K = some true := at_rounds (g := fun k => OB.capstanlaw10_awake.f k) (fun k => OB.capstanlaw10_awake.mono k) h Nh.awake_is
theorem rs_f (s : ByteArray) (h : s.size ≤ 4611686018427387904) : Ns.ReadSpan.f s = some (spanF s) := by unfold Ns.ReadSpan.f; rw [if_pos h]
theorem back_f (n : Int) (s : ByteArray) (hs : s.size ≤ 4611686018427387904) (K : Nat) (hK : 1000 < K) : capstanlaw10_NumSpanBack.f K n s = some true := by
  obtain ⟨K, rfl⟩ : ∃ q, K = q + 1 := ⟨K - 1, by omega⟩
  have tail : ((Ns.ReadSpan.f s).bind fun bt108 => (if bt108.2 = 0 then (if bt108.1 ≥ 1 then (some (decide (bt108.1 ≤ 604800))) else (some false)) else (if bt108.1 = 0 then (some true) else (some false)))) = some true := by
    rw [rs_f s hs, Option.bind_some]
    rcases spanF_or s with h | ⟨m, h1, h2, h⟩
    · rw [h]; rfl
    · rw [h]
      show (if (0 : Int) = 0 then (if m ≥ 1 then (some (decide (m ≤ 604800))) else _) else _) = _
      rw [if_pos rfl, if_pos h1, decide_eq_true h2]
  unfold capstanlaw10_NumSpanBack.f
  rw [awake_K _ (by omega), Option.bind_some, if_pos rfl]
  unfold Nx.SpanText.f
  by_cases h : 1 ≤ n ∧ n ≤ 604800
  · obtain ⟨m, rfl⟩ := Int.eq_ofNat_of_zero_le (show 0 ≤ n by omega)
    have hm1 : 1 ≤ m := by omega
    have hm2 : m ≤ 604800 := by omega
    have hl := tx_len m hm2 4
    rw [if_pos h, Option.bind_some, if_pos h.1, decide_eq_true h.2]
    show capstanlaw10_NumSpanBack.j0 (K + 1) (m : Int) s (B (tx m 4)) 0 false = _
    rw [capstanlaw10_NumSpanBack.j0, if_neg (by decide), if_pos rfl, rs_f _ (by rw [B_size]; omega), spanF_tx m hm1 hm2, Option.bind_some]
    show (if (m : Int) = (m : Int) then (if (0 : Int) = 0 then _ else _) else _) = _
    rw [if_pos rfl, if_pos rfl]
    exact tail
  · rw [if_neg h, Option.bind_some]
    have j : capstanlaw10_NumSpanBack.j0 (K + 1) n s (⟨#[]⟩ : ByteArray) 3 false = some true := by
      rw [capstanlaw10_NumSpanBack.j0, if_neg (by decide), if_neg (by decide)]
      exact tail
    by_cases h1 : n ≥ 1
    · rw [if_pos h1, decide_eq_false (by omega)]
      exact j
    · rw [if_neg h1]
      exact j
theorem walk : ArgNumSpanBack.Walk := fun n s w hL hn hs =>
  capstanlaw10_NumSpanBack.calls 4000 n s true w (back_f n s (by omega) _ (by omega)) hL
end Go.Proofs.YtekcdokgpjmbgaaDoor.Ny
