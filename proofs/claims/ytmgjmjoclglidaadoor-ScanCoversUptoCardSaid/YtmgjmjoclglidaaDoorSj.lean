/- Two texts, one behind the other: their runes. -/
import Derived.Test.YtmgjmjoclglidaaDoorSl
namespace Go.Proofs.YtmgjmjoclglidaaDoor.Sj
set_option linter.unusedVariables false
open Go.RowKit Go.Proofs.YtmgjmjoclglidaaDoor.Blk Go.Proofs.YtmgjmjoclglidaaDoor.Blk2 Go.Proofs.YtmgjmjoclglidaaDoor.Laid Go.Proofs.YtmgjmjoclglidaaDoor.Sa Go.Proofs.YtmgjmjoclglidaaDoor.Sb Go.Proofs.YtmgjmjoclglidaaDoor.Sw

set_option maxHeartbeats 4000000 in
theorem decodeN_more (n n' b0 b1 b2 b3 c1 c2 c3 : Nat) (hn : n ≤ n') (h1 : 1 < n → c1 = b1) (h2 : 2 < n → c2 = b2) (h3 : 3 < n → c3 = b3) (hok : Lib.decodeN n b0 b1 b2 b3 ≠ (65533, 1)) : Lib.decodeN n' b0 c1 c2 c3 = Lib.decodeN n b0 b1 b2 b3 := by
  unfold Lib.decodeN at hok ⊢
  by_cases g0 : b0 < 128
  · rw [if_pos g0, if_pos g0]
  rw [if_neg g0] at hok ⊢
  rw [if_neg g0]
  by_cases g1 : b0 / 32 = 6 ∧ (1 < n ∧ b1 / 64 = 2)
  · have e1 := h1 g1.2.1
    subst e1
    rw [if_pos g1, if_pos ⟨g1.1, by omega, g1.2.2⟩]
  rw [if_neg g1] at hok ⊢
  by_cases g2 : b0 / 16 = 14 ∧ (1 < n ∧ b1 / 64 = 2) ∧ (2 < n ∧ b2 / 64 = 2)
  · have e1 := h1 g2.2.1.1
    have e2 := h2 g2.2.2.1
    subst e1; subst e2
    rw [if_pos g2, if_neg (by omega), if_pos ⟨g2.1, ⟨by omega, g2.2.1.2⟩, by omega, g2.2.2.2⟩]
  rw [if_neg g2] at hok ⊢
  by_cases g3 : b0 / 8 = 30 ∧ (1 < n ∧ b1 / 64 = 2) ∧ (2 < n ∧ b2 / 64 = 2) ∧ (3 < n ∧ b3 / 64 = 2)
  · have e1 := h1 g3.2.1.1
    have e2 := h2 g3.2.2.1.1
    have e3 := h3 g3.2.2.2.1
    subst e1; subst e2; subst e3
    rw [if_pos g3, if_neg (by omega), if_neg (by omega), if_pos ⟨g3.1, ⟨by omega, g3.2.1.2⟩, ⟨by omega, g3.2.2.1.2⟩, by omega, g3.2.2.2.2⟩]
  rw [if_neg g3] at hok
  exact absurd rfl hok
theorem get_left (a b : ByteArray) (i : Nat) (h : i < a.size) : (a ++ b).get! i = a.get! i := by
  have h' : i < (a ++ b).size := by rw [ByteArray.size_append]; omega
  have e1 := get_at (a ++ b) i h'
  have e2 := get_at a i h
  simp only [Nat.add_zero] at e1 e2
  rw [e1, e2, ByteArray.getElem_append_left h]
theorem get_right (a b : ByteArray) (i : Nat) : (a ++ b).get! (a.size + i) = b.get! i := by
  have hx : (a ++ b).extract a.size (a ++ b).size = b := by
    rw [ByteArray.size_append]; first | exact ByteArray.extract_append_eq_right rfl rfl | exact ByteArray.ext (by simp [ByteArray.data_extract, ByteArray.data_append, ← ByteArray.size_data])
  have := Lib.tail_get! (a ++ b) a.size i
  rw [hx] at this
  exact this.symm
theorem dec_left (a b : ByteArray) (pos : Nat) (h : pos < a.size) (hok : Utf8.decode a pos ≠ (65533, 1)) : Utf8.decode (a ++ b) pos = Utf8.decode a pos := by
  rw [Lib.decode_at] at hok ⊢
  rw [Lib.decode_at a pos, get_left a b pos h]
  refine decodeN_more _ _ _ _ _ _ _ _ _ (by rw [ByteArray.size_append]; omega) ?_ ?_ ?_ hok
  · intro h'; rw [get_left a b _ (by omega)]
  · intro h'; rw [get_left a b _ (by omega)]
  · intro h'; rw [get_left a b _ (by omega)]
theorem dec_right (a b : ByteArray) (i : Nat) : Utf8.decode (a ++ b) (a.size + i) = Utf8.decode b i := by
  have hx : (a ++ b).extract a.size (a ++ b).size = b := by
    rw [ByteArray.size_append]; first | exact ByteArray.extract_append_eq_right rfl rfl | exact ByteArray.ext (by simp [ByteArray.data_extract, ByteArray.data_append, ← ByteArray.size_data])
  have := Lib.tail_decode (a ++ b) a.size i
  rw [hx] at this
  exact this.symm
theorem brk_of (s : ByteArray) (pos : Nat) (h : brk s pos (Utf8.decode s pos).1 = false) : Utf8.decode s pos ≠ (65533, 1) := by
  intro e
  rw [e] at h
  unfold brk at h
  rw [e] at h
  simp at h
theorem dec_fits (s : ByteArray) (pos : Nat) (hp : pos < s.size) : pos + (Utf8.decode s pos).2 ≤ s.size := by
  have h1 := Lib.decodeGo_le_size (s.extract pos s.size)
  rw [decodeGo_tail s pos hp, Lib.tail_size] at h1; omega
/-- Behind the first text. -/
theorem pcs_right (a b : ByteArray) : ∀ (f i : Nat), pcs (a ++ b) f (a.size + i) = ((pcs b f i).1.map (fun q => (q.1, q.2 + (a.size : Int))), (pcs b f i).2.map (fun q => (q.1 + (a.size : Int), q.2)))
  | 0, i => by simp [pcs]
  | f + 1, i => by
    have hd := dec_right a b i
    have hb : brk (a ++ b) (a.size + i) = brk b i := by funext r; unfold brk; rw [hd]
    unfold pcs
    rw [hd, hb, ByteArray.size_append]
    by_cases hp : i < b.size
    · rw [if_pos (by omega), if_pos hp]
      split
      · simp; omega
      · split
        · simp; omega
        · rw [Nat.add_assoc, pcs_right a b f]
          simp; omega
    · rw [if_neg (by omega), if_neg hp]; rfl
/-- The first text without a fault, then the second. -/
theorem pcs_left (a b : ByteArray) : ∀ (f pos : Nat) (l : List (Int × Int)) (g : Nat), a.size ≤ pos + f → pos ≤ a.size → pcs a f pos = (l, none) →
    pcs (a ++ b) (f + g) pos = (l ++ (pcs (a ++ b) (f + g - l.length) a.size).1, (pcs (a ++ b) (f + g - l.length) a.size).2) ∧ l.length ≤ f
  | 0, pos, l, g, h, h', hl => by
    have : pos = a.size := by omega
    subst this
    simp [pcs] at hl
    subst hl
    simp
  | f + 1, pos, l, g, h, h', hl => by
    by_cases hp : pos < a.size
    · obtain ⟨t', rfl, ht⟩ := pcs_step hp hl
      have hf := dec_fits a pos hp
      have hw := Lib.width_pos a pos
      have hbrk : brk a pos (Utf8.decode a pos).1 = false := by
        unfold pcs at hl; rw [if_pos hp] at hl
        by_cases hx : brk a pos (Utf8.decode a pos).1 = true
        · rw [if_pos hx] at hl; simp at hl
        · simpa using hx
      have hlet : lets (Utf8.decode a pos).1 = true := by
        unfold pcs at hl; rw [if_pos hp, if_neg (by simp [hbrk])] at hl
        by_cases hx : lets (Utf8.decode a pos).1 = false
        · rw [if_pos hx] at hl; simp at hl
        · simpa using hx
      have hd := dec_left a b pos hp (brk_of a pos hbrk)
      have hb : brk (a ++ b) pos = brk a pos := by funext r; unfold brk; rw [hd]
      obtain ⟨ih, ihl⟩ := pcs_left a b f (pos + (Utf8.decode a pos).2) t' g (by omega) (by omega) ht
      refine ⟨?_, by simp; omega⟩
      rw [show f + 1 + g = (f + g) + 1 from by omega]
      conv => lhs; unfold pcs
      rw [hd, hb, ByteArray.size_append, if_pos (by omega), if_neg (by simp [hbrk]), if_neg (by simp [hlet]), ih]
      rw [show f + g + 1 - ((((Utf8.decode a pos).1 : Int), (pos : Int)) :: t').length = f + g - t'.length from by simp]
      rfl
    · have : pos = a.size := by omega
      subst this
      rw [pcs_end a _ _ hp] at hl
      simp at hl
      subst hl
      simp
theorem pcs_fuel (s : ByteArray) (g : Nat) : ∀ (f pos : Nat), s.size ≤ pos + f → pcs s (f + g) pos = pcs s f pos
  | 0, pos, h => by rw [pcs_end s _ _ (by omega), pcs_end s _ _ (by omega)]
  | f + 1, pos, h => by
    rw [show f + 1 + g = (f + g) + 1 from by omega]
    unfold pcs
    have hw := Lib.width_pos s pos
    rw [pcs_fuel s g f (pos + (Utf8.decode s pos).2) (by omega)]
theorem pcs_in (s : ByteArray) : ∀ (f pos : Nat), (∀ q ∈ (pcs s f pos).1, (pos : Int) ≤ q.2 ∧ q.2 < s.size) ∧ (∀ q, (pcs s f pos).2 = some q → (pos : Int) ≤ q.1 ∧ q.1 < s.size)
  | 0, pos => by simp [pcs]
  | f + 1, pos => by
    unfold pcs
    by_cases hp : pos < s.size
    · rw [if_pos hp]
      split
      · simp; omega
      · split
        · simp; omega
        · obtain ⟨h1, h2⟩ := pcs_in s f (pos + (Utf8.decode s pos).2)
          refine ⟨?_, ?_⟩
          · intro q hq
            simp only [List.mem_cons] at hq
            rcases hq with rfl | hq
            · simp; omega
            · have := h1 q hq; omega
          · intro q hq
            have := h2 q hq; omega
    · rw [if_neg hp]; simp
theorem pcs_both (a b : ByteArray) (l : List (Int × Int)) (h : pcs a a.size 0 = (l, none)) :
    pcs (a ++ b) (a ++ b).size 0 = (l ++ (pcs b b.size 0).1.map (fun q => (q.1, q.2 + (a.size : Int))), (pcs b b.size 0).2.map (fun q => (q.1 + (a.size : Int), q.2))) := by
  obtain ⟨e, hl⟩ := pcs_left a b a.size 0 l b.size (by omega) (by omega) h
  rw [ByteArray.size_append, e]
  have e2 := pcs_right a b (a.size + b.size - l.length) 0
  rw [Nat.add_zero] at e2
  rw [e2, show a.size + b.size - l.length = b.size + (a.size - l.length) from by omega, pcs_fuel b _ b.size 0 (by omega)]
theorem wlk_app (x : Int) : ∀ (l : List (Int × Int)) (line col : Int), (∀ q ∈ l, q.2 ≠ x) → ∃ L C, wlk x x l line col = (L, C, 0) ∧ ∀ n2 r, wlk n2 x (l ++ r) line col = wlk n2 x r L C
  | [], line, col, _ => ⟨line, col, by simp [wlk], fun _ _ => rfl⟩
  | q :: t, line, col, h => by
    have hq := h q (by simp)
    by_cases hr : q.1 = 10
    · obtain ⟨L, C, h1, h2⟩ := wlk_app x t (line + 1) 1 (fun q' hq' => h q' (by simp [hq']))
      refine ⟨L, C, ?_, fun n2 r => ?_⟩
      · unfold wlk; rw [if_neg hq, if_pos hr, h1]
      · rw [List.cons_append]; conv => lhs; unfold wlk
        rw [if_neg hq, if_pos hr, h2]
    · obtain ⟨L, C, h1, h2⟩ := wlk_app x t line (col + 1) (fun q' hq' => h q' (by simp [hq']))
      refine ⟨L, C, ?_, fun n2 r => ?_⟩
      · unfold wlk; rw [if_neg hq, if_neg hr, h1]
      · rw [List.cons_append]; conv => lhs; unfold wlk
        rw [if_neg hq, if_neg hr, h2]
/-- The joint is where the first text ends. -/
theorem whr_joint (a b : ByteArray) (l m : List (Int × Int)) (ha : pcs a a.size 0 = (l, none)) (hb : pcs b b.size 0 = (m, none)) : ∃ L C, whr a a.size = (L, C, 0) ∧ whr (a ++ b) a.size = (L, C, 0) := by
  have hin := (pcs_in a a.size 0).1
  rw [ha] at hin
  obtain ⟨L, C, h1, h2⟩ := wlk_app a.size l 1 1 (fun q hq => by have := (hin q hq).2; omega)
  refine ⟨L, C, ?_, ?_⟩
  · unfold whr; rw [ha]; exact h1
  · unfold whr; rw [pcs_both a b l ha, hb]
    simp only [Option.map_none]
    rw [h2]
    by_cases h0 : b.size = 0
    · have : m = [] := by rw [h0] at hb; simp [pcs] at hb; exact hb
      subst this
      simp [wlk, ByteArray.size_append, h0]
    · obtain ⟨f, hf⟩ : ∃ f, b.size = f + 1 := ⟨b.size - 1, by omega⟩
      rw [hf] at hb
      obtain ⟨t', rfl, _⟩ := pcs_step (by omega) hb
      simp [wlk]
end Go.Proofs.YtmgjmjoclglidaaDoor.Sj
