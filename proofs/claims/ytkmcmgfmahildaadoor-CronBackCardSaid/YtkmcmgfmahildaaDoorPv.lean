/- A schedule's text read again: what told lays, the reader takes. -/
import Derived.Test.YtkmcmgfmahildaaDoorPu0
import Derived.Test.YtkmcmgfmahildaaDoorPw
namespace Go.Proofs.YtkmcmgfmahildaaDoor.Pv
set_option linter.unusedVariables false
open Go.RowKit Go.Proofs.YtkmcmgfmahildaaDoorW.PrintWords Go.Proofs.YtkmcmgfmahildaaDoor.OA Go.Proofs.YtkmcmgfmahildaaDoor.Bt Go.Proofs.YtkmcmgfmahildaaDoor.Laid Go.Proofs.YtkmcmgfmahildaaDoor.Pt Go.Proofs.YtkmcmgfmahildaaDoor.Pu0
open Go.Proofs.YtkmcmgfmahildaaDoor.Pw (isD L D val numP atB stF slashP itemP setP isD_iff L_len)

def dl (n : Nat) : List UInt8 := Lib.decDigits n
theorem dl_small (n : Nat) (h : n < 10) : dl n = [UInt8.ofNat (48 + n)] := by unfold dl; rw [Lib.decDigits, dif_pos h]
theorem dl_big (n : Nat) (h : ¬ n < 10) (h2 : n < 100) : dl n = [UInt8.ofNat (48 + n / 10), UInt8.ofNat (48 + n % 10)] := by
  unfold dl; rw [Lib.decDigits, dif_neg h, Lib.decDigits, dif_pos (by omega)]; rfl
theorem dg_list (n : Nat) : (dg n).data.toList = dl n := by simp [dg, dl]
theorem toNat_of (x : Nat) (h : x < 256) : (UInt8.ofNat x).toNat = x := by simp; omega
theorem isD_of (x : Nat) (h : x < 10) : isD (UInt8.ofNat (48 + x)) = true := by rw [isD_iff, toNat_of _ (by omega)]; omega
/-- No digit stands ahead in r. -/
def NoD (r : List UInt8) : Prop := ∀ b t, r = b :: t → isD b = false
theorem D_of (n : Nat) (h : n < 100) (r : List UInt8) (hr : NoD r) : D (dl n ++ r) = dl n := by
  have h0 : D r = [] := by
    cases r with
    | nil => rfl
    | cons b t => unfold D; rw [List.takeWhile_cons, if_neg (by rw [hr b t rfl]; simp)]
  by_cases h1 : n < 10
  · rw [dl_small n h1]
    show D (UInt8.ofNat (48 + n) :: r) = _
    unfold D at h0 ⊢
    rw [List.takeWhile_cons, if_pos (isD_of n h1), h0]
  · rw [dl_big n h1 h]
    show D (UInt8.ofNat (48 + n / 10) :: UInt8.ofNat (48 + n % 10) :: r) = _
    unfold D at h0 ⊢
    rw [List.takeWhile_cons, if_pos (isD_of _ (by omega)), List.takeWhile_cons, if_pos (isD_of _ (by omega)), h0]
theorem val_of (n : Nat) (h : n < 100) : val 0 (dl n) = n := by
  by_cases h1 : n < 10
  · rw [dl_small n h1]
    show 10 * 0 + ((UInt8.ofNat (48 + n)).toNat - 48) = n
    rw [toNat_of _ (by omega)]; omega
  · rw [dl_big n h1 h]
    show 10 * (10 * 0 + ((UInt8.ofNat (48 + n / 10)).toNat - 48)) + ((UInt8.ofNat (48 + n % 10)).toNat - 48) = n
    rw [toNat_of _ (by omega), toNat_of _ (by omega)]; omega
theorem L_next (s : ByteArray) (p : Nat) (A B : List UInt8) (hp : p ≤ s.size) (h : L s p = A ++ B) : L s (p + A.length) = B ∧ p + A.length ≤ s.size := by
  constructor
  · have : L s (p + A.length) = (L s p).drop A.length := by unfold L; rw [List.drop_drop]
    rw [this, h, List.drop_left]
  · have := L_len s p
    rw [h, List.length_append] at this
    omega
theorem atB_cons {s : ByteArray} {p : Nat} {b : UInt8} {r : List UInt8} (h : L s p = b :: r) (c : Int) : atB s p c = ((b.toNat : Int) == c) ∧ p < s.size ∧ L s (p + 1) = r ∧ bt s p = (b.toNat : Int) := by
  have hp : p < s.size := by
    rcases Nat.lt_or_ge p s.size with h1 | h1
    · exact h1
    · rw [Pw.L_nil s p h1] at h; cases h
  have h2 := Pw.L_cons s p hp
  rw [h] at h2
  injection h2 with h3 h4
  refine ⟨?_, hp, h4.symm, by rw [Pw.bt_nat s p hp, h3]⟩
  rw [← Pw.bt_at s p c hp, Pw.bt_nat s p hp, h3]
theorem atB_nil {s : ByteArray} {p : Nat} (h : L s p = []) (c : Int) : atB s p c = false := by
  apply Pw.atB_no
  intro hp
  rw [Pw.L_cons s p hp] at h
  cases h
theorem num_of (s : ByteArray) (p n : Nat) (r : List UInt8) (lo hi : Int) (hp : p ≤ s.size) (h : n < 100) (hr : NoD r) (hL : L s p = dl n ++ r) (h1 : lo ≤ (n : Int)) (h2 : (n : Int) ≤ hi) : numP s p lo hi = some (n, p + (dl n).length) := by
  unfold numP
  have hD : D (L s p) = dl n := by rw [hL]; exact D_of n h r hr
  rw [hD, val_of n h]
  by_cases h3 : n < 10
  · have e : (dl n).length = 1 := by rw [dl_small n h3]; rfl
    rw [e, if_neg (by omega), if_neg (by omega)]
  · have e : (dl n).length = 2 := by rw [dl_big n h3 h]; rfl
    have hb : bt s p = ((48 + n / 10 : Nat) : Int) := by
      rw [dl_big n h3 h] at hL
      obtain ⟨_, _, _, h4⟩ := atB_cons hL 0
      rw [h4, toNat_of _ (by omega)]
    rw [e, if_neg (by rw [hb]; omega), if_neg (by omega)]
theorem head_dl (n : Nat) (h : n < 100) : ∃ b t, dl n = b :: t ∧ isD b = true := by
  by_cases h1 : n < 10
  · exact ⟨_, _, dl_small n h1, isD_of n h1⟩
  · exact ⟨_, _, dl_big n h1 h, isD_of _ (by omega)⟩
/-- What stands behind a field's item: nothing, a comma, a space. -/
def Stop (r : List UInt8) : Prop := r = [] ∨ ∃ b t, r = b :: t ∧ (b = 44 ∨ b = 32)
theorem stop_nod {r : List UInt8} (h : Stop r) : NoD r := by
  intro b t hb
  rcases h with h | ⟨b', t', h, h2⟩
  · rw [h] at hb; cases hb
  · rw [h] at hb; injection hb with h3 _; subst h3
    rcases h2 with rfl | rfl <;> rfl
theorem stop_at {s : ByteArray} {p : Nat} {r : List UInt8} (hL : L s p = r) (h : Stop r) (c : Int) (hc : c = 45 ∨ c = 47) : atB s p c = false := by
  rcases h with h | ⟨b, t, h, h2⟩
  · rw [h] at hL; exact atB_nil hL c
  · rw [h] at hL
    rw [(atB_cons hL c).1]
    rcases h2 with rfl | rfl <;> rcases hc with rfl | rfl <;> rfl
theorem not_star {s : ByteArray} {p n : Nat} {r : List UInt8} (h : n < 100) (hL : L s p = dl n ++ r) : atB s p 42 = false := by
  obtain ⟨b, t, e, hb⟩ := head_dl n h
  rw [e] at hL
  rw [(atB_cons hL 42).1]
  have := (isD_iff b).1 hb
  rw [beq_eq_false_iff_ne]; omega
theorem stF_one (m : Nat) : stF 64 m m 1 0 = 2 ^ m := by
  show (if m ≤ m then stF 63 (m + 1) m 1 (0 ||| 2 ^ m) else 0) = _
  rw [if_pos (Nat.le_refl _)]
  show (if m + 1 ≤ m then _ else _) = _
  rw [if_neg (by omega), Nat.zero_or]
/-- The numbers from a to b. -/
theorem stF_bit (b : Nat) : ∀ (g a acc i : Nat), b + 1 ≤ a + g → (stF g a b 1 acc).testBit i = (acc.testBit i || (decide (a ≤ i) && decide (i ≤ b)))
  | 0, a, acc, i, h => by
    show acc.testBit i = _
    by_cases h1 : a ≤ i
    · rw [decide_eq_false (show ¬ i ≤ b from by omega)]; simp
    · rw [decide_eq_false h1]; simp
  | g + 1, a, acc, i, h => by
    show (if a ≤ b then stF g (a + 1) b 1 (acc ||| 2 ^ a) else acc).testBit i = _
    split
    · rename_i hab
      rw [stF_bit b g (a + 1) _ i (by omega), Nat.testBit_or, Nat.testBit_two_pow, Bool.or_assoc]
      congr 1
      by_cases h1 : a = i
      · subst h1; simp [hab]
      · by_cases h2 : a ≤ i
        · simp [h1, h2, show a + 1 ≤ i from by omega]
        · simp [h1, h2, show ¬ a + 1 ≤ i from by omega]
    · rename_i hab
      by_cases h1 : a ≤ i
      · rw [decide_eq_false (show ¬ i ≤ b from by omega)]; simp
      · rw [decide_eq_false h1]; simp
theorem item_one (s : ByteArray) (p m lo hi : Nat) (r : List UInt8) (hp : p ≤ s.size) (hm : m < 100) (hr : Stop r) (hL : L s p = dl m ++ r) (h1 : lo ≤ m) (h2 : m ≤ hi) : itemP s p lo hi = (true, 2 ^ m, p + (dl m).length) := by
  unfold itemP
  obtain ⟨hq, hq2⟩ := L_next s p _ _ hp hL
  rw [not_star hm hL, num_of s p m r lo hi hp hm (stop_nod hr) hL (by omega) (by omega)]
  simp only [Bool.false_eq_true, if_false]
  rw [stop_at hq hr 45 (.inl rfl), stF_one]
  simp
theorem item_range (s : ByteArray) (p m k lo hi : Nat) (r : List UInt8) (hp : p ≤ s.size) (hm : m < 100) (hk : k < 100) (hmk : m ≤ k) (hr : Stop r) (hL : L s p = dl m ++ (45 :: (dl k ++ r))) (h1 : lo ≤ m) (h2 : k ≤ hi) : itemP s p lo hi = (true, stF 64 m k 1 0, p + (dl m).length + 1 + (dl k).length) := by
  unfold itemP
  obtain ⟨hq, hq2⟩ := L_next s p _ _ hp hL
  obtain ⟨h3, h4, h5, _⟩ := atB_cons hq 45
  obtain ⟨hq3, hq4⟩ := L_next s (p + (dl m).length + 1) _ _ h4 h5
  rw [not_star hm hL, num_of s p m _ lo hi hp hm (fun b t h => by injection h with h _; subst h; rfl) hL (by omega) (by omega)]
  simp only [Bool.false_eq_true, if_false]
  rw [h3, show (((45 : UInt8).toNat : Int) == 45) = true from rfl, if_pos rfl, num_of s (p + (dl m).length + 1) k r m hi h4 hk (stop_nod hr) h5 (by omega) (by omega)]
  simp only
  unfold slashP
  rw [stop_at hq3 hr 47 (.inr rfl)]
  simp
/-! ### What told lays, as a list -/
def pieceL (m k : Nat) : List UInt8 := if k = m then dl m else if k = m + 1 then dl m ++ (44 :: dl k) else dl m ++ (45 :: dl k)
def tailL (S : Nat) : Nat → Nat → List UInt8
  | 0, _ => []
  | g + 1, m => if S.testBit m = true ∧ (m = 0 ∨ S.testBit (m - 1) = false) then 44 :: (pieceL m (rend S 64 m) ++ tailL S g (m + 1)) else tailL S g (m + 1)
theorem pcs_list (o : ByteArray) (m k : Nat) : (pcs o m k).data.toList = o.data.toList ++ pieceL m k := by
  unfold pcs pieceL
  split
  · simp [dg_list]
  · split
    · simp [dg_list]
    · simp [dg_list]
theorem piece_ne (m k : Nat) (h : m < 100) : pieceL m k ≠ [] := by
  obtain ⟨b, t, e, _⟩ := head_dl m h
  unfold pieceL
  rw [e]
  split
  · simp
  · split <;> simp
theorem toList_data (o : ByteArray) : o.toList = o.data.toList := ByteArray.toList_eq o
theorem tl_list (S : Nat) : ∀ (g m : Nat) (out : ByteArray), m + g ≤ 100 → out.data.toList ≠ [] → (tl S g m out).data.toList = out.data.toList ++ tailL S g m
  | 0, m, out, _, _ => by simp [tl, tailL]
  | g + 1, m, out, hm, h => by
    rw [show tl S (g + 1) m out = if S.testBit m = true ∧ (m = 0 ∨ S.testBit (m - 1) = false) then tl S g (m + 1) (pc out m (rend S 64 m)) else tl S g (m + 1) out from rfl, show tailL S (g + 1) m = if S.testBit m = true ∧ (m = 0 ∨ S.testBit (m - 1) = false) then 44 :: (pieceL m (rend S 64 m) ++ tailL S g (m + 1)) else tailL S g (m + 1) from rfl]
    split
    · have hp : (pc out m (rend S 64 m)).data.toList = out.data.toList ++ (44 :: pieceL m (rend S 64 m)) := by
        unfold pc
        rw [if_neg (by rw [toList_data]; exact h), pcs_list]
        simp
      rw [tl_list S g (m + 1) _ (by omega) (by rw [hp]; simp), hp]
      simp
    · exact tl_list S g (m + 1) out (by omega) h
theorem tl_first (S : Nat) : ∀ (g m : Nat), m + g ≤ 100 → (tl S g m ⟨#[]⟩).data.toList = (tailL S g m).drop 1
  | 0, m, _ => by simp [tl, tailL]
  | g + 1, m, hm => by
    rw [show tl S (g + 1) m ⟨#[]⟩ = if S.testBit m = true ∧ (m = 0 ∨ S.testBit (m - 1) = false) then tl S g (m + 1) (pc ⟨#[]⟩ m (rend S 64 m)) else tl S g (m + 1) ⟨#[]⟩ from rfl, show tailL S (g + 1) m = if S.testBit m = true ∧ (m = 0 ∨ S.testBit (m - 1) = false) then 44 :: (pieceL m (rend S 64 m) ++ tailL S g (m + 1)) else tailL S g (m + 1) from rfl]
    split
    · have hp : (pc ⟨#[]⟩ m (rend S 64 m)).data.toList = pieceL m (rend S 64 m) := by
        unfold pc
        rw [if_pos (by rw [toList_data]), pcs_list]
        simp
      rw [tl_list S g (m + 1) _ (by omega) (by rw [hp]; exact piece_ne m _ (by omega)), hp]
      simp
    · exact tl_first S g (m + 1) (by omega)
/-- From m on: nothing more, or the next run. -/
theorem tail_cases (S : Nat) (hS : S < 18446744073709551616) : ∀ (n m : Nat), m + n = 64 → (m = 0 ∨ S.testBit (m - 1) = false) →
    (tailL S n m = [] ∧ ∀ i, m ≤ i → S.testBit i = false) ∨ ∃ m' k', m ≤ m' ∧ Run S m' k' ∧ (∀ i, m ≤ i → i < m' → S.testBit i = false) ∧ k' < 64 ∧ tailL S n m = 44 :: (pieceL m' k' ++ tailL S (64 - (k' + 2)) (k' + 2)) := by
  intro n
  induction n with
  | zero =>
    intro m hm _
    exact .inl ⟨rfl, fun i hi => lt_iff_bits.1 (show S < 2 ^ 64 from hS) i (by omega)⟩
  | succ n ih =>
    intro m hm h0
    have e : tailL S (n + 1) m = if S.testBit m = true ∧ (m = 0 ∨ S.testBit (m - 1) = false) then 44 :: (pieceL m (rend S 64 m) ++ tailL S n (m + 1)) else tailL S n (m + 1) := rfl
    by_cases hb : S.testBit m = true
    · rw [if_pos ⟨hb, h0⟩] at e
      have hr := rend_run S hS 64 m (by omega) hb
      obtain ⟨k, hk⟩ : ∃ k, rend S 64 m = k := ⟨_, rfl⟩
      rw [hk] at e hr
      have hk64 := run_lt hS hr
      have hmk := hr.1
      refine .inr ⟨m, k, Nat.le_refl _, hr, fun i i1 i2 => by omega, hk64, ?_⟩
      rw [e]
      -- within the run, and at the gap behind it, no run begins
      have hin : ∀ (d i g : Nat), i + d = k + 1 → m < i → i + g = 64 → tailL S g i = tailL S (64 - (k + 1)) (k + 1) := by
        intro d
        induction d with
        | zero => intro i g h1 h2 h3; rw [show i = k + 1 from by omega, show g = 64 - (k + 1) from by omega]
        | succ d ihd =>
          intro i g h1 h2 h3
          obtain ⟨g', rfl⟩ : ∃ g', g = g' + 1 := ⟨g - 1, by omega⟩
          rw [show tailL S (g' + 1) i = if S.testBit i = true ∧ (i = 0 ∨ S.testBit (i - 1) = false) then 44 :: (pieceL i (rend S 64 i) ++ tailL S g' (i + 1)) else tailL S g' (i + 1) from rfl, if_neg (by rw [hr.2.1 (i - 1) (by omega) (by omega)]; simp; omega)]
          exact ihd (i + 1) g' (by omega) (by omega) (by omega)
      rw [hin (k - m) (m + 1) n (by omega) (by omega) (by omega)]
      by_cases hk63 : k = 63
      · subst hk63; rfl
      · have h2 : tailL S (64 - (k + 1)) (k + 1) = tailL S (64 - (k + 2)) (k + 2) := by
          rw [show 64 - (k + 1) = (64 - (k + 2)) + 1 from by omega]
          rw [show tailL S (64 - (k + 2) + 1) (k + 1) = if S.testBit (k + 1) = true ∧ (k + 1 = 0 ∨ S.testBit (k + 1 - 1) = false) then 44 :: (pieceL (k + 1) (rend S 64 (k + 1)) ++ tailL S (64 - (k + 2)) (k + 1 + 1)) else tailL S (64 - (k + 2)) (k + 1 + 1) from rfl, if_neg (by rw [hr.2.2]; simp)]
        rw [h2]
    · rw [if_neg (fun h => hb h.1)] at e
      have hb2 : S.testBit m = false := by simpa using hb
      rcases ih (m + 1) (by omega) (.inr hb2) with ⟨h1, h2⟩ | ⟨m', k', h1, h2, h3, h4, h5⟩
      · refine .inl ⟨by rw [e]; exact h1, fun i hi => ?_⟩
        by_cases hi2 : i = m
        · rw [hi2]; exact hb2
        · exact h2 i (by omega)
      · refine .inr ⟨m', k', by omega, h2, fun i i1 i2 => ?_, h4, by rw [e]; exact h5⟩
        by_cases hi2 : i = m
        · rw [hi2]; exact hb2
        · exact h3 i (by omega) i2
/-! ### Read back -/
theorem stop_tail {T rest : List UInt8} (hT : T = [] ∨ ∃ t, T = 44 :: t) (hr : rest = [] ∨ ∃ t, rest = 32 :: t) : Stop (T ++ rest) := by
  rcases hT with rfl | ⟨t, rfl⟩
  · rcases hr with rfl | ⟨t, rfl⟩
    · exact .inl rfl
    · exact .inr ⟨32, t, rfl, .inr rfl⟩
  · exact .inr ⟨44, t ++ rest, rfl, .inl rfl⟩
theorem at_rest {s : ByteArray} {p : Nat} {rest : List UInt8} (hL : L s p = rest) (hr : rest = [] ∨ ∃ t, rest = 32 :: t) : atB s p 44 = false := by
  rcases hr with rfl | ⟨t, rfl⟩
  · exact atB_nil hL 44
  · rw [(atB_cons hL 44).1]; rfl
/-- A run with what stands behind it is read as the run and all that follows. -/
theorem read_run (s : ByteArray) (S lo hi : Nat) (hS : S < 18446744073709551616) (hh : hi < 60) (hin : ∀ j, S.testBit j = true → lo ≤ j ∧ j ≤ hi) (rest : List UInt8) (hrest : rest = [] ∨ ∃ t, rest = 32 :: t) :
    ∀ (n m k p acc g : Nat), 64 ≤ m + n → Run S m k → p ≤ s.size → L s p = pieceL m k ++ (tailL S (64 - (k + 2)) (k + 2) ++ rest) → 2 * n + 4 ≤ g →
      ∃ q, setP s lo hi g p acc = some (true, acc ||| fromB S m, q) ∧ q ≤ s.size ∧ L s q = rest := by
  intro n
  induction n using Nat.strongRecOn with
  | ind n ih =>
    intro m k p acc g hn hrun hp hL hg
    have hmk := hrun.1
    have hm := hin m (hrun.2.1 m (Nat.le_refl _) hmk)
    have hk := hin k (hrun.2.1 k hmk (Nat.le_refl _))
    -- what stands behind the run
    have hset : ∀ acc' : Nat, acc' ||| (stF 64 m k 1 0 ||| fromB S (k + 2)) = acc' ||| fromB S m := by
      intro acc'
      congr 1
      apply Nat.eq_of_testBit_eq
      intro i
      rw [Nat.testBit_or, stF_bit k 64 m 0 i (by omega), fromB_bit, fromB_bit, Nat.zero_testBit, Bool.false_or]
      by_cases h1 : m ≤ i
      · by_cases h2 : i ≤ k
        · rw [hrun.2.1 i h1 h2]; simp [h1, h2]
        · by_cases h3 : i = k + 1
          · subst h3; simp [hrun.2.2]
          · simp [h1, h2, show k + 2 ≤ i from by omega]
      · simp [h1, show ¬ k + 2 ≤ i from by omega]
    have hrest2 : ∀ (q acc' g' : Nat), q ≤ s.size → L s q = tailL S (64 - (k + 2)) (k + 2) ++ rest → 2 * n + 2 ≤ g' + 1 →
        (atB s q 44 = true → ∃ q', setP s lo hi g' (q + 1) acc' = some (true, acc' ||| fromB S (k + 2), q') ∧ q' ≤ s.size ∧ L s q' = rest) ∧ (atB s q 44 = false → fromB S (k + 2) = 0 ∧ L s q = rest) := by
      intro q acc' g' hq hLq hg'
      rcases tail_cases S hS (64 - (k + 2)) (k + 2) (by omega) (.inr hrun.2.2) with ⟨h1, h2⟩ | ⟨m', k', h1, h2, h3, h4, h5⟩
      · rw [h1, List.nil_append] at hLq
        have := at_rest hLq hrest
        refine ⟨fun h => (by rw [this] at h; cases h), fun _ => ⟨from_none S (k + 2) h2, hLq⟩⟩
      · rw [h5, List.cons_append] at hLq
        obtain ⟨a1, a2, a3, _⟩ := atB_cons hLq 44
        have e : fromB S (k + 2) = fromB S m' := by
          apply Nat.eq_of_testBit_eq
          intro i
          rw [fromB_bit, fromB_bit]
          by_cases i1 : m' ≤ i
          · simp [i1, show k + 2 ≤ i from by omega]
          · by_cases i2 : k + 2 ≤ i
            · simp [i1, h3 i i2 (by omega)]
            · simp [i1, i2]
        refine ⟨fun _ => ?_, fun h => (by rw [a1] at h; cases h)⟩
        rw [e]
        exact ih (n - 2) (by omega) m' k' (q + 1) acc' g' (by omega) h2 a2 (by rw [a3, List.append_assoc]) (by omega)
    have hstop := stop_tail (T := tailL S (64 - (k + 2)) (k + 2)) (rest := rest) (by
      rcases tail_cases S hS (64 - (k + 2)) (k + 2) (by omega) (.inr hrun.2.2) with ⟨h1, _⟩ | ⟨m', k', _, _, _, _, h5⟩
      · exact .inl h1
      · exact .inr ⟨_, h5⟩) hrest
    obtain ⟨g, rfl⟩ : ∃ j, g = j + 1 + 1 := ⟨g - 2, by omega⟩
    unfold pieceL at hL
    by_cases c1 : k = m
    · rw [if_pos c1] at hL
      rw [setP, item_one s p m lo hi _ hp (by omega) hstop hL hm.1 hm.2]
      simp only [if_true]
      obtain ⟨hq, hq2⟩ := L_next s p _ _ hp hL
      obtain ⟨r1, r2⟩ := hrest2 (p + (dl m).length) (acc ||| 2 ^ m) (g + 1) hq2 hq (by omega)
      have e1 : acc ||| fromB S m = acc ||| 2 ^ m ||| fromB S (k + 2) := by rw [← hset acc, c1, stF_one, Nat.or_assoc]
      rw [e1]
      cases ha : atB s (p + (dl m).length) 44
      · obtain ⟨r3, r4⟩ := r2 ha
        simp only [Bool.false_eq_true, if_false]
        rw [r3, Nat.or_zero]
        exact ⟨_, rfl, hq2, r4⟩
      · simp only [if_true]
        exact r1 ha
    · rw [if_neg c1] at hL
      by_cases c2 : k = m + 1
      · rw [if_pos c2, List.append_assoc, List.cons_append] at hL
        have hs1 : Stop (44 :: (dl k ++ (tailL S (64 - (k + 2)) (k + 2) ++ rest))) := .inr ⟨44, _, rfl, .inl rfl⟩
        rw [setP, item_one s p m lo hi _ hp (by omega) hs1 hL hm.1 hm.2]
        obtain ⟨hq, hq2⟩ := L_next s p _ _ hp hL
        obtain ⟨a1, a2, a3, _⟩ := atB_cons hq 44
        simp only [if_true]
        rw [show atB s (p + (dl m).length) 44 = true from a1, if_pos rfl, setP, item_one s (p + (dl m).length + 1) k lo hi _ a2 (by omega) hstop a3 hk.1 hk.2]
        simp only [if_true]
        obtain ⟨hq3, hq4⟩ := L_next s (p + (dl m).length + 1) _ _ a2 a3
        obtain ⟨r1, r2⟩ := hrest2 (p + (dl m).length + 1 + (dl k).length) (acc ||| 2 ^ m ||| 2 ^ k) g hq4 hq3 (by omega)
        have e2 : stF 64 m k 1 0 = 2 ^ m ||| 2 ^ k := by
          apply Nat.eq_of_testBit_eq
          intro i
          rw [stF_bit k 64 m 0 i (by omega), Nat.zero_testBit, Bool.false_or, Nat.testBit_or, Nat.testBit_two_pow, Nat.testBit_two_pow]
          by_cases i1 : m = i
          · subst i1; simp [hmk]
          · by_cases i2 : k = i
            · subst i2; simp [hmk]
            · simp [i1, i2]; omega
        have e1 : acc ||| fromB S m = acc ||| 2 ^ m ||| 2 ^ k ||| fromB S (k + 2) := by rw [← hset acc, e2]; simp only [Nat.or_assoc]
        rw [e1]
        cases ha : atB s (p + (dl m).length + 1 + (dl k).length) 44
        · obtain ⟨r3, r4⟩ := r2 ha
          simp only [Bool.false_eq_true, if_false]
          rw [r3, Nat.or_zero]
          exact ⟨_, rfl, hq4, r4⟩
        · simp only [if_true]
          exact r1 ha
      · rw [if_neg c2, List.append_assoc, List.cons_append] at hL
        obtain ⟨hq, hq2⟩ := L_next s p _ _ hp hL
        obtain ⟨a1, a2, a3, _⟩ := atB_cons hq 45
        obtain ⟨hq3, hq4⟩ := L_next s (p + (dl m).length + 1) _ _ a2 a3
        rw [setP, item_range s p m k lo hi _ hp (by omega) (by omega) hmk hstop hL hm.1 hk.2]
        simp only [if_true]
        obtain ⟨r1, r2⟩ := hrest2 (p + (dl m).length + 1 + (dl k).length) (acc ||| stF 64 m k 1 0) (g + 1) hq4 hq3 (by omega)
        have e1 : acc ||| fromB S m = acc ||| stF 64 m k 1 0 ||| fromB S (k + 2) := by rw [← hset acc, Nat.or_assoc]
        rw [e1]
        cases ha : atB s (p + (dl m).length + 1 + (dl k).length) 44
        · obtain ⟨r3, r4⟩ := r2 ha
          simp only [Bool.false_eq_true, if_false]
          rw [r3, Nat.or_zero]
          exact ⟨_, rfl, hq4, r4⟩
        · simp only [if_true]
          exact r1 ha
theorem star_set (i : Nat) (hi : i < 5) : ∃ lo h : Nat, low i = (lo : Int) ∧ high i = (h : Int) ∧ lo ≤ h ∧ h < 60 ∧ ((stF 64 lo h 1 0 : Nat) : Int) = Ca.allv i := by
  have : i = 0 ∨ i = 1 ∨ i = 2 ∨ i = 3 ∨ i = 4 := by omega
  rcases this with rfl | rfl | rfl | rfl | rfl
  · exact ⟨0, 59, rfl, rfl, by omega, by omega, by decide +kernel⟩
  · exact ⟨0, 23, rfl, rfl, by omega, by omega, by decide +kernel⟩
  · exact ⟨1, 31, rfl, rfl, by omega, by omega, by decide +kernel⟩
  · exact ⟨1, 12, rfl, rfl, by omega, by omega, by decide +kernel⟩
  · exact ⟨0, 6, rfl, rfl, by omega, by omega, by decide +kernel⟩
/-- A field's text, read. -/
theorem read_field (s : ByteArray) (hs : s.size ≤ 256) (i : Nat) (hi : i < 5) (S : Nat) (hS : S < 18446744073709551616) (h0 : S ≠ 0) (hin : ∀ j : Nat, S.testBit j = true → low i ≤ (j : Int) ∧ (j : Int) ≤ high i)
    (p : Nat) (hp : p ≤ s.size) (rest : List UInt8) (hrest : rest = [] ∨ ∃ t, rest = 32 :: t) (hL : L s p = (tt S i).data.toList ++ rest) (K : Nat) (hK : 600 ≤ K) :
    ∃ q : Nat, cron_reader_set.f K s p (low i) (high i) = some ((S : Int), true, s, (q : Int)) ∧ q ≤ s.size ∧ L s q = rest := by
  obtain ⟨lo, h, e1, e2, hl, hh, hst⟩ := star_set i hi
  have hset : ∃ q, setP s lo h 300 p 0 = some (true, S, q) ∧ q ≤ s.size ∧ L s q = rest := by
    unfold tt at hL
    by_cases hall : (S : Int) = Ca.allv i
    · rw [if_pos hall] at hL
      have hL2 : L s p = 42 :: rest := hL
      obtain ⟨a1, a2, a3, _⟩ := atB_cons hL2 42
      have hit : itemP s p lo h = (true, S, p + 1) := by
        unfold itemP
        rw [show atB s p 42 = true from a1, if_pos rfl]
        unfold slashP
        rw [stop_at a3 (by rcases hrest with h | ⟨t, h⟩; exact .inl h; exact .inr ⟨32, t, h, .inr rfl⟩) 47 (.inr rfl)]
        simp only [Bool.false_eq_true, if_false]
        have : stF 64 lo h 1 0 = S := by omega
        rw [this]
      rw [setP, hit]
      simp only [if_true]
      rw [at_rest a3 hrest]
      exact ⟨p + 1, by simp, a2, a3⟩
    · rw [if_neg hall] at hL
      have ht := tl_first S 64 0 (by omega)
      unfold T at hL
      rw [show 64 - 0 = 64 from rfl, ht] at hL
      rcases tail_cases S hS 64 0 rfl (.inl rfl) with ⟨h1, h2⟩ | ⟨m', k', h1, h2, h3, h4, h5⟩
      · exfalso
        apply h0
        apply Nat.eq_of_testBit_eq
        intro j
        rw [h2 j (by omega)]; simp
      · rw [h5, List.drop_succ_cons, List.drop_zero, List.append_assoc] at hL
        obtain ⟨q, hq, q1, q2⟩ := read_run s S lo h hS hh (fun j hj => by have := hin j hj; rw [e1, e2] at this; omega) rest hrest 64 m' k' p 0 300 (by omega) h2 hp hL (by omega)
        refine ⟨q, ?_, q1, q2⟩
        rw [hq, Nat.zero_or]
        have : fromB S m' = S := by
          apply Nat.eq_of_testBit_eq
          intro j
          rw [fromB_bit]
          by_cases j1 : m' ≤ j
          · simp [j1]
          · simp [j1, h3 j (by omega) (by omega)]
        rw [this]
  obtain ⟨q, hq, q1, q2⟩ := hset
  refine ⟨q, ?_, q1, q2⟩
  unfold cron_reader_set.f
  rw [e1, e2]
  exact Pw.go_set s hs lo h (by omega) hl _ 300 p 0 K hp (by omega) hq (by omega)
/-! ### A field's text is short enough -/
def psi (x : Nat) : Nat := 4 * min x 10 + 6 * (x - 10)
theorem dg_size2 (n : Nat) (h : n < 100) : (dg n).size = if n < 10 then 1 else 2 := by
  show (dg n).data.size = _
  rw [← Array.length_toList, dg_list]
  split
  · rename_i h1; rw [dl_small n h1]; rfl
  · rename_i h1; rw [dl_big n h1 h]; rfl
theorem pc_size2 (out : ByteArray) (m k : Nat) : (pc out m k).size ≤ out.size + 1 + (dg m).size + (if k = m then 0 else 1 + (dg k).size) := by
  unfold pc pcs
  repeat' split
  all_goals simp only [ByteArray.size_append, size1]; omega
theorem T_short (S hi : Nat) (hS : S < 18446744073709551616) (hh : hi < 60) (htop : ∀ j, S.testBit j = true → j ≤ hi) : ∀ (n m : Nat) (out : ByteArray), hi + 2 = m + n → (m = 0 ∨ S.testBit (m - 1) = false) → 3 * (T S m out).size + psi m ≤ 3 * out.size + psi (hi + 2) := by
  intro n
  induction n using Nat.strongRecOn with
  | ind n ih =>
    intro m out hn h0
    by_cases hm : m ≤ hi
    · cases hb : S.testBit m
      · rw [T_skip S m out hb]
        have := ih (n - 1) (by omega) (m + 1) out (by omega) (.inr hb)
        unfold psi at this ⊢
        omega
      · have hr := rend_run S hS 64 m (by omega) hb
        obtain ⟨k, hk⟩ : ∃ k, rend S 64 m = k := ⟨_, rfl⟩
        rw [hk] at hr
        have hmk := hr.1
        have hkh := htop k (hr.2.1 k hmk (Nat.le_refl _))
        rw [T_run S hS m k out hr h0]
        have h1 := pc_size2 out m k
        rw [dg_size2 m (by omega), dg_size2 k (by omega)] at h1
        have h2 := ih (n - (k + 2 - m)) (by omega) (k + 2) (pc out m k) (by omega) (.inr hr.2.2)
        unfold psi at h2 ⊢
        repeat' split at h1
        all_goals omega
    · rw [T_none S 64 m out (by omega) (fun i hi_ => by
        cases hbi : S.testBit i
        · rfl
        · have := htop i hbi; omega)]
      have : psi m ≤ psi (hi + 2) := by unfold psi; omega
      omega
def bnd (i : Nat) : Nat := if i = 0 then 115 else if i = 1 then 43 else if i = 2 then 59 else if i = 3 then 21 else 10
theorem tt_short (S i : Nat) (hi : i < 5) (hS : S < 18446744073709551616) (hin : ∀ j : Nat, S.testBit j = true → low i ≤ (j : Int) ∧ (j : Int) ≤ high i) : (tt S i).size ≤ bnd i := by
  obtain ⟨lo, h, e1, e2, hl, hh, _⟩ := star_set i hi
  have h5 : i = 0 ∨ i = 1 ∨ i = 2 ∨ i = 3 ∨ i = 4 := by omega
  unfold tt
  split
  · have : star.size = 1 := rfl
    rw [this]
    rcases h5 with rfl | rfl | rfl | rfl | rfl <;> decide
  · have := T_short S h hS hh (fun j hj => by have := hin j hj; rw [e2] at this; omega) (h + 2) 0 ⟨#[]⟩ (by omega) (.inl rfl)
    have e : (⟨#[]⟩ : ByteArray).size = 0 := rfl
    rw [e] at this
    rcases h5 with rfl | rfl | rfl | rfl | rfl
    · obtain rfl : h = 59 := by have : (59 : Int) = (h : Int) := e2; omega
      unfold psi at this; show _ ≤ 115; omega
    · obtain rfl : h = 23 := by have : (23 : Int) = (h : Int) := e2; omega
      unfold psi at this; show _ ≤ 43; omega
    · obtain rfl : h = 31 := by have : (31 : Int) = (h : Int) := e2; omega
      unfold psi at this; show _ ≤ 59; omega
    · obtain rfl : h = 12 := by have : (12 : Int) = (h : Int) := e2; omega
      unfold psi at this; show _ ≤ 21; omega
    · obtain rfl : h = 6 := by have : (6 : Int) = (h : Int) := e2; omega
      unfold psi at this; show _ ≤ 10; omega
end Go.Proofs.YtkmcmgfmahildaaDoor.Pv
