/- What the readers of a schedule's text answer, Go's and the reference's: one plain reader, by places in the text. -/
import Derived.Test.YtkmcmgfmahildaaDoorBt
import Derived.Test.YtkmcmgfmahildaaDoorOAx1
import Derived.Test.YtkmcmgfmahildaaDoorOAx9
import Derived.Lib.Strings
namespace Go.Proofs.YtkmcmgfmahildaaDoor.Pw
set_option linter.unusedVariables false
open Go.RowKit Go.Proofs.YtkmcmgfmahildaaDoorW.PrintWords Go.Proofs.YtkmcmgfmahildaaDoor.OA Go.Proofs.YtkmcmgfmahildaaDoor.Bt Go.Proofs.YtkmcmgfmahildaaDoor.Laid

theorem w64 {a : Int} (h1 : -9223372036854775808 ≤ a) (h2 : a ≤ 9223372036854775807) : wrap64 a = a := by unfold wrap64; omega
def isD (c : UInt8) : Bool := 48 ≤ c.toNat && c.toNat ≤ 57
/-- The bytes from p on. -/
def L (s : ByteArray) (p : Nat) : List UInt8 := s.data.toList.drop p
def D (l : List UInt8) : List UInt8 := l.takeWhile isD
def val (a : Nat) (d : List UInt8) : Nat := d.foldl (fun a c => 10 * a + (c.toNat - 48)) a
theorem L_cons (s : ByteArray) (p : Nat) (h : p < s.size) : L s p = s[p] :: L s (p + 1) := by
  unfold L
  have h2 : p < s.data.toList.length := by simpa using h
  rw [List.drop_eq_getElem_cons h2]
  rfl
theorem L_nil (s : ByteArray) (p : Nat) (h : s.size ≤ p) : L s p = [] := List.drop_eq_nil_of_le (by simpa using h)
theorem L_len (s : ByteArray) (p : Nat) : (L s p).length = s.size - p := by unfold L; rw [List.length_drop]; rfl
theorem bt_nat (s : ByteArray) (n : Nat) (h : n < s.size) : bt s (n : Int) = (s[n].toNat : Int) := by
  unfold bt
  rw [dif_pos (by simpa using h)]
  simp
theorem D_step (s : ByteArray) (p : Nat) (h : p < s.size) (hd : isD s[p] = true) : D (L s p) = s[p] :: D (L s (p + 1)) := by
  rw [L_cons s p h]; unfold D; rw [List.takeWhile_cons, if_pos hd]
theorem D_stop (s : ByteArray) (p : Nat) (h : p < s.size) (hd : isD s[p] = false) : D (L s p) = [] := by
  rw [L_cons s p h]; unfold D; rw [List.takeWhile_cons, if_neg (by rw [hd]; simp)]
theorem D_end (s : ByteArray) (p : Nat) (h : s.size ≤ p) : D (L s p) = [] := by rw [L_nil s p h]; rfl
theorem D_len (s : ByteArray) (p : Nat) : p + (D (L s p)).length ≤ max p s.size := by
  have h1 : (D (L s p)).length ≤ (L s p).length := (List.takeWhile_prefix isD).length_le
  rw [L_len] at h1
  omega
theorem isD_iff (c : UInt8) : isD c = true ↔ (48 : Int) ≤ (c.toNat : Int) ∧ (c.toNat : Int) ≤ 57 := by
  unfold isD; rw [Bool.and_eq_true, decide_eq_true_eq, decide_eq_true_eq]; omega
/-- The number at p: its worth, and where it ends. -/
def numP (s : ByteArray) (p : Nat) (lo hi : Int) : Option (Nat × Nat) :=
  if (D (L s p)).length < 1 ∨ 2 < (D (L s p)).length ∨ ((D (L s p)).length = 2 ∧ bt s p = 48) then none
  else if (val 0 (D (L s p)) : Int) < lo ∨ hi < (val 0 (D (L s p)) : Int) then none else some (val 0 (D (L s p)), p + (D (L s p)).length)
/-! ### Go's number -/
theorem go_scan (s : ByteArray) (hs : s.size ≤ 256) (lo hi : Int) (p : Int) (K : Nat) : ∀ (n e : Nat), e ≤ s.size → (D (L s e)).length = n → cron_reader_number.l0 (n + 1 + K) lo hi e s p = cron_reader_number.j1 K lo hi ((e + n : Nat) : Int) s p := by
  intro n
  induction n with
  | zero =>
    intro e he hn
    rw [show 0 + 1 + K = K + 1 from by omega]
    unfold cron_reader_number.l0
    by_cases h : e < s.size
    · have hd : isD s[e] = false := by
        cases hd : isD s[e]
        · rfl
        · rw [D_step s e h hd] at hn; simp at hn
      rw [if_pos (by omega), if_pos (by omega), bt_nat s e h]
      have hno : ¬ ((48 : Int) ≤ (s[e].toNat : Int) ∧ (s[e].toNat : Int) ≤ 57) := fun hh => by rw [(isD_iff _).2 hh] at hd; cases hd
      by_cases h48 : (s[e].toNat : Int) ≥ 48
      · rw [if_pos h48, if_neg (by omega)]; rfl
      · rw [if_neg h48]; rfl
    · rw [if_neg (by omega)]; rfl
  | succ n ih =>
    intro e he hn
    have h : e < s.size := by
      rcases Nat.lt_or_ge e s.size with h | h
      · exact h
      · rw [D_end s e h] at hn; simp at hn
    have hd : isD s[e] = true := by
      cases hd : isD s[e]
      · rw [D_stop s e h hd] at hn; simp at hn
      · rfl
    rw [D_step s e h hd] at hn
    have hb := (isD_iff _).1 hd
    rw [show n + 1 + 1 + K = (n + 1 + K) + 1 from by omega]
    unfold cron_reader_number.l0
    rw [if_pos (by omega), if_pos (by omega), bt_nat s e h, if_pos (by omega), if_pos hb.2, w64 (by omega) (by omega), show (e : Int) + 1 = ((e + 1 : Nat) : Int) from by omega, ih (e + 1) (by omega) (by simpa using hn), show e + 1 + n = e + (n + 1) from by omega]
theorem all_D (l : List UInt8) : ∀ c ∈ D l, isD c = true := fun c hc => by
  have := List.all_takeWhile (l := l) (p := isD)
  rw [List.all_eq_true] at this
  exact this c hc
theorem decFrom_is : ∀ (d : List UInt8) (a : Nat), (∀ c ∈ d, isD c = true) → Lib.decFrom a d = some (val a d)
  | [], a, _ => rfl
  | c :: d, a, h => by
    have hc := (isD_iff c).1 (h c (List.mem_cons_self))
    unfold Lib.decFrom Lib.digitVal
    rw [if_pos (by omega)]
    simp only
    rw [decFrom_is d _ (fun x hx => h x (List.mem_cons_of_mem _ hx))]
    unfold val
    rw [List.foldl_cons, Nat.mul_comm]
theorem atoi_is (d : List UInt8) (h : ∀ c ∈ d, isD c = true) (h0 : d ≠ []) : Lib.atoi d = some ((val 0 d : Nat) : Int) := by
  cases d with
  | nil => exact absurd rfl h0
  | cons c d =>
    have hc := (isD_iff c).1 (h c (List.mem_cons_self))
    unfold Lib.atoi
    have n45 : (c == 45) = false := by
      rw [beq_eq_false_iff_ne]; rintro rfl; simp at hc
    have n43 : (c == 43) = false := by
      rw [beq_eq_false_iff_ne]; rintro rfl; simp at hc
    simp only [n45, n43, Bool.false_eq_true, if_false]
    unfold Lib.decNat
    rw [if_neg (by simp), decFrom_is _ _ h]
    rfl
theorem cut_D (s : ByteArray) (p n : Nat) (hn : (D (L s p)).length = n) : (s.extract p (p + n)).data.toList = D (L s p) := by
  rw [Lib.extract_data, show p + n - p = n from by omega]
  have h := List.prefix_iff_eq_take.1 (List.takeWhile_prefix (l := L s p) isD)
  have h2 : D (L s p) = (L s p).take (D (L s p)).length := h
  rw [hn] at h2
  exact h2.symm
theorem go_num (s : ByteArray) (hs : s.size ≤ 256) (p : Nat) (hp : p ≤ s.size) (lo hi : Int) (K : Nat) (hK : 270 ≤ K) :
    cron_reader_number.f K s p lo hi = match numP s p lo hi with | none => some (0, false, s, (p : Int)) | some (n, q) => some ((n : Int), true, s, (q : Int)) := by
  obtain ⟨n, hn⟩ : ∃ n, (D (L s p)).length = n := ⟨_, rfl⟩
  have hle := D_len s p
  rw [hn] at hle
  have hmax : max p s.size = s.size := Nat.max_eq_right hp
  rw [hmax] at hle
  unfold cron_reader_number.f
  rw [show K = n + 1 + ((K - n - 3) + 1 + 1) from by omega, go_scan s hs lo hi p _ n p hp hn]
  obtain ⟨K', hK'⟩ : ∃ K', K - n - 3 = K' := ⟨_, rfl⟩
  rw [hK']
  have hext : s.extract (p : Int).toNat ((p + n : Nat) : Int).toNat = s.extract p (p + n) := by rw [Int.toNat_natCast, Int.toNat_natCast]
  have hsz : (s.extract p (p + n)).size = n := by rw [ByteArray.size_extract]; omega
  rw [cron_reader_number.j1]
  unfold numP
  rw [hn, if_pos (by omega), if_pos (by omega), if_pos (by omega), hext, hsz]
  have hj : ∀ b : Bool, b = true → cron_reader_number.j2 (K' + 1) lo hi ((p + n : Nat) : Int) (s.extract p (p + n)) b s p = some (0, false, s, (p : Int)) := by
    intro b hb
    rw [cron_reader_number.j2]
    rw [if_pos hb]
  by_cases h1 : n < 1
  · rw [if_pos (by omega), if_pos (by omega)]; exact hj true rfl
  · rw [if_neg (by omega)]
    by_cases h2 : 2 < n
    · rw [if_pos (by omega), if_pos (by omega)]; exact hj true rfl
    · rw [if_neg (by omega)]
      have hval : Ca.atoi.f (s.extract p (p + n)) = some (((val 0 (D (L s p)) : Nat) : Int), none) := by
        unfold Ca.atoi.f
        rw [if_pos (by omega), cut_D s p n hn, atoi_is _ (all_D _) (fun h => by rw [h] at hn; simp at hn; omega)]
        rfl
      have hfin : ¬ (n < 1 ∨ 2 < n ∨ (n = 2 ∧ bt s p = 48)) → cron_reader_number.j2 (K' + 1) lo hi ((p + n : Nat) : Int) (s.extract p (p + n)) false s p = match (if n < 1 ∨ 2 < n ∨ (n = 2 ∧ bt s p = 48) then none else if (val 0 (D (L s p)) : Int) < lo ∨ hi < (val 0 (D (L s p)) : Int) then none else some (val 0 (D (L s p)), p + n)) with | none => some (0, false, s, (p : Int)) | some (n, q) => some ((n : Int), true, s, (q : Int)) := by
        intro hno
        rw [cron_reader_number.j2]
        rw [if_neg hno, hval]
        simp only [Bool.false_eq_true, if_false, Option.bind_some]
        by_cases c1 : (val 0 (D (L s p)) : Int) < lo
        · rw [if_pos c1, if_pos (.inl c1)]
        · rw [if_neg c1]
          by_cases c2 : hi < (val 0 (D (L s p)) : Int)
          · rw [if_pos c2, if_pos (.inr c2)]
          · rw [if_neg c2, if_neg (by omega)]
      by_cases h3 : n = 2
      · have hb0 : bt (s.extract p (p + n)) 0 = bt s p := by
          have e1 : bt (s.extract p (p + n)) ((0 : Nat) : Int) = _ := bt_nat _ 0 (by omega)
          rw [show ((0 : Nat) : Int) = 0 from rfl] at e1
          rw [e1, bt_nat s p (by omega), ByteArray.getElem_extract]
          simp
        rw [if_pos (by omega), if_pos (by omega), hb0]
        by_cases h4 : bt s p = 48
        · rw [if_pos (.inr (.inr ⟨h3, h4⟩)), show (bt s (p : Int) == 48) = true from by rw [h4]; rfl]
          exact hj true rfl
        · rw [show (bt s (p : Int) == 48) = false from by rw [beq_eq_false_iff_ne]; exact h4]
          exact hfin (by rintro (h | h | h); exact h1 h; exact h2 h; exact h4 h.2)
      · rw [if_neg (by omega)]
        exact hfin (by rintro (h | h | h); exact h1 h; exact h2 h; exact h3 h.1)
/-! ### The reference's number -/
theorem ref_scan (s : ByteArray) (hs : s.size ≤ 256) (lo hi : Int) (i K : Nat) : ∀ (n e : Nat) (x : Nat), i ≤ e → e ≤ s.size → (D (L s e)).length = n → (e ≤ i + 2 → x < 10 ^ (e - i)) →
    ∃ x' : Int, capstanref04_number.l0 (2 * n + 1 + K) s i lo hi x e = capstanref04_number.j1 K s i lo hi x' ((e + n : Nat) : Int) false ∧ (e + n ≤ i + 2 → x' = (val x (D (L s e)) : Int)) := by
  intro n
  induction n with
  | zero =>
    intro e x hie he hn hx
    rw [show 2 * 0 + 1 + K = K + 1 from by omega]
    refine ⟨x, ?_, fun _ => by rw [List.length_eq_zero_iff.1 hn]; rfl⟩
    rw [capstanref04_number.l0]
    by_cases h : e < s.size
    · have hd : isD s[e] = false := by
        cases hd : isD s[e]
        · rfl
        · rw [D_step s e h hd] at hn; simp at hn
      have hno : ¬ ((48 : Int) ≤ (s[e].toNat : Int) ∧ (s[e].toNat : Int) ≤ 57) := fun hh => by rw [(isD_iff _).2 hh] at hd; cases hd
      rw [if_pos (by omega), if_pos (by omega), bt_nat s e h]
      by_cases h48 : (s[e].toNat : Int) ≥ 48
      · rw [if_pos h48, decide_eq_false (by omega)]; rfl
      · rw [if_neg h48]; rfl
    · rw [if_neg (by omega)]; rfl
  | succ n ih =>
    intro e x hie he hn hx
    have h : e < s.size := by
      rcases Nat.lt_or_ge e s.size with h | h
      · exact h
      · rw [D_end s e h] at hn; simp at hn
    have hd : isD s[e] = true := by
      cases hd : isD s[e]
      · rw [D_stop s e h hd] at hn; simp at hn
      · rfl
    have hb := (isD_iff _).1 hd
    have hstep := D_step s e h hd
    rw [hstep] at hn
    have hn2 : (D (L s (e + 1))).length = n := by simpa using hn
    rw [show 2 * (n + 1) + 1 + K = (2 * n + 1 + K) + 1 + 1 from by omega, capstanref04_number.l0, if_pos (by omega), if_pos (by omega), bt_nat s e h, if_pos (by omega), decide_eq_true hb.2, capstanref04_number.j1, if_pos rfl, w64 (a := (i : Int) + 3) (by omega) (by omega), w64 (a := (e : Int) + 1) (by omega) (by omega)]
    by_cases h3 : e ≤ i + 2
    · have hx3 := hx h3
      have h100 : x < 100 := Nat.lt_of_lt_of_le hx3 (by
        have : e - i = 0 ∨ e - i = 1 ∨ e - i = 2 := by omega
        rcases this with h | h | h <;> rw [h] <;> omega)
      have e1 : wrap64 (wrap64 (10 * (x : Int)) + (bt s e - 48) % 256) = ((10 * x + (s[e].toNat - 48) : Nat) : Int) := by
        rw [bt_nat s e h, w64 (a := 10 * (x : Int)) (by omega) (by omega), w64 (by omega) (by omega)]; omega
      rw [if_pos (by omega), if_pos (by omega), if_pos (by omega), e1]
      obtain ⟨x', h1, h2⟩ := ih (e + 1) (10 * x + (s[e].toNat - 48)) (by omega) (by omega) hn2 (fun h4 => by
        rw [show e + 1 - i = (e - i) + 1 from by omega, Nat.pow_succ]; omega)
      refine ⟨x', ?_, fun h4 => ?_⟩
      · rw [show (e : Int) + 1 = ((e + 1 : Nat) : Int) from by omega, h1, show e + 1 + n = e + (n + 1) from by omega]
      · rw [h2 (by omega), hstep]; rfl
    · rw [if_neg (by omega)]
      obtain ⟨x', h1, h2⟩ := ih (e + 1) x (by omega) (by omega) hn2 (fun h4 => by omega)
      refine ⟨x', ?_, fun h4 => by omega⟩
      rw [show (e : Int) + 1 = ((e + 1 : Nat) : Int) from by omega, h1, show e + 1 + n = e + (n + 1) from by omega]
theorem ref_num (s : ByteArray) (hs : s.size ≤ 256) (p : Nat) (hp : p ≤ s.size) (lo hi : Int) (K : Nat) (hK : 600 ≤ K) :
    capstanref04_number.f K s p lo hi = match numP s p lo hi with | none => some (0, (p : Int), false) | some (n, q) => some ((n : Int), (q : Int), true) := by
  obtain ⟨n, hn⟩ : ∃ n, (D (L s p)).length = n := ⟨_, rfl⟩
  have hle := D_len s p
  rw [hn] at hle
  have hmax : max p s.size = s.size := Nat.max_eq_right hp
  rw [hmax] at hle
  unfold capstanref04_number.f
  obtain ⟨x', h1, h2⟩ := ref_scan s hs lo hi p ((K - 2 * n - 2) + 1) n p 0 (Nat.le_refl _) hp hn (fun _ => by simp)
  rw [show K = 2 * n + 1 + ((K - 2 * n - 2) + 1) from by omega, show (0 : Int) = ((0 : Nat) : Int) from rfl, h1, capstanref04_number.j1]
  unfold numP
  rw [hn, w64 (a := (p : Int) + 2) (by omega) (by omega)]
  simp only [Bool.false_eq_true, if_false]
  by_cases c1 : n < 1
  · rw [if_pos (by omega), if_pos (.inl c1)]; rfl
  · rw [if_neg (by omega)]
    by_cases c2 : 2 < n
    · rw [if_pos (by omega), if_pos (.inr (.inl c2))]; rfl
    · rw [if_neg (by omega), h2 (by omega)]
      have hfin : ¬ (n < 1 ∨ 2 < n ∨ (n = 2 ∧ bt s p = 48)) → (if (val 0 (D (L s p)) : Int) < lo then some ((0 : Int), (p : Int), false) else if (val 0 (D (L s p)) : Int) > hi then some (0, (p : Int), false) else some ((val 0 (D (L s p)) : Int), ((p + n : Nat) : Int), true)) = match (if n < 1 ∨ 2 < n ∨ (n = 2 ∧ bt s p = 48) then none else if (val 0 (D (L s p)) : Int) < lo ∨ hi < (val 0 (D (L s p)) : Int) then none else some (val 0 (D (L s p)), p + n)) with | none => some (0, (p : Int), false) | some (n, q) => some ((n : Int), (q : Int), true) := by
        intro hno
        rw [if_neg hno]
        by_cases c3 : (val 0 (D (L s p)) : Int) < lo
        · rw [if_pos c3, if_pos (.inl c3)]
        · rw [if_neg c3]
          by_cases c4 : hi < (val 0 (D (L s p)) : Int)
          · rw [if_pos c4, if_pos (.inr c4)]
          · rw [if_neg c4, if_neg (by omega)]
      by_cases c3 : n = 2
      · rw [if_pos (by omega), if_pos (by omega), if_pos (by omega)]
        by_cases c4 : bt s p = 48
        · rw [if_pos c4, if_pos (.inr (.inr ⟨c3, c4⟩))]; rfl
        · rw [if_neg c4]
          exact hfin (by rintro (h | h | h); exact c1 h; exact c2 h; exact c4 h.2)
      · rw [if_neg (by omega)]
        exact hfin (by rintro (h | h | h); exact c1 h; exact c2 h; exact c3 h.1)
/-! ### An item -/
/-- The byte c stands at p. -/
def atB (s : ByteArray) (p : Nat) (c : Int) : Bool := decide (p < s.size) && (bt s p == c)
/-- The numbers from a to b in steps of n put to a set. -/
def stF : Nat → Nat → Nat → Nat → Nat → Nat
  | 0, _, _, _, acc => acc
  | g + 1, a, b, n, acc => if a ≤ b then stF g (a + n) b n (acc ||| 2 ^ a) else acc
def slashP (s : ByteArray) (p a b : Nat) : Bool × Nat × Nat :=
  if atB s p 47 = true then (match numP s (p + 1) 1 99 with | none => (false, 0, p + 1) | some (n, q) => (true, stF 64 a b n 0, q)) else (true, stF 64 a b 1 0, p)
def itemP (s : ByteArray) (p lo hi : Nat) : Bool × Nat × Nat :=
  if atB s p 42 = true then slashP s (p + 1) lo hi
  else match numP s p lo hi with
    | none => (false, 0, p)
    | some (a, q) => if atB s q 45 = true then (match numP s (q + 1) a hi with | none => (false, 0, q + 1) | some (b, q2) => slashP s q2 a b) else (true, stF 64 a a 1 0, q)
theorem atB_lt {s : ByteArray} {p : Nat} {c : Int} (h : atB s p c = true) : p < s.size := by
  unfold atB at h; rw [Bool.and_eq_true] at h; exact of_decide_eq_true h.1
theorem numP_pos {s : ByteArray} {p : Nat} {lo hi : Int} {n q : Nat} (hp : p ≤ s.size) (h : numP s p lo hi = some (n, q)) : p < q ∧ q ≤ s.size ∧ lo ≤ (n : Int) ∧ (n : Int) ≤ hi := by
  unfold numP at h
  have hle := D_len s p
  rw [Nat.max_eq_right hp] at hle
  split at h
  · cases h
  · rename_i h1
    split at h
    · cases h
    · rename_i h2
      simp only [Option.some.injEq, Prod.mk.injEq] at h
      obtain ⟨rfl, rfl⟩ := h
      exact ⟨by omega, hle, by omega, by omega⟩
theorem is_f (s : ByteArray) (hs : s.size ≤ 256) (p : Nat) (c : Int) : cron_reader_is.f s p c = some (if atB s p c = true then (true, s, ((p + 1 : Nat) : Int)) else (false, s, (p : Int))) := by
  unfold cron_reader_is.f atB
  by_cases h : p < s.size
  · rw [if_pos (by omega), if_pos (by omega), w64 (by omega) (by omega), decide_eq_true h, Bool.true_and, show (p : Int) + 1 = ((p + 1 : Nat) : Int) from by omega]
    by_cases hc : bt s p = c
    · rw [if_pos hc, if_pos (by rw [hc]; simp)]
    · rw [if_neg hc, if_neg (by simpa using hc)]
  · rw [if_neg (by omega), decide_eq_false h, Bool.false_and]; simp
theorem stF_more : ∀ (g a b n acc d : Nat), 1 ≤ n → b + 1 ≤ a + g → stF (g + d) a b n acc = stF g a b n acc
  | 0, a, b, n, acc, d, hn, h => by
    cases d with
    | zero => rfl
    | succ d =>
      rw [show 0 + (d + 1) = d + 1 from by omega]
      show (if a ≤ b then stF d (a + n) b n (acc ||| 2 ^ a) else acc) = acc
      rw [if_neg (by omega)]
  | g + 1, a, b, n, acc, d, hn, h => by
    rw [show g + 1 + d = (g + d) + 1 from by omega]
    show (if a ≤ b then stF (g + d) (a + n) b n (acc ||| 2 ^ a) else acc) = (if a ≤ b then stF g (a + n) b n (acc ||| 2 ^ a) else acc)
    split
    · exact stF_more g (a + n) b n _ d hn (by omega)
    · rfl
theorem stF_or : ∀ (g a b n x acc : Nat), stF g a b n (x ||| acc) = x ||| stF g a b n acc
  | 0, _, _, _, _, _ => rfl
  | g + 1, a, b, n, x, acc => by
    show (if a ≤ b then stF g (a + n) b n ((x ||| acc) ||| 2 ^ a) else (x ||| acc)) = x ||| (if a ≤ b then stF g (a + n) b n (acc ||| 2 ^ a) else acc)
    split
    · rw [Nat.or_assoc]; exact stF_or g (a + n) b n x _
    · rfl
theorem stF_lt (b n : Nat) (hb : b < 64) : ∀ (g a acc : Nat), acc < 18446744073709551616 → stF g a b n acc < 18446744073709551616
  | 0, _, _, h => h
  | g + 1, a, acc, h => by
    show (if a ≤ b then stF g (a + n) b n (acc ||| 2 ^ a) else acc) < _
    split
    · rename_i hab
      exact stF_lt b n hb g (a + n) _ (Nat.or_lt_two_pow (n := 64) h (Nat.pow_lt_pow_right (by omega) (by omega)))
    · exact h
theorem go_steps (s : ByteArray) (p b n : Nat) (hb : b < 64) (hn : 1 ≤ n) (hn2 : n ≤ 99) : ∀ (g a acc K : Nat), b + 1 ≤ a + g → a < 200 → acc < 18446744073709551616 → g + 1 ≤ K →
    cron_reader_item.l0 K a b n acc s p = some (((stF g a b n acc : Nat) : Int), true, s, (p : Int)) := by
  intro g
  induction g with
  | zero =>
    intro a acc K h1 h2 h3 hK
    obtain ⟨K, rfl⟩ : ∃ j, K = j + 1 := ⟨K - 1, by omega⟩
    unfold cron_reader_item.l0
    rw [if_neg (by omega)]; rfl
  | succ g ih =>
    intro a acc K h1 h2 h3 hK
    obtain ⟨K, rfl⟩ : ∃ j, K = j + 1 := ⟨K - 1, by omega⟩
    unfold cron_reader_item.l0
    by_cases h : a ≤ b
    · have hp : 2 ^ a < 18446744073709551616 := Nat.pow_lt_pow_right (by omega) (by omega : a < 64)
      have e1 : shl .u64 1 (a : Int) = ((2 ^ a : Nat) : Int) := by
        have := shl_is 1 a (by omega)
        rw [show ((1 : Nat) : Int) = 1 from rfl] at this
        rw [this, Nat.one_mul, Nat.mod_eq_of_lt hp]
      rw [if_pos (by omega), wrap_nat a (by omega), if_pos (by omega), w64 (by omega) (by omega), e1, or_is acc _ h3 hp, show (a : Int) + (n : Int) = ((a + n : Nat) : Int) from by omega, ih (a + n) _ K (by omega) (by omega) (Nat.or_lt_two_pow (n := 64) h3 hp) (by omega)]
      show _ = some (((if a ≤ b then stF g (a + n) b n (acc ||| 2 ^ a) else acc : Nat) : Int), true, s, (p : Int))
      rw [if_pos h]
    · rw [if_neg (by omega)]
      show _ = some (((if a ≤ b then stF g (a + n) b n (acc ||| 2 ^ a) else acc : Nat) : Int), true, s, (p : Int))
      rw [if_neg h]
theorem go_j2 (s : ByteArray) (p a b n : Nat) (hb : b < 64) (ha : a < 64) (hn : 1 ≤ n) (hn2 : n ≤ 99) (K : Nat) (hK : 70 ≤ K) : cron_reader_item.j2 K a b n s p = some (((stF 64 a b n 0 : Nat) : Int), true, s, (p : Int)) := by
  obtain ⟨K, rfl⟩ : ∃ j, K = j + 1 := ⟨K - 1, by omega⟩
  rw [cron_reader_item.j2]
  exact go_steps s p b n hb hn hn2 64 a 0 K (by omega) (by omega) (by omega) (by omega)
/-- Go's answer in the reader's form. -/
def G (s : ByteArray) (r : Bool × Nat × Nat) : Option (Int × Bool × ByteArray × Int) := some ((r.2.1 : Int), r.1, s, (r.2.2 : Int))
theorem go_slash (s : ByteArray) (hs : s.size ≤ 256) (p a b : Nat) (hp : p ≤ s.size) (hb : b < 64) (ha : a < 64) (K : Nat) (hK : 300 ≤ K) : cron_reader_item.j0 K a b 1 true s p = G s (slashP s p a b) := by
  obtain ⟨K, rfl⟩ : ∃ j, K = j + 1 + 1 := ⟨K - 2, by omega⟩
  rw [cron_reader_item.j0, if_pos rfl, is_f s hs p 47]
  unfold slashP
  by_cases h : atB s p 47 = true
  · rw [if_pos h, if_pos h, Option.bind_some, cron_reader_item.j1, if_pos rfl]
    simp only
    have := go_num s hs (p + 1) (atB_lt h) 1 99 K (by omega)
    rw [this]
    cases hq : numP s (p + 1) 1 99 with
    | none => simp [G]
    | some nq =>
      obtain ⟨n, q⟩ := nq
      obtain ⟨h1, h2, h3, h4⟩ := numP_pos (atB_lt h) hq
      simp only [Option.bind_some, if_true]
      rw [go_j2 s q a b n hb ha (by omega) (by omega) K (by omega)]
      rfl
  · rw [if_neg h, if_neg h, Option.bind_some, cron_reader_item.j1]
    simp only [Bool.false_eq_true, if_false]
    exact go_j2 s p a b 1 hb ha (by omega) (by omega) K (by omega)
theorem go_item (s : ByteArray) (hs : s.size ≤ 256) (p lo hi : Nat) (hp : p ≤ s.size) (hh : hi < 64) (hl : lo ≤ hi) (K : Nat) (hK : 300 ≤ K) : cron_reader_item.f K s p lo hi = G s (itemP s p lo hi) := by
  unfold cron_reader_item.f itemP
  rw [is_f s hs p 42, Option.bind_some]
  by_cases h : atB s p 42 = true
  · rw [if_pos h, if_pos h, if_pos rfl]
    exact go_slash s hs (p + 1) lo hi (atB_lt h) hh (by omega) K hK
  · rw [if_neg h, if_neg h]
    simp only [Bool.false_eq_true, if_false]
    rw [go_num s hs p hp lo hi K (by omega)]
    cases hq : numP s p lo hi with
    | none => simp [G]
    | some nq =>
      obtain ⟨a, q⟩ := nq
      obtain ⟨h1, h2, h3, h4⟩ := numP_pos hp hq
      simp only [Option.bind_some, if_true]
      rw [is_f s hs q 45, Option.bind_some]
      by_cases h5 : atB s q 45 = true
      · rw [if_pos h5, if_pos h5, if_pos rfl]
        simp only
        have := go_num s hs (q + 1) (atB_lt h5) a hi K (by omega)
        rw [this]
        cases hq2 : numP s (q + 1) a hi with
        | none => simp [G]
        | some nq2 =>
          obtain ⟨b, q2⟩ := nq2
          obtain ⟨g1, g2, g3, g4⟩ := numP_pos (atB_lt h5) hq2
          simp only [Option.bind_some, if_true]
          exact go_slash s hs q2 a b g2 (by omega) (by omega) K hK
      · rw [if_neg h5, if_neg h5]
        simp only [Bool.false_eq_true, if_false]
        obtain ⟨K, rfl⟩ : ∃ j, K = j + 1 + 1 := ⟨K - 2, by omega⟩
        rw [cron_reader_item.j0]
        simp only [Bool.false_eq_true, if_false]
        rw [cron_reader_item.j1]
        simp only [Bool.false_eq_true, if_false]
        exact go_j2 s q a a 1 (by omega) (by omega) (by omega) (by omega) K (by omega)
/-! ### The reference's item: a set as a list of truths -/
def ofB (S : Nat) : List Bool := (List.range 64).map fun i => S.testBit i
theorem ofB_len (S : Nat) : (ofB S).length = 64 := by simp [ofB]
theorem ofB_get (S i : Nat) (h : i < (ofB S).length) : (ofB S)[i] = S.testBit i := by simp [ofB]
theorem ofB_zero : ofB 0 = List.replicate 64 false := by decide +kernel
theorem ofB_set (S a : Nat) (ha : a < 64) : (ofB S).set a true = ofB (S ||| 2 ^ a) := by
  apply List.ext_getElem
  · rw [List.length_set, ofB_len, ofB_len]
  · intro i h1 h2
    rw [List.getElem_set, ofB_get, ofB_get, Nat.testBit_or, Nat.testBit_two_pow]
    by_cases h : a = i
    · rw [if_pos h]; simp [h]
    · rw [if_neg h]; simp [h]
theorem ref_steps (q : Int) (b n : Nat) (hb : b < 64) (hn : 1 ≤ n) (hn2 : n ≤ 99) : ∀ (g a acc K : Nat), b + 1 ≤ a + g → a < 200 → g + 1 ≤ K →
    capstanref04_item.l0 K q (ofB acc) b n a = some (q, true, ofB (stF g a b n acc)) := by
  intro g
  induction g with
  | zero =>
    intro a acc K h1 h2 hK
    obtain ⟨K, rfl⟩ : ∃ j, K = j + 1 := ⟨K - 1, by omega⟩
    unfold capstanref04_item.l0
    rw [if_neg (by omega)]; rfl
  | succ g ih =>
    intro a acc K h1 h2 hK
    obtain ⟨K, rfl⟩ : ∃ j, K = j + 1 := ⟨K - 1, by omega⟩
    unfold capstanref04_item.l0
    by_cases h : a ≤ b
    · rw [if_pos (by omega), if_pos (by omega), if_pos (by rw [ofB_len]; omega), w64 (by omega) (by omega), Int.toNat_natCast, ofB_set acc a (by omega), show (a : Int) + (n : Int) = ((a + n : Nat) : Int) from by omega, ih (a + n) _ K (by omega) (by omega) (by omega)]
      show _ = some (q, true, ofB (if a ≤ b then stF g (a + n) b n (acc ||| 2 ^ a) else acc))
      rw [if_pos h]
    · rw [if_neg (by omega)]
      show _ = some (q, true, ofB (if a ≤ b then stF g (a + n) b n (acc ||| 2 ^ a) else acc))
      rw [if_neg h]
theorem ref_j4 (q : Int) (a b n acc : Nat) (hb : b < 64) (ha : a < 64) (hn : 1 ≤ n) (hn2 : n ≤ 99) (K : Nat) (hK : 70 ≤ K) : capstanref04_item.j4 K q (ofB acc) a b n = some (q, true, ofB (acc ||| stF 64 a b n 0)) := by
  obtain ⟨K, rfl⟩ : ∃ j, K = j + 1 := ⟨K - 1, by omega⟩
  rw [capstanref04_item.j4, ref_steps q b n hb hn hn2 64 a acc K (by omega) (by omega) (by omega), ← stF_or, Nat.or_zero]
/-- The reference's answer in the reader's form, with the set acc so far. -/
def RF (acc : Nat) (r : Bool × Nat × Nat) : Option (Int × Bool × List Bool) := some ((r.2.2 : Int), r.1, if r.1 = true then ofB (acc ||| r.2.1) else ofB acc)
theorem bt_at (s : ByteArray) (p : Nat) (c : Int) (h : p < s.size) : (bt s p == c) = atB s p c := by
  unfold atB; rw [decide_eq_true h, Bool.true_and]
theorem atB_no {s : ByteArray} {p : Nat} {c : Int} (h : ¬ p < s.size) : atB s p c = false := by
  unfold atB; rw [decide_eq_false h, Bool.false_and]
theorem ref_slash (s : ByteArray) (hs : s.size ≤ 256) (p a b acc : Nat) (hp : p ≤ s.size) (hb : b < 64) (ha : a < 64) (K : Nat) (hK : 700 ≤ K) : capstanref04_item.j2 K s p (ofB acc) a b 1 true = RF acc (slashP s p a b) := by
  obtain ⟨K, rfl⟩ : ∃ j, K = j + 1 + 1 := ⟨K - 2, by omega⟩
  have key : capstanref04_item.j2 (K + 1 + 1) s p (ofB acc) a b 1 true = capstanref04_item.j3 (K + 1) s p (ofB acc) a b 1 (atB s p 47) := by
    rw [capstanref04_item.j2, if_pos rfl]
    by_cases h : p < s.size
    · rw [if_pos (by omega), if_pos (by omega), bt_at s p 47 h]
    · rw [if_neg (by omega), atB_no h]
  rw [key, capstanref04_item.j3]
  unfold slashP
  by_cases h : atB s p 47 = true
  · rw [if_pos h, if_pos h, w64 (by omega) (by omega), show (p : Int) + 1 = ((p + 1 : Nat) : Int) from by omega, ref_num s hs (p + 1) (atB_lt h) 1 99 K (by omega)]
    cases hq : numP s (p + 1) 1 99 with
    | none => simp [RF]
    | some nq =>
      obtain ⟨n, q⟩ := nq
      obtain ⟨h1, h2, h3, h4⟩ := numP_pos (atB_lt h) hq
      simp only [Option.bind_some, if_true]
      rw [ref_j4 q a b n acc hb ha (by omega) (by omega) K (by omega)]
      rfl
  · rw [if_neg h, if_neg h]
    exact ref_j4 p a b 1 acc hb ha (by omega) (by omega) K (by omega)
theorem ref_item (s : ByteArray) (hs : s.size ≤ 256) (p f lo hi acc : Nat) (hp : p ≤ s.size) (hlo : Ca.low.f f = some (lo : Int)) (hhi : Ca.high.f f = some (hi : Int)) (hh : hi < 64) (hl : lo ≤ hi) (K : Nat) (hK : 800 ≤ K) :
    capstanref04_item.f K s p f (ofB acc) = RF acc (itemP s p lo hi) := by
  obtain ⟨K, rfl⟩ : ∃ j, K = j + 1 + 1 := ⟨K - 2, by omega⟩
  have key : capstanref04_item.f (K + 1 + 1) s p f (ofB acc) = capstanref04_item.j0 (K + 1 + 1) s p (ofB acc) lo hi 1 true (atB s p 42) := by
    unfold capstanref04_item.f
    rw [hlo, hhi]
    simp only [Option.bind_some]
    by_cases h : p < s.size
    · rw [if_pos (by omega), if_pos (by omega), bt_at s p 42 h]
    · rw [if_neg (by omega), atB_no h]
  rw [key, capstanref04_item.j0]
  unfold itemP
  by_cases h : atB s p 42 = true
  · rw [if_pos h, if_pos h, w64 (by omega) (by omega), show (p : Int) + 1 = ((p + 1 : Nat) : Int) from by omega]
    exact ref_slash s hs (p + 1) lo hi acc (atB_lt h) hh (by omega) (K + 1) (by omega)
  · rw [if_neg h, if_neg h, ref_num s hs p hp lo hi (K + 1) (by omega)]
    cases hq : numP s p lo hi with
    | none => simp [RF]
    | some nq =>
      obtain ⟨a, q⟩ := nq
      obtain ⟨h1, h2, h3, h4⟩ := numP_pos hp hq
      simp only [Option.bind_some, if_true]
      have key2 : (if (q : Int) < (s.size : Int) then (if 0 ≤ (q : Int) then capstanref04_item.j1 (K + 1) s q (ofB acc) a hi 1 ((bt s q) == 45) else none) else capstanref04_item.j1 (K + 1) s q (ofB acc) a hi 1 false) = capstanref04_item.j1 (K + 1) s q (ofB acc) a hi 1 (atB s q 45) := by
        by_cases h : q < s.size
        · rw [if_pos (by omega), if_pos (by omega), bt_at s q 45 h]
        · rw [if_neg (by omega), atB_no h]
      rw [key2, capstanref04_item.j1]
      by_cases h5 : atB s q 45 = true
      · rw [if_pos h5, if_pos h5, w64 (by omega) (by omega), show (q : Int) + 1 = ((q + 1 : Nat) : Int) from by omega, ref_num s hs (q + 1) (atB_lt h5) a hi K (by omega), h5]
        cases hq2 : numP s (q + 1) a hi with
        | none => simp [RF]
        | some nq2 =>
          obtain ⟨b, q2⟩ := nq2
          obtain ⟨g1, g2, g3, g4⟩ := numP_pos (atB_lt h5) hq2
          simp only [Option.bind_some, if_true]
          exact ref_slash s hs q2 a b acc g2 (by omega) (by omega) K (by omega)
      · have h6 : atB s q 45 = false := by simpa using h5
        obtain ⟨K, rfl⟩ : ∃ j, K = j + 1 + 1 := ⟨K - 2, by omega⟩
        rw [if_neg h5, if_neg h5, h6, capstanref04_item.j2]
        simp only [Bool.false_eq_true, if_false]
        rw [capstanref04_item.j3]
        simp only [Bool.false_eq_true, if_false]
        exact ref_j4 q a a 1 acc (by omega) (by omega) (by omega) (by omega) K (by omega)
theorem ref_bits (S : Nat) (hS : S < 18446744073709551616) : ∀ (g j K : Nat), j + g = 64 → g + 1 ≤ K → capstanref04_bitsOf.l0 K (ofB S) ((S % 2 ^ j : Nat) : Int) j = some (S : Int) := by
  intro g
  induction g with
  | zero =>
    intro j K hj hK
    obtain ⟨K, rfl⟩ : ∃ j, K = j + 1 := ⟨K - 1, by omega⟩
    obtain rfl : j = 64 := by omega
    unfold capstanref04_bitsOf.l0
    rw [if_neg (by rw [ofB_len]; omega), Nat.mod_eq_of_lt hS]
  | succ g ih =>
    intro j K hj hK
    obtain ⟨K, rfl⟩ : ∃ j, K = j + 1 := ⟨K - 1, by omega⟩
    unfold capstanref04_bitsOf.l0
    have hget : rdOf false (ofB S) (j : Int) = S.testBit j := by
      unfold rdOf
      rw [Int.toNat_natCast, List.getD_eq_getElem?_getD, List.getElem?_eq_getElem (by rw [ofB_len]; omega), ofB_get]; rfl
    have hmod : S % 2 ^ (j + 1) = S % 2 ^ j + 2 ^ j * (S.testBit j).toNat := by
      rw [Nat.mod_pow_succ, Nat.testBit_eq_decide_div_mod_eq]
      rcases Nat.mod_two_eq_zero_or_one (S / 2 ^ j) with h | h
      · rw [h]; rfl
      · rw [h]; rfl
    have hlt : S % 2 ^ (j + 1) < 18446744073709551616 := Nat.lt_of_le_of_lt (Nat.mod_le _ _) hS
    rw [if_pos (by rw [ofB_len]; omega), if_pos (by omega), hget, w64 (by omega) (by omega), show (j : Int) + 1 = ((j + 1 : Nat) : Int) from by omega]
    by_cases hb : S.testBit j = true
    · have hp : 2 ^ j < 18446744073709551616 := Nat.pow_lt_pow_right (by omega) (by omega : j < 64)
      have e1 : shl .u64 1 (j : Int) = ((2 ^ j : Nat) : Int) := by
        have := shl_is 1 j (by omega)
        rw [show ((1 : Nat) : Int) = 1 from rfl] at this
        rw [this, Nat.one_mul, Nat.mod_eq_of_lt hp]
      rw [hb] at hmod
      simp only [Bool.toNat_true, Nat.mul_one] at hmod
      rw [if_pos hb, wrap_nat j (by omega), if_pos (by omega), e1, ← Int.natCast_add, wrap_nat _ (by omega), ← hmod]
      exact ih (j + 1) K (by omega) (by omega)
    · have hb2 : S.testBit j = false := by simpa using hb
      rw [hb2] at hmod
      simp only [Bool.toNat_false, Nat.mul_zero, Nat.add_zero] at hmod
      rw [if_neg hb, ← hmod]
      exact ih (j + 1) K (by omega) (by omega)
theorem ref_bitsOf (S : Nat) (hS : S < 18446744073709551616) (K : Nat) (hK : 65 ≤ K) : capstanref04_bitsOf.f K (ofB S) = some (S : Int) := by
  have := ref_bits S hS 64 0 K (by omega) (by omega)
  unfold capstanref04_bitsOf.f
  rw [show S % 2 ^ 0 = 0 from by omega] at this
  exact this
/-! ### A field -/
def setP (s : ByteArray) (lo hi : Nat) : Nat → Nat → Nat → Option (Bool × Nat × Nat)
  | 0, _, _ => none
  | g + 1, p, acc => if (itemP s p lo hi).1 = true then (if atB s (itemP s p lo hi).2.2 44 = true then setP s lo hi g ((itemP s p lo hi).2.2 + 1) (acc ||| (itemP s p lo hi).2.1) else some (true, acc ||| (itemP s p lo hi).2.1, (itemP s p lo hi).2.2)) else some (false, 0, (itemP s p lo hi).2.2)
theorem slashP_pos (s : ByteArray) (p a b : Nat) (hp : p ≤ s.size) (hb : b < 64) : p ≤ (slashP s p a b).2.2 ∧ (slashP s p a b).2.2 ≤ s.size ∧ (slashP s p a b).2.1 < 18446744073709551616 := by
  unfold slashP
  split
  · rename_i h
    have h1 := atB_lt h
    split
    · exact ⟨by show p ≤ p + 1; omega, by show p + 1 ≤ _; omega, by show 0 < _; omega⟩
    · rename_i n q hq
      obtain ⟨g1, g2, g3, g4⟩ := numP_pos (by omega) hq
      exact ⟨by show p ≤ q; omega, g2, stF_lt b n hb _ _ _ (by omega)⟩
  · exact ⟨Nat.le_refl _, hp, stF_lt b 1 hb _ _ _ (by omega)⟩
theorem itemP_pos (s : ByteArray) (p lo hi : Nat) (hp : p ≤ s.size) (hh : hi < 64) : p ≤ (itemP s p lo hi).2.2 ∧ (itemP s p lo hi).2.2 ≤ s.size ∧ (itemP s p lo hi).2.1 < 18446744073709551616 := by
  unfold itemP
  split
  · rename_i h
    obtain ⟨h1, h2, h3⟩ := slashP_pos s (p + 1) lo hi (atB_lt h) hh
    exact ⟨by omega, h2, h3⟩
  · split
    · exact ⟨Nat.le_refl _, hp, by show 0 < _; omega⟩
    · rename_i a q hq
      obtain ⟨g1, g2, g3, g4⟩ := numP_pos hp hq
      split
      · rename_i h5
        have h6 := atB_lt h5
        split
        · exact ⟨by show p ≤ q + 1; omega, by show q + 1 ≤ _; omega, by show 0 < _; omega⟩
        · rename_i b q2 hq2
          obtain ⟨k1, k2, k3, k4⟩ := numP_pos (by omega) hq2
          obtain ⟨h1, h2, h3⟩ := slashP_pos s q2 a b k2 (by omega)
          exact ⟨by omega, h2, h3⟩
      · exact ⟨by show p ≤ q; omega, g2, stF_lt a 1 (by omega) _ _ _ (by omega)⟩
theorem setP_some (s : ByteArray) (lo hi : Nat) (hh : hi < 64) : ∀ (g p acc : Nat), p ≤ s.size → s.size + 1 ≤ p + g → ∃ r, setP s lo hi g p acc = some r ∧ p ≤ r.2.2 ∧ r.2.2 ≤ s.size := by
  intro g
  induction g with
  | zero => intro p acc h1 h2; omega
  | succ g ih =>
    intro p acc h1 h2
    unfold setP
    obtain ⟨e1, e2, e3⟩ := itemP_pos s p lo hi h1 hh
    split
    · split
      · rename_i h3
        have := atB_lt h3
        obtain ⟨r, hr, r1, r2⟩ := ih ((itemP s p lo hi).2.2 + 1) (acc ||| (itemP s p lo hi).2.1) (by omega) (by omega)
        exact ⟨r, hr, by omega, r2⟩
      · exact ⟨_, rfl, e1, e2⟩
    · exact ⟨_, rfl, e1, e2⟩
theorem go_set (s : ByteArray) (hs : s.size ≤ 256) (lo hi : Nat) (hh : hi < 64) (hl : lo ≤ hi) (r : Bool × Nat × Nat) : ∀ (g p acc K : Nat), p ≤ s.size → acc < 18446744073709551616 → setP s lo hi g p acc = some r → g + 300 ≤ K → cron_reader_set.l0 K acc s p lo hi = G s r := by
  intro g
  induction g with
  | zero => intro p acc K _ _ h; simp [setP] at h
  | succ g ih =>
    intro p acc K h1 h2 h3 hK
    obtain ⟨K, rfl⟩ : ∃ j, K = j + 1 := ⟨K - 1, by omega⟩
    obtain ⟨e1, e2, e3⟩ := itemP_pos s p lo hi h1 hh
    unfold cron_reader_set.l0
    rw [go_item s hs p lo hi h1 hh hl K (by omega)]
    unfold setP at h3
    obtain ⟨⟨ok, v, q⟩, hi_⟩ : ∃ x, itemP s p lo hi = x := ⟨_, rfl⟩
    rw [hi_] at h3 e1 e2 e3 ⊢
    simp only [G, Option.bind_some] at h3 e1 e2 e3 ⊢
    cases ok
    · simp only [Bool.false_eq_true, if_false] at h3 ⊢
      injection h3 with h3
      subst h3
      rfl
    · simp only [if_true] at h3 ⊢
      rw [is_f s hs q 44, Option.bind_some, or_is acc v h2 e3]
      by_cases h4 : atB s q 44 = true
      · rw [if_pos h4] at h3
        rw [if_pos h4, if_pos rfl]
        exact ih (q + 1) (acc ||| v) K (atB_lt h4) (Nat.or_lt_two_pow (n := 64) h2 e3) h3 (by omega)
      · rw [if_neg h4] at h3
        injection h3 with h3
        subst h3
        rw [if_neg h4]
        simp
end Go.Proofs.YtkmcmgfmahildaaDoor.Pw
