/- The calendar in plain numbers: the days before a year and a month, dates that are, their seconds, and that a date is known by its second. -/
namespace Go.Proofs.YtkmcmgfmahildaaDoor.CivP

/-- A leap year. -/
def lp (y : Int) : Bool := decide (y % 4 = 0 ∧ (y % 100 ≠ 0 ∨ y % 400 = 0))
/-- The days of a year. -/
def long (y : Int) : Int := if lp y then 366 else 365
/-- The days of a month; 0: no month. -/
def dim (y m : Int) : Int := if m < 1 ∨ 12 < m then 0 else if m = 2 then (if lp y then 29 else 28) else if m = 4 ∨ m = 6 ∨ m = 9 ∨ m = 11 then 30 else 31
/-- The days from the first of January of 1970 to that of y. -/
def dy (y : Int) : Int := 365 * (y - 1970) + ((y - 1) / 4 - (y - 1) / 100 + (y - 1) / 400) - 477
/-- The days of a year ahead of a month. -/
def dm (y m : Int) : Int :=
  if m ≤ 1 then 0 else if m = 2 then 31 else
  (if m = 3 then 59 else if m = 4 then 90 else if m = 5 then 120 else if m = 6 then 151 else if m = 7 then 181 else if m = 8 then 212 else if m = 9 then 243 else if m = 10 then 273 else if m = 11 then 304 else if m = 12 then 334 else 365) + (if lp y then 1 else 0)

theorem lp_step (y : Int) : dy (y + 1) = dy y + long y := by
  unfold dy long lp
  by_cases h : y % 4 = 0 ∧ (y % 100 ≠ 0 ∨ y % 400 = 0)
  · rw [decide_eq_true h]; simp only [if_true]; omega
  · rw [decide_eq_false h]; simp only [Bool.false_eq_true, if_false]; omega
theorem long_pos (y : Int) : 365 ≤ long y ∧ long y ≤ 366 := by unfold long; split <;> omega
theorem dm_step (y m : Int) (h1 : 1 ≤ m) (h2 : m ≤ 12) : dm y (m + 1) = dm y m + dim y m := by
  have : m = 1 ∨ m = 2 ∨ m = 3 ∨ m = 4 ∨ m = 5 ∨ m = 6 ∨ m = 7 ∨ m = 8 ∨ m = 9 ∨ m = 10 ∨ m = 11 ∨ m = 12 := by omega
  rcases this with rfl | rfl | rfl | rfl | rfl | rfl | rfl | rfl | rfl | rfl | rfl | rfl <;> cases hl : lp y <;> simp [dm, dim, hl]
theorem dm_one (y : Int) : dm y 1 = 0 := by simp [dm]
theorem dm_end (y : Int) : dm y 13 = long y := by unfold dm long; cases lp y <;> simp
theorem dim_pos (y m : Int) (h1 : 1 ≤ m) (h2 : m ≤ 12) : 28 ≤ dim y m ∧ dim y m ≤ 31 := by
  unfold dim
  rw [if_neg (by omega)]
  repeat' split
  all_goals omega
theorem dim_zero (y m : Int) (h : m < 1 ∨ 12 < m) : dim y m = 0 := by unfold dim; rw [if_pos h]

theorem dy_mono : ∀ (n : Nat) (y : Int), dy y + 365 * n ≤ dy (y + n)
  | 0, y => by simp
  | n + 1, y => by
    have h1 := dy_mono n y
    have h2 := lp_step (y + n)
    have h3 := long_pos (y + n)
    rw [show y + ((n + 1 : Nat) : Int) = y + n + 1 from by omega, h2]; omega
theorem dy_lt {a b : Int} (h : a < b) : dy a + long a ≤ dy b := by
  rw [← lp_step]
  obtain ⟨n, hn⟩ : ∃ n : Nat, b = a + 1 + n := ⟨(b - (a + 1)).toNat, by omega⟩
  have := dy_mono n (a + 1)
  rw [hn]; omega
theorem dm_mono (y : Int) : ∀ (n : Nat) (m : Int), 1 ≤ m → m + n ≤ 13 → dm y m + 28 * n ≤ dm y (m + n)
  | 0, m, _, _ => by simp
  | n + 1, m, h1, h2 => by
    have h3 := dm_mono y n m h1 (by omega)
    have h4 := dm_step y (m + n) (by omega) (by omega)
    have h5 := dim_pos y (m + n) (by omega) (by omega)
    rw [show m + ((n + 1 : Nat) : Int) = m + n + 1 from by omega, h4]; omega
theorem dm_lt {y a b : Int} (h : a < b) (h1 : 1 ≤ a) (h2 : b ≤ 13) : dm y a + dim y a ≤ dm y b := by
  rw [← dm_step y a h1 (by omega)]
  obtain ⟨n, hn⟩ : ∃ n : Nat, b = a + 1 + n := ⟨(b - (a + 1)).toNat, by omega⟩
  have := dm_mono y n (a + 1) (by omega) (by omega)
  rw [hn]; omega

/-- A date that is. -/
def Vd (y m d : Int) : Prop := 1 ≤ m ∧ m ≤ 12 ∧ 1 ≤ d ∧ d ≤ dim y m
/-- The day's number of a date. -/
def dn (y m d : Int) : Int := dy y + dm y m + d - 1
theorem in_year {y m d : Int} (h : Vd y m d) : dy y ≤ dn y m d ∧ dn y m d < dy y + long y := by
  obtain ⟨h1, h2, h3, h4⟩ := h
  have a := dm_lt (y := y) (a := m) (b := 13) (by omega) h1 (by omega)
  have b := dm_end y
  have c : 0 ≤ dm y m := by
    by_cases e : m = 1
    · rw [e, dm_one]; omega
    · have := dm_lt (y := y) (a := 1) (b := m) (by omega) (by omega) (by omega)
      have := dim_pos y 1 (by omega) (by omega)
      rw [dm_one] at *; omega
  unfold dn; omega
/-- A date is known by its number. -/
theorem uniq {y m d y' m' d' : Int} (h : Vd y m d) (h' : Vd y' m' d') (e : dn y m d = dn y' m' d') : y = y' ∧ m = m' ∧ d = d' := by
  have a := in_year h
  have b := in_year h'
  have hy : y = y' := by
    rcases Int.lt_trichotomy y y' with c | c | c
    · have := dy_lt c; omega
    · exact c
    · have := dy_lt c; omega
  subst hy
  obtain ⟨h1, h2, h3, h4⟩ := h
  obtain ⟨g1, g2, g3, g4⟩ := h'
  unfold dn at e
  have hm : m = m' := by
    rcases Int.lt_trichotomy m m' with c | c | c
    · have := dm_lt (y := y) c h1 (by omega); omega
    · exact c
    · have := dm_lt (y := y) c g1 (by omega); omega
  subst hm
  exact ⟨rfl, rfl, by omega⟩

/-- The years from March on: the days ahead of the k-th of four hundred. -/
def Y (k : Int) : Int := 365 * k + k / 4 - k / 100
def pre (e : Int) : Int := e - e / 1460 + e / 36524 - e / 146096
/-- The year that the program finds for a day of its four hundred years. -/
def yoe (e : Int) : Int := pre e / 365
theorem pre_mono (e : Int) (h0 : 0 ≤ e) (h1 : e + 1 < 146096) : pre e ≤ pre (e + 1) := by unfold pre; omega
theorem pre_mono' : ∀ (n : Nat) (e : Int), 0 ≤ e → e + n < 146096 → pre e ≤ pre (e + n)
  | 0, e, _, _ => by simp
  | n + 1, e, h0, h1 => by
    have a := pre_mono' n e h0 (by omega)
    have b := pre_mono (e + n) (by omega) (by omega)
    rw [show e + ((n + 1 : Nat) : Int) = e + n + 1 from by omega]
    omega
def okY (k : Nat) : Bool := decide (yoe (Y k) = k) && decide (yoe (min (Y (k + 1) - 1) 146095) = k)
theorem ok_all : ∀ k, k < 400 → okY k = true := by
  have : (List.range 400).all okY = true := by decide +kernel
  intro k hk
  exact List.all_eq_true.1 this k (by simpa using hk)
theorem yoe_of (k : Nat) (hk : k < 400) (e : Int) (h1 : Y k ≤ e) (h2 : e < Y (k + 1) ∨ k = 399 ∧ e < 146097) : yoe e = k := by
  by_cases he : e = 146096
  · have hk' : k = 399 := by
      rcases h2 with h2 | h2
      · subst he; unfold Y at h2; omega
      · exact h2.1
    subst he; subst hk'; decide
  · have hr := ok_all k hk
    simp only [okY, Bool.and_eq_true, decide_eq_true_eq] at hr
    obtain ⟨r1, r2⟩ := hr
    have hY0 : 0 ≤ Y k := by unfold Y; omega
    have hYk : Y ((k : Int) + 1) = Y (k + 1) := rfl
    have hle : e ≤ min (Y (k + 1) - 1) 146095 := by
      rcases h2 with h2 | ⟨rfl, h2⟩
      · have : Y ((k : Int) + 1) ≤ 146097 := by unfold Y; omega
        omega
      · unfold Y; omega
    have hmn : min (Y ((k : Int) + 1) - 1) 146095 ≤ 146095 := by omega
    generalize min (Y ((k : Int) + 1) - 1) 146095 = top at hle hmn r2
    have m1 := pre_mono' (e - Y k).toNat (Y k) hY0 (by omega)
    rw [show Y (k : Int) + ((e - Y k).toNat : Int) = e from by omega] at m1
    have m2 := pre_mono' (top - e).toNat e (by omega) (by omega)
    rw [show e + ((top - e).toNat : Int) = top from by omega] at m2
    unfold yoe at r1 r2 ⊢
    clear hle hmn h1 h2 hY0 hYk he
    generalize pre e = a at m1 m2 ⊢
    generalize pre (Y k) = b at m1 r1
    generalize pre top = c at m2 r2
    omega
theorem find_year (e : Int) (h0 : 0 ≤ e) (h1 : e < 146097) : ∃ k : Nat, k < 400 ∧ Y k ≤ e ∧ (e < Y (k + 1) ∨ k = 399 ∧ e < 146097) := by
  have key : ∀ n : Nat, n ≤ 400 → e < Y n ∨ n = 400 → ∃ k : Nat, k < 400 ∧ Y k ≤ e ∧ (e < Y (k + 1) ∨ k = 399 ∧ e < 146097) := by
    intro n
    induction n with
    | zero => intro _ h; rcases h with h | h; · (simp [Y] at h; omega)
              · omega
    | succ n ih =>
      intro hn h
      by_cases c : e < Y n
      · exact ih (by omega) (.inl c)
      · refine ⟨n, by omega, by omega, ?_⟩
        rcases h with h | h
        · exact .inl (by simpa using h)
        · exact .inr ⟨by omega, h1⟩
  exact key 400 (by omega) (.inr rfl)

/-- The days ahead of a month from March on, in a year that is no leap year; the days of such a month. -/
def dm3 (m : Int) : Int := if m = 3 then 59 else if m = 4 then 90 else if m = 5 then 120 else if m = 6 then 151 else if m = 7 then 181 else if m = 8 then 212 else if m = 9 then 243 else if m = 10 then 273 else if m = 11 then 304 else 334
def di3 (m : Int) : Int := if m = 4 ∨ m = 6 ∨ m = 9 ∨ m = 11 then 30 else 31
theorem dim3 (y m : Int) (h1 : 3 ≤ m) (h2 : m ≤ 12) : dim y m = di3 m := by
  unfold dim di3; rw [if_neg (by omega), if_neg (by omega)]
theorem dy_alt (y : Int) : dy y + (if lp y then 1 else 0) = 365 * (y - 1970) + (y / 4 - y / 100 + y / 400) - 477 := by
  unfold dy lp
  by_cases h : y % 4 = 0 ∧ (y % 100 ≠ 0 ∨ y % 400 = 0)
  · rw [decide_eq_true h]; simp only [if_true]; omega
  · rw [decide_eq_false h]; simp only [Bool.false_eq_true, if_false]; omega

/-- THE PROGRAM's DATE OF A DAY is a date, and that day's. -/
theorem date_of (z era doe yo doy mp : Int) (hera : era = (z + 719468) / 146097) (hdoe : doe = (z + 719468) % 146097) (hyo : yo = yoe doe) (hdoy : doy = doe - (365 * yo + yo / 4 - yo / 100)) (hmp : mp = (5 * doy + 2) / 153) :
    0 ≤ yo ∧ yo ≤ 399 ∧ 0 ≤ doy ∧ doy ≤ 365 ∧ 0 ≤ mp ∧ mp ≤ 11 ∧
    Vd (yo + era * 400 + (if mp + 3 > 12 then 1 else 0)) (if mp + 3 > 12 then mp + 3 - 12 else mp + 3) (doy - (153 * mp + 2) / 5 + 1) ∧
    dn (yo + era * 400 + (if mp + 3 > 12 then 1 else 0)) (if mp + 3 > 12 then mp + 3 - 12 else mp + 3) (doy - (153 * mp + 2) / 5 + 1) = z := by
  obtain ⟨k, hk, hk1, hk2⟩ := find_year doe (by omega) (by omega)
  have hy : yo = k := by rw [hyo]; exact yoe_of k hk doe hk1 hk2
  have hz : z = era * 146097 + doe - 719468 := by omega
  clear hera hdoe hyo
  subst hy
  unfold Y at hk1 hk2
  have hd0 : 0 ≤ doy := by omega
  have hd1 : doy ≤ 365 := by omega
  have hm0 : 0 ≤ mp := by omega
  have hm1 : mp ≤ 11 := by omega
  refine ⟨by omega, by omega, hd0, hd1, hm0, hm1, ?_⟩
  have key : ∀ (y m : Int), y = k + era * 400 → 3 ≤ m → m ≤ 12 → dm y m = dm3 m + (if lp y then 1 else 0) := fun y m _ h3 h12 => by
    have : m = 3 ∨ m = 4 ∨ m = 5 ∨ m = 6 ∨ m = 7 ∨ m = 8 ∨ m = 9 ∨ m = 10 ∨ m = 11 ∨ m = 12 := by omega
    rcases this with rfl | rfl | rfl | rfl | rfl | rfl | rfl | rfl | rfl | rfl <;> simp [dm, dm3]
  by_cases hc : mp + 3 > 12
  · rw [if_pos hc, if_pos hc]
    have hlp : lp (k + era * 400 + 1) = true ↔ ((k + 1 : Int) % 4 = 0 ∧ ((k + 1 : Int) % 100 ≠ 0 ∨ (k + 1 : Int) % 400 = 0)) := by unfold lp; rw [decide_eq_true_iff]; omega
    have hc2 : mp = 10 ∨ mp = 11 := by omega
    unfold Vd dn dy
    rcases hc2 with rfl | rfl
    · have e1 : dim (k + era * 400 + 1) (10 + 3 - 12) = 31 := by simp [dim]
      have e2 : dm (k + era * 400 + 1) (10 + 3 - 12) = 0 := by simp [dm]
      rw [e1, e2]
      omega
    · have e2 : dm (k + era * 400 + 1) (11 + 3 - 12) = 31 := by simp [dm]
      rw [e2]
      cases hl : lp (k + era * 400 + 1) with
      | true =>
        have e1 : dim (k + era * 400 + 1) (11 + 3 - 12) = 29 := by simp [dim, hl]
        rw [e1]
        omega
      | false =>
        have e1 : dim (k + era * 400 + 1) (11 + 3 - 12) = 28 := by simp [dim, hl]
        have hl' : ¬ ((k + 1 : Int) % 4 = 0 ∧ ((k + 1 : Int) % 100 ≠ 0 ∨ (k + 1 : Int) % 400 = 0)) := fun h => by rw [hlp.2 h] at hl; cases hl
        rw [e1]
        omega
  · rw [if_neg hc, if_neg hc]
    have hda := dy_alt (k + era * 400)
    have hkm := key (k + era * 400) (mp + 3) rfl (by omega) (by omega)
    have hdi := dim3 (k + era * 400) (mp + 3) (by omega) (by omega)
    unfold Vd dn
    rw [Int.add_zero, hkm, hdi]
    generalize (if lp (k + era * 400) = true then (1 : Int) else 0) = q at hda ⊢
    generalize dy (k + era * 400) = D at hda ⊢
    have hcase : mp = 0 ∨ mp = 1 ∨ mp = 2 ∨ mp = 3 ∨ mp = 4 ∨ mp = 5 ∨ mp = 6 ∨ mp = 7 ∨ mp = 8 ∨ mp = 9 := by omega
    clear hkm hdi key hc
    rcases hcase with rfl | rfl | rfl | rfl | rfl | rfl | rfl | rfl | rfl | rfl <;> simp [dm3, di3] <;> omega
end Go.Proofs.YtkmcmgfmahildaaDoor.CivP
