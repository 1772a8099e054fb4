/- The reference's products and quotients of whole numbers of any size, and its Scale: what each printed function comes to, as numbers. Conditions: as each theorem states. -/
import Derived.Test.YtdplfphgomckfaaDoorBn
namespace Go.Proofs.YtdplfphgomckfaaDoor.Bn
set_option linter.unusedVariables false
set_option linter.unusedSimpArgs false
open Go.RowKit Go.Proofs.YtdplfphgomckfaaDoorW.PrintWords Go.Proofs.YtdplfphgomckfaaDoor.OW
theorem val_set : ∀ (l : List Int) (n : Nat) (v : Int), n < l.length → val (l.set n v) = val l + pw n * (v - l.getD n 0)
  | [], n, v, h => by simp at h
  | d :: t, 0, v, h => by simp [val, pw]; omega
  | d :: t, n + 1, v, h => by
    have := val_set t n v (by simpa using h)
    simp only [List.set_cons_succ, val, this, pw_succ, List.getD_cons_succ]
    grind
theorem Dg.set {l : List Int} (h : Dg l) (n : Nat) (v : Int) (h0 : 0 ≤ v) (h1 : v < 65536) : Dg (l.set n v) := by
  intro x hx
  rcases List.mem_or_eq_of_mem_set hx with hx | rfl
  · exact h x hx
  · exact ⟨h0, h1⟩
theorem Dg.zeros (n : Nat) : Dg (List.replicate n 0) := by
  intro x hx
  rw [List.mem_replicate] at hx
  rw [hx.2]; exact ⟨by decide, by decide⟩
theorem val_zeros : ∀ n, val (List.replicate n 0) = 0
  | 0 => rfl
  | n + 1 => by rw [List.replicate_succ, val, val_zeros n]; rfl
theorem getD_set_ne {l : List Int} {n m : Nat} (v : Int) (h : n ≠ m) : (l.set n v).getD m 0 = l.getD m 0 := by
  rw [List.getD_eq_getElem?_getD, List.getElem?_set_ne h, ← List.getD_eq_getElem?_getD]
theorem getD_set_self {l : List Int} {n : Nat} (v : Int) (h : n < l.length) : (l.set n v).getD n 0 = v := by
  rw [List.getD_eq_getElem?_getD, List.getElem?_set_self h]; rfl
theorem pw_add (m : Nat) : ∀ n, pw (m + n) = pw m * pw n
  | 0 => by simp [pw]
  | n + 1 => by rw [← Nat.add_assoc, pw_succ, pw_succ, pw_add m n]; grind
/-! ### Times -/
theorem times_in (x y : Bool) (a b : List Int) (ha : Dg a) (hb : Dg b) (hla : a.length ≤ 100000) (hlb : b.length ≤ 100000) (i : Nat) (hi : i < a.length) : ∀ (g j : Nat) (d : List Int) (c : Int), j + g = b.length → Dg d → d.length = a.length + b.length → 0 ≤ c → c < 65536 →
    (∀ m, i + b.length ≤ m → d.getD m 0 = 0) →
    ∃ d', Dg d' ∧ d'.length = d.length ∧ (∀ m, i + 1 + b.length ≤ m → d'.getD m 0 = 0) ∧ val d' = val d + pw (i + j) * c + pw i * a.getD i 0 * (val b - val (b.take j)) ∧
      ∀ r, Ev (fun k => capstanref01_Times.l0 k d' ((i + 1 : Nat) : Int) x a y b) r → Ev (fun k => capstanref01_Times.l1 k d (i : Int) c (j : Int) x a y b) r
  | 0, j, d, c, hj, hd, hl, h0, h1, hz => by
    refine ⟨d.set (i + b.length) c, hd.set _ _ h0 h1, by rw [List.length_set], fun m hm => ?_, ?_, fun r hr => Ev.step (fun k => ?_) hr⟩
    · rw [getD_set_ne _ (by omega)]; exact hz m (by omega)
    · rw [val_set _ _ _ (by omega), hz _ (by omega), List.take_of_length_le (by omega), show j = b.length from by omega]; grind
    · simp only [capstanref01_Times.l1]
      rw [if_neg (by omega), w64 (a := (i : Int) + (b.length : Int)) (by omega) (by omega), if_pos (by omega), if_pos (by omega), w64 (a := (i : Int) + 1) (by omega) (by omega)]
      rw [show ((i : Int) + (b.length : Int)).toNat = i + b.length from by omega]
      rfl
  | g + 1, j, d, c, hj, hd, hl, h0, h1, hz => by
    have gd1 := hd.get (i + j)
    have ga := ha.get i
    have gb := hb.get j
    have hmul : 0 ≤ a.getD i 0 * b.getD j 0 ∧ a.getD i 0 * b.getD j 0 ≤ 65535 * 65535 :=
      ⟨Int.mul_nonneg ga.1 gb.1, Int.mul_le_mul (by omega) (by omega) gb.1 (by omega)⟩
    obtain ⟨P, hP⟩ : ∃ P, a.getD i 0 * b.getD j 0 = P := ⟨_, rfl⟩
    obtain ⟨s, hs⟩ : ∃ s, d.getD (i + j) 0 + P + c = s := ⟨_, rfl⟩
    rw [hP] at hmul
    have hs0 : 0 ≤ s ∧ s < 4294967296 := by omega
    obtain ⟨d', h2, h3, h4, h5, h6⟩ := times_in x y a b ha hb hla hlb i hi g (j + 1) (d.set (i + j) (s % 65536)) (s / 65536) (by omega) (hd.set _ _ (by omega) (by omega)) (by rw [List.length_set]; exact hl) (by omega) (by omega) (fun m hm => by rw [getD_set_ne _ (by omega)]; exact hz m hm)
    refine ⟨d', h2, by rw [h3, List.length_set], h4, ?_, fun r hr => Ev.step (fun k => ?_) (h6 r hr)⟩
    · rw [h5, val_set _ _ _ (by omega), val_take_succ b j, show i + (j + 1) = (i + j) + 1 from rfl, pw_succ, pw_add]
      have e : s % 65536 + 65536 * (s / 65536) = s := by omega
      have e2 : pw i * pw j * s = pw i * pw j * (s % 65536) + 65536 * (pw i * pw j) * (s / 65536) := by rw [← e]; grind
      have e3 : d.getD (i + j) 0 = s - P - c := by omega
      rw [e3, ← hP] at *
      grind
    · simp only [capstanref01_Times.l1]
      rw [if_pos (by omega), w64 (a := (i : Int) + (j : Int)) (by omega) (by omega), if_pos (by omega), if_pos (by omega), if_pos (by omega), if_pos (by omega), if_pos (by omega)]
      rw [show (i : Int) + (j : Int) = ((i + j : Nat) : Int) from by omega, rd_nat, rd_nat, rd_nat, hP, w64 (a := P) (by omega) (by omega), w64 (a := d.getD (i + j) 0 + P) (by omega) (by omega), hs, w64 (a := s) (by omega) (by omega), tm (by omega), td (by omega), w64 (a := s / 65536) (by omega) (by omega), w64 (a := (j : Int) + 1) (by omega) (by omega)]
      rfl
theorem times_out (x y : Bool) (a b : List Int) (ha : Dg a) (hb : Dg b) (hla : a.length ≤ 100000) (hlb : b.length ≤ 100000) : ∀ (g i : Nat) (d : List Int), i + g = a.length → Dg d → d.length = a.length + b.length → (∀ m, i + b.length ≤ m → d.getD m 0 = 0) → val d = val (a.take i) * val b →
    ∃ l, Ev (fun k => capstanref01_Times.l0 k d (i : Int) x a y b) (x != y, l) ∧ Dg l ∧ Nm l ∧ val l = val a * val b ∧ l.length ≤ a.length + b.length
  | 0, i, d, hi, hd, hl, hz, hv => by
    obtain ⟨t, he, h5, h6, h7, h8⟩ := trim_is d hd (by omega)
    refine ⟨t, Ev.step (f := fun k => (capstanref01_trim.f k d).bind fun t => some (x != y, t)) (fun k => ?_) (Ev.bind he (Ev.now _)), h5, h6, ?_, by omega⟩
    · simp only [capstanref01_Times.l0]
      rw [if_neg (by omega)]
    · rw [h7, hv, List.take_of_length_le (by omega)]
  | g + 1, i, d, hi, hd, hl, hz, hv => by
    obtain ⟨d', h2, h3, h4, h5, h6⟩ := times_in x y a b ha hb hla hlb i (by omega) b.length 0 d 0 (by omega) hd hl (by omega) (by omega) hz
    obtain ⟨l, he, h7⟩ := times_out x y a b ha hb hla hlb g (i + 1) d' (by omega) h2 (by omega) h4 (by
      rw [h5, hv, val_take_succ a i]
      simp only [List.take_zero, val]
      grind)
    refine ⟨l, Ev.step (fun k => ?_) (h6 _ he), h7⟩
    simp only [capstanref01_Times.l0]
    rw [if_pos (by omega)]
    rfl
theorem times_is (x y : Bool) (a b : List Int) (u v : Int) (ha : BigIs x a u) (hb : BigIs y b v) (hla : a.length ≤ 1000) (hlb : b.length ≤ 1000) :
    ∃ l, Ev (fun k => capstanref01_Times.f k x a y b) (x != y, l) ∧ BigIs (x != y) l (u * v) ∧ l.length ≤ a.length + b.length := by
  obtain ⟨da, na, hu⟩ := ha
  obtain ⟨db, nb, hv⟩ := hb
  obtain ⟨l, he, h5, h6, h7, h8⟩ := times_out x y a b da db (by omega) (by omega) a.length 0 (List.replicate (a.length + b.length) 0) (by omega) (Dg.zeros _) (by simp) (fun m _ => by
    rw [List.getD_eq_getElem?_getD, List.getElem?_replicate]; split <;> rfl) (by rw [val_zeros]; simp [val])
  refine ⟨l, Ev.congr (fun k => ?_) he, ⟨h5, h6, ?_⟩, h8⟩
  · unfold capstanref01_Times.f
    rw [w64 (a := (a.length : Int) + (b.length : Int)) (by omega) (by omega), if_pos (by omega), if_pos (by omega), show ((a.length : Int) + (b.length : Int)).toNat = a.length + b.length from by omega]
    rfl
  · rw [h7, hu, hv]
    cases x <;> cases y <;> simp <;> grind
/-! ### Over -/
def p2 : Nat → Int
  | 0 => 1
  | n + 1 => 2 * p2 n
theorem p2_pos : ∀ n, 0 < p2 n
  | 0 => by decide
  | n + 1 => by have := p2_pos n; rw [p2]; omega
theorem p2_eq : ∀ n : Nat, p2 n = (2 : Int) ^ n
  | 0 => rfl
  | n + 1 => by rw [p2, p2_eq n, Int.pow_succ]; omega
theorem p2_le : ∀ {m n : Nat}, m ≤ n → p2 m ≤ p2 n := by
  intro m n h
  induction h with
  | refl => exact Int.le_refl _
  | @step q _ ih => have := p2_pos q; rw [p2]; omega
theorem mod_p2 (a : Int) (n : Nat) : a % p2 (n + 1) = a / p2 n % 2 * p2 n + a % p2 n := by
  have hp := p2_pos n
  have h1 := Int.emod_add_mul_ediv a (p2 n)
  have h2 := Int.emod_add_mul_ediv (a / p2 n) 2
  have h3 := Int.emod_nonneg a (Int.ne_of_gt hp)
  have h4 := Int.emod_lt_of_pos a hp
  obtain ⟨q, hq⟩ : ∃ q, a / p2 n = q := ⟨_, rfl⟩
  obtain ⟨r, hr⟩ : ∃ r, a % p2 n = r := ⟨_, rfl⟩
  rw [hq] at h1 h2
  rw [hr] at h1 h3 h4
  rw [hq, hr]
  have hb : q % 2 = 0 ∨ q % 2 = 1 := by omega
  have hu : (q / 2) = a / p2 (n + 1) ∧ (q % 2 * p2 n + r) = a % p2 (n + 1) := by
    have := (Int.ediv_emod_unique (a := a) (b := p2 (n + 1)) (r := q % 2 * p2 n + r) (q := q / 2) (p2_pos (n + 1))).2 ⟨by rw [p2]; grind, by rcases hb with h | h <;> rw [h] <;> omega, by rw [p2]; rcases hb with h | h <;> rw [h] <;> omega⟩
    exact ⟨this.1.symm, this.2.symm⟩
  exact hu.2.symm
theorem over_in (x : Bool) (a : List Int) (ha : Dg a) (hla : a.length ≤ 1000) (den : Int) (hd0 : 1 ≤ den) (hd1 : den ≤ 9223372036854775807) (i : Nat) (hi : i < a.length) (q0 : List Int) (hq : q0.length = a.length) :
    ∀ (n : Nat) (qi rest : Int), n ≤ 16 → 0 ≤ rest → rest < den → 0 ≤ qi → qi < p2 (16 - n) →
    ∃ qi' rest', 0 ≤ rest' ∧ rest' < den ∧ 0 ≤ qi' ∧ qi' < 65536 ∧ qi' * den + rest' = (qi * den + rest) * p2 n + a.getD i 0 % p2 n ∧
      ∀ r, Ev (fun k => capstanref01_Over.l0 k den (q0.set i qi') rest' ((i : Int) - 1) x a) r → Ev (fun k => capstanref01_Over.l1 k den (q0.set i qi) rest (i : Int) ((n : Int) - 1) x a) r
  | 0, qi, rest, _, h0, h1, h2, h3 => by
    refine ⟨qi, rest, h0, h1, h2, ?_, ?_, fun r hr => Ev.step (fun k => ?_) hr⟩
    · have : p2 16 = 65536 := by decide
      rw [Nat.sub_zero, this] at h3; exact h3
    · simp [p2, Int.emod_one]
    · simp only [capstanref01_Over.l1]
      rw [if_neg (by omega), w64 (by omega) (by omega)]
  | n + 1, qi, rest, hn, h0, h1, h2, h3 => by
    have hga := ha.get i
    obtain ⟨A, hA⟩ : ∃ A, a.getD i 0 = A := ⟨_, rfl⟩
    rw [hA] at hga
    obtain ⟨bit, hbit⟩ : ∃ b, A / p2 n % 2 = b := ⟨_, rfl⟩
    have hb01 : bit = 0 ∨ bit = 1 := by omega
    have hdiv : 0 ≤ A / p2 n := Int.ediv_nonneg hga.1 (Int.le_of_lt (p2_pos n))
    have hm := mod_p2 A n
    rw [hbit] at hm
    have hp15 : p2 (16 - (n + 1)) ≤ p2 15 := p2_le (by omega)
    have hp15' : p2 15 = 32768 := by decide
    have hpn : p2 (16 - n) = 2 * p2 (16 - (n + 1)) := by rw [show 16 - n = (16 - (n + 1)) + 1 from by omega, p2]
    have hset : (q0.set i qi).set i (2 * qi) = q0.set i (2 * qi) := List.set_set ..
    have hset2 : (q0.set i (2 * qi)).set i (2 * qi + 1) = q0.set i (2 * qi + 1) := List.set_set ..
    have hrd : rd (q0.set i qi) (i : Int) = qi := by rw [rd_nat, getD_set_self _ (by omega)]
    have hrd2 : rd (q0.set i (2 * qi)) (i : Int) = 2 * qi := by rw [rd_nat, getD_set_self _ (by omega)]
    have hshr : shr .i64 A (n : Int) = A / p2 n := by
      unfold shr
      rw [p2_eq, Int.toNat_natCast, Nat.min_eq_left (by have : IntKind.i64.bits = 64 := rfl; omega)]
    have hr2 : (IntKind.u64.wrap ((IntKind.u64.wrap (2 * rest)) + (IntKind.u64.wrap (Int.tmod (shr .i64 A (n : Int)) 2)))) = 2 * rest + bit := by
      rw [hshr, Int.tmod_eq_emod_of_nonneg hdiv, hbit, u64_in (a := 2 * rest) (by omega) (by omega), u64_in (a := bit) (by omega) (by omega), u64_in (by omega) (by omega)]
    have hstep : ∀ k, capstanref01_Over.l1 (k + 1) den (q0.set i qi) rest (i : Int) (((n + 1 : Nat) : Int) - 1) x a = if 2 * rest + bit ≥ den then capstanref01_Over.l1 k den (q0.set i (2 * qi + 1)) (2 * rest + bit - den) (i : Int) ((n : Int) - 1) x a else capstanref01_Over.l1 k den (q0.set i (2 * qi)) (2 * rest + bit) (i : Int) ((n : Int) - 1) x a := fun k => by
      simp only [capstanref01_Over.l1]
      rw [show ((n + 1 : Nat) : Int) - 1 = (n : Int) from by omega, if_pos (by omega), if_pos (by omega), if_pos (by omega), u64_in (a := (n : Int)) (by omega) (by omega), if_pos (by omega), if_pos (by rw [List.length_set]; omega), rd_nat a i, hA, hr2, hrd, w64 (a := 2 * qi) (by omega) (by omega), Int.toNat_natCast, hset, Option.bind_some, hrd2, w64 (a := 2 * qi + 1) (by omega) (by omega), hset2, u64_in (a := den) (by omega) (by omega), w64 (a := (n : Int) - 1) (by omega) (by omega)]
      by_cases hge : 2 * rest + bit ≥ den
      · rw [if_pos hge, if_pos hge, u64_in (by omega) (by omega)]
      · rw [if_neg hge, if_neg hge]
    by_cases hge : 2 * rest + bit ≥ den
    · obtain ⟨qi', rest', e1, e2, e3, e4, e5, e6⟩ := over_in x a ha hla den hd0 hd1 i hi q0 hq n (2 * qi + 1) (2 * rest + bit - den) (by omega) (by omega) (by omega) (by omega) (by omega)
      refine ⟨qi', rest', e1, e2, e3, e4, ?_, fun r hr => Ev.step (fun k => by rw [hstep k, if_pos hge]) (e6 r hr)⟩
      rw [e5, hA, hm, p2]
      grind
    · obtain ⟨qi', rest', e1, e2, e3, e4, e5, e6⟩ := over_in x a ha hla den hd0 hd1 i hi q0 hq n (2 * qi) (2 * rest + bit) (by omega) (by omega) (by omega) (by omega) (by omega)
      refine ⟨qi', rest', e1, e2, e3, e4, ?_, fun r hr => Ev.step (fun k => by rw [hstep k, if_neg hge]) (e6 r hr)⟩
      rw [e5, hA, hm, p2]
      grind
theorem zeros_set (n : Nat) (h : List Int) (v : Int) : (List.replicate (n + 1) 0 ++ h).set n v = List.replicate n 0 ++ v :: h := by
  induction n with
  | zero => rfl
  | succ n ih => rw [List.replicate_succ, List.cons_append, List.set_cons_succ, ih]; rfl
theorem over_out (x : Bool) (a : List Int) (ha : Dg a) (hla : a.length ≤ 1000) (den : Int) (hd0 : 1 ≤ den) (hd1 : den ≤ 9223372036854775807) : ∀ (n : Nat) (h : List Int) (rest : Int), n + h.length = a.length → Dg h → 0 ≤ rest → rest < den → val h * den + rest = val (a.drop n) →
    ∃ l, Ev (fun k => capstanref01_Over.l0 k den (List.replicate n 0 ++ h) rest ((n : Int) - 1) x a) (x, l) ∧ Dg l ∧ Nm l ∧ val l = (if x = true ∧ val a % den ≠ 0 then val a / den + 1 else val a / den) ∧ l.length ≤ a.length + 2
  | 0, h, rest, hl, hd, h0, h1, hv => by
    rw [List.drop_zero] at hv
    obtain ⟨t, he, h5, h6, h7, h8⟩ := trim_is h hd (by omega)
    have hq := (Int.ediv_emod_unique (a := val a) (b := den) (r := rest) (q := val h) (by omega)).2 ⟨by grind, h0, h1⟩
    have hstep : ∀ k, capstanref01_Over.l0 (k + 1) den (List.replicate 0 0 ++ h) rest (((0 : Nat) : Int) - 1) x a = (capstanref01_trim.f k h).bind fun t201 => if x = true then (if rest > 0 then ((capstanref01_sum.f k t201 (([1] : List Int))).bind fun t207 => (some (x, t207))) else (some (x, t201))) else (some (x, t201)) := fun k => by
      simp only [capstanref01_Over.l0]
      rw [if_neg (by omega)]
      rfl
    by_cases hx : x = true ∧ rest > 0
    · have d1 : Dg [1] := by intro d hd; simp at hd; subst hd; exact ⟨by decide, by decide⟩
      obtain ⟨s, es, g5, g6, g7, g8⟩ := sum_is t [1] h5 d1 (by omega) (by simp)
      refine ⟨s, Ev.step hstep (Ev.bind he (f := fun k t201 => if x = true then (if rest > 0 then ((capstanref01_sum.f k t201 (([1] : List Int))).bind fun t207 => (some (x, t207))) else (some (x, t201))) else (some (x, t201))) (Ev.congr (fun k => by rw [if_pos hx.1, if_pos hx.2]) (Ev.bind es (f := fun _ t207 => some (x, t207)) (Ev.now _)))), g5, g6, ?_, ?_⟩
      · rw [if_pos ⟨hx.1, by rw [hq.2]; omega⟩, g7, h7, hq.1]; simp [val]
      · simp only [List.length_cons, List.length_nil] at g8; split at g8 <;> omega
    · refine ⟨t, Ev.step hstep (Ev.bind he (f := fun k t201 => if x = true then (if rest > 0 then ((capstanref01_sum.f k t201 (([1] : List Int))).bind fun t207 => (some (x, t207))) else (some (x, t201))) else (some (x, t201))) (Ev.congr (f := fun _ => some (x, t)) (fun k => ?_) (Ev.now _))), h5, h6, ?_, by omega⟩
      · by_cases hx1 : x = true
        · rw [if_pos hx1, if_neg (fun h => hx ⟨hx1, h⟩)]
        · rw [if_neg hx1]
      · rw [if_neg (by rintro ⟨e1, e2⟩; rw [hq.2] at e2; exact hx ⟨e1, by omega⟩), h7, hq.1]
  | n + 1, h, rest, hl, hd, h0, h1, hv => by
    obtain ⟨qi', rest', e1, e2, e3, e4, e5, e6⟩ := over_in x a ha hla den hd0 hd1 n (by omega) (List.replicate (n + 1) 0 ++ h) (by simp; omega) 16 0 rest (by omega) h0 h1 (by omega) (by decide)
    have hq0 : (List.replicate (n + 1) 0 ++ h).set n 0 = List.replicate (n + 1) 0 ++ h := by
      rw [zeros_set, List.replicate_succ']; simp
    rw [zeros_set] at e6
    have hga := ha.get n
    have p16 : p2 16 = 65536 := by decide
    have hdrop : a.drop n = a.getD n 0 :: a.drop (n + 1) := by
      rw [List.drop_eq_getElem_cons (by omega), gd (by omega)]
    obtain ⟨l, he, h5⟩ := over_out x a ha hla den hd0 hd1 n (qi' :: h) rest' (by simp; omega) (by
      intro d hd'
      rcases List.mem_cons.1 hd' with rfl | hd'
      · exact ⟨e3, e4⟩
      · exact hd d hd') e1 e2 (by
      rw [hdrop, val, val, ← hv]
      rw [p16, Int.emod_eq_of_lt hga.1 hga.2] at e5
      grind)
    refine ⟨l, Ev.step (fun k => ?_) (e6 _ he), h5⟩
    simp only [capstanref01_Over.l0]
    rw [if_pos (by omega), hq0]
    rw [show ((n + 1 : Nat) : Int) - 1 = (n : Int) from by omega]
    rfl
theorem neg_div (m den : Int) (hd : 1 ≤ den) : (-m) / den = if m % den ≠ 0 then -(m / den + 1) else -(m / den) := by
  have h1 := Int.emod_add_mul_ediv m den
  have h2 := Int.emod_nonneg m (show den ≠ 0 by omega)
  have h3 := Int.emod_lt_of_pos m (show 0 < den by omega)
  by_cases h : m % den ≠ 0
  · rw [if_pos h]
    exact ((Int.ediv_emod_unique (a := -m) (b := den) (r := den - m % den) (q := -(m / den + 1)) (by omega)).2 ⟨by grind, by omega, by omega⟩).1
  · rw [if_neg h]
    exact ((Int.ediv_emod_unique (a := -m) (b := den) (r := 0) (q := -(m / den)) (by omega)).2 ⟨by grind, by omega, by omega⟩).1
theorem over_is (x : Bool) (a : List Int) (u : Int) (ha : BigIs x a u) (hla : a.length ≤ 1000) (den : Int) (hd0 : 1 ≤ den) (hd1 : den ≤ 9223372036854775807) :
    ∃ l, Ev (fun k => capstanref01_Over.f k x a den) (x, l) ∧ BigIs x l (u / den) ∧ l.length ≤ a.length + 2 := by
  obtain ⟨da, na, hu⟩ := ha
  obtain ⟨l, he, h5, h6, h7, h8⟩ := over_out x a da hla den hd0 hd1 a.length [] 0 (by simp) Dg.nil (by omega) (by omega) (by simp [val])
  refine ⟨l, Ev.congr (fun k => ?_) he, ⟨h5, h6, ?_⟩, h8⟩
  · unfold capstanref01_Over.f
    rw [if_pos (by omega), if_pos (by omega), w64 (by omega) (by omega), List.append_nil]
    rfl
  · rw [h7, hu]
    cases x with
    | true => simp only [if_true, true_and]; rw [neg_div _ _ hd0]; split <;> omega
    | false => simp
def scl (a n d : Int) : Int := if n < 0 ∨ d < 1 then 0 else hold (a * n / d)
theorem rscale_is (a n d : Int) (ha : -9223372036854775808 ≤ a ∧ a ≤ 9223372036854775807) (hn : -9223372036854775808 ≤ n ∧ n ≤ 9223372036854775807) (hd : -9223372036854775808 ≤ d ∧ d ≤ 9223372036854775807) : Ev (fun k => capstanref01_Scale.f k a n d) (scl a n d) := by
  by_cases h : n < 0 ∨ d < 1
  · refine Ev.step (f := fun _ => some (scl a n d)) (fun k => ?_) (Ev.now _)
    unfold capstanref01_Scale.f scl
    rw [if_pos h]
    by_cases h1 : n < 0
    · rw [if_pos h1]; rfl
    · rw [if_neg h1, decide_eq_true (by omega)]; rfl
  · obtain ⟨la, ea, ba, ka⟩ := of_is a ha.1 ha.2
    obtain ⟨ln, en, bn, kn⟩ := of_is n hn.1 hn.2
    obtain ⟨lt, et, bt, kt⟩ := times_is _ _ _ _ _ _ ba bn (by omega) (by omega)
    obtain ⟨lo, eo, bo, ko⟩ := over_is _ _ _ bt (by omega) d (by omega) hd.2
    have eh := held_is _ _ _ bo (by omega)
    refine Ev.step (f := fun k => ((capstanref01_Of.f k a).bind fun bt224 => ((capstanref01_Of.f k n).bind fun bt228 => ((capstanref01_Times.f k bt224.1 bt224.2 bt228.1 bt228.2).bind fun bt232 => ((capstanref01_Over.f k bt232.1 bt232.2 d).bind fun bt236 => ((capstanref01_Held.f k bt236.1 bt236.2).bind fun t240 => (some t240))))))) (fun k => ?_) ?_
    · unfold capstanref01_Scale.f
      rw [if_neg (by omega), decide_eq_false (by omega)]
      rfl
    · unfold scl
      rw [if_neg h]
      exact Ev.bind ea (f := fun k bt224 => ((capstanref01_Of.f k n).bind fun bt228 => ((capstanref01_Times.f k bt224.1 bt224.2 bt228.1 bt228.2).bind fun bt232 => ((capstanref01_Over.f k bt232.1 bt232.2 d).bind fun bt236 => ((capstanref01_Held.f k bt236.1 bt236.2).bind fun t240 => (some t240)))))) (Ev.bind en (f := fun k bt228 => ((capstanref01_Times.f k _ la bt228.1 bt228.2).bind fun bt232 => ((capstanref01_Over.f k bt232.1 bt232.2 d).bind fun bt236 => ((capstanref01_Held.f k bt236.1 bt236.2).bind fun t240 => (some t240))))) (Ev.bind et (f := fun k bt232 => ((capstanref01_Over.f k bt232.1 bt232.2 d).bind fun bt236 => ((capstanref01_Held.f k bt236.1 bt236.2).bind fun t240 => (some t240)))) (Ev.bind eo (f := fun k bt236 => ((capstanref01_Held.f k bt236.1 bt236.2).bind fun t240 => (some t240))) (Ev.bind eh (f := fun _ t240 => some t240) (Ev.now _)))))
end Go.Proofs.YtdplfphgomckfaaDoor.Bn
