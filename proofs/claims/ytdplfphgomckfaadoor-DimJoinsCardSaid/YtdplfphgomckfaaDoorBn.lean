/- The reference's whole numbers of any size: what each printed function comes to, as numbers. -/
import Derived.Test.YtdplfphgomckfaaDoorOWx14
import Derived.Test.YtdplfphgomckfaaDoorBb
import Derived.IntWalk
import Derived.Laws.Bits64b
namespace Go.Proofs.YtdplfphgomckfaaDoor.Bn
set_option linter.unusedVariables false
set_option linter.unusedSimpArgs false
open Go.RowKit Go.Proofs.YtdplfphgomckfaaDoorW.PrintWords Go.Proofs.YtdplfphgomckfaaDoor.OW

/-- The worth of digits, the lowest first. -/
def val : List Int → Int
  | [] => 0
  | d :: t => d + 65536 * val t
def Dg (l : List Int) : Prop := ∀ d ∈ l, 0 ≤ d ∧ d < 65536
/-- No zero at the high end. -/
def Nm (l : List Int) : Prop := ∀ i, l.length = i + 1 → l.getD i 0 ≠ 0
def BigIs (b : Bool) (l : List Int) (v : Int) : Prop := Dg l ∧ Nm l ∧ v = (if b = true then - val l else val l)
def pw : Nat → Int
  | 0 => 1
  | n + 1 => 65536 * pw n
theorem pw_succ (n : Nat) : pw (n + 1) = 65536 * pw n := rfl
theorem pw_pos : ∀ n, 0 < pw n
  | 0 => by decide
  | n + 1 => by have := pw_pos n; rw [pw_succ]; omega
theorem gd {l : List Int} {i : Nat} (h : i < l.length) : l.getD i 0 = l[i] := by simp [List.getD, h]
theorem gdn {l : List Int} {i : Nat} (h : l.length ≤ i) : l.getD i 0 = 0 := by simp [List.getD, h]
theorem pw_mono : ∀ {m n : Nat}, m ≤ n → pw m ≤ pw n := by
  intro m n h
  induction h with
  | refl => exact Int.le_refl _
  | @step q _ ih => have := pw_pos q; rw [pw_succ]; omega
theorem Dg.nil : Dg [] := fun _ h => by cases h
theorem Dg.cons {d : Int} {t : List Int} (h : Dg (d :: t)) : 0 ≤ d ∧ d < 65536 ∧ Dg t := ⟨(h d (by simp)).1, (h d (by simp)).2, fun x hx => h x (by simp [hx])⟩
theorem Dg.take {l : List Int} (h : Dg l) (n : Nat) : Dg (l.take n) := fun d hd => h d (List.mem_of_mem_take hd)
theorem Dg.snoc {l : List Int} {d : Int} (h : Dg l) (h0 : 0 ≤ d) (h1 : d < 65536) : Dg (l ++ [d]) := by
  intro x hx
  rcases List.mem_append.1 hx with hx | hx
  · exact h x hx
  · simp at hx; subst hx; exact ⟨h0, h1⟩
theorem Dg.get {l : List Int} (h : Dg l) (i : Nat) : 0 ≤ l.getD i 0 ∧ l.getD i 0 < 65536 := by
  by_cases hi : i < l.length
  · rw [gd hi]; exact h _ (List.getElem_mem hi)
  · rw [gdn (by omega)]; omega
theorem val_range : ∀ {l : List Int}, Dg l → 0 ≤ val l ∧ val l < pw l.length
  | [], _ => by simp [val, pw]
  | d :: t, h => by
    obtain ⟨h0, h1, h2⟩ := h.cons
    have := val_range h2
    simp only [val, pw, List.length_cons]; omega
theorem val_snoc : ∀ (l : List Int) (d : Int), val (l ++ [d]) = val l + pw l.length * d
  | [], d => by simp [val, pw]
  | e :: t, d => by
    rw [List.cons_append]
    simp only [val, pw, List.length_cons]
    rw [val_snoc t d, Int.mul_add, Int.mul_assoc, Int.add_assoc]
theorem take_snoc (l : List Int) (n : Nat) (h : n < l.length) : l.take (n + 1) = l.take n ++ [l.getD n 0] := by
  rw [List.take_succ_eq_append_getElem h, gd h]
theorem val_take_succ (l : List Int) (n : Nat) : val (l.take (n + 1)) = val (l.take n) + pw n * l.getD n 0 := by
  by_cases h : n < l.length
  · rw [take_snoc l n h, val_snoc, List.length_take, Nat.min_eq_left (by omega)]
  · rw [List.take_of_length_le (by omega), List.take_of_length_le (by omega), gdn (by omega)]; omega
theorem val_nm {l : List Int} (hd : Dg l) (hn : Nm l) (n : Nat) (h : l.length = n + 1) : pw n ≤ val l := by
  have h1 := val_take_succ l n
  rw [List.take_of_length_le (by omega)] at h1
  have h2 := (val_range (hd.take n)).1
  have h3 := hd.get n
  have h4 := hn n h
  have h5 := pw_pos n
  have : pw n * 1 ≤ pw n * l.getD n 0 := Int.mul_le_mul_of_nonneg_left (by omega) (by omega)
  omega
theorem rd_nat (l : List Int) (i : Nat) : rd l (i : Int) = l.getD i 0 := by simp [rd]
theorem td {a : Int} (h : 0 ≤ a) : Int.tdiv a 65536 = a / 65536 := Int.tdiv_eq_ediv_of_nonneg h
theorem tm {a : Int} (h : 0 ≤ a) : Int.tmod a 65536 = a % 65536 := Int.tmod_eq_emod_of_nonneg h
/-! ### at, trim -/
theorem at_is (l : List Int) (i : Nat) : capstanref01_at.f l (i : Int) = some (l.getD i 0) := by
  unfold capstanref01_at.f
  by_cases h : (i : Int) < (l.length : Int)
  · rw [if_pos h, if_pos (by omega), rd_nat]
  · rw [if_neg h, gdn (by omega)]
theorem trim_loop (l : List Int) (hl : l.length ≤ 9223372036854775807) : ∀ n, n ≤ l.length → ∃ m, m ≤ n ∧ val (l.take m) = val (l.take n) ∧ Nm (l.take m) ∧ Ev (fun k => capstanref01_trim.l0 k l (n : Int)) (l.take m)
  | 0, h => by
    refine ⟨0, Nat.le_refl _, rfl, fun i hi => by simp at hi, Ev.step (f := fun _ => some (l.take 0)) (fun k => ?_) (Ev.now _)⟩
    simp only [capstanref01_trim.l0]
    rw [if_neg (by omega), if_pos (by omega), if_pos (by omega)]; rfl
  | n + 1, h => by
    by_cases hz : l.getD n 0 = 0
    · obtain ⟨m, hm, hv, hn, he⟩ := trim_loop l hl n (by omega)
      refine ⟨m, by omega, ?_, hn, Ev.step (fun k => ?_) he⟩
      · rw [hv, val_take_succ, hz]; omega
      · simp only [capstanref01_trim.l0]
        rw [w64 (by omega) (by omega)]
        rw [show ((n + 1 : Nat) : Int) - 1 = (n : Int) from by omega, if_pos (by omega), if_pos (by omega), if_pos (by omega), if_pos (by rw [rd_nat]; exact hz)]
    · refine ⟨n + 1, Nat.le_refl _, rfl, fun i hi => ?_, Ev.step (f := fun _ => some (l.take (n + 1))) (fun k => ?_) (Ev.now _)⟩
      · rw [List.length_take, Nat.min_eq_left (by omega)] at hi
        obtain rfl : i = n := by omega
        rw [take_snoc l i (by omega)]
        rw [gd (by simp; omega), List.getElem_append_right (by simp; omega)]
        simp; exact hz
      · simp only [capstanref01_trim.l0]
        rw [w64 (by omega) (by omega)]
        rw [show ((n + 1 : Nat) : Int) - 1 = (n : Int) from by omega, if_pos (by omega), if_pos (by omega), if_pos (by omega), if_neg (by rw [rd_nat]; exact hz), if_pos (by omega), if_pos (by omega)]
        rfl
theorem trim_is (l : List Int) (hd : Dg l) (hl : l.length ≤ 9223372036854775807) : ∃ t, Ev (fun k => capstanref01_trim.f k l) t ∧ Dg t ∧ Nm t ∧ val t = val l ∧ t.length ≤ l.length := by
  obtain ⟨m, hm, hv, hn, he⟩ := trim_loop l hl l.length (Nat.le_refl _)
  refine ⟨l.take m, he, hd.take m, hn, ?_, by simp; omega⟩
  rw [hv, List.take_of_length_le (Nat.le_refl _)]
/-! ### Of -/
theorem of_loop (b : Bool) : ∀ (n : Nat) (u : Int) (acc : List Int), 0 ≤ u → u < pw n → n ≤ 4 → acc.length + n ≤ 4 → Dg acc → (u = 0 → Nm acc) →
    ∃ l, Ev (fun k => capstanref01_Of.l0 k b u acc) (b, l) ∧ Dg l ∧ Nm l ∧ val l = val acc + pw acc.length * u ∧ l.length ≤ acc.length + n
  | 0, u, acc, h0, h1, _, h4, hd, hn => by
    have hu : u = 0 := by simp [pw] at h1; omega
    subst hu
    refine ⟨acc, Ev.step (f := fun _ => some (b, acc)) (fun k => ?_) (Ev.now _), hd, hn rfl, by omega, by omega⟩
    simp only [capstanref01_Of.l0]; rw [if_neg (by omega)]
  | n + 1, u, acc, h0, h1, h4n, h4, hd, hn => by
    by_cases hu : u = 0
    · subst hu
      refine ⟨acc, Ev.step (f := fun _ => some (b, acc)) (fun k => ?_) (Ev.now _), hd, hn rfl, by omega, by omega⟩
      simp only [capstanref01_Of.l0]; rw [if_neg (by omega)]
    · have hp : pw (n + 1) ≤ pw 4 := pw_mono (by omega)
      have hp4 : pw 4 = 18446744073709551616 := by decide
      have hlt : u / 65536 < pw n := by rw [pw_succ] at h1; omega
      obtain ⟨l, he, h5, h6, h7, h8⟩ := of_loop b n (u / 65536) (acc ++ [u % 65536]) (by omega) hlt (by omega) (by simp; omega) (hd.snoc (by omega) (by omega)) (fun h => by
        intro i hi
        simp at hi
        obtain rfl : i = acc.length := by omega
        rw [gd (by simp), List.getElem_append_right (by simp)]
        simp; omega)
      refine ⟨l, Ev.step (fun k => ?_) he, h5, h6, ?_, by simp at h8; omega⟩
      · simp only [capstanref01_Of.l0]
        rw [if_pos (by omega), if_pos (by omega), td h0, tm h0, u64_in (by omega) (by omega), w64 (by omega) (by omega)]
      · rw [h7, val_snoc, List.length_append]
        simp only [List.length_cons, List.length_nil, Nat.zero_add]
        rw [show pw (acc.length + 1) = pw acc.length * 65536 from by rw [pw_succ]; omega, Int.mul_assoc, Int.add_assoc, ← Int.mul_add]
        congr 2; omega
theorem of_is (v : Int) (h0 : -9223372036854775808 ≤ v) (h1 : v ≤ 9223372036854775807) : ∃ l, Ev (fun k => capstanref01_Of.f k v) (decide (v < 0), l) ∧ BigIs (decide (v < 0)) l v ∧ l.length ≤ 4 := by
  have hp4 : pw 4 = 18446744073709551616 := by decide
  by_cases hv : v < 0
  · have hu : IntKind.u64.wrap (-(IntKind.u64.wrap v)) = -v := by rw [u64_eq, u64_eq]; omega
    obtain ⟨l, he, h5, h6, h7, h8⟩ := of_loop (decide (v < 0)) 4 (-v) [] (by omega) (by omega) (by omega) (by simp) Dg.nil (fun h => by omega)
    refine ⟨l, ?_, ⟨h5, h6, ?_⟩, by simpa using h8⟩
    · refine Ev.congr (f := fun k => capstanref01_Of.j0 k (decide (v < 0)) (-v)) (fun k => by unfold capstanref01_Of.f; rw [if_pos hv, hu]) ?_
      exact Ev.step (fun k => by simp only [capstanref01_Of.j0]) he
    · rw [if_pos (by simpa using hv), h7]; simp [val, pw]
  · have hu : IntKind.u64.wrap v = v := u64_in (by omega) (by omega)
    obtain ⟨l, he, h5, h6, h7, h8⟩ := of_loop (decide (v < 0)) 4 v [] (by omega) (by omega) (by omega) (by simp) Dg.nil (fun h i hi => by simp at hi)
    refine ⟨l, ?_, ⟨h5, h6, ?_⟩, by simpa using h8⟩
    · refine Ev.congr (f := fun k => capstanref01_Of.j0 k (decide (v < 0)) v) (fun k => by unfold capstanref01_Of.f; rw [if_neg hv, hu]) ?_
      exact Ev.step (fun k => by simp only [capstanref01_Of.j0]) he
    · rw [if_neg (by simpa using hv), h7]; simp [val, pw]
/-! ### sum -/
theorem mx_eq (a b : Int) : mx a b = if a < b then b else a := rfl
theorem sum_loop (a b : List Int) (ha : Dg a) (hb : Dg b) (hla : a.length ≤ 1000000) (hlb : b.length ≤ 1000000) : ∀ (d : Nat) (acc : List Int) (c : Int), 0 ≤ c → c ≤ 1 → Dg acc →
    (if a.length < b.length then b.length else a.length) + 1 ≤ acc.length + d → acc.length ≤ (if a.length < b.length then b.length else a.length) + 1 → (acc.length = (if a.length < b.length then b.length else a.length) + 1 → c = 0) →
    val acc + pw acc.length * c = val (a.take acc.length) + val (b.take acc.length) →
    ∃ l, Ev (fun k => capstanref01_sum.l0 k a b acc c acc.length) l ∧ Dg l ∧ Nm l ∧ val l = val a + val b ∧ l.length ≤ (if a.length < b.length then b.length else a.length) + 1 := by
  intro d
  induction d with
  | zero =>
    intro acc c h0 h1 hd hm hm2 hm3 hv
    have hc := hm3 (by omega)
    subst hc
    obtain ⟨t, he, h5, h6, h7, h8⟩ := trim_is acc hd (by split at hm2 <;> omega)
    refine ⟨t, ?_, h5, h6, ?_, by omega⟩
    · refine Ev.step (f := fun k => capstanref01_sum.j1 k a b acc 0 acc.length false) (fun k => ?_) ?_
      · simp only [capstanref01_sum.l0]
        rw [if_neg (by rw [mx_eq]; split at hm <;> split <;> omega)]; rfl
      · refine Ev.step (f := fun k => (capstanref01_trim.f k acc).bind fun t => some t) (fun k => ?_) (Ev.bind he (Ev.now _))
        simp only [capstanref01_sum.j1]; rw [if_neg (by decide)]
    · rw [h7]
      rw [List.take_of_length_le (l := a) (by split at hm <;> omega), List.take_of_length_le (l := b) (by split at hm <;> omega)] at hv
      omega
  | succ d ih =>
    intro acc c h0 h1 hd hm hm2 hm3 hv
    have hga := ha.get acc.length
    have hgb := hb.get acc.length
    by_cases hgo : acc.length < (if a.length < b.length then b.length else a.length) ∨ 0 < c
    · generalize hs : a.getD acc.length 0 + b.getD acc.length 0 + c = s at *
      have hs0 : 0 ≤ s ∧ s < 131072 := by omega
      have hlen : acc.length ≤ 1000001 := by split at hm2 <;> omega
      have hlen2 : acc.length < (if a.length < b.length then b.length else a.length) + 1 := by
        rcases hgo with h | h
        · omega
        · rcases Nat.lt_or_eq_of_le hm2 with h' | h'
          · exact h'
          · have := hm3 h'; omega
      obtain ⟨l, he, h5, h6, h7, h8⟩ := ih (acc ++ [s % 65536]) (s / 65536) (by omega) (by omega) (hd.snoc (by omega) (by omega)) (by simp; omega) (by simp; omega)
        (fun h => by
          simp at h
          have e1 : a.getD acc.length 0 = 0 := gdn (by split at h <;> omega)
          have e2 : b.getD acc.length 0 = 0 := gdn (by split at h <;> omega)
          omega)
        (by
          rw [val_snoc, List.length_append]
          simp only [List.length_cons, List.length_nil, Nat.zero_add]
          rw [val_take_succ, val_take_succ]
          have e : pw (acc.length + 1) * (s / 65536) = pw acc.length * (65536 * (s / 65536)) := by rw [show pw (acc.length + 1) = pw acc.length * 65536 from by rw [pw_succ]; omega, Int.mul_assoc]
          have e2 : pw acc.length * (s % 65536) + pw acc.length * (65536 * (s / 65536)) = pw acc.length * s := by rw [← Int.mul_add]; congr 1; omega
          have e3 : pw acc.length * s = pw acc.length * a.getD acc.length 0 + pw acc.length * b.getD acc.length 0 + pw acc.length * c := by rw [← hs, Int.mul_add, Int.mul_add]
          omega)
      refine ⟨l, ?_, h5, h6, h7, h8⟩
      refine Ev.step (f := fun k => capstanref01_sum.j1 k a b acc c acc.length true) (fun k => ?_) ?_
      · simp only [capstanref01_sum.l0]
        by_cases hlt : (acc.length : Int) < mx (a.length : Int) (b.length : Int)
        · rw [if_pos hlt]
        · rw [if_neg hlt]
          have : 0 < c := by
            rcases hgo with h | h
            · rw [mx_eq] at hlt; split at h <;> split at hlt <;> omega
            · exact h
          rw [decide_eq_true (by omega)]
      · refine Ev.step (fun k => ?_) he
        simp only [capstanref01_sum.j1]
        rw [if_pos trivial, at_is, at_is]
        simp only [Option.bind_some]
        rw [if_pos (by omega)]
        rw [w64 (a := a.getD acc.length 0 + b.getD acc.length 0) (by omega) (by omega), hs, w64 (a := s) (by omega) (by omega), tm hs0.1, td hs0.1, w64 (a := s / 65536) (by omega) (by omega), w64 (by omega) (by omega)]
        simp
    · have hc : c = 0 := by omega
      subst hc
      obtain ⟨t, he, h5, h6, h7, h8⟩ := trim_is acc hd (by split at hm2 <;> omega)
      refine ⟨t, ?_, h5, h6, ?_, by omega⟩
      · refine Ev.step (f := fun k => capstanref01_sum.j1 k a b acc 0 acc.length false) (fun k => ?_) ?_
        · simp only [capstanref01_sum.l0]
          rw [if_neg (by rw [mx_eq]; split at hgo <;> split <;> omega)]; rfl
        · refine Ev.step (f := fun k => (capstanref01_trim.f k acc).bind fun t => some t) (fun k => ?_) (Ev.bind he (Ev.now _))
          simp only [capstanref01_sum.j1]; rw [if_neg (by decide)]
      · rw [h7]
        rw [List.take_of_length_le (l := a) (by split at hgo <;> omega), List.take_of_length_le (l := b) (by split at hgo <;> omega)] at hv
        omega
theorem sum_is (a b : List Int) (ha : Dg a) (hb : Dg b) (hla : a.length ≤ 1000000) (hlb : b.length ≤ 1000000) :
    ∃ l, Ev (fun k => capstanref01_sum.f k a b) l ∧ Dg l ∧ Nm l ∧ val l = val a + val b ∧ l.length ≤ (if a.length < b.length then b.length else a.length) + 1 :=
  sum_loop a b ha hb hla hlb ((if a.length < b.length then b.length else a.length) + 1) [] 0 (by omega) (by omega) Dg.nil (by simp) (by simp) (by simp) (by simp [val])
/-! ### order, less -/
theorem order_loop (a b : List Int) (ha : Dg a) (hb : Dg b) (hl : a.length = b.length) (hla : a.length ≤ 1000000) : ∀ n, n ≤ a.length → val a = val (a.take n) + (val b - val (b.take n)) →
    ∃ r : Int, Ev (fun k => capstanref01_order.l0 k a b ((n : Int) - 1)) r ∧ (0 ≤ r ↔ val b ≤ val a)
  | 0, _, hv => by
    refine ⟨0, Ev.step (f := fun _ => some 0) (fun k => ?_) (Ev.now _), by simp [val] at hv; omega⟩
    simp only [capstanref01_order.l0]; rw [if_neg (by omega)]
  | n + 1, h, hv => by
    have h1 := val_take_succ a n
    have h2 := val_take_succ b n
    have ra := val_range (ha.take n)
    have rb := val_range (hb.take n)
    rw [List.length_take, Nat.min_eq_left (by omega)] at ra rb
    have hp := pw_pos n
    have hbase : ((n + 1 : Nat) : Int) - 1 = (n : Int) := by omega
    rw [hbase]
    by_cases hlt : a.getD n 0 < b.getD n 0
    · have : pw n * (a.getD n 0 + 1) ≤ pw n * b.getD n 0 := Int.mul_le_mul_of_nonneg_left (by omega) (by omega)
      rw [Int.mul_add] at this
      refine ⟨-1, Ev.step (f := fun _ => some (-1)) (fun k => ?_) (Ev.now _), by omega⟩
      simp only [capstanref01_order.l0]; rw [if_pos (by omega), if_pos (by omega), if_pos (by omega), if_pos (by omega), if_pos (by rw [rd_nat, rd_nat]; exact hlt)]
    · by_cases hgt : b.getD n 0 < a.getD n 0
      · have : pw n * (b.getD n 0 + 1) ≤ pw n * a.getD n 0 := Int.mul_le_mul_of_nonneg_left (by omega) (by omega)
        rw [Int.mul_add] at this
        refine ⟨1, Ev.step (f := fun _ => some 1) (fun k => ?_) (Ev.now _), by omega⟩
        simp only [capstanref01_order.l0]; rw [if_pos (by omega), if_pos (by omega), if_pos (by omega), if_pos (by omega), if_neg (by rw [rd_nat, rd_nat]; exact hlt), if_pos (by rw [rd_nat, rd_nat]; exact hgt)]
      · have he : a.getD n 0 = b.getD n 0 := by omega
        obtain ⟨r, hr, h3⟩ := order_loop a b ha hb hl hla n (by omega) (by rw [he] at h1; omega)
        refine ⟨r, Ev.step (fun k => ?_) hr, h3⟩
        simp only [capstanref01_order.l0]; rw [if_pos (by omega), if_pos (by omega), if_pos (by omega), if_pos (by omega), if_neg (by rw [rd_nat, rd_nat]; exact hlt), if_neg (by rw [rd_nat, rd_nat]; exact hgt), w64 (by omega) (by omega)]
theorem order_is (a b : List Int) (ha : Dg a) (hb : Dg b) (na : Nm a) (nb : Nm b) (hla : a.length ≤ 1000000) (hlb : b.length ≤ 1000000) :
    ∃ r : Int, Ev (fun k => capstanref01_order.f k a b) r ∧ (0 ≤ r ↔ val b ≤ val a) := by
  have ra := val_range ha
  have rb := val_range hb
  by_cases hl : a.length = b.length
  · obtain ⟨r, hr, h⟩ := order_loop a b ha hb hl hla a.length (Nat.le_refl _) (by rw [List.take_of_length_le (Nat.le_refl _), List.take_of_length_le (by omega)]; omega)
    refine ⟨r, Ev.congr (fun k => ?_) hr, h⟩
    unfold capstanref01_order.f; rw [if_pos (by omega), w64 (by omega) (by omega)]
  · by_cases hlt : a.length < b.length
    · obtain ⟨n, hn⟩ : ∃ n, b.length = n + 1 := ⟨b.length - 1, by omega⟩
      have h1 := val_nm hb nb n hn
      have h2 : pw a.length ≤ pw n := pw_mono (by omega)
      refine ⟨-1, Ev.congr (f := fun _ => some (-1)) (fun k => ?_) (Ev.now _), by omega⟩
      unfold capstanref01_order.f; rw [if_neg (by omega), if_pos (by omega)]
    · obtain ⟨n, hn⟩ : ∃ n, a.length = n + 1 := ⟨a.length - 1, by omega⟩
      have h1 := val_nm ha na n hn
      have h2 : pw b.length ≤ pw n := pw_mono (by omega)
      refine ⟨1, Ev.congr (f := fun _ => some 1) (fun k => ?_) (Ev.now _), by omega⟩
      unfold capstanref01_order.f; rw [if_neg (by omega), if_neg (by omega)]
theorem less_loop (a b : List Int) (ha : Dg a) (hb : Dg b) (hla : a.length ≤ 1000000) (hv0 : val b ≤ val a) (hlb : b.length ≤ a.length) : ∀ (d : Nat) (acc : List Int) (c : Int), 0 ≤ c → c ≤ 1 → Dg acc → a.length = acc.length + d →
    val acc - pw acc.length * c = val (a.take acc.length) - val (b.take acc.length) →
    ∃ l, Ev (fun k => capstanref01_less.l0 k a b acc c acc.length) l ∧ Dg l ∧ Nm l ∧ val l = val a - val b ∧ l.length ≤ a.length := by
  intro d
  induction d with
  | zero =>
    intro acc c h0 h1 hd hm hv
    obtain ⟨t, he, h5, h6, h7, h8⟩ := trim_is acc hd (by omega)
    rw [List.take_of_length_le (l := a) (by omega), List.take_of_length_le (l := b) (by omega)] at hv
    have hr := val_range hd
    have hc : c = 0 := by
      by_cases hc : c = 1
      · subst hc; omega
      · omega
    subst hc
    refine ⟨t, ?_, h5, h6, by omega, by omega⟩
    refine Ev.step (f := fun k => (capstanref01_trim.f k acc).bind fun t => some t) (fun k => ?_) (Ev.bind he (Ev.now _))
    simp only [capstanref01_less.l0]; rw [if_neg (by omega)]
  | succ d ih =>
    intro acc c h0 h1 hd hm hv
    have hga := ha.get acc.length
    have hgb := hb.get acc.length
    have h2 := val_take_succ a acc.length
    have h3 := val_take_succ b acc.length
    have e : pw (acc.length + 1) = 65536 * pw acc.length := pw_succ _
    generalize hs : a.getD acc.length 0 - b.getD acc.length 0 - c = s at *
    have e3 : pw acc.length * s = pw acc.length * a.getD acc.length 0 - pw acc.length * b.getD acc.length 0 - pw acc.length * c := by rw [← hs, Int.mul_sub, Int.mul_sub]
    by_cases hneg : s < 0
    · obtain ⟨l, he, h5, h6, h7, h8⟩ := ih (acc ++ [s + 65536]) 1 (by omega) (by omega) (hd.snoc (by omega) (by omega)) (by simp; omega)
        (by
          rw [val_snoc, List.length_append]
          simp only [List.length_cons, List.length_nil, Nat.zero_add]
          rw [h2, h3, e, Int.mul_add]
          omega)
      refine ⟨l, Ev.step (fun k => ?_) he, h5, h6, h7, h8⟩
      simp only [capstanref01_less.l0]
      rw [if_pos (by omega), if_pos (by omega), at_is]
      simp only [Option.bind_some]
      rw [rd_nat, w64 (a := a.getD acc.length 0 - b.getD acc.length 0) (by omega) (by omega), hs, w64 (a := s) (by omega) (by omega), if_pos hneg, if_pos (by omega), w64 (a := s + 65536) (by omega) (by omega), w64 (by omega) (by omega)]
      simp
    · obtain ⟨l, he, h5, h6, h7, h8⟩ := ih (acc ++ [s]) 0 (by omega) (by omega) (hd.snoc (by omega) (by omega)) (by simp; omega)
        (by
          rw [val_snoc, List.length_append]
          simp only [List.length_cons, List.length_nil, Nat.zero_add]
          rw [h2, h3]
          omega)
      refine ⟨l, Ev.step (fun k => ?_) he, h5, h6, h7, h8⟩
      simp only [capstanref01_less.l0]
      rw [if_pos (by omega), if_pos (by omega), at_is]
      simp only [Option.bind_some]
      rw [rd_nat, w64 (a := a.getD acc.length 0 - b.getD acc.length 0) (by omega) (by omega), hs, w64 (a := s) (by omega) (by omega), if_neg hneg, if_pos (by omega), w64 (by omega) (by omega)]
      simp
theorem nm_len {a b : List Int} (ha : Dg a) (hb : Dg b) (nb : Nm b) (h : val b ≤ val a) : b.length ≤ a.length := by
  by_cases hl : b.length ≤ a.length
  · exact hl
  · obtain ⟨n, hn⟩ : ∃ n, b.length = n + 1 := ⟨b.length - 1, by omega⟩
    have h1 := val_nm hb nb n hn
    have h2 : pw a.length ≤ pw n := pw_mono (by omega)
    have := val_range ha
    omega
theorem less_is (a b : List Int) (ha : Dg a) (hb : Dg b) (nb : Nm b) (hla : a.length ≤ 1000000) (h : val b ≤ val a) :
    ∃ l, Ev (fun k => capstanref01_less.f k a b) l ∧ Dg l ∧ Nm l ∧ val l = val a - val b ∧ l.length ≤ a.length :=
  less_loop a b ha hb hla h (nm_len ha hb nb h) a.length [] 0 (by omega) (by omega) Dg.nil (by simp) (by simp [val])
/-! ### Plus, Minus, Fit, Held -/
theorem plus_is (x y : Bool) (a b : List Int) (u v : Int) (ha : BigIs x a u) (hb : BigIs y b v) (hla : a.length ≤ 100000) (hlb : b.length ≤ 100000) :
    ∃ z l, Ev (fun k => capstanref01_Plus.f k x a y b) (z, l) ∧ BigIs z l (u + v) ∧ l.length ≤ (if a.length < b.length then b.length else a.length) + 1 := by
  obtain ⟨da, na, hu⟩ := ha
  obtain ⟨db, nb, hv⟩ := hb
  by_cases hxy : x = y
  · subst hxy
    obtain ⟨l, he, h5, h6, h7, h8⟩ := sum_is a b da db (by omega) (by omega)
    refine ⟨x, l, Ev.congr (fun k => ?_) (Ev.bind (f := fun _ t => some (x, t)) he (Ev.now (x, l))), ⟨h5, h6, ?_⟩, h8⟩
    · unfold capstanref01_Plus.f; rw [if_pos (by simp)]
    · rw [h7, hu, hv]; split <;> omega
  · have hne : ¬ (x == y) = true := by simpa using hxy
    obtain ⟨r, hr, ho⟩ := order_is a b da db na nb (by omega) (by omega)
    by_cases h0 : r ≥ 0
    · obtain ⟨l, he, h5, h6, h7, h8⟩ := less_is a b da db nb (by omega) (ho.1 h0)
      refine ⟨x, l, Ev.congr (fun k => ?_) (Ev.bind (f := fun k (r : Int) => if r ≥ 0 then ((capstanref01_less.f k a b).bind fun t => some (x, t)) else ((capstanref01_less.f k b a).bind fun t => some (y, t))) hr (Ev.congr (fun k => if_pos h0) (Ev.bind (f := fun _ t => some (x, t)) he (Ev.now (x, l))))), ⟨h5, h6, ?_⟩, by split <;> omega⟩
      · unfold capstanref01_Plus.f; rw [if_neg hne]
      · rw [h7, hu, hv]; cases x <;> cases y <;> simp at hxy ⊢ <;> omega
    · have hlt : val a ≤ val b := by
        rcases Int.le_total (val b) (val a) with h | h
        · exact absurd (ho.2 h) h0
        · exact h
      obtain ⟨l, he, h5, h6, h7, h8⟩ := less_is b a db da na (by omega) hlt
      refine ⟨y, l, Ev.congr (fun k => ?_) (Ev.bind (f := fun k (r : Int) => if r ≥ 0 then ((capstanref01_less.f k a b).bind fun t => some (x, t)) else ((capstanref01_less.f k b a).bind fun t => some (y, t))) hr (Ev.congr (fun k => if_neg h0) (Ev.bind (f := fun _ t => some (y, t)) he (Ev.now (y, l))))), ⟨h5, h6, ?_⟩, by split <;> omega⟩
      · unfold capstanref01_Plus.f; rw [if_neg hne]
      · rw [h7, hu, hv]; cases x <;> cases y <;> simp at hxy ⊢ <;> omega
theorem minus_is (x : Bool) (a : List Int) (u : Int) (ha : BigIs x a u) : capstanref01_Minus.f x a = some (!x, a) ∧ BigIs (!x) a (-u) := by
  refine ⟨rfl, ha.1, ha.2.1, ?_⟩
  rw [ha.2.2]; cases x <;> simp
theorem fit_loop (x : Bool) (l : List Int) (hd : Dg l) (hl : l.length ≤ 4) : ∀ (n : Nat) (u : Int), n ≤ l.length → u * pw n + val (l.take n) = val l →
    Ev (fun k => capstanref01_Fit.l0 k u ((n : Int) - 1) x l) (if x = true then (if 9223372036854775808 < val l then (0, false) else (wrap64 (wrap64 (-(wrap64 (IntKind.u64.wrap (val l - 1)))) - 1), true)) else (wrap64 (Go.bits .and .u64 (val l) 9223372036854775807), decide (val l ≤ 9223372036854775807)))
  | 0, u, _, hu => by
    have hu' : u = val l := by simp [val, pw] at hu; exact hu
    subst hu'
    refine Ev.step (f := fun _ => some _) (fun k => ?_) (Ev.now _)
    simp only [capstanref01_Fit.l0]
    rw [if_neg (by omega)]
    cases x
    · simp
    · simp only [if_true]
      split <;> rfl
  | n + 1, u, h, hu => by
    have h1 := val_take_succ l n
    have h2 := hd.get n
    have hr := val_range hd
    have ht := val_range (hd.take n)
    have hp : pw (l.length) ≤ pw 4 := pw_mono hl
    have hp4 : pw 4 = 18446744073709551616 := by decide
    have hpn := pw_pos n
    rw [h1] at hu
    have e : u * pw (n + 1) = (u * 65536) * pw n := by rw [pw_succ, ← Int.mul_assoc]
    have e2 : (u * 65536 + l.getD n 0) * pw n = u * pw (n + 1) + pw n * l.getD n 0 := by rw [Int.add_mul, e, Int.mul_comm (l.getD n 0)]
    have hu0 : 0 ≤ u := by
      by_cases hu0 : 0 ≤ u
      · exact hu0
      · exfalso
        have h7 := val_range (hd.take (n + 1))
        rw [List.length_take, Nat.min_eq_left (by omega)] at h7
        have h9 : u * pw (n + 1) ≤ (-1) * pw (n + 1) := Int.mul_le_mul_of_nonneg_right (by omega) (by have := pw_pos (n + 1); omega)
        rw [h1] at h7
        omega
    have hlt : u * 65536 + l.getD n 0 < 18446744073709551616 := by
      have h5 : (u * 65536 + l.getD n 0) * 1 ≤ (u * 65536 + l.getD n 0) * pw n := Int.mul_le_mul_of_nonneg_left (by omega) (by omega)
      omega
    refine Ev.step (fun k => ?_) (fit_loop x l hd hl n (u * 65536 + l.getD n 0) (by omega) (by omega))
    simp only [capstanref01_Fit.l0]
    rw [show ((n + 1 : Nat) : Int) - 1 = (n : Int) from by omega, if_pos (by omega), if_pos (by omega), if_pos (by omega), rd_nat, u64_in (a := u * 65536) (by omega) (by omega), u64_in (a := l.getD n 0) (by omega) (by omega), u64_in (by omega) hlt, w64 (by omega) (by omega)]
theorem and_most (v : Int) (h0 : 0 ≤ v) (h1 : v < 18446744073709551616) : Go.bits .and .u64 v 9223372036854775807 = v % 9223372036854775808 := by
  have h := bits_and_u64_nat v.toNat 9223372036854775807 (by omega) (by omega)
  rw [show (9223372036854775807 : Nat) = 2 ^ 63 - 1 from by decide, Nat.and_two_pow_sub_one_eq_mod, Int.toNat_of_nonneg h0] at h
  rw [show (2 ^ 63 - 1 : Nat) = 9223372036854775807 from by decide] at h
  refine h.trans ?_
  rw [show (2 ^ 63 : Nat) = 9223372036854775808 from by decide]
  omega
theorem held_is (x : Bool) (l : List Int) (v : Int) (h : BigIs x l v) (hl : l.length ≤ 1000000) : Ev (fun k => capstanref01_Held.f k x l) (hold v) := by
  obtain ⟨hd, hn, hv⟩ := h
  have hr := val_range hd
  have hp4 : pw 4 = 18446744073709551616 := by decide
  by_cases h0 : l = []
  · subst h0
    have : v = 0 := by rw [hv]; simp [val]
    subst this
    refine Ev.congr (f := fun _ => some (hold 0)) (fun k => ?_) (Ev.now _)
    unfold capstanref01_Held.f capstanref01_Fit.f
    simp [hold]
  · have hlen : 0 < l.length := List.length_pos_iff.2 h0
    obtain ⟨n, hn'⟩ : ∃ n, l.length = n + 1 := ⟨l.length - 1, by omega⟩
    have hlow := val_nm hd hn n hn'
    have hpn := pw_pos n
    by_cases h4 : l.length ≤ 4
    · have hp : pw (l.length) ≤ pw 4 := pw_mono h4
      have hf := fit_loop x l hd h4 l.length 0 (Nat.le_refl _) (by rw [List.take_of_length_le (Nat.le_refl _)]; omega)
      have hf2 : Ev (fun k => capstanref01_Fit.f k x l) _ := Ev.congr (fun k => by unfold capstanref01_Fit.f; rw [if_neg (by omega), if_neg (by omega), w64 (by omega) (by omega)]) hf
      refine Ev.congr (fun k => ?_) (Ev.bind hf2 (f := fun _ r => if r.2 = true then some r.1 else if x = true then some (-9223372036854775808) else some 9223372036854775807) (Ev.congr (f := fun _ => some (hold v)) (fun k => ?_) (Ev.now _)))
      · rfl
      · rw [hv]
        cases x
        · simp only [Bool.false_eq_true, if_false]
          by_cases hm : val l ≤ 9223372036854775807
          · rw [if_pos (by simpa using hm), and_most _ (by omega) (by omega), w64 (by omega) (by omega)]
            unfold hold; rw [if_neg (by omega), if_neg (by omega)]; congr 1; omega
          · rw [if_neg (by simpa using hm)]
            unfold hold; rw [if_neg (by omega), if_pos (by omega)]
        · simp only [if_true]
          by_cases hm : 9223372036854775808 < val l
          · rw [if_pos hm]; simp
            unfold hold; rw [if_pos (by omega)]
          · rw [if_neg hm]; simp
            rw [u64_in (by omega) (by omega), w64 (a := val l - 1) (by omega) (by omega), w64 (a := -(val l - 1)) (by omega) (by omega), w64 (by omega) (by omega)]
            unfold hold; rw [if_neg (by omega), if_neg (by omega)]; omega
    · have hp : pw 4 ≤ pw n := pw_mono (by omega)
      refine Ev.congr (f := fun _ => some (hold v)) (fun k => ?_) (Ev.now _)
      unfold capstanref01_Held.f capstanref01_Fit.f
      rw [if_neg (by omega), if_pos (by omega)]
      simp only [Option.bind_some, Bool.false_eq_true, if_false]
      rw [hv]
      cases x
      · simp; unfold hold; rw [if_neg (by omega), if_pos (by omega)]
      · simp; unfold hold; rw [if_pos (by omega)]
end Go.Proofs.YtdplfphgomckfaaDoor.Bn
