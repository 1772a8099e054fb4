/- num.part, ReadSpan's closure, ReadSpan. -/
import Derived.Test.YtekcdokgpjmbgaaDoorNe
import Derived.Test.YtekcdokgpjmbgaaDoorNa
import Derived.Deep.DeepCutAuto
import Derived.Deep.CutBlock
namespace Go.Proofs.YtekcdokgpjmbgaaDoor.Nr
set_option linter.unusedVariables false
set_option linter.unusedSimpArgs false
open Go.RowKit Go.Proofs.YtekcdokgpjmbgaaDoorW.PrintWords Go.Proofs.YtekcdokgpjmbgaaDoor.OA Go.Proofs.YtekcdokgpjmbgaaDoor.Nd Go.Proofs.YtekcdokgpjmbgaaDoor.Ne
def idx (s : ByteArray) (c : Int) : Int := Lib.indexByte s.data.toList c.toNat.toUInt8
def partOk (s : ByteArray) (c : Int) : Bool := decide (1 ≤ idx s c ∧ idx s c ≤ 6) && (digB (s.extract 0 (idx s c).toNat) && !decide (bt s 0 = 48))
def partV (s : ByteArray) (c wo : Int) : Int := wrap64 ((val 0 (s.extract 0 (idx s c).toNat).data.toList : Int) * wo)
def partR (s : ByteArray) (c : Int) : ByteArray := s.extract ((idx s c).toNat + 1) s.size
def partF (s : ByteArray) (c wo : Int) : Int × Bool × ByteArray := if partOk s c = true then (partV s c wo, true, partR s c) else (0, false, s)
theorem idx_lt (s : ByteArray) (c : Int) (h : 0 ≤ idx s c) : (idx s c).toNat < s.size := by
  obtain ⟨k, hk⟩ : ∃ k : Nat, idx s c = k := ⟨(idx s c).toNat, by omega⟩
  have h1 := (Lib.indexByte_some (show Lib.indexByte s.data.toList c.toNat.toUInt8 = (k : Int) from hk)).1
  have h2 := (List.getElem?_eq_some_iff.1 h1).1
  rw [Array.length_toList, ByteArray.size_data] at h2
  omega
def PPost (W : World) (b : Nat) (s : ByteArray) (c wo : Int) (e : Ending) (W' : World) : Prop :=
  e = .returned (.tuple #[.int .i64 (partF s c wo).1, .bool (partF s c wo).2.1]) ∧ W'.heap[b]? = some (.cells #[.string (partF s c wo).2.2] 9 (0, 0)) ∧ W.grownBy W' (some b)
set_option maxHeartbeats 4000000 in
set_option maxRecDepth 100000 in
theorem part_any (W : World) (b : Nat) (s : ByteArray) (c wo : Int) (hs : s.size ≤ 4611686018427387904) (hb : W.heap[b]? = some (.cells #[.string s] 9 (0, 0))) :
    Calls Tryd.prog 19 #[.pointer (some ⟨b, 0, none⟩), .int .u8 c, .int .i64 wo] W (PPost W b s c wo) := by
  have hge : -1 ≤ idx s c := Lib.indexByte_ge _ _
  have hlt := idx_lt s c
  have HI := Lib.hid (fun W => Na.ib.calls s c (idx s c) W rfl)
  obtain ⟨i, hi⟩ : ∃ i, idx s c = i := ⟨_, rfl⟩
  have hc0 := Blk.blk_cell hb 0
  have hf0 := Blk.blk_frozen hb 0
  simp at hc0
  have HB := Lib.hid hb; clear hb
  have no : partOk s c = false → ∀ (e : Ending) (n : Nat), e = .returned (.tuple #[.int .i64 0, .bool false]) → PPost W b s c wo e (W.drewN n) := by
    intro h e n he
    unfold PPost partF
    rw [if_neg (by rw [h]; decide)]
    exact ⟨he, Blk2.blk_drewN HB.out n, Blk.gb_drewN (Blk.gb_refl _ _) n⟩
  by_cases h1 : i < 1
  · have hp : partOk s c = false := by unfold partOk; rw [hi, decide_eq_false (by omega)]; rfl
    have NO := Lib.hid (no hp); clear no hp
    rw [hi] at HI
    have d0 : decide (i < 1) = true := decide_eq_true h1
    clear hlt hge
    go_enter Tryd.func19, Tryd.ntmps19
    go_wp2_with (go_at_call 20; refine (HI.out _).mono ?_; rintro e W1 ⟨rfl, n, rfl⟩)
    go_ret2
    exact NO.out _ n rfl
  · have d0 : decide (i < 1) = false := decide_eq_false h1
    by_cases h2 : 6 < i
    · have hp : partOk s c = false := by unfold partOk; rw [hi, decide_eq_false (by omega)]; rfl
      have NO := Lib.hid (no hp); clear no hp
      rw [hi] at HI
      have d1 : decide (6 < i) = true := decide_eq_true h2
      clear hlt hge
      go_enter Tryd.func19, Tryd.ntmps19
      go_wp2_with (go_at_call 20; refine (HI.out _).mono ?_; rintro e W1 ⟨rfl, n, rfl⟩)
      go_ret2
      exact NO.out _ n rfl
    · have d1 : decide (6 < i) = false := decide_eq_false h2
      have hlt2 := hlt (by omega)
      rw [hi] at hlt2
      obtain ⟨k, rfl⟩ : ∃ k : Nat, i = k := ⟨i.toNat, by omega⟩
      rw [Int.toNat_natCast] at hlt2
      have l0 : (0 : Int) ≤ (k : Int) := by omega
      have l1 : (k : Int) ≤ (s.size : Int) := by omega
      have hsz : (s.extract 0 k).size = k := by rw [ByteArray.size_extract]; omega
      have HD := Lib.hid (fun W => num_digits.calls (k + 1) (s.extract 0 k) (digB (s.extract 0 k)) W (digits_f _ (by omega) _ (by omega)))
      rw [hi] at HI
      clear hlt hge
      have hok : partOk s c = (digB (s.extract 0 k) && !decide (bt s 0 = 48)) := by unfold partOk; rw [hi, decide_eq_true (by omega), Bool.true_and, Int.toNat_natCast]
      obtain ⟨B, hB⟩ : ∃ B, digB (s.extract 0 k) = B := ⟨_, rfl⟩
      rw [hB] at HD hok
      cases B with
      | false =>
        have NO := Lib.hid (no (by rw [hok]; rfl)); clear no hok hB
        go_enter Tryd.func19, Tryd.ntmps19
        go_wp2_with (first | (go_at_call 20; refine (HI.out _).mono ?_; rintro e W1 ⟨rfl, n, rfl⟩) | (go_at_call 25; refine (HD.out _).mono ?_; rintro e W2 ⟨rfl, n2, rfl⟩))
        go_ret2
        exact NO.out _ _ rfl
      | true =>
        have lz : 0 < s.size := by omega
        have hx0 : ((s[0]'lz).toNat : Int) = bt s 0 := bt_at s 0 lz
        by_cases h3 : bt s 0 = 48
        · have d2 : (((s[0]'lz).toNat : Int) == 48) = true := by rw [hx0]; simpa using h3
          have NO := Lib.hid (no (by rw [hok, decide_eq_true h3]; rfl)); clear no hok hB hx0
          go_enter Tryd.func19, Tryd.ntmps19
          go_wp2_with (first | (go_at_call 20; refine (HI.out _).mono ?_; rintro e W1 ⟨rfl, n, rfl⟩) | (go_at_call 25; refine (HD.out _).mono ?_; rintro e W2 ⟨rfl, n2, rfl⟩))
          go_ret2
          exact NO.out _ _ rfl
        · have d2 : (((s[0]'lz).toNat : Int) == 48) = false := by rw [hx0]; simpa using h3
          have hyes : partOk s c = true := by rw [hok, decide_eq_false h3]; rfl
          clear no hok
          have hdd : (s.extract 0 k).data.toList.all isD = true := by
            unfold digB at hB; rw [Bool.and_eq_true] at hB; exact hB.1
          have hne : (s.extract 0 k).data.toList ≠ [] := by
            intro e
            have := congrArg List.length e
            rw [Array.length_toList, ByteArray.size_data, hsz] at this
            simp at this; omega
          have hpi := pib _ hdd hne (by rw [Array.length_toList, ByteArray.size_data, hsz]; omega)
          have HP := Lib.hid (fun W => Na.pi.calls (s.extract 0 k) 10 64 (val 0 (s.extract 0 k).data.toList : Int) none W (by unfold Na.pi.f; rw [if_pos ⟨by omega, rfl, rfl⟩, hpi]))
          have hF : partF s c wo = (wrap64 ((val 0 (s.extract 0 k).data.toList : Int) * wo), true, s.extract (k + 1) s.size) := by
            unfold partF partV partR
            rw [if_pos hyes, hi, Int.toNat_natCast]
          obtain ⟨V, hV⟩ : ∃ V : Nat, val 0 (s.extract 0 k).data.toList = V := ⟨_, rfl⟩
          rw [hV] at HP hF
          have HF := Lib.hid hF
          clear hyes hdd hne hpi hF hV hB hsz hx0
          have hw : wrap64 ((k : Int) + 1) = ((k + 1 : Nat) : Int) := by rw [w64 (by omega) (by omega)]; omega
          have l2 : ((k + 1 : Nat) : Int) ≤ (s.size : Int) := by omega
          go_enter Tryd.func19, Tryd.ntmps19
          go_wp2_with (first | (go_at_call 20; refine (HI.out _).mono ?_; rintro e W1 ⟨rfl, n, rfl⟩) | (go_at_call 25; refine (HD.out _).mono ?_; rintro e W2 ⟨rfl, n2, rfl⟩) | (go_at_call 22; refine (HP.out _).mono ?_; rintro e W3 ⟨rfl, hb3⟩; have hblk := Blk2.blk_call (Blk2.blk_drewN HB.out (n + n2)) hb3; have q0 := Blk.blk_cell hblk 0; have g0 := Blk.blk_frozen hblk 0; simp at q0))
          go_ret2
          unfold PPost
          rw [HF.out]
          exact ⟨rfl, Blk.blk_set hblk 0 _, Blk.gb_set (Blk.gb_below (Blk.gb_drewN (Blk.gb_refl _ _) (n + n2)) hb3) b 0 (.inl rfl) _⟩
/-- Where ReadSpan stands: what is left of the text, the seconds so far. -/
def St (w : World) (s : ByteArray) (n : Int) (W : World) : Prop :=
  Below w.heap.size w W ∧ W.heap[w.heap.size]? = some (.cells #[.string s] 9 (0, 0)) ∧ W.heap[w.heap.size + 1]? = some (.cells #[.int .i64 n] 2 (0, 0))
theorem St.drewN {w : World} {s : ByteArray} {n : Int} {W : World} (h : St w s n W) (k : Nat) : St w s n (W.drewN k) := ⟨Blk.below_drewN h.1 k, Blk2.blk_drewN h.2.1 k, Blk2.blk_drewN h.2.2 k⟩
def addF (t : ByteArray × Int) (c wo : Int) : ByteArray × Int := ((partF t.1 c wo).2.2, wrap64 (t.2 + (partF t.1 c wo).1))
set_option maxHeartbeats 4000000 in
set_option maxRecDepth 100000 in
theorem add_any (w W : World) (s : ByteArray) (n c wo : Int) (hs : s.size ≤ 4611686018427387904) (h : St w s n W) :
    Calls Tryd.prog 18 #[.int .u8 c, .int .i64 wo, .pointer (some ⟨w.heap.size, 0, none⟩), .pointer (some ⟨w.heap.size + 1, 0, none⟩)] W fun e W' => e = .returned (.tuple #[]) ∧ St w (addF (s, n) c wo).1 (addF (s, n) c wo).2 W' := by
  have HP := Lib.hid (part_any W w.heap.size s c wo hs h.2.1)
  have HH := Lib.hid h
  obtain ⟨P, hP⟩ : ∃ P, partF s c wo = P := ⟨_, rfl⟩
  obtain ⟨v, ok, s'⟩ := P
  clear h
  unfold addF
  simp only [hP]
  unfold PPost at HP
  rw [hP] at HP
  clear hP
  go_enter Tryd.func18, Tryd.ntmps18
  go_wp2_with (go_at_call 19; refine HP.out.mono ?_; rintro e W1 ⟨rfl, hb1, hg1⟩; have HB1 := Lib.hid hb1; have HG1 := Lib.hid hg1; have hn := Blk.blk_grown HH.out.2.2 hg1 (by simp); have HN := Lib.hid hn; have q0 := Blk.blk_cell hn 0; have g0 := Blk.blk_frozen hn 0; simp at q0; clear hb1 hg1 hn)
  go_end0
  exact ⟨rfl, (Blk.below_of_gb HH.out.1 HG1.out (Nat.le_refl _) HH.out.1.size).setCell (by show w.heap.size ≤ w.heap.size + 1; omega) _, Blk.blk_far HB1.out (by simp) _, Blk.blk_set HN.out 0 _⟩
/-- The seconds of a text, as num.ReadSpan reads them. -/
def spanA (s : ByteArray) : ByteArray × Int :=
  if 0 ≤ idx s 100 then addF (addF (addF (addF (s, 0) 100 86400) 104 3600) 109 60) 115 1
  else if 0 ≤ idx s 104 then addF (addF (addF (s, 0) 104 3600) 109 60) 115 1
  else if 0 ≤ idx s 109 then addF (addF (s, 0) 109 60) 115 1
  else addF (s, 0) 115 1
def spanF (s : ByteArray) : Int × Int :=
  if s.toList = [] then (0, 13) else if ¬ (spanA s).1.toList = [] ∨ (spanA s).2 < 1 ∨ 604800 < (spanA s).2 then (0, 13) else ((spanA s).2, 0)
theorem part_size (s : ByteArray) (c wo : Int) : (partF s c wo).2.2.size ≤ s.size := by
  unfold partF
  split
  · unfold partR; simp only [ByteArray.size_extract]; omega
  · exact Nat.le_refl _
theorem add_size (t : ByteArray × Int) (c wo : Int) : (addF t c wo).1.size ≤ t.1.size := part_size _ _ _
/-- Behind the adding: the last test. -/
def FinP (w : World) (t : ByteArray × Int) (e : Ending) (W' : World) : Prop :=
  (if ¬ t.1.toList = [] ∨ t.2 < 1 ∨ 604800 < t.2 then e = .returned (.tuple #[.int .i64 0, .int .i64 13]) else e = .returned (.tuple #[.int .i64 t.2, .int .i64 0])) ∧ Below w.heap.size w W'
theorem FinP.bad {w W' : World} {t : ByteArray × Int} {e : Ending} (h : ¬ t.1.toList = [] ∨ t.2 < 1 ∨ 604800 < t.2) (he : e = .returned (.tuple #[.int .i64 0, .int .i64 13])) (hb : Below w.heap.size w W') : FinP w t e W' := ⟨by rw [if_pos h]; exact he, hb⟩
theorem FinP.ok {w W' : World} {t : ByteArray × Int} {e : Ending} (h : ¬ (¬ t.1.toList = [] ∨ t.2 < 1 ∨ 604800 < t.2)) (he : e = .returned (.tuple #[.int .i64 t.2, .int .i64 0])) (hb : Below w.heap.size w W') : FinP w t e W' := ⟨by rw [if_neg h]; exact he, hb⟩
end Go.Proofs.YtekcdokgpjmbgaaDoor.Nr
