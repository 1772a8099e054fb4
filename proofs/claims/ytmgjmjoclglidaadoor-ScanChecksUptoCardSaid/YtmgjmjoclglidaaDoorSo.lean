/- ScanChecks and ScanCovers, as numbers and lists: both answer true. -/
import Derived.Test.YtmgjmjoclglidaaDoorSh
import Derived.Test.YtmgjmjoclglidaaDoorSqL
import Derived.Test.YtmgjmjoclglidaaDoorSj
import Derived.Test.YtmgjmjoclglidaaDoorArgScanChecks
import Derived.Test.YtmgjmjoclglidaaDoorArgScanCovers
import Derived.Test.YtmgjmjoclglidaaDoorOLx1
import Derived.Test.YtmgjmjoclglidaaDoorOLx1
import Derived.Test.YtmgjmjoclglidaaDoorOLx1
import Derived.Test.YtmgjmjoclglidaaDoorOLx1
import Derived.Test.YtmgjmjoclglidaaDoorOLx1

namespace Go.Proofs.YtmgjmjoclglidaaDoor.So
set_option linter.unusedVariables false
set_option linter.unusedSimpArgs false
open Go.RowKit Go.Proofs.YtmgjmjoclglidaaDoorW.PrintWords Go.Proofs.YtmgjmjoclglidaaDoor.Laid Go.Proofs.YtmgjmjoclglidaaDoor.Sa Go.Proofs.YtmgjmjoclglidaaDoor.Sb Go.Proofs.YtmgjmjoclglidaaDoor.Sw Go.Proofs.YtmgjmjoclglidaaDoor.Sc Go.Proofs.YtmgjmjoclglidaaDoor.SqL Go.Proofs.YtmgjmjoclglidaaDoor.OL

theorem let_f (r : Int) : capstanref09_LetIn.f r = some (lets r) := by
  unfold capstanref09_LetIn.f lets
  repeat' split
  all_goals (apply congrArg some; rw [Bool.eq_iff_iff]; simp; omega)
theorem lets_bad : lets 65533 = true := by decide
def pieceOf (q : Int × Int) : S36 := ⟨q.1, q.2⟩
theorem pieces_tells (s : ByteArray) (hs : s.size ≤ 8796093022207) : ∀ (n pos : Nat) (acc : List S36), s.size ≤ pos + n → acc.length ≤ pos →
    capstanref09_Pieces.l0 (n + 9) s acc pos = some (match (pcs s n pos).2 with
      | none => (acc ++ (pcs s n pos).1.map pieceOf, 0, 0)
      | some q => ([], q.1, q.2))
  | 0, pos, acc, h, h' => by rw [capstanref09_Pieces.l0, if_neg (by omega)]; simp [pcs]
  | n + 1, pos, acc, h, h' => by
    rw [show n + 1 + 9 = (n + 3 + 6) + 1 from by omega, capstanref09_Pieces.l0]
    by_cases hp : pos < s.size
    · rw [if_pos (by omega), seq_f (n + 3) s pos hp (by omega)]
      simp only [Option.bind_some]
      have hwd := Lib.width_pos s pos
      have hK4 : (Utf8.decode s pos).2 ≤ s.size - pos := by
        have h1 := Lib.decodeGo_le_size (s.extract pos s.size)
        rw [decodeGo_tail s pos hp, Lib.tail_size] at h1; omega
      conv => rhs; unfold pcs
      rw [← brk_res]
      by_cases hb : brk s pos (Utf8.decode s pos).1 = true
      · simp [hb, hp]
      · rw [if_neg hb, if_neg hb, if_pos hp, if_neg (by simp; omega), let_f]
        simp only [Option.bind_some]
        by_cases hl : lets (Utf8.decode s pos).1 = true
        · rw [if_pos hl, if_pos (by omega), if_neg (by simp [hl]), w64 (by omega) (by omega)]
          have := pieces_tells s hs n (pos + (Utf8.decode s pos).2) (acc ++ [⟨(Utf8.decode s pos).1, pos⟩]) (by omega) (by simp; omega)
          rw [show n + 3 + 6 = n + 9 from by omega]
          rw [show ((pos : Int) + ((Utf8.decode s pos).2 : Int)) = ((pos + (Utf8.decode s pos).2 : Nat) : Int) from by simp, this]
          cases (pcs s n (pos + (Utf8.decode s pos).2)).2 <;> simp [pieceOf]
        · rw [if_neg hl, if_pos (by simpa using hl)]
    · rw [if_neg (by omega)]
      rw [pcs_end s _ _ hp]; simp
theorem rd_at (l r : List S36) (x : S36) (i : Int) (h : i = l.length) : rd_T36 (l ++ x :: r) i = x := by
  subst h; simp [rd_T36]
theorem pcs_rune (s : ByteArray) : ∀ (f pos : Nat), ∀ q ∈ (pcs s f pos).1, 0 ≤ q.1 ∧ q.1 ≤ 1114111
  | 0, pos, q, h => by simp [pcs] at h
  | f + 1, pos, q, h => by
    unfold pcs at h
    split at h
    · split at h
      · simp at h
      · split at h
        · simp at h
        · rcases List.mem_cons.1 h with rfl | h
          · have := Lib.rune_le s pos; simp; omega
          · exact pcs_rune s f _ q h
    · simp at h
theorem checks_loop (l : List (Int × Int)) (hl : ∀ q ∈ l, 0 ≤ q.1 ∧ q.1 ≤ 1114111) (hn : l.length ≤ 4000000000) : ∀ (d i : Nat), i + d = l.length → capstanlaw09_ScanChecks.l0 (d + 1) (l.map pieceOf) (l.map (·.1)) (i : Int) = some true
  | 0, i, h => by
    rw [capstanlaw09_ScanChecks.l0, if_neg (by simp; omega)]
  | d + 1, i, h => by
    have hi : i < l.length := by omega
    have hq := hl l[i] (List.getElem_mem hi)
    have e1 : rd (l.map (·.1)) (i : Int) = l[i].1 := by simp [rd, List.getD, hi]
    have e2 : (rd_T36 (l.map pieceOf) (i : Int)).f0 = l[i].1 := by simp [rd_T36, List.getD, hi, pieceOf]
    rw [capstanlaw09_ScanChecks.l0, if_pos (by simp; omega), if_pos (by omega), if_pos (by simp; omega), e1, e2, w64 (by omega) (by omega), if_pos rfl, w64 (by omega) (by omega)]
    exact checks_loop l hl hn d (i + 1) (by omega)
theorem checks_true (s : ByteArray) (hs : s.size ≤ 1048576) : ∃ k, capstanlaw09_ScanChecks.f k s = some true := by
  refine ⟨s.size + 20, ?_⟩
  have hp : capstanref09_Pieces.f (s.size + 20) s = some (match (pcs s s.size 0).2 with
      | none => ((pcs s s.size 0).1.map pieceOf, 0, 0)
      | some q => ([], q.1, q.2)) := by
    have := pieces_tells s (by omega) s.size 0 [] (by omega) (by simp)
    exact at_rounds (fun k => capstanref09_Pieces.mono s k) (k := s.size + 9) (by omega) (by simpa [capstanref09_Pieces.f] using this)
  have hr := pcs_rune s s.size 0
  have hlen := pcs_len s s.size 0
  unfold capstanlaw09_ScanChecks.f Hs.awake.f Hs.Check.f Hs.Runes.f
  rw [hp, if_pos (by omega), if_pos (by omega)]
  unfold rns chk
  obtain ⟨l, o, hlo⟩ : ∃ l o, pcs s s.size 0 = (l, o) := ⟨_, _, rfl⟩
  rw [hlo] at hr hlen ⊢
  simp only at hr hlen
  cases o with
  | some q =>
    simp only [Option.bind_some, if_true, List.length_nil]
    rw [if_pos (by rfl)]
    rw [show s.size + 20 = (s.size + 18 + 1) + 1 from by omega, capstanlaw09_ScanChecks.j0, capstanlaw09_ScanChecks.l0]
    simp
  | none =>
    simp only [Option.bind_some, if_true, List.length_map, Int.zero_add]
    rw [show s.size + 20 = (s.size + 19) + 1 from by omega, capstanlaw09_ScanChecks.j0, if_neg (by simp)]
    have := checks_loop l hr (by omega) l.length 0 (by omega)
    exact at_rounds (fun k => (capstanlaw09_ScanChecks.mono_l k).2 _ _ _) (by omega) this
theorem walkChecks : ArgScanChecks.Walk := by
  intro s w hL hs
  obtain ⟨k, hk⟩ := checks_true s hs
  exact capstanlaw09_ScanChecks.calls k s true w hk hL

/-! ### ScanCovers -/
theorem decodeN_less (n n' b0 b1 b2 b3 c1 c2 c3 : Nat) (hn : n ≤ n') (h1 : 1 < n → c1 = b1) (h2 : 2 < n → c2 = b2) (h3 : 3 < n → c3 = b3) (hfit : (Lib.decodeN n' b0 c1 c2 c3).2 ≤ n) (hok : Lib.decodeN n' b0 c1 c2 c3 ≠ (65533, 1)) : Lib.decodeN n b0 b1 b2 b3 = Lib.decodeN n' b0 c1 c2 c3 := by
  unfold Lib.decodeN at hok hfit ⊢
  by_cases g0 : b0 < 128
  · rw [if_pos g0, if_pos g0]
  rw [if_neg g0] at hok hfit ⊢
  rw [if_neg g0]
  by_cases g1 : b0 / 32 = 6 ∧ (1 < n' ∧ c1 / 64 = 2)
  · rw [if_pos g1] at hok hfit ⊢
    by_cases q : b0 % 32 * 64 + c1 % 64 ≥ 128
    · rw [if_pos q] at hok hfit ⊢
      simp only at hfit
      have e1 := h1 (by omega)
      subst e1
      rw [if_pos ⟨g1.1, by omega, g1.2.2⟩, if_pos q]
    · rw [if_neg q] at hok; exact absurd rfl hok
  rw [if_neg g1] at hok hfit ⊢
  by_cases g2 : b0 / 16 = 14 ∧ (1 < n' ∧ c1 / 64 = 2) ∧ (2 < n' ∧ c2 / 64 = 2)
  · rw [if_pos g2] at hok hfit ⊢
    by_cases q : b0 % 16 * 4096 + c1 % 64 * 64 + c2 % 64 ≥ 2048 ∧ (b0 % 16 * 4096 + c1 % 64 * 64 + c2 % 64 < 55296 ∨ (57344 ≤ b0 % 16 * 4096 + c1 % 64 * 64 + c2 % 64 ∧ b0 % 16 * 4096 + c1 % 64 * 64 + c2 % 64 ≤ 1114111))
    · rw [if_pos q] at hok hfit ⊢
      simp only at hfit
      have e1 := h1 (by omega)
      have e2 := h2 (by omega)
      subst e1; subst e2
      rw [if_neg (by omega), if_pos ⟨g2.1, ⟨by omega, g2.2.1.2⟩, by omega, g2.2.2.2⟩, if_pos q]
    · rw [if_neg q] at hok; exact absurd rfl hok
  rw [if_neg g2] at hok hfit ⊢
  by_cases g3 : b0 / 8 = 30 ∧ (1 < n' ∧ c1 / 64 = 2) ∧ (2 < n' ∧ c2 / 64 = 2) ∧ (3 < n' ∧ c3 / 64 = 2)
  · rw [if_pos g3] at hok hfit ⊢
    by_cases q : b0 % 8 * 262144 + c1 % 64 * 4096 + c2 % 64 * 64 + c3 % 64 ≥ 65536 ∧ (b0 % 8 * 262144 + c1 % 64 * 4096 + c2 % 64 * 64 + c3 % 64 < 55296 ∨ (57344 ≤ b0 % 8 * 262144 + c1 % 64 * 4096 + c2 % 64 * 64 + c3 % 64 ∧ b0 % 8 * 262144 + c1 % 64 * 4096 + c2 % 64 * 64 + c3 % 64 ≤ 1114111))
    · rw [if_pos q] at hok hfit ⊢
      simp only at hfit
      have e1 := h1 (by omega)
      have e2 := h2 (by omega)
      have e3 := h3 (by omega)
      subst e1; subst e2; subst e3
      rw [if_neg (by omega), if_neg (by omega), if_pos ⟨g3.1, ⟨by omega, g3.2.1.2⟩, ⟨by omega, g3.2.2.1.2⟩, by omega, g3.2.2.2.2⟩, if_pos q]
    · rw [if_neg q] at hok; exact absurd rfl hok
  rw [if_neg g3] at hok
  exact absurd rfl hok
theorem cut_join (s : ByteArray) (E : Nat) (hE : E ≤ s.size) : s.extract 0 E ++ s.extract E s.size = s ∧ (s.extract 0 E).size = E := by
  refine ⟨ByteArray.ext ?_, by simp; omega⟩
  apply Array.ext'
  simp [ByteArray.data_append, ByteArray.data_extract, Array.toList_extract]
theorem dec_cut (s : ByteArray) (E pos : Nat) (hE : E ≤ s.size) (hp : pos + (Utf8.decode s pos).2 ≤ E) (hok : Utf8.decode s pos ≠ (65533, 1)) : Utf8.decode (s.extract 0 E) pos = Utf8.decode s pos := by
  obtain ⟨hj, hsz⟩ := cut_join s E hE
  have hw := Lib.width_pos s pos
  have hg : ∀ i, i < E → (s.extract 0 E).get! i = s.get! i := fun i hi => by
    have := Sj.get_left (s.extract 0 E) (s.extract E s.size) i (by rw [hsz]; exact hi)
    rw [hj] at this; exact this.symm
  rw [Lib.decode_at] at hok
  rw [Lib.decode_at s pos] at hp hw
  rw [Lib.decode_at, Lib.decode_at s pos, hg pos (by omega), hsz]
  refine decodeN_less _ _ _ _ _ _ _ _ _ (by omega) ?_ ?_ ?_ (by omega) hok
  · intro h; rw [hg _ (by omega)]
  · intro h; rw [hg _ (by omega)]
  · intro h; rw [hg _ (by omega)]
theorem run_cut (s : ByteArray) (c : Int) : ∀ (f pos : Nat) (t : List (Int × Int)) (E : Nat), pos ≤ s.size → s.size ≤ pos + f → pcs s f pos = (t, none) → Sr.runP s c f pos = (E : Int) →
    pos ≤ E ∧ E ≤ s.size ∧ pcs (s.extract 0 E) f pos = (t.takeWhile (fun q => Sk.isC q.1 c), none)
  | 0, pos, t, E, h0, h1, hp, hr => by
    have : pos = s.size := by omega
    subst this
    simp [Sr.runP] at hr
    simp [pcs] at hp
    subst hp
    exact ⟨by omega, by omega, by simp [pcs]⟩
  | f + 1, pos, t, E, h0, h1, hp, hr => by
    by_cases hps : pos < s.size
    · obtain ⟨t', rfl, hp'⟩ := pcs_step hps hp
      have hfit := Sj.dec_fits s pos hps
      have hw := Lib.width_pos s pos
      unfold Sr.runP at hr
      rw [if_pos hps] at hr
      have hb : brk s pos (Utf8.decode s pos).1 = false ∧ lets (Utf8.decode s pos).1 = true := by
        unfold pcs at hp
        rw [if_pos hps] at hp
        by_cases h : brk s pos (Utf8.decode s pos).1 = true
        · rw [if_pos h] at hp; simp at hp
        · rw [if_neg h] at hp
          by_cases h2 : lets (Utf8.decode s pos).1 = false
          · rw [if_pos h2] at hp; simp at hp
          · exact ⟨by simpa using h, by simpa using h2⟩
      by_cases hc : Sk.isC (Utf8.decode s pos).1 c = true
      · rw [if_pos hc] at hr
        obtain ⟨i1, i2, i3⟩ := run_cut s c f (pos + (Utf8.decode s pos).2) t' E (by omega) (by omega) hp' hr
        have hd := dec_cut s E pos i2 i1 (Sj.brk_of s pos hb.1)
        refine ⟨by omega, i2, ?_⟩
        unfold pcs
        have hsz := (cut_join s E i2).2
        have hbr : brk (s.extract 0 E) pos (Utf8.decode s pos).1 = brk s pos (Utf8.decode s pos).1 := by unfold brk; rw [hd]
        rw [if_pos (by omega), hd, hbr, hb.1, hb.2, i3]
        simp [hc]
      · rw [if_neg hc] at hr
        have hE : E = pos := by omega
        subst hE
        refine ⟨Nat.le_refl _, by omega, ?_⟩
        rw [pcs_end _ _ _ (by rw [(cut_join s E (by omega)).2]; omega)]
        simp [hc]
    · have hx : Sr.runP s c (f + 1) pos = (s.size : Int) := Sr.runP_end s c _ _ hps
      rw [hx] at hr
      rw [pcs_end s _ _ hps] at hp
      simp at hp
      subst hp
      refine ⟨by omega, by omega, ?_⟩
      rw [pcs_end _ _ _ (by rw [(cut_join s E (by omega)).2]; omega)]
      rfl
theorem is_cls (r c : Int) : scan_Is.f r c = some (Sk.isC r c) := Sk.is_f r c
theorem covers_loop (s : ByteArray) (c : Int) (l : List (Int × Int)) (hn : l.length ≤ 4000000000) (R : Bool) (J : Int → Prop) (hJ : ∀ k, capstanlaw09_ScanCovers.j1 (k + 1) s c ((l.takeWhile (fun q => Sk.isC q.1 c)).length : Int) = some R) :
    ∀ (d i : Nat), i + d = l.length → i ≤ (l.takeWhile (fun q => Sk.isC q.1 c)).length → capstanlaw09_ScanCovers.l0 (d + 2) s c (l.map (·.1)) (i : Int) = some R
  | 0, i, h, h2 => by
    have h3 : (l.takeWhile (fun q => Sk.isC q.1 c)).length ≤ l.length := (List.takeWhile_sublist _).length_le
    have : i = (l.takeWhile (fun q => Sk.isC q.1 c)).length := by omega
    rw [capstanlaw09_ScanCovers.l0, if_neg (by simp; omega), this]
    exact hJ 0
  | d + 1, i, h, h2 => by
    have hi : i < l.length := by omega
    have e1 : rd (l.map (·.1)) (i : Int) = l[i].1 := by simp [rd, List.getD, hi]
    rw [show d + 1 + 2 = (d + 2) + 1 from by omega, capstanlaw09_ScanCovers.l0, if_pos (by simp; omega), if_pos (by omega), e1, is_cls]
    simp only [Option.bind_some]
    by_cases hlt : i < (l.takeWhile (fun q => Sk.isC q.1 c)).length
    · have hc : Sk.isC l[i].1 c = true := by
        have h5 : Sk.isC (l.takeWhile (fun q => Sk.isC q.1 c))[i].1 c = true := List.all_eq_true.1 (List.all_takeWhile (p := fun q : Int × Int => Sk.isC q.1 c) (l := l)) _ (List.getElem_mem hlt)
        have h6 : (l.takeWhile (fun q => Sk.isC q.1 c))[i] = l[i] := List.IsPrefix.getElem (List.takeWhile_prefix _) hlt
        rw [h6] at h5; exact h5
      rw [if_pos hc, w64 (by omega) (by omega)]
      exact covers_loop s c l hn R J hJ d (i + 1) (by omega) (by omega)
    · have he : i = (l.takeWhile (fun q => Sk.isC q.1 c)).length := by omega
      have hc : ¬ Sk.isC l[i].1 c = true := by
        intro hc
        have h7 := List.takeWhile_append_dropWhile (p := fun q : Int × Int => Sk.isC q.1 c) (l := l)
        have h8 : (l.dropWhile (fun q => Sk.isC q.1 c)) ≠ [] := by
          intro e; rw [e, List.append_nil] at h7; rw [h7] at he; omega
        have h9 := List.head_dropWhile_not (fun q : Int × Int => Sk.isC q.1 c) h8
        have h10 : (l.dropWhile (fun q => Sk.isC q.1 c)).head h8 = l[i] := by
          have : l[i]? = some ((l.dropWhile (fun q => Sk.isC q.1 c)).head h8) := by
            conv => lhs; rw [← h7]
            rw [List.getElem?_append_right (by omega), he, Nat.sub_self, List.head_eq_getElem, List.getElem?_eq_getElem]
          rw [List.getElem?_eq_getElem hi] at this
          exact (Option.some.inj this).symm
        rw [h10] at h9
        exact absurd hc (by simpa using h9)
      rw [if_neg hc, he]
      exact hJ (d + 1)
theorem runP_nat (s : ByteArray) (c : Int) : ∀ (f pos : Nat), ∃ E : Nat, Sr.runP s c f pos = (E : Int)
  | 0, pos => ⟨s.size, rfl⟩
  | f + 1, pos => by
    unfold Sr.runP
    split
    · split
      · exact runP_nat s c f _
      · exact ⟨pos, rfl⟩
    · exact ⟨s.size, rfl⟩
theorem covers_true (s : ByteArray) (c : Int) (hs : s.size ≤ 1048576) : ∃ k, capstanlaw09_ScanCovers.f k s c = some true := by
  have hlen := pcs_len s s.size 0
  obtain ⟨l, o, hlo⟩ : ∃ l o, pcs s s.size 0 = (l, o) := ⟨_, _, rfl⟩
  rw [hlo] at hlen
  simp only at hlen
  cases o with
  | some q =>
    have hq := pcs_code s s.size 0 q (by rw [hlo])
    refine ⟨0, ?_⟩
    unfold capstanlaw09_ScanCovers.f Hs.awake.f Hs.Runes.f rns
    rw [if_pos (by omega), hlo]
    simp only [Option.bind_some, if_true]
    rw [if_neg (by omega)]
  | none =>
    obtain ⟨E, hE⟩ := runP_nat s c s.size 0
    obtain ⟨_, h2, h3⟩ := run_cut s c s.size 0 l E (by omega) (by omega) hlo hE
    have hsz := (cut_join s E h2).2
    have h4 := Sj.pcs_fuel (s.extract 0 E) (s.size - E) E 0 (by omega)
    rw [show E + (s.size - E) = s.size from by omega, h3] at h4
    have hloop := covers_loop s c l (by omega) true (fun _ => True) (fun k => by
      rw [capstanlaw09_ScanCovers.j1]
      unfold Hs.Run.f Sr.runR Hs.Check.f
      rw [if_pos (by omega), if_neg (by omega), show (0 : Int).toNat = 0 from rfl, hE]
      simp only [Option.bind_some]
      rw [if_neg (by omega), if_neg (by omega), if_pos (by omega), if_pos (by omega), show ((E : Nat) : Int).toNat = E from by omega, if_pos (by omega), hsz, ← h4]
      simp [chk]) l.length 0 (by omega) (by omega)
    refine ⟨l.length + 2, ?_⟩
    unfold capstanlaw09_ScanCovers.f Hs.awake.f Hs.Runes.f rns
    rw [if_pos (by omega), hlo]
    simp only [Option.bind_some, if_true]
    exact hloop
theorem walkCovers : ArgScanCovers.Walk := by
  intro s c w hL hs _
  obtain ⟨k, hk⟩ := covers_true s c hs
  exact capstanlaw09_ScanCovers.calls k s c true w hk hL
end Go.Proofs.YtmgjmjoclglidaaDoor.So
