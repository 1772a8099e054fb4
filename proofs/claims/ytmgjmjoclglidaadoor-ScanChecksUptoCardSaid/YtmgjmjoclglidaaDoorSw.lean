/- scan.Where. -/
import Derived.Test.YtmgjmjoclglidaaDoorSb
namespace Go.Proofs.YtmgjmjoclglidaaDoor.Sw
set_option linter.unusedVariables false
open Go.RowKit Go.Proofs.YtmgjmjoclglidaaDoor.Blk Go.Proofs.YtmgjmjoclglidaaDoor.Blk2 Go.Proofs.YtmgjmjoclglidaaDoor.Laid Go.Proofs.YtmgjmjoclglidaaDoor.Sa Go.Proofs.YtmgjmjoclglidaaDoor.Sb

theorem pcs_code (s : ByteArray) : ∀ (f pos : Nat) (q : Int × Int), (pcs s f pos).2 = some q → q.2 = 10 ∨ q.2 = 11
  | 0, _, q, h => by simp [pcs] at h
  | f + 1, pos, q, h => by
    unfold pcs at h
    split at h
    · split at h
      · simp at h; subst h; exact .inl rfl
      · split at h
        · simp at h; subst h; exact .inr rfl
        · exact pcs_code s f _ q h
    · simp at h
/-- The walk to a byte over the runes of a text of n bytes. -/
def wlk (n at_ : Int) : List (Int × Int) → Int → Int → Int × Int × Int
  | [], line, col => if at_ = n then (line, col, 0) else (0, 0, 3)
  | q :: t, line, col => if q.2 = at_ then (line, col, 0) else if q.1 = 10 then wlk n at_ t (line + 1) 1 else wlk n at_ t line (col + 1)
/-- What Where answers. -/
def whr (s : ByteArray) (at_ : Int) : Int × Int × Int := match (pcs s s.size 0).2 with
  | none => wlk s.size at_ (pcs s s.size 0).1 1 1
  | some q => (0, 0, q.2)
theorem pcs_step {s : ByteArray} {f pos : Nat} {t : List (Int × Int)} (hp : pos < s.size) (h : pcs s (f + 1) pos = (t, none)) :
    ∃ t', t = (((Utf8.decode s pos).1 : Int), (pos : Int)) :: t' ∧ pcs s f (pos + (Utf8.decode s pos).2) = (t', none) := by
  unfold pcs at h
  rw [if_pos hp] at h
  split at h
  · simp at h
  · split at h
    · simp at h
    · simp only [Prod.mk.injEq] at h
      exact ⟨_, h.1.symm, Prod.ext rfl h.2⟩
set_option maxHeartbeats 4000000 in
set_option maxRecDepth 1000000 in
theorem where_any (s : ByteArray) (at_ : Int) (w : World) (hs : s.size ≤ 4611686018427387904) (hL : Laid w) : Calls Tryd.prog 10 #[.string s, .int .i64 at_] w (ChkPost (whr s at_) w) := by
  have HL := Lib.hid hL
  clear hL
  have HC := Lib.hid (fun W (hW : Laid W) => check_any s W hs hW)
  obtain ⟨l, o, hlo⟩ : ∃ l o, pcs s s.size 0 = (l, o) := ⟨_, _, rfl⟩
  cases o with
  | some q =>
    have hq := pcs_code s s.size 0 q (by rw [hlo])
    have e : whr s at_ = (0, 0, q.2) := by unfold whr; rw [hlo]
    have e1 : chk 0 (pcs s s.size 0) = (0, q.1, q.2) := by unfold chk; rw [hlo]
    rw [e]
    rw [e1] at HC
    obtain ⟨q1, q2⟩ := q
    have hne : (q2 != 0) = true := by simp; simp at hq; omega
    clear hq e e1 hlo
    go_enter Tryd.func10, Tryd.ntmps10
    go_wp2_with (go_at_call 12; refine (HC.out _ HL.out).mono ?_; rintro e W' ⟨rfl, hbc⟩)
    go_ret3
    exact ⟨rfl, hbc⟩
  | none =>
    obtain ⟨R0, hR0⟩ : ∃ R0, R0 = whr s at_ := ⟨_, rfl⟩
    have e : wlk s.size at_ l 1 1 = R0 := by rw [hR0]; unfold whr; rw [hlo]
    have e1 : chk 0 (pcs s s.size 0) = ((l.length : Int), 0, 0) := by unfold chk; rw [hlo]; simp
    rw [← hR0]
    rw [e1] at HC
    have HLO := Lib.hid hlo
    have HE := Lib.hid e
    clear hR0 e e1 hlo
    go_enter Tryd.func10, Tryd.ntmps10
    go_wp2_with (go_at_call 12; refine (HC.out _ HL.out).mono ?_; rintro e W' ⟨rfl, hbc⟩)
    have HBC := Lib.hid hbc
    go_loopg [10, 11] s.size (fun gf v10 v11 wx => ∃ (pos : Nat) (t : List (Int × Int)) (line col : Int), v10 = .int .i64 line ∧ v11 = .int .i64 col ∧ 1 ≤ line ∧ line ≤ pos + 1 ∧ 1 ≤ col ∧ col ≤ pos + 1 ∧
        wx.heap[W'.heap.size]? = some (.stringIter s pos) ∧ Below W'.heap.size W' wx ∧ Hid (pcs s gf pos = (t, none)) ∧ Hid (wlk s.size at_ t line col = R0) ∧ s.size ≤ pos + gf)
    case atStart => exact ⟨0, l, 1, 1, rfl, rfl, by omega, by omega, by omega, by omega, World.iter_heap W' s 0, (Below.refl _ W').alloc (Nat.le_refl _) _, HLO, HE, by omega⟩
    case round =>
      clear HLO HE hbc
      obtain ⟨pos, t, line, col, rfl, rfl, hl0, hl1, hc0, hc1, hit, hbw, hpc, hwk, hfu⟩ := hrel
      by_cases hps : pos < s.size
      · obtain ⟨g', rfl⟩ : ∃ g', gk = g' + 1 := ⟨gk - 1, by omega⟩
        have hnx : ∀ ty, (Instr.next (.pointer (some ⟨W'.heap.size, 0, none⟩)) true ty).run Tryd.prog wr = _ := fun ty => Lib.run_next_any_at wr W'.heap.size s pos ty hit hps
        have hwd := Lib.width_pos s pos
        obtain ⟨t', rfl, hpc'⟩ := pcs_step hps hpc.out
        have hwk := hwk.out
        unfold wlk at hwk
        obtain ⟨R, hR⟩ : ∃ R, (Utf8.decode s pos).1 = R := ⟨_, rfl⟩
        obtain ⟨K, hK⟩ : ∃ K, (Utf8.decode s pos).2 = K := ⟨_, rfl⟩
        rw [hR, hK] at hnx
        rw [hK] at hwd
        simp only [hR, hK] at hpc' hwk
        have HPC := Lib.hid hpc'
        have HIT := Lib.hid (Lib.iterAt_heap wr W'.heap.size s pos (pos + K) hit)
        have HBW := Lib.hid (Lib.below_iterAt hbw (k := W'.heap.size) (Nat.le_refl _) s (pos + K))
        obtain ⟨W, hWd⟩ : ∃ W, wr.iterAt W'.heap.size s (pos + K) = W := ⟨_, rfl⟩
        rw [hWd] at hnx HIT HBW
        clear hit hbw hWd hR hK hpc hpc'
        by_cases ha : (pos : Int) = at_
        · rw [if_pos ha] at hwk
          subst hwk
          have ha' : ((pos : Int) == at_) = true := by simpa using ha
          clear ha
          go_wp2
          go_ret3
          exact ⟨rfl, below_then HBC.out HBW.out HBC.out.size⟩
        · rw [if_neg ha] at hwk
          have ha' : ((pos : Int) == at_) = false := by simpa using ha
          clear ha
          by_cases hr : (R : Int) = 10
          · rw [if_pos hr] at hwk
            have hr' : ((R : Int) == 10) = true := by simpa using hr
            have HWK := Lib.hid hwk
            clear hwk hr
            go_wp2
            go_roundg g'
            case measure => omega
            case rel => exact ⟨pos + K, t', line + 1, 1, by go_num, by go_num, by omega, by omega, by omega, by omega, HIT.out, HBW.out, HPC, HWK, by omega⟩
          · rw [if_neg hr] at hwk
            have hr' : ((R : Int) == 10) = false := by simpa using hr
            have HWK := Lib.hid hwk
            clear hwk hr
            go_wp2
            go_roundg g'
            case measure => omega
            case rel => exact ⟨pos + K, t', line, col + 1, by go_num, by go_num, by omega, by omega, by omega, by omega, HIT.out, HBW.out, HPC, HWK, by omega⟩
      · have hnx : ∀ ty, (Instr.next (.pointer (some ⟨W'.heap.size, 0, none⟩)) true ty).run Tryd.prog wr = _ := fun ty => Lib.run_next_end_at wr W'.heap.size s pos ty hit hps
        have hpc := hpc.out
        rw [pcs_end s gk pos hps] at hpc
        simp only [Prod.mk.injEq, and_true] at hpc
        subst hpc
        have hwk := hwk.out
        unfold wlk at hwk
        by_cases ha : at_ = (s.size : Int)
        · rw [if_pos ha] at hwk
          subst hwk
          have ha' : (at_ != (s.size : Int)) = false := by simpa using ha
          clear ha
          go_wp2
          go_ret3
          exact ⟨rfl, below_then HBC.out hbw HBC.out.size⟩
        · rw [if_neg ha] at hwk
          subst hwk
          have ha' : (at_ != (s.size : Int)) = true := by simpa using ha
          clear ha
          go_wp2
          go_ret3
          exact ⟨rfl, below_then HBC.out hbw HBC.out.size⟩
end Go.Proofs.YtmgjmjoclglidaaDoor.Sw
