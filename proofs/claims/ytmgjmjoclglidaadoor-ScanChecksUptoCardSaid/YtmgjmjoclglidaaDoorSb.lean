/- scan.Check: the runes of a text up to its first fault. -/
import Derived.Test.YtmgjmjoclglidaaDoorSa
import Derived.Lib.OthersKept
import Derived.Lib.TrimU

import Derived.Deep.LoopGhost
namespace Go.Proofs.YtmgjmjoclglidaaDoor.Sb
set_option linter.unusedVariables false
open Go.RowKit Go.Proofs.YtmgjmjoclglidaaDoor.Blk Go.Proofs.YtmgjmjoclglidaaDoor.Blk2 Go.Proofs.YtmgjmjoclglidaaDoor.Laid Go.Proofs.YtmgjmjoclglidaaDoor.Sa

/-- The runes from a byte on, each with its byte, up to the first fault; the fault. -/
def pcs (s : ByteArray) : Nat → Nat → List (Int × Int) × Option (Int × Int)
  | 0, _ => ([], none)
  | f + 1, pos => if pos < s.size then
      (if brk s pos (Utf8.decode s pos).1 = true then ([], some (pos, 10)) else if lets (Utf8.decode s pos).1 = false then ([], some (pos, 11)) else
        (((Utf8.decode s pos).1, (pos : Int)) :: (pcs s f (pos + (Utf8.decode s pos).2)).1, (pcs s f (pos + (Utf8.decode s pos).2)).2))
    else ([], none)
theorem pcs_end (s : ByteArray) (f pos : Nat) (h : ¬ pos < s.size) : pcs s f pos = ([], none) := by cases f <;> simp [pcs, h]
/-- What Check answers, n runes having been counted. -/
def chk (n : Int) (p : List (Int × Int) × Option (Int × Int)) : Int × Int × Int := match p.2 with
  | none => (n + p.1.length, 0, 0)
  | some q => (0, q.1, q.2)
def ChkPost (r : Int × Int × Int) (w : World) (e : Ending) (w' : World) : Prop := e = .returned (.tuple #[.int .i64 r.1, .int .i64 r.2.1, .int .i64 r.2.2]) ∧ Below w.heap.size w w'
set_option maxHeartbeats 4000000 in
set_option maxRecDepth 1000000 in
theorem check_any (s : ByteArray) (w : World) (hs : s.size ≤ 4611686018427387904) (hL : Laid w) : Calls Tryd.prog 12 #[.string s] w (ChkPost (chk 0 (pcs s s.size 0)) w) := by
  have HL := Lib.hid hL
  clear hL
  obtain ⟨R0, hR0⟩ : ∃ R0, R0 = chk 0 (pcs s s.size 0) := ⟨_, rfl⟩
  rw [← hR0]
  go_enter Tryd.func12, Tryd.ntmps12
  go_wp2
  go_loopg [5] s.size (fun gf v5 wx => ∃ (pos : Nat) (n : Int), v5 = .int .i64 n ∧ 0 ≤ n ∧ n ≤ pos ∧ wx.heap[w.heap.size]? = some (.stringIter s pos) ∧ Below w.heap.size w wx ∧ chk n (pcs s gf pos) = R0 ∧ s.size ≤ pos + gf)
  case atStart => exact ⟨0, 0, rfl, Int.le_refl _, Int.le_refl _, World.iter_heap w s 0, (Below.refl _ w).alloc (Nat.le_refl _) _, hR0.symm, by omega⟩
  case round =>
    clear hR0
    obtain ⟨pos, n, rfl, hn0, hn1, hit, hbw, hleft, hfu⟩ := hrel
    by_cases hps : pos < s.size
    · obtain ⟨g', rfl⟩ : ∃ g', gk = g' + 1 := ⟨gk - 1, by omega⟩
      have hnx : ∀ ty, (Instr.next (.pointer (some ⟨w.heap.size, 0, none⟩)) true ty).run Tryd.prog wr = _ := fun ty => Lib.run_next_any_at wr w.heap.size s pos ty hit hps
      have hwd := Lib.width_pos s pos
      have hbr := fun W (hW : Laid W) => broken_any s pos (Utf8.decode s pos).1 W hps hW
      simp only [pcs, hps, if_true] at hleft
      have hK4 : (Utf8.decode s pos).2 ≤ s.size := by
        have h1 := Lib.decodeGo_le_size (s.extract pos s.size)
        rw [decodeGo_tail s pos hps, Lib.tail_size] at h1; omega
      obtain ⟨R, hR⟩ : ∃ R, (Utf8.decode s pos).1 = R := ⟨_, rfl⟩
      obtain ⟨K, hK⟩ : ∃ K, (Utf8.decode s pos).2 = K := ⟨_, rfl⟩
      rw [hR, hK] at hnx
      rw [hR] at hbr
      rw [hK] at hwd hK4
      simp only [hR, hK] at hleft
      have hit2 := Lib.iterAt_heap wr w.heap.size s pos (pos + K) hit
      have hbw2 := Lib.below_iterAt hbw (k := w.heap.size) (Nat.le_refl _) s (pos + K)
      obtain ⟨W, hWd⟩ : ∃ W, wr.iterAt w.heap.size s (pos + K) = W := ⟨_, rfl⟩
      rw [hWd] at hnx hit2 hbw2
      have hltW : w.heap.size < W.heap.size := (Array.getElem?_eq_some_iff.1 hit2).1
      have HLW := Lib.hid (HL.out.below hbw2)
      have hnn : n + 1 ≤ 4611686018427387905 := by omega
      have hlt : n < 4611686018427387904 := by omega
      have HBW := Lib.hid hbw2; have HIT := Lib.hid hit2; have HBR := Lib.hid hbr
      clear hbr hit hbw hit2 hbw2 hWd hR hK
      obtain ⟨B, hB⟩ : ∃ B, brk s pos (R : Int) = B := ⟨_, rfl⟩
      rw [hB] at HBR hleft
      obtain ⟨C, hC⟩ : ∃ C, lets (R : Int) = C := ⟨_, rfl⟩
      have HLT := Lib.hid (fun W => letIn_any R W)
      rw [hC] at HLT hleft
      have HF := Lib.hid hleft
      clear hB hC hleft
      cases B
      · cases C
        · have e := HF.out
          simp [chk] at e
          subst e
          clear HF
          go_wp2_with (first
            | (go_at_call 19; refine (HBR.out _ HLW.out).mono ?_; rintro e W' ⟨rfl, hbc⟩)
            | (go_at_call 20; refine (HLT.out _).mono ?_; rintro e W'' ⟨rfl, q, rfl⟩))
          go_ret3
          exact ⟨rfl, Blk.below_drewN (below_then HBW.out hbc HBW.out.size) _⟩
        · go_wp2_with (first
            | (go_at_call 19; refine (HBR.out _ HLW.out).mono ?_; rintro e W' ⟨rfl, hbc⟩)
            | (go_at_call 20; refine (HLT.out _).mono ?_; rintro e W'' ⟨rfl, q, rfl⟩))
          go_roundg g'
          case measure => omega
          case rel => exact ⟨pos + K, n + 1, by go_num, by omega, by omega, (hbc.block _ hltW).trans HIT.out, Blk.below_drewN (below_then HBW.out hbc HBW.out.size) _, by
            have e := HF.out
            simp only [Bool.false_eq_true, Bool.true_eq_false, if_false] at e
            rw [← e]
            unfold chk
            cases (pcs s g' (pos + K)).2 <;> simp; omega, by omega⟩
      · have e := HF.out
        simp [chk] at e
        subst e
        clear HF
        go_wp2_with (first
          | (go_at_call 19; refine (HBR.out _ HLW.out).mono ?_; rintro e W' ⟨rfl, hbc⟩)
          | (go_at_call 20; refine (HLT.out _).mono ?_; rintro e W'' ⟨rfl, q, rfl⟩))
        go_ret3
        exact ⟨rfl, below_then HBW.out hbc HBW.out.size⟩
    · have hnx : ∀ ty, (Instr.next (.pointer (some ⟨w.heap.size, 0, none⟩)) true ty).run Tryd.prog wr = _ := fun ty => Lib.run_next_end_at wr w.heap.size s pos ty hit hps
      rw [pcs_end s gk pos hps] at hleft
      simp [chk] at hleft
      subst hleft
      go_wp2
      go_ret3
      exact ⟨rfl, hbw⟩
end Go.Proofs.YtmgjmjoclglidaaDoor.Sb
