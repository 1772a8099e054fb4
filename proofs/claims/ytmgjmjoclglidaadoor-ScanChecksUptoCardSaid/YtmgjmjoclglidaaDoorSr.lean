/- scan.Run. -/
import Derived.Test.YtmgjmjoclglidaaDoorSk
namespace Go.Proofs.YtmgjmjoclglidaaDoor.Sr
set_option linter.unusedVariables false
open Go.RowKit Go.Proofs.YtmgjmjoclglidaaDoor.Blk Go.Proofs.YtmgjmjoclglidaaDoor.Blk2 Go.Proofs.YtmgjmjoclglidaaDoor.Laid Go.Proofs.YtmgjmjoclglidaaDoor.Sa Go.Proofs.YtmgjmjoclglidaaDoor.Sb Go.Proofs.YtmgjmjoclglidaaDoor.Sk

/-- Where a run of a class ends, from a byte on. -/
def runP (s : ByteArray) (c : Int) : Nat → Nat → Int
  | 0, _ => s.size
  | f + 1, pos => if pos < s.size then (if isC (Utf8.decode s pos).1 c = true then runP s c f (pos + (Utf8.decode s pos).2) else pos) else s.size
theorem runP_end (s : ByteArray) (c : Int) (f pos : Nat) (h : ¬ pos < s.size) : runP s c f pos = s.size := by cases f <;> simp [runP, h]
def runR (s : ByteArray) (a c : Int) : Int := if a < 0 ∨ (s.size : Int) < a then a else runP s c s.size a.toNat
set_option maxHeartbeats 4000000 in
set_option maxRecDepth 1000000 in
theorem run_any (s : ByteArray) (a c : Int) (w : World) (hs : s.size ≤ 4611686018427387904) : Calls Tryd.prog 17 #[.string s, .int .i64 a, .int .i64 c] w fun e w' => e = .returned (.int .i64 (runR s a c)) ∧ Below w.heap.size w w' := by
  by_cases h0 : a < 0
  · have e : runR s a c = a := by unfold runR; rw [if_pos (.inl h0)]
    rw [e]
    clear e
    go_enter Tryd.func17, Tryd.ntmps17
    go_wp2
    go_ret
    exact ⟨rfl, Below.refl _ _⟩
  by_cases h1 : (s.size : Int) < a
  · have e : runR s a c = a := by unfold runR; rw [if_pos (.inr h1)]
    rw [e]
    clear e
    go_enter Tryd.func17, Tryd.ntmps17
    go_wp2
    go_ret
    exact ⟨rfl, Below.refl _ _⟩
  obtain ⟨p, rfl⟩ : ∃ p : Nat, a = p := ⟨a.toNat, by omega⟩
  have hp : p ≤ s.size := by omega
  have e : runR s p c = runP s c s.size p := by unfold runR; rw [if_neg (by omega)]; rfl
  obtain ⟨R0, hR0⟩ : ∃ R0, R0 = runP s c s.size p := ⟨_, rfl⟩
  rw [e, ← hR0]
  have hts : (s.extract p s.size).size = s.size - p := Lib.tail_size s p
  have hdec : ∀ i, Utf8.decode (s.extract p s.size) i = Utf8.decode s (p + i) := fun i => Lib.tail_decode s p i
  have HD := Lib.hid hdec; have HT := Lib.hid hts
  clear e hdec hts
  go_enter Tryd.func17, Tryd.ntmps17
  go_wp2
  go_loopg [] s.size (fun gf wx => ∃ pos : Nat, wx.heap[w.heap.size]? = some (.stringIter (s.extract p s.size) pos) ∧ Below w.heap.size w wx ∧ Hid (runP s c gf (p + pos) = R0) ∧ s.size ≤ p + pos + gf)
  case atStart => exact ⟨0, World.iter_heap w _ 0, (Below.refl _ w).alloc (Nat.le_refl _) _, hR0.symm, by omega⟩
  case round =>
    clear hR0
    obtain ⟨pos, hit, hbw, hleft, hfu⟩ := hrel
    have hleft := hleft.out
    by_cases hps : pos < (s.extract p s.size).size
    · have hps' : p + pos < s.size := by rw [HT.out] at hps; omega
      obtain ⟨g', rfl⟩ : ∃ g', gk = g' + 1 := ⟨gk - 1, by omega⟩
      have hnx : ∀ ty, (Instr.next (.pointer (some ⟨w.heap.size, 0, none⟩)) true ty).run Tryd.prog wr = _ := fun ty => Lib.run_next_any_at wr w.heap.size (s.extract p s.size) pos ty hit hps
      rw [HD.out] at hnx
      have hwd := Lib.width_pos s (p + pos)
      unfold runP at hleft
      rw [if_pos hps'] at hleft
      obtain ⟨R, hR⟩ : ∃ R, (Utf8.decode s (p + pos)).1 = R := ⟨_, rfl⟩
      obtain ⟨K, hK⟩ : ∃ K, (Utf8.decode s (p + pos)).2 = K := ⟨_, rfl⟩
      rw [hR, hK] at hnx hleft
      rw [hK] at hwd
      have HIT := Lib.hid (Lib.iterAt_heap wr w.heap.size (s.extract p s.size) pos (pos + K) hit)
      have HBW := Lib.hid (Lib.below_iterAt hbw (k := w.heap.size) (Nat.le_refl _) (s.extract p s.size) (pos + K))
      obtain ⟨W, hWd⟩ : ∃ W, wr.iterAt w.heap.size (s.extract p s.size) (pos + K) = W := ⟨_, rfl⟩
      rw [hWd] at hnx HIT HBW
      have hw : IntKind.i64.wrap ((p : Int) + pos) = (p : Int) + pos := by rw [IntKind.wrap_i64]; omega
      have HIS := Lib.hid (fun W => is_any R c W)
      obtain ⟨B, hB⟩ : ∃ B, isC (R : Int) c = B := ⟨_, rfl⟩
      rw [hB] at HIS hleft
      clear hit hbw hWd hR hK hB hps
      cases B
      · have hleft : ((p + pos : Nat) : Int) = R0 := by simpa using hleft
        subst hleft
        go_wp2_with (go_at_call 15; refine (HIS.out _).mono ?_; rintro e W2 ⟨rfl, q, rfl⟩)
        go_ret
        exact ⟨by simp, Blk.below_drewN HBW.out _⟩
      · have hleft : runP s c g' (p + pos + K) = R0 := by simpa using hleft
        have HLE := Lib.hid hleft
        clear hleft
        go_wp2_with (go_at_call 15; refine (HIS.out _).mono ?_; rintro e W2 ⟨rfl, q, rfl⟩)
        go_roundg g'
        case measure => omega
        case rel => exact ⟨pos + K, HIT.out, Blk.below_drewN HBW.out _, by rw [← Nat.add_assoc]; exact HLE, by omega⟩
    · have hnx : ∀ ty, (Instr.next (.pointer (some ⟨w.heap.size, 0, none⟩)) true ty).run Tryd.prog wr = _ := fun ty => Lib.run_next_end_at wr w.heap.size (s.extract p s.size) pos ty hit hps
      have hps' : ¬ p + pos < s.size := by rw [HT.out] at hps; omega
      rw [runP_end s c gk _ hps'] at hleft
      subst hleft
      go_wp2
      go_ret
      exact ⟨rfl, hbw⟩
end Go.Proofs.YtmgjmjoclglidaaDoor.Sr
