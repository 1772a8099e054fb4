/- scan.Runes: a text's runes, or its first fault; the text no longer than four thousand million bytes. -/
import Derived.Test.YtmgjmjoclglidaaDoorSw
import Derived.Test.YtmgjmjoclglidaaDoorWMore
namespace Go.Proofs.YtmgjmjoclglidaaDoor.Sc
set_option linter.unusedVariables false
open Go.RowKit Go.Proofs.YtmgjmjoclglidaaDoorW.PrintWords Go.Proofs.YtmgjmjoclglidaaDoor.Blk2 Go.Proofs.YtmgjmjoclglidaaDoor.Laid Go.Proofs.YtmgjmjoclglidaaDoor.Sa Go.Proofs.YtmgjmjoclglidaaDoor.Sb Go.Proofs.YtmgjmjoclglidaaDoor.Sw

theorem own_iter {w : World} {base : Nat} {e : TypeId} {size n k p0 : Nat} {v : Value} {xs : List Value} {s : ByteArray} (h : w.ownsRow base e size v n xs) (hk : w.heap[k]? = some (.stringIter s p0)) (p : Nat) : (w.iterAt k s p).ownsRow base e size v n xs := by
  refine Kd_move h fun g hg => ?_
  rcases h.2 with ⟨rfl, _⟩ | ⟨g', cap, cur, rfl, _, hh, _⟩
  · simp [Value.ownBlock] at hg
  · simp [Value.ownBlock] at hg
    subst hg
    exact Lib.iterAt_other _ _ _ _ _ (by intro e; subst e; rw [hk] at hh; cases hh)
  where Kd_move {w w1 : World} {base : Nat} {e : TypeId} {size n : Nat} {v : Value} {xs : List Value} (h : w.ownsRow base e size v n xs) (hm : ∀ k, v.ownBlock = some k → w1.heap[k]? = w.heap[k]?) : w1.ownsRow base e size v n xs := own_move h hm
theorem iter_own {w : World} {base : Nat} {e : TypeId} {size n k p : Nat} {v : Value} {xs : List Value} {s : ByteArray} (h : w.ownsRow base e size v n xs) (hk : w.heap[k]? = some (.stringIter s p)) : some k ≠ v.ownBlock := by
  rcases h.2 with ⟨rfl, _⟩ | ⟨g', cap, cur, rfl, _, hh, _⟩
  · simp [Value.ownBlock]
  · simp [Value.ownBlock]
    intro e; subst e; rw [hk] at hh; cases hh
/-- What Runes answers. -/
def rns (s : ByteArray) : List Int × Int × Int := match (pcs s s.size 0).2 with
  | none => ((pcs s s.size 0).1.map (·.1), 0, 0)
  | some q => ([], q.1, q.2)
def RunesPost (r : List Int × Int × Int) (w : World) (e : Ending) (w' : World) : Prop :=
  ∃ v, e = .returned (.tuple #[v, .int .i64 r.2.1, .int .i64 r.2.2]) ∧ Kd.R (Kd.int .i32) 21 w' w.heap.size (fun _ => True) v r.1 ∧ Below w.heap.size w w'
theorem pcs_len (s : ByteArray) : ∀ (f pos : Nat), (pcs s f pos).1.length ≤ f
  | 0, pos => by simp [pcs]
  | f + 1, pos => by
    unfold pcs
    split
    · split
      · simp
      · split
        · simp
        · have := pcs_len s f (pos + (Utf8.decode s pos).2); simp; omega
    · simp
theorem info21 : (Tryd.prog.info? 21).map (fun i => (i.zero, i.size, i.bytes)) = some (some (.int .i32 0), 1, 4) := by kernel_rfl
set_option maxHeartbeats 4000000 in
set_option maxRecDepth 1000000 in
theorem runes_any (s : ByteArray) (w : World) (hs : s.size ≤ 4000000000) (hL : Laid w) : Calls Tryd.prog 14 #[.string s] w (RunesPost (rns s) w) := by
  have HL := Lib.hid hL
  clear hL
  have HC := Lib.hid (fun W (hW : Laid W) => check_any s W (by omega) hW)
  have hlen := pcs_len s s.size 0
  obtain ⟨l, o, hlo⟩ : ∃ l o, pcs s s.size 0 = (l, o) := ⟨_, _, rfl⟩
  cases o with
  | some q =>
    have hq := pcs_code s s.size 0 q (by rw [hlo])
    have e : rns s = ([], q.1, q.2) := by unfold rns; rw [hlo]
    have e1 : chk 0 (pcs s s.size 0) = (0, q.1, q.2) := by unfold chk; rw [hlo]
    rw [e]
    rw [e1] at HC
    obtain ⟨q1, q2⟩ := q
    have hne : (q2 != 0) = true := by simp; simp at hq; omega
    clear hq e e1 hlo hlen
    go_enter Tryd.func14, Tryd.ntmps14
    go_wp2_with (go_at_call 12; refine (HC.out _ HL.out).mono ?_; rintro e W' ⟨rfl, hbc⟩)
    go_ret3
    exact ⟨_, rfl, Kd.R_nil _ _ _ _ _, hbc⟩
  | none =>
    obtain ⟨R0, hR0⟩ : ∃ R0, R0 = l.map (·.1) := ⟨_, rfl⟩
    have e : rns s = (R0, 0, 0) := by unfold rns; rw [hlo, hR0]
    have e1 : chk 0 (pcs s s.size 0) = ((l.length : Int), 0, 0) := by unfold chk; rw [hlo]; simp
    rw [e]
    rw [e1] at HC
    rw [hlo] at hlen
    simp only at hlen
    obtain ⟨i0, hi, hz⟩ := Option.map_eq_some_iff.1 info21
    simp only [Prod.mk.injEq] at hz
    obtain ⟨hz0, hz1, hz2⟩ := hz
    have HLO := Lib.hid hlo
    have HE := Lib.hid hR0
    have HLEN := Lib.hid hlen
    have HI := Lib.hid hi
    have HZ0 := Lib.hid hz0
    have HZ1 := Lib.hid hz1
    have HZ2 := Lib.hid hz2
    clear hR0 e e1 hlo hlen hi hz0 hz1 hz2
    go_enter Tryd.func14, Tryd.ntmps14
    go_wp2_with (first
      | (go_at_call 12; refine (HC.out _ HL.out).mono ?_; rintro e W' ⟨rfl, hbc⟩; have HBC := Lib.hid hbc; clear hbc)
      | (with_reducible refine wpList_make_own _ rfl _ _ 32 rfl w.heap.size 21 i0 (.int .i32 0) 1 Tryd.underlying32 HI.out HZ0.out HZ1.out .i64 .i64 _ l.length rfl rfl rfl ?b2 ?b3 ?b4 ?_))
    case b2 => rw [HZ2.out]; have := HLEN.out; omega
    case b3 => have := HLEN.out; unfold maxLen; omega
    case b4 => exact HBC.out.size
    intro w2 hown hgr
    have HOWN := Lib.hid hown
    have hb2 := pw_below_grown HBC.out none HBC.out.size hgr (fun k h => by cases h)
    have HB2 := Lib.hid hb2
    clear hown hgr hb2
    go_wp2
    go_loopg [8] s.size (fun gf v8 wx => ∃ (pos : Nat) (t : List (Int × Int)) (xs : List Int), wx.heap[w2.heap.size]? = some (.stringIter s pos) ∧ Below w.heap.size w wx ∧ wx.ownsRow w.heap.size 21 1 v8 xs.length (nums .i32 xs) ∧ Hid (pcs s gf pos = (t, none)) ∧ Hid (R0 = xs ++ t.map (·.1)) ∧ Hid (s.size ≤ pos + gf) ∧ Hid (xs.length ≤ pos))
    case atStart => exact ⟨0, l, [], World.iter_heap w2 s 0, HB2.out.alloc HB2.out.size _, by exact own_alloc HOWN.out _, HLO, by have := HE.out; exact Lib.hid (by simpa using this), Lib.hid (by omega), Lib.hid (by simp)⟩
    case round =>
      clear HLO HE HOWN
      obtain ⟨pos, t, xs, hit, hbw, hown, hpc, hR, hfu, hxl⟩ := hrel
      have HPC := hpc; have HRR := hR; have HFU := hfu; have HXL := hxl
      clear hpc hR hfu hxl
      by_cases hps : pos < s.size
      · obtain ⟨g', rfl⟩ : ∃ g', gk = g' + 1 := ⟨gk - 1, by have := HFU.out; omega⟩
        have hnx : ∀ ty, (Instr.next (.pointer (some ⟨w2.heap.size, 0, none⟩)) true ty).run Tryd.prog wr = _ := fun ty => Lib.run_next_any_at wr w2.heap.size s pos ty hit hps
        have hwd := Lib.width_pos s pos
        obtain ⟨t', rfl, hpc'⟩ := pcs_step hps HPC.out
        obtain ⟨R, hR⟩ : ∃ R, (Utf8.decode s pos).1 = R := ⟨_, rfl⟩
        obtain ⟨K, hK⟩ : ∃ K, (Utf8.decode s pos).2 = K := ⟨_, rfl⟩
        rw [hR, hK] at hnx
        rw [hK] at hwd hpc'
        rw [hR] at HRR
        have HPC' := Lib.hid hpc'
        have hsz := HB2.out.size
        have HIT := Lib.hid (Lib.iterAt_heap wr w2.heap.size s pos (pos + K) hit)
        have HBW := Lib.hid (Lib.below_iterAt hbw (k := w2.heap.size) hsz s (pos + K))
        have HOWN := Lib.hid (own_iter hown hit (pos + K))
        obtain ⟨W, hWd⟩ : ∃ W, wr.iterAt w2.heap.size s (pos + K) = W := ⟨_, rfl⟩
        rw [hWd] at hnx HIT HBW HOWN
        have HWD := Lib.hid hwd
        have HPS := Lib.hid hps
        clear hit hbw hown hWd hR hK HPC hpc' hsz hwd hps
        go_wp2_with (first
          | (at_builtin; refine print_append_num (w0 := w) w.heap.size rfl (.tmp 28) (.tmp 30) 32 21 .i32 4 rfl Tryd.underlying32 info21 (by decide) _ xs R rfl rfl HOWN.out HBW.out HBW.out.size ?c1 ?_))
        case c1 => have := HXL.out; have := HPS.out; omega
        intro v1 w1 hown1 hb1 hg1 _
        have hne := iter_own HOWN.out HIT.out
        have hit1 : w1.heap[w2.heap.size]? = some (.stringIter s (pos + K)) := (hg1.block _ (Blk.blk_lt HIT.out) hne).trans HIT.out
        have HIT1 := Lib.hid hit1
        have HB1 := Lib.hid hb1
        have HO1 := Lib.hid hown1
        clear hne hit1 hb1 hown1 hg1
        go_wp2
        go_roundg g'
        case measure => omega
        case rel => exact ⟨pos + K, t', xs ++ [(R : Int)], HIT1.out, HB1.out, by have h := HO1.out; rw [List.length_append]; exact h, HPC', by have := HRR.out; exact Lib.hid (by rw [this]; simp), by have := HFU.out; have := HWD.out; exact Lib.hid (by omega), by have := HXL.out; have := HWD.out; exact Lib.hid (by simp; omega)⟩
      · have hnx : ∀ ty, (Instr.next (.pointer (some ⟨w2.heap.size, 0, none⟩)) true ty).run Tryd.prog wr = _ := fun ty => Lib.run_next_end_at wr w2.heap.size s pos ty hit hps
        have hpc := HPC.out
        rw [pcs_end s gk pos hps] at hpc
        simp only [Prod.mk.injEq, and_true] at hpc
        subst hpc
        have HB := Lib.hid hbw; have HO := Lib.hid hown
        clear hbw hown
        go_wp2
        go_ret3
        exact ⟨_, rfl, Kd.R_of_own (by have := HRR.out; simp at this; rw [this]; exact HO.out) (fun _ _ => trivial), HB.out⟩
end Go.Proofs.YtmgjmjoclglidaaDoor.Sc
