/- The walk of the law GateNil: what a nil gate and the zero gate answer. -/
import Derived.Test.YtalefchapckcoaaGd
import Derived.Test.YtalefchapckcoaaBlk2
import Derived.Test.YtalefchapckcoaaArgGateNil
import Derived.Deep.RegionHeld3
import Derived.Deep.DeepCutAuto
namespace Go.Proofs.Ytalefchapckcoaa.Gn
open Go.RowKit Go.Proofs.Ytalefchapckcoaa.Blk Go.Proofs.Ytalefchapckcoaa.Blk2 Go.Proofs.Ytalefchapckcoaa.Ga Go.Proofs.Ytalefchapckcoaa.Gd

/-- A gate that is none: nil, or a block whose greatest count is 0. -/
def NoG (w : World) (p : Option Addr) : Prop := p = none ∨ ∃ g, p = some ⟨g, 0, none⟩ ∧ w.heap[g]? = some (.cells (gcells 0 0 0 0 0 0 0 false 0 false) 58 (0, 0))
theorem NoG.call {w w' : World} {p : Option Addr} (h : NoG w p) (hb : Below w.heap.size w w') : NoG w' p := by
  rcases h with h | ⟨g, h1, h2⟩
  · exact .inl h
  · exact .inr ⟨g, h1, blk_call h2 hb⟩
theorem NoG.alloc {w : World} {p : Option Addr} (h : NoG w p) (o : Obj) : NoG (w.alloc o) p := h.call ((Below.refl _ _).alloc (Nat.le_refl _) _)
def zeroD : Value := .agg #[.bool false, .int .i64 0, .int .i64 0]
set_option maxHeartbeats 1000000 in
set_option maxRecDepth 100000 in
theorem bind_none (p : Option Addr) (h : Bool) (why want t : Int) (w : World) (hg : NoG w p) :
    Calls Try.prog 12 #[.pointer p, .agg #[.bool h, .int .i64 why, .int .i64 want], .int .i64 t] w fun e w' => e = .returned (.tuple #[.agg #[.bool false, .int .i64 0, .int .i64 0], .int .i64 4]) ∧ Below w.heap.size w w' := by
  rcases hg with rfl | ⟨g, rfl, hg⟩
  · go_enter Try.func12, Try.ntmps12
    go_wp2
    go_returns
    exact ⟨rfl, by go_grown⟩
  · have hlt := blk_lt hg
    have c1 := blk_cell hg 1
    simp [gcells] at c1
    clear hg
    go_enter Try.func12, Try.ntmps12
    go_wp2
    go_returns
    exact ⟨rfl, by go_grown⟩
theorem count_none (p : Option Addr) (w : World) (hg : NoG w p) : Calls Try.prog 11 #[.pointer p] w fun e w' => e = .returned (.int .i64 0) ∧ w = w' := by
  rcases hg with rfl | ⟨g, rfl, hg⟩
  · go_enter Try.func11, Try.ntmps11
    go_wp2
    go_ret
    exact ⟨rfl, rfl⟩
  · have c1 := blk_cell hg 1
    simp [gcells] at c1
    clear hg
    go_enter Try.func11, Try.ntmps11
    go_wp2
    go_ret
    exact ⟨rfl, rfl⟩
theorem changed_none (p : Option Addr) (w : World) (hg : NoG w p) : Calls Try.prog 16 #[.pointer p] w fun e w' => e = .returned (.tuple #[.int .i64 0, .bool false]) ∧ w = w' := by
  rcases hg with rfl | ⟨g, rfl, hg⟩
  · go_enter Try.func16, Try.ntmps16
    go_wp2
    go_ret2
    exact ⟨rfl, rfl⟩
  · have c1 := blk_cell hg 1
    simp [gcells] at c1
    clear hg
    go_enter Try.func16, Try.ntmps16
    go_wp2
    go_ret2
    exact ⟨rfl, rfl⟩

/-- The world of a round: what is bound, the two gates, the zero gate. -/
def SN (bx bl bz : Nat) (h : Bool) (why want t : Int) (w w' : World) : Prop :=
  w'.heap[bx]? = some (.cells #[.bool h, .int .i64 why, .int .i64 want, .int .i64 t] 36 (0, 0)) ∧ w'.heap[bl]? = some (.cells #[.pointer none, .pointer (some ⟨bz, 0, none⟩)] 26 (0, 0)) ∧
  w'.heap[bz]? = some (.cells (gcells 0 0 0 0 0 0 0 false 0 false) 58 (0, 0)) ∧ Below w.heap.size w w'
theorem SN.call {bx bl bz : Nat} {h : Bool} {why want t : Int} {w w1 w2 : World} (hs : SN bx bl bz h why want t w w1) (hb : Below w1.heap.size w1 w2) : SN bx bl bz h why want t w w2 :=
  ⟨blk_call hs.1 hb, blk_call hs.2.1 hb, blk_call hs.2.2.1 hb, below_then hs.2.2.2 hb hs.2.2.2.size⟩
theorem SN.alloc {bx bl bz : Nat} {h : Bool} {why want t : Int} {w w1 : World} (hs : SN bx bl bz h why want t w w1) (o : Obj) : SN bx bl bz h why want t w (w1.alloc o) := hs.call ((Below.refl _ _).alloc (Nat.le_refl _) _)
theorem SN.drew {bx bl bz : Nat} {h : Bool} {why want t : Int} {w w1 : World} (hs : SN bx bl bz h why want t w w1) : SN bx bl bz h why want t w w1.drew := hs.call ((Below.refl _ _).drew)
theorem SN.set3 {bx bl bz : Nat} {h : Bool} {why want t : Int} {w w1 : World} (hs : SN bx bl bz h why want t w w1) (b : Nat) (h1 : bx ≠ b) (h2 : bl ≠ b) (h3 : bz ≠ b) (h4 : w.heap.size ≤ b) (x y z : Value) :
    SN bx bl bz h why want t w (((w1.setCell ⟨b, 0, none⟩ x).setCell ⟨b, 1, none⟩ y).setCell ⟨b, 2, none⟩ z) :=
  ⟨blk_far (blk_far (blk_far hs.1 h1 _) h1 _) h1 _, blk_far (blk_far (blk_far hs.2.1 h2 _) h2 _) h2 _, blk_far (blk_far (blk_far hs.2.2.1 h3 _) h3 _) h3 _, ((hs.2.2.2.setCell (p := ⟨b, 0, none⟩) h4 _).setCell (p := ⟨b, 1, none⟩) h4 _).setCell (p := ⟨b, 2, none⟩) h4 _⟩
def pick (bz k : Nat) : Option Addr := if k = 0 then none else some ⟨bz, 0, none⟩
theorem SN.all {bx bl bz : Nat} {h : Bool} {why want t : Int} {w w1 : World} (hs : SN bx bl bz h why want t w w1) (k : Nat) (hk : k < 2) :
    SN bx bl bz h why want t w w1 ∧ NoG w1 (pick bz k) ∧ w1.cell? ⟨bl, k, none⟩ = some (.pointer (pick bz k)) ∧ w1.cell? ⟨bx, 0, none⟩ = some (.bool h) ∧ w1.cell? ⟨bx, 1, none⟩ = some (.int .i64 why) ∧ w1.cell? ⟨bx, 2, none⟩ = some (.int .i64 want) ∧ w1.cell? ⟨bx, 3, none⟩ = some (.int .i64 t) := by
  refine ⟨hs, ?_, ?_, blk_cell hs.1 0, blk_cell hs.1 1, blk_cell hs.1 2, blk_cell hs.1 3⟩
  · unfold pick; split
    · exact .inl rfl
    · exact .inr ⟨bz, rfl, hs.2.2.1⟩
  · have : k = 0 ∨ k = 1 := by omega
    rcases this with rfl | rfl
    · exact blk_cell hs.2.1 0
    · exact blk_cell hs.2.1 1
set_option maxHeartbeats 8000000 in
set_option maxRecDepth 100000 in
theorem walk (h : Bool) (why want t : Int) (w : World) :
    Calls Try.prog 7 #[.agg #[.bool h, .int .i64 why, .int .i64 want, .int .i64 t]] w fun e w' => e = .returned (.bool true) ∧ Below w.heap.size w w' := by
  go_enter Try.func7, Try.ntmps7
  go_wp2_with fail
  refine (awake_any _).mono ?_
  rintro e w1 ⟨rfl, hb⟩
  have hbox := blk_call (blk_new w (.cells #[.bool h, .int .i64 why, .int .i64 want, .int .i64 t] 36)) hb
  have HB1 := Lib.hid (below_then ((Below.refl _ _).alloc (Nat.le_refl _) _) hb (by simp)); clear hb
  have HBX := Lib.hid hbox; clear hbox
  go_wp2_with fail
  have hSN : SN w.heap.size (w1.heap.size + 1) w1.heap.size h why want t w ((w1.alloc (.cells (gcells 0 0 0 0 0 0 0 false 0 false) 58)).alloc (.cells #[.pointer none, .pointer (some ⟨w1.heap.size, 0, none⟩)] 26)) :=
    ⟨blk_alloc (blk_alloc HBX.out _) _, blk_at _ _ _ (by simp), blk_alloc (blk_new _ _) _, (HB1.out.alloc HB1.out.size _).alloc (by have := HB1.out.size; simp; omega) _⟩
  have HSN := Lib.hid hSN
  clear hSN HBX HB1
  go_loopw [5] (fun v5 wr => ∃ k : Nat, k ≤ 2 ∧ v5 = .int .i64 k ∧ SN w.heap.size (w1.heap.size + 1) w1.heap.size h why want t w wr) (fun v5 _ => 2 - (intOf v5).toNat)
  case atStart => exact ⟨0, by omega, rfl, HSN.out⟩
  case round =>
    clear HSN
    obtain ⟨k, hk, rfl, hS⟩ := hrel
    by_cases hlt : k < 2
    · have hk0 : (k : Int) < 2 := by omega
      have hk1 : 0 ≤ (k : Int) := by omega
      go_upto_region 8 with (fail)
      go_cut [6, 7] (fun s6 s7 wx => ∃ b : Nat, s6 = .pointer (some ⟨b, 0, none⟩) ∧ s7 = .int .i64 4 ∧ wx.heap[b]? = some (.cells #[.bool false, .int .i64 0, .int .i64 0] 39 (0, 0)) ∧ SN w.heap.size (w1.heap.size + 1) w1.heap.size h why want t w wx)
      case first =>
        go_region_held3 (fun w' => SN w.heap.size (w1.heap.size + 1) w1.heap.size h why want t w w' ∧ NoG w' (pick w1.heap.size k) ∧ w'.cell? ⟨w1.heap.size + 1, k, none⟩ = some (.pointer (pick w1.heap.size k)) ∧ w'.cell? ⟨w.heap.size, 0, none⟩ = some (.bool h) ∧ w'.cell? ⟨w.heap.size, 1, none⟩ = some (.int .i64 why) ∧ w'.cell? ⟨w.heap.size, 2, none⟩ = some (.int .i64 want) ∧ w'.cell? ⟨w.heap.size, 3, none⟩ = some (.int .i64 t))
          (first | exact SN.all hS.drew k hlt | exact SN.all (hS.alloc _).drew k hlt | exact SN.all hS4 k hlt | exact SN.all (hS4.alloc _) k hlt | exact SN.all (hS4.set3 wr.heap.size (Nat.ne_of_lt (blk_lt hS.1)) (Nat.ne_of_lt (blk_lt hS.2.1)) (Nat.ne_of_lt (blk_lt hS.2.2.1)) hS.2.2.2.size _ _ _) k hlt)
          (first
            | (go_at_call 12; refine (bind_none (pick w1.heap.size k) h why want t _ ?_).mono ?_; (exact (SN.all hS.drew k hlt).2.1); rintro e w4 ⟨rfl, hb4⟩; have hS4 := hS.drew.call hb4)
            | (go_at_call 12; refine (bind_none (pick w1.heap.size k) h why want t _ ?_).mono ?_; (exact (SN.all (hS.alloc _).drew k hlt).2.1); rintro e w4 ⟨rfl, hb4⟩; have hS4 := (hS.alloc _).drew.call hb4
               have hbx : w4.heap[wr.heap.size]? = some (.cells #[.bool false, .int .i64 0, .int .i64 0] 39 (0, 0)) := blk_call (blk_drew (blk_new wr _)) hb4
               have hbl := blk_lt hbx
               have x0 := blk_cell hbx 0
               have x1 := blk_cell hbx 1
               have x2 := blk_cell hbx 2
               have g0 := blk_frozen hbx 0
               have g1 := blk_frozen hbx 1
               have g2 := blk_frozen hbx 2
               simp at x0 x1 x2))
        · go_wp2_with fail
          go_meet
          exact ⟨_, rfl, rfl, blk_new _ _, hS4.alloc _⟩
        · go_wp2_with fail
          go_meet
          exact ⟨_, rfl, rfl, blk_set (blk_set (blk_set hbx 0 _) 1 _) 2 _, hS4.set3 wr.heap.size (Nat.ne_of_lt (blk_lt hS.1)) (Nat.ne_of_lt (blk_lt hS.2.1)) (Nat.ne_of_lt (blk_lt hS.2.2.1)) hS.2.2.2.size _ _ _⟩
      case rest =>
        obtain ⟨b, rfl, rfl, hbx, hS2⟩ := hcut
        have hbl := blk_lt hbx
        have x0 := blk_cell hbx 0
        have x1 := blk_cell hbx 1
        have x2 := blk_cell hbx 2
        simp at x0 x1 x2
        obtain ⟨_, hn, d0, d1, d2, d3, d4⟩ := SN.all hS2 k hlt
        have HS2 := Lib.hid hS2; have HN := Lib.hid hn
        clear hS2 hS hbx hn
        go_wp2_with fail
        refine (changed_none (pick w1.heap.size k) _ HN.out).mono ?_
        rintro e w5 ⟨rfl, rfl⟩
        go_wp2_with fail
        refine (count_none (pick w1.heap.size k) _ HN.out).mono ?_
        rintro e w5 ⟨rfl, rfl⟩
        go_wp2_with fail
        go_roundw
        case rel => exact ⟨k + 1, by omega, by go_num, HS2.out⟩
        case measure => simp [intOf]; omega
    · have hk2 : k = 2 := by omega
      subst hk2
      have HB := Lib.hid hS.2.2.2; clear hS
      go_wp2
      go_ret
      exact ⟨rfl, HB.out⟩
end Go.Proofs.Ytalefchapckcoaa.Gn
