/- dim.factor. Conditions: as each theorem states. -/
import Derived.Test.YtdplfphgomckfaaDoorDa
import Derived.Test.YtdplfphgomckfaaDoorShelf
import Derived.Test.YtdplfphgomckfaaDoorBlk
import Derived.Deep.LoopGhost
import Derived.Deep.MidRow
import Derived.Deep.Cut
import Derived.Deep.CutBlock
import Derived.Outline
import Derived.Lib.AtoiErrMem
namespace Go.Proofs.YtdplfphgomckfaaDoor.Db
set_option linter.unusedVariables false
set_option linter.unusedSimpArgs false
open Go.RowKit Go.Proofs.YtdplfphgomckfaaDoorW.PrintWords Go.Proofs.YtdplfphgomckfaaDoor.Laid Go.Proofs.YtdplfphgomckfaaDoor.Da
def zr : Rw := ⟨[], 0, 0, 0⟩
def bs (l : List UInt8) : ByteArray := ⟨l.toArray⟩
/-- The last row of the first i whose name is nb. -/
def lastRow (nb : ByteArray) : Nat → Option Rw
  | 0 => none
  | i + 1 => if ((bs (table.getD i zr).name).toList == nb.toList) = true then some (table.getD i zr) else lastRow nb i
def rowC (r : Rw) : Array Value := #[.string (bs r.name), .int .i64 r.num, .int .i64 r.den, .int .i64 r.base]
theorem ir0 (W : World) : (Instr.index 71 (.agg tabC) (.int .i64 0)).run Tryd.prog W = .ok (.agg (rowC (table.getD 0 zr))) W := by kernel_rfl
theorem ir1 (W : World) : (Instr.index 71 (.agg tabC) (.int .i64 1)).run Tryd.prog W = .ok (.agg (rowC (table.getD 1 zr))) W := by kernel_rfl
theorem ir2 (W : World) : (Instr.index 71 (.agg tabC) (.int .i64 2)).run Tryd.prog W = .ok (.agg (rowC (table.getD 2 zr))) W := by kernel_rfl
theorem ir3 (W : World) : (Instr.index 71 (.agg tabC) (.int .i64 3)).run Tryd.prog W = .ok (.agg (rowC (table.getD 3 zr))) W := by kernel_rfl
theorem ir4 (W : World) : (Instr.index 71 (.agg tabC) (.int .i64 4)).run Tryd.prog W = .ok (.agg (rowC (table.getD 4 zr))) W := by kernel_rfl
theorem ir5 (W : World) : (Instr.index 71 (.agg tabC) (.int .i64 5)).run Tryd.prog W = .ok (.agg (rowC (table.getD 5 zr))) W := by kernel_rfl
theorem ir6 (W : World) : (Instr.index 71 (.agg tabC) (.int .i64 6)).run Tryd.prog W = .ok (.agg (rowC (table.getD 6 zr))) W := by kernel_rfl
theorem ir7 (W : World) : (Instr.index 71 (.agg tabC) (.int .i64 7)).run Tryd.prog W = .ok (.agg (rowC (table.getD 7 zr))) W := by kernel_rfl
theorem ir8 (W : World) : (Instr.index 71 (.agg tabC) (.int .i64 8)).run Tryd.prog W = .ok (.agg (rowC (table.getD 8 zr))) W := by kernel_rfl
theorem ir9 (W : World) : (Instr.index 71 (.agg tabC) (.int .i64 9)).run Tryd.prog W = .ok (.agg (rowC (table.getD 9 zr))) W := by kernel_rfl
theorem ir10 (W : World) : (Instr.index 71 (.agg tabC) (.int .i64 10)).run Tryd.prog W = .ok (.agg (rowC (table.getD 10 zr))) W := by kernel_rfl
theorem ir11 (W : World) : (Instr.index 71 (.agg tabC) (.int .i64 11)).run Tryd.prog W = .ok (.agg (rowC (table.getD 11 zr))) W := by kernel_rfl
theorem ir12 (W : World) : (Instr.index 71 (.agg tabC) (.int .i64 12)).run Tryd.prog W = .ok (.agg (rowC (table.getD 12 zr))) W := by kernel_rfl
theorem ir13 (W : World) : (Instr.index 71 (.agg tabC) (.int .i64 13)).run Tryd.prog W = .ok (.agg (rowC (table.getD 13 zr))) W := by kernel_rfl
theorem ir14 (W : World) : (Instr.index 71 (.agg tabC) (.int .i64 14)).run Tryd.prog W = .ok (.agg (rowC (table.getD 14 zr))) W := by kernel_rfl
theorem ir15 (W : World) : (Instr.index 71 (.agg tabC) (.int .i64 15)).run Tryd.prog W = .ok (.agg (rowC (table.getD 15 zr))) W := by kernel_rfl
theorem ir16 (W : World) : (Instr.index 71 (.agg tabC) (.int .i64 16)).run Tryd.prog W = .ok (.agg (rowC (table.getD 16 zr))) W := by kernel_rfl
theorem ir17 (W : World) : (Instr.index 71 (.agg tabC) (.int .i64 17)).run Tryd.prog W = .ok (.agg (rowC (table.getD 17 zr))) W := by kernel_rfl
theorem index_row (i : Nat) (hi : i < 18) (W : World) : (Instr.index 71 (.agg tabC) (.int .i64 i)).run Tryd.prog W = .ok (.agg (rowC (table.getD i zr))) W := by
  have h : i = 0 ∨ i = 1 ∨ i = 2 ∨ i = 3 ∨ i = 4 ∨ i = 5 ∨ i = 6 ∨ i = 7 ∨ i = 8 ∨ i = 9 ∨ i = 10 ∨ i = 11 ∨ i = 12 ∨ i = 13 ∨ i = 14 ∨ i = 15 ∨ i = 16 ∨ i = 17 := by omega
  rcases h with rfl | rfl | rfl | rfl | rfl | rfl | rfl | rfl | rfl | rfl | rfl | rfl | rfl | rfl | rfl | rfl | rfl | rfl
  · exact ir0 W
  · exact ir1 W
  · exact ir2 W
  · exact ir3 W
  · exact ir4 W
  · exact ir5 W
  · exact ir6 W
  · exact ir7 W
  · exact ir8 W
  · exact ir9 W
  · exact ir10 W
  · exact ir11 W
  · exact ir12 W
  · exact ir13 W
  · exact ir14 W
  · exact ir15 W
  · exact ir16 W
  · exact ir17 W
def Fc (w : World) (b : Nat) (r : Rw) (wx : World) : Prop := Below w.heap.size w wx ∧ wx.heap[b]? = some (.cells (rowC r) 41 (0, 0)) ∧ w.heap.size ≤ b
theorem Fc.drewN {w : World} {b : Nat} {r : Rw} {wx : World} (h : Fc w b r wx) (n : Nat) : Fc w b r (wx.drewN n) := ⟨Blk.below_drewN h.1 n, h.2.1, h.2.2⟩
theorem Fc.alloc {w : World} {b : Nat} {r : Rw} {wx : World} (h : Fc w b r wx) (o : Obj) : Fc w b r (wx.alloc o) := ⟨h.1.alloc h.1.size _, Blk.blk_alloc h.2.1 o, h.2.2⟩
theorem Fc.store {w : World} {b : Nat} {r r' : Rw} {wx : World} (h : Fc w b r wx) : Fc w b r' ((((wx.setCell ⟨b, 0, none⟩ (.string (bs r'.name))).setCell ⟨b, 1, none⟩ (.int .i64 r'.num)).setCell ⟨b, 2, none⟩ (.int .i64 r'.den)).setCell ⟨b, 3, none⟩ (.int .i64 r'.base)) :=
  ⟨((((h.1.setCell (by exact h.2.2) _).setCell (by exact h.2.2) _).setCell (by exact h.2.2) _).setCell (by exact h.2.2) _), by
    have h1 := Blk.blk_set h.2.1 0 (.string (bs r'.name))
    have h2 := Blk.blk_set h1 1 (.int .i64 r'.num)
    have h3 := Blk.blk_set h2 2 (.int .i64 r'.den)
    exact Blk.blk_set h3 3 (.int .i64 r'.base), h.2.2⟩
theorem Fc.below {w : World} {b : Nat} {r : Rw} {wx wy : World} (h : Fc w b r wx) (hb : Below wx.heap.size wx wy) : Fc w b r wy := ⟨Blk.below_then h.1 hb h.1.size, hb.block _ (Blk.blk_lt h.2.1) |>.trans h.2.1, h.2.2⟩
theorem Fc.cells {w : World} {b : Nat} {r : Rw} {wx : World} (h : Fc w b r wx) : wx.cell? ⟨b, 0, none⟩ = some (.string (bs r.name)) ∧ wx.cell? ⟨b, 1, none⟩ = some (.int .i64 r.num) ∧ wx.cell? ⟨b, 2, none⟩ = some (.int .i64 r.den) ∧ wx.cell? ⟨b, 3, none⟩ = some (.int .i64 r.base) :=
  ⟨(Blk.blk_cell h.2.1 0).trans rfl, (Blk.blk_cell h.2.1 1).trans rfl, (Blk.blk_cell h.2.1 2).trans rfl, (Blk.blk_cell h.2.1 3).trans rfl⟩
theorem Fc.froz {w : World} {b : Nat} {r : Rw} {wx : World} (h : Fc w b r wx) : wx.frozen? ⟨b, 0, none⟩ = false ∧ wx.frozen? ⟨b, 1, none⟩ = false ∧ wx.frozen? ⟨b, 2, none⟩ = false ∧ wx.frozen? ⟨b, 3, none⟩ = false :=
  ⟨Blk.blk_frozen h.2.1 0, Blk.blk_frozen h.2.1 1, Blk.blk_frozen h.2.1 2, Blk.blk_frozen h.2.1 3⟩
theorem Fc.lt {w : World} {b : Nat} {r : Rw} {wx : World} (h : Fc w b r wx) : b < wx.heap.size := Blk.blk_lt h.2.1
/-- Two digits' value. -/
def val (a : Nat) (d : List UInt8) : Nat := d.foldl (fun a c => 10 * a + (c.toNat - 48)) a
theorem digB_iff (c : UInt8) : digB c = true ↔ 48 ≤ c.toNat ∧ c.toNat ≤ 57 := by
  unfold digB
  simp [UInt8.le_iff_toNat_le]
theorem decFrom_is : ∀ (d : List UInt8) (a : Nat), (∀ c ∈ d, digB c = true) → Lib.decFrom a d = some (val a d)
  | [], a, _ => rfl
  | c :: d, a, h => by
    have hc := (digB_iff c).1 (h c (List.mem_cons_self))
    unfold Lib.decFrom Lib.digitVal
    rw [if_pos (by omega)]
    simp only
    rw [decFrom_is d _ (fun x hx => h x (List.mem_cons_of_mem _ hx))]
    unfold val
    rw [List.foldl_cons, Nat.mul_comm]
theorem atoi_is (d : List UInt8) (h : ∀ c ∈ d, digB c = true) (h0 : d ≠ []) : Lib.atoi d = some ((val 0 d : Nat) : Int) := by
  cases d with
  | nil => exact absurd rfl h0
  | cons c d =>
    have hc := (digB_iff c).1 (h c (List.mem_cons_self))
    unfold Lib.atoi
    have n45 : (c == 45) = false := by
      rw [beq_eq_false_iff_ne]; rintro rfl; simp at hc
    have n43 : (c == 43) = false := by
      rw [beq_eq_false_iff_ne]; rintro rfl; simp at hc
    simp only [n45, n43, Bool.false_eq_true, if_false]
    unfold Lib.decNat
    rw [if_neg (by simp), decFrom_is _ _ h]
    rfl
/-- What factor answers: the row, how often, where it ends or is wrong, whether it is right. -/
def facH (s : ByteArray) (r : Rw) (d m : Nat) : Rw × Nat × Nat × Bool :=
  if m < 1 ∨ m > 3 ∨ s.data.toList.getD d 0 = 48 then (zr, 0, d, false) else (r, val 0 (s.extract d (d + m)).data.toList, d + m, true)
def facG (s : ByteArray) (a c : Nat) : Option Rw → Rw × Nat × Nat × Bool
  | none => (zr, 0, a, false)
  | some r => if c = s.size ∨ s.data.toList.getD c 0 ≠ 94 then (r, 1, c, true) else facH s r (c + 1) (tw digB (s.data.toList.drop (c + 1)))
def facF (s : ByteArray) (a : Nat) : Rw × Nat × Nat × Bool := facG s a (a + tw letB (s.data.toList.drop a)) (lastRow (s.extract a (a + tw letB (s.data.toList.drop a))) 18)
def FPost (w : World) (r : Rw × Nat × Nat × Bool) (e : Ending) (w' : World) : Prop := e = .returned (.tuple #[.agg (rowC r.1), .int .i64 (r.2.1 : Int), .int .i64 (r.2.2.1 : Int), .bool r.2.2.2]) ∧ Below w.heap.size w w'
theorem res19 (W : World) (b : Nat) (w : World) (r : Rw) (k t : Int) (o : Bool) (tmps : Array Value) (h4 : tmps.getD 4 undef = .pointer (some ⟨b, 0, none⟩)) (h5 : tmps.getD 5 undef = .int .i64 k) (h6 : tmps.getD 6 undef = .int .i64 t) (h7 : tmps.getD 7 undef = .bool o) (hF : Fc w b r W) : (results Tryd.f19 tmps).run Tryd.prog W = .ok (.tuple #[.agg (rowC r), .int .i64 k, .int .i64 t, .bool o]) W := by
  obtain ⟨c0, c1, c2, c3⟩ := hF.cells
  simp only [Array.getD_eq_getD_getElem?] at h4 h5 h6 h7
  simp [results, Tryd.results19, h4, h5, h6, h7, go_sem, c0, c1, c2, c3, rowC]
theorem info71 : (Tryd.prog.info? 71).map (·.size) = some 72 := by kernel_rfl
theorem info41 : (Tryd.prog.info? 41).map (·.size) = some 4 := by kernel_rfl
set_option maxHeartbeats 8000000 in
set_option maxRecDepth 100000 in
theorem factor_any (s : ByteArray) (at_ : Nat) (w : World) (hs : s.size ≤ 64) (ha : at_ ≤ s.size) (hL : Laid w) : Calls Tryd.prog 19 #[.string s, .int .i64 at_] w (FPost w (facF s at_)) := by
  obtain ⟨RES, hRES⟩ : ∃ R, facF s at_ = R := ⟨_, rfl⟩
  rw [hRES]
  unfold facF at hRES
  obtain ⟨l, hl⟩ : ∃ l, s.data.toList.drop at_ = l := ⟨_, rfl⟩
  have hex : (s.extract at_ s.size).data.toList = l := by rw [← hl]; simp; exact List.take_of_length_le (by simp)
  obtain ⟨n, hn⟩ : ∃ n, tw letB l = n := ⟨_, rfl⟩
  have hnb : at_ + n ≤ s.size := by have := tw_le letB l; rw [hn, ← hl, List.length_drop] at this; simp at this; omega
  have HC := Lib.hid (fun W => by have := run_letter (s.extract at_ s.size) W (by rw [ByteArray.size_extract]; omega); rw [hex, hn] at this; exact this)
  rw [hl, hn] at hRES
  have HL := Lib.hid hL
  obtain ⟨nb, hnbb⟩ : ∃ nb, s.extract at_ (at_ + n) = nb := ⟨_, rfl⟩
  rw [hnbb] at hRES
  have HR := Lib.hid hRES
  have HNB := Lib.hid hnbb
  clear hL hex hl hn hRES hnbb
  go_enter Tryd.func19, Tryd.ntmps19
  go_wp2_with fail
  refine (HC.out _).mono ?_
  rintro e w1 ⟨rfl, n0, rfl⟩
  go_upto_region 4 with fail
  rw [HNB.out]
  obtain ⟨b, hb⟩ : ∃ b, w.heap.size = b := ⟨_, rfl⟩
  have hF : Fc w b zr ((w.alloc (.cells (rowC zr) 41)).drewN n0) := ⟨Blk.below_drewN (((Below.refl w.heap.size w).alloc (Nat.le_refl _) _)) n0, by rw [← hb]; exact Blk.blk_new w _, by omega⟩
  obtain ⟨W0, hW0⟩ : ∃ W, (w.alloc (.cells #[.string ⟨#[]⟩, .int .i64 0, .int .i64 0, .int .i64 0] 41)).drewN n0 = W := ⟨_, rfl⟩
  rw [show (w.alloc (.cells (rowC zr) 41)).drewN n0 = W0 from hW0] at hF
  rw [hW0]
  simp only [hb]
  have RA : W0.rangeAt 1 0 tabC.toList := fun j v hj => by
    rw [Nat.zero_add]
    have := (HL.out.below hF.1).table_cell j
    rw [this, ← Array.getElem?_toList]; exact hj
  obtain ⟨TC, hTC⟩ : ∃ x, tabC = x := ⟨_, rfl⟩
  have hlen : TC.toList.length = 72 := by rw [← hTC]; rfl
  have HF := Lib.hid hF
  have hix := fun (i : Nat) (hi : i < 18) (W : World) => index_row i hi W
  rw [hTC] at RA
  simp only [hTC] at hix
  have HIX := Lib.hid hix
  clear hTC hF hW0 hb hix HC
  refine wp_region_list ?_
  refine wpList_load_mid rfl 71 (.global 1) rfl 1 0 (by simp [Act.eval]) TC.toList _ RA Tryd.underlying71 rfl (by rw [hlen]; exact info71) ?_
  clear RA hlen
  simp only [Act.put, List.setIfInBounds_toArray, List.set_cons_zero, List.set_cons_succ, Array.toArray_toList]
  go_upto_block 0 with fail
  go_cut [10] from 13 (fun v10 wc => ∃ o : Option Rw, v10 = .bool o.isSome ∧ Hid (lastRow nb 18 = o) ∧ Hid (Fc w b (o.getD zr) wc))
  case first =>
    go_wp2_with fail
    go_loopg [10, 24] 18 (fun gf v10 v24 wx => ∃ (i : Nat) (o : Option Rw), v24 = .int .i64 i ∧ i + gf = 18 ∧ v10 = .bool o.isSome ∧ Hid (lastRow nb i = o) ∧ Hid (Fc w b (o.getD zr) wx))
    case atStart => exact ⟨0, none, rfl, by omega, rfl, Lib.hid rfl, HF⟩
    case round =>
      clear HF
      obtain ⟨i, o, rfl, hi, rfl, HO, HF⟩ := hrel
      by_cases hlt : i < 18
      · obtain ⟨g', rfl⟩ : ∃ g', gk = g' + 1 := ⟨gk - 1, by omega⟩
        have q0 : decide ((i : Int) < 18) = true := by simp; omega
        have hidx := HIX.out i hlt
        obtain ⟨R, hR⟩ : ∃ R, table.getD i zr = R := ⟨_, rfl⟩
        rw [hR] at hidx
        unfold rowC at hidx
        have HRR := Lib.hid hR
        obtain ⟨NM, hNM⟩ : ∃ x, bs R.name = x := ⟨_, rfl⟩
        rw [hNM] at hidx
        have HNM := Lib.hid hNM
        clear hR hNM
        obtain ⟨y0, y1, y2, y3⟩ := HF.out.cells
        obtain ⟨z0, z1, z2, z3⟩ := HF.out.froz
        have hbl := HF.out.lt
        cases hq : (NM.toList == nb.toList) with
        | true =>
          have HS := Lib.hid (show lastRow nb (i + 1) = some R by unfold lastRow; rw [HRR.out, HNM.out, if_pos hq])
          go_wp2_with fail
          go_roundg g'
          case measure => omega
          case rel => exact ⟨i + 1, some R, by go_num, by omega, rfl, HS, Lib.hid (by rw [← HNM.out]; exact (HF.out.store (r' := R)).alloc _)⟩
        | false =>
          have HS := Lib.hid (show lastRow nb (i + 1) = o by unfold lastRow; rw [HRR.out, HNM.out, if_neg (by rw [hq]; decide)]; exact HO.out)
          go_wp2_with fail
          go_roundg g'
          case measure => omega
          case rel => exact ⟨i + 1, o, by go_num, by omega, rfl, HS, Lib.hid (HF.out.alloc _)⟩
      · obtain rfl : i = 18 := by omega
        have q0 : decide (((18 : Nat) : Int) < 18) = false := by decide
        go_wp2_with fail
        go_meet
        case rel => exact ⟨o, rfl, HO, HF⟩
  case rest =>
    clear HF HIX
    obtain ⟨o, rfl, HO, HF⟩ := hcut
    have hres := HR.out
    rw [HO.out] at hres
    obtain ⟨y0, y1, y2, y3⟩ := HF.out.cells
    obtain ⟨z0, z1, z2, z3⟩ := HF.out.froz
    cases o with
    | none =>
      unfold facG at hres
      subst hres
      clear HO HR
      go_wp2_with fail
      have hst := Lib.hid (HF.out.store (r' := zr))
      refine bodyPost_ret (v := .tuple #[.agg (rowC zr), .int .i64 0, .int .i64 at_, .bool false]) ?_ rfl ?_
      · exact res19 _ b w zr 0 at_ false _ rfl rfl rfl rfl hst.out
      · exact ⟨rfl, hst.out.1⟩
    | some r =>
      unfold facG at hres
      dsimp only at hres
      clear HO HR
      obtain ⟨c, hc⟩ : ∃ c, at_ + n = c := ⟨_, rfl⟩
      have hcI : (at_ : Int) + (n : Int) = (c : Int) := by omega
      rw [hc] at hres hnb
      have HC := Lib.hid hc
      clear hc
      simp only [Option.getD_some] at y0 y1 y2 y3 HF
      by_cases hcs : c = s.size
      · rw [if_pos (.inl hcs)] at hres
        subst hres
        have e1 : ((c : Int) == (s.size : Int)) = true := by simp; omega
        have HCS := Lib.hid hcs
        clear hcs
        go_wp2_with fail
        have hst := Lib.hid (HF.out.store (r' := r))
        refine bodyPost_ret (v := .tuple #[.agg (rowC r), .int .i64 1, .int .i64 c, .bool true]) ?_ rfl ?_
        · exact res19 _ b w r 1 c true _ rfl rfl rfl rfl hst.out
        · exact ⟨rfl, hst.out.1⟩
      · have e1 : ((c : Int) == (s.size : Int)) = false := by simp; omega
        have hlt : c < s.size := by omega
        have hg : s.data.toList.getD c 0 = s[c] := by
          rw [List.getD_eq_getElem?_getD, List.getElem?_eq_getElem (by simpa using hlt)]; rfl
        obtain ⟨x, hx⟩ : ∃ x : UInt8, s[c] = x := ⟨_, rfl⟩
        rw [hg, hx] at hres
        by_cases hx94 : x = 94
        · rw [if_neg (by rintro (h | h); exact hcs h; exact h hx94)] at hres
          have e2 : ((x.toNat : Int) == 94) = true := by rw [hx94]; rfl
          have e3 : ((x.toNat : Int) != 94) = false := by rw [hx94]; rfl
          clear hcs hg hx94
          obtain ⟨d, hd⟩ : ∃ d, c + 1 = d := ⟨_, rfl⟩
          have hdI : (c : Int) + 1 = (d : Int) := by omega
          have hds : d ≤ s.size := by omega
          rw [hd] at hres
          obtain ⟨l2, hl2⟩ : ∃ l, s.data.toList.drop d = l := ⟨_, rfl⟩
          have hex2 : (s.extract d s.size).data.toList = l2 := by rw [← hl2]; simp; exact List.take_of_length_le (by simp)
          obtain ⟨m, hm⟩ : ∃ n, tw digB l2 = n := ⟨_, rfl⟩
          have hmb : d + m ≤ s.size := by have := tw_le digB l2; rw [hm, ← hl2, List.length_drop] at this; simp at this; omega
          have HD := Lib.hid (fun W => by have := run_digit (s.extract d s.size) W (by rw [ByteArray.size_extract]; omega); rw [hex2, hm] at this; exact this)
          have hcut : (s.extract d (d + m)).data.toList = l2.takeWhile digB := by
            rw [Lib.extract_data, show d + m - d = m from by omega, hl2]
            have h := List.prefix_iff_eq_take.1 (List.takeWhile_prefix (l := l2) digB)
            rw [show (l2.takeWhile digB).length = m from hm] at h
            exact h.symm
          have HCUT := Lib.hid hcut
          rw [hl2, hm] at hres
          unfold facH at hres
          have HRS := Lib.hid hres
          have HM := Lib.hid hm
          clear hd hl2 hex2 hm hcut hres
          go_wp2_with fail
          refine (HD.out _).mono ?_
          rintro e w2 ⟨rfl, n1, rfl⟩
          have HF2 := Lib.hid (HF.out.drewN n1)
          obtain ⟨W2, hW2⟩ : ∃ W, wc.drewN n1 = W := ⟨_, rfl⟩
          rw [hW2] at HF2 ⊢
          clear HF hW2 y0 y1 y2 y3 z0 z1 z2 z3 e1 e2 e3 HD
          obtain ⟨y0, y1, y2, y3⟩ := HF2.out.cells
          obtain ⟨z0, z1, z2, z3⟩ := HF2.out.froz
          by_cases hm1 : m < 1
          · have hres := HRS.out
            rw [if_pos (.inl hm1)] at hres
            subst hres
            have q1 : decide ((m : Int) < 1) = true := by simp; omega
            have HM1 := Lib.hid hm1
            clear hm1 HRS
            go_wp2_with fail
            have hst := Lib.hid (HF2.out.store (r' := zr))
            refine bodyPost_ret (v := .tuple #[.agg (rowC zr), .int .i64 0, .int .i64 d, .bool false]) ?_ rfl ?_
            · exact res19 _ b w zr 0 d false _ rfl rfl rfl rfl hst.out
            · exact ⟨rfl, hst.out.1⟩
          by_cases hm3 : m > 3
          · have hres := HRS.out
            rw [if_pos (.inr (.inl hm3))] at hres
            subst hres
            have q1 : decide ((m : Int) < 1) = false := by simp; omega
            have q2 : decide ((m : Int) > 3) = true := by simp; omega
            have q3 : decide (3 < (m : Int)) = true := by simp; omega
            have HM1 := Lib.hid hm1
            clear hm1 hm3 HRS
            go_wp2_with fail
            have hst := Lib.hid (HF2.out.store (r' := zr))
            refine bodyPost_ret (v := .tuple #[.agg (rowC zr), .int .i64 0, .int .i64 d, .bool false]) ?_ rfl ?_
            · exact res19 _ b w zr 0 d false _ rfl rfl rfl rfl hst.out
            · exact ⟨rfl, hst.out.1⟩
          have q1 : decide ((m : Int) < 1) = false := by simp; omega
          have q2 : decide ((m : Int) > 3) = false := by simp; omega
          have q3 : decide (3 < (m : Int)) = false := by simp; omega
          have hdlt : d < s.size := by omega
          have hg : s.data.toList.getD d 0 = s[d] := by
            rw [List.getD_eq_getElem?_getD, List.getElem?_eq_getElem (by simpa using hdlt)]; rfl
          obtain ⟨z, hz⟩ : ∃ x : UInt8, s[d] = x := ⟨_, rfl⟩
          have hres := HRS.out
          rw [hg, hz] at hres
          by_cases hz48 : z = 48
          · rw [if_pos (.inr (.inr hz48))] at hres
            subst hres
            have q4 : ((z.toNat : Int) == 48) = true := by rw [hz48]; rfl
            clear hz48 hg HRS
            go_wp2_with fail
            have hst := Lib.hid (HF2.out.store (r' := zr))
            refine bodyPost_ret (v := .tuple #[.agg (rowC zr), .int .i64 0, .int .i64 d, .bool false]) ?_ rfl ?_
            · exact res19 _ b w zr 0 d false _ rfl rfl rfl rfl hst.out
            · exact ⟨rfl, hst.out.1⟩
          · rw [if_neg (by rintro (h | h | h); exact hm1 h; exact hm3 h; exact hz48 h)] at hres
            subst hres
            have hne : ¬ z.toNat = 48 := fun h => hz48 (UInt8.toNat_inj.1 h)
            have q4 : ((z.toNat : Int) == 48) = false := by simp; omega
            obtain ⟨dm, hdm⟩ : ∃ k, d + m = k := ⟨_, rfl⟩
            have hdmI : (d : Int) + (m : Int) = (dm : Int) := by omega
            rw [hdm] at HCUT hmb
            obtain ⟨D, hD⟩ : ∃ D, s.extract d dm = D := ⟨_, rfl⟩
            rw [hD] at HCUT
            have hDs : D.size ≤ 3 := by rw [← hD, ByteArray.size_extract]; omega
            have hDl : D.data.toList ≠ [] := by
              intro h0
              have : D.size = 0 := by rw [← ByteArray.size_data]; simpa using congrArg List.length h0
              rw [← hD, ByteArray.size_extract] at this
              omega
            have hat : Lib.atoi D.data.toList = some ((val 0 D.data.toList : Nat) : Int) := by
              refine atoi_is _ ?_ hDl
              rw [HCUT.out]
              intro c hc
              have := List.all_takeWhile (l := l2) (p := digB)
              rw [List.all_eq_true] at this
              exact this c hc
            have HA := Lib.hid (fun W => Tryd.strconv_Atoi D _ (by omega) hat W)
            have HDD := Lib.hid hD; have HDM := Lib.hid hdm
            clear hz48 hg HRS hne hm1 hm3 hDl hat hDs hdm hD
            have hD2 := HDD.out
            go_wp2_with fail
            refine (HA.out _).mono ?_
            rintro e w3 ⟨rfl, t, rfl⟩
            have HF3 := Lib.hid (HF2.out.below (Lib.bytesWorld_below W2 5 t))
            obtain ⟨W3, hW3⟩ : ∃ W, Lib.bytesWorld W2 5 t = W := ⟨_, rfl⟩
            rw [hW3] at HF3 ⊢
            clear hW3 HF2 y0 y1 y2 y3 z0 z1 z2 z3 HA hD2
            obtain ⟨y0, y1, y2, y3⟩ := HF3.out.cells
            obtain ⟨z0, z1, z2, z3⟩ := HF3.out.froz
            obtain ⟨V, hV⟩ : ∃ V : Nat, val 0 D.data.toList = V := ⟨_, rfl⟩
            rw [hV]
            have HV := Lib.hid hV
            clear hV
            go_wp2_with fail
            have hst := Lib.hid (HF3.out.store (r' := r))
            refine bodyPost_ret (v := .tuple #[.agg (rowC r), .int .i64 V, .int .i64 dm, .bool true]) ?_ rfl ?_
            · exact res19 _ b w r V dm true _ rfl rfl rfl rfl hst.out
            · exact ⟨by rw [HDM.out, HDD.out, HV.out], hst.out.1⟩
        · rw [if_pos (.inr hx94)] at hres
          subst hres
          have hne : ¬ x.toNat = 94 := fun h => hx94 (UInt8.toNat_inj.1 h)
          have e2 : ((x.toNat : Int) == 94) = false := by simp; omega
          have e3 : ((x.toNat : Int) != 94) = true := by simp; omega
          clear hcs hg hx94 hne
          go_wp2_with fail
          have hst := Lib.hid (HF.out.store (r' := r))
          refine bodyPost_ret (v := .tuple #[.agg (rowC r), .int .i64 1, .int .i64 c, .bool true]) ?_ rfl ?_
          · exact res19 _ b w r 1 c true _ rfl rfl rfl rfl hst.out
          · exact ⟨rfl, hst.out.1⟩
end Go.Proofs.YtdplfphgomckfaaDoor.Db
