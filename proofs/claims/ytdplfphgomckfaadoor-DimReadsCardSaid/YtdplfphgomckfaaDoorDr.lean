/- capstanref02.side, walked. Conditions: as each theorem states. -/
import Derived.Test.YtdplfphgomckfaaDoorDe
namespace Go.Proofs.YtdplfphgomckfaaDoor.Dr
set_option linter.unusedVariables false
set_option linter.unusedSimpArgs false
open Go.RowKit Go.Proofs.YtdplfphgomckfaaDoorW.PrintWords Go.Proofs.YtdplfphgomckfaaDoor.Laid Go.Proofs.YtdplfphgomckfaaDoor.Da Go.Proofs.YtdplfphgomckfaaDoor.Db
def MX : Nat := 1000000000000000
/-- n times q, so often; none: above the limit on the way. -/
def pw (q : Nat) : Nat → Nat → Option Nat
  | 0, n => some n
  | k + 1, n => if n * q > 1000000000000000 then none else pw q k (n * q)
def prm : Nat → Nat | 0 => 2 | 1 => 3 | _ => 5
/-- What is left to do from prime i on. -/
def sdF (e : Nat → Nat) : Nat → Nat → Nat → Option Nat
  | 0, _, n => some n
  | g + 1, i, n => (pw (prm i) (e i) n).bind fun m => sdF e g (i + 1) m
def sideV (e : Nat → Nat) : Nat := match sdF e 3 0 1 with | none => 1000000000000001 | some n => n
theorem prm_bd (i : Nat) : 2 ≤ prm i ∧ prm i ≤ 5 := by unfold prm; split <;> omega
def p3C (p : List Int) : Array Value := (p.map (Value.int .i64)).toArray
theorem p3C_at (p : List Int) (k : Nat) (h : k < p.length) : (p3C p)[k]? = some (.int .i64 (p.getD k 0)) := by
  unfold p3C
  simp [List.getD_eq_getElem?_getD, h]
def prC : Array Value := #[.int .i64 2, .int .i64 3, .int .i64 5]
theorem prC_at (k : Nat) (h : k < 3) : prC[k]? = some (.int .i64 (prm k : Nat)) := by
  have : k = 0 ∨ k = 1 ∨ k = 2 := by omega
  rcases this with rfl | rfl | rfl <;> rfl
def SPost (w : World) (v : Nat) (e : Ending) (w' : World) : Prop := e = .returned (.int .i64 (v : Int)) ∧ Below w.heap.size w w'
set_option maxHeartbeats 4000000 in
set_option maxRecDepth 100000 in
theorem side_any (x0 x1 x2 sg : Int) (p : List Int) (hp : p = [x0, x1, x2]) (hsg : sg = 1 ∨ sg = -1) (hb : ∀ x ∈ p, -1000000 ≤ x ∧ x ≤ 1000000) (e : Nat → Nat) (he : ∀ k, k < 3 → e k = (sg * p.getD k 0).toNat) (w : World) : Calls Tryd.prog 23 #[.agg #[.int .i64 x0, .int .i64 x1, .int .i64 x2], .int .i64 sg] w (SPost w (sideV e)) := by
  obtain ⟨V, hV⟩ : ∃ V, sideV e = V := ⟨_, rfl⟩
  rw [hV]
  have HV := Lib.hid hV
  have hl : p.length = 3 := by rw [hp]; rfl
  have HHB := Lib.hid hb
  have HE := Lib.hid he
  have hbox : (#[.int .i64 x0, .int .i64 x1, .int .i64 x2] : Array Value) = p3C p := by rw [hp]; rfl
  have HB0 := Lib.hid (((Below.refl w.heap.size w).alloc (Nat.le_refl _) (.cells #[.int .i64 x0, .int .i64 x1, .int .i64 x2] 46)).alloc (by simp) (.cells prC 81))
  have HP0 := Lib.hid (show ((w.alloc (.cells #[.int .i64 x0, .int .i64 x1, .int .i64 x2] 46)).alloc (.cells prC 81)).heap[w.heap.size]? = some (.cells (p3C p) 46 (0, 0)) from by rw [← hbox]; exact Blk.blk_alloc (Blk.blk_new w _) _)
  have HQ0 := Lib.hid (Blk.blk_at (w.alloc (.cells #[.int .i64 x0, .int .i64 x1, .int .i64 x2] 46)) (.cells prC 81) (w.heap.size + 1) (by simp))
  obtain ⟨W0, hW0⟩ : ∃ W, (w.alloc (.cells #[.int .i64 x0, .int .i64 x1, .int .i64 x2] 46)).alloc (.cells prC 81) = W := ⟨_, rfl⟩
  obtain ⟨b, hbb⟩ : ∃ b, w.heap.size = b := ⟨_, rfl⟩
  rw [hW0] at HB0 HP0 HQ0
  rw [hbb] at HP0 HQ0
  unfold prC at hW0
  clear hV hb he hbox hp
  go_enter Tryd.func23, Tryd.ntmps23
  go_wp2_with fail
  try rw [hW0]
  try simp only [hbb]
  have HW := Lib.hid (And.intro hW0 hbb)
  clear hW0 hbb
  go_loopg [5, 7] 3 (fun gf v5 v7 wx => ∃ (i n : Nat), v7 = .int .i64 i ∧ v5 = .int .i64 n ∧ i + gf = 3 ∧ n ≤ 1000000000000000 ∧ wx = W0 ∧ Hid ((match sdF e gf i n with | none => 1000000000000001 | some n => n) = V))
  case atStart => exact ⟨0, 1, rfl, rfl, by omega, by omega, rfl, HV⟩
  case round =>
    obtain ⟨i, n, rfl, rfl, hi, hn, rfl, HR⟩ := hrel
    by_cases hlt : i < 3
    · obtain ⟨g', rfl⟩ : ∃ g', gk = g' + 1 := ⟨gk - 1, by omega⟩
      have q0 : decide ((i : Int) < 3) = true := by simp; omega
      have y1 := (Blk.blk_cell HP0.out i).trans (p3C_at p i (by omega))
      have y2 := (Blk.blk_cell HQ0.out i).trans (prC_at i hlt)
      have hpi := HHB.out (p.getD i 0) (by rw [List.getD_eq_getElem?_getD, List.getElem?_eq_getElem (by omega : i < p.length)]; exact List.getElem_mem _)
      have hei := HE.out i hlt
      obtain ⟨x, hx⟩ : ∃ x, p.getD i 0 = x := ⟨_, rfl⟩
      rw [hx] at y1 hpi hei
      obtain ⟨q, hq⟩ : ∃ q, prm i = q := ⟨_, rfl⟩
      have hqb := prm_bd i
      rw [hq] at y2 hqb
      obtain ⟨E, hE⟩ : ∃ E, e i = E := ⟨_, rfl⟩
      rw [hE] at hei
      have hEb : E ≤ 1000000 := by rcases hsg with rfl | rfl <;> omega
      obtain ⟨sx, hsx⟩ : ∃ sx, sg * x = sx := ⟨_, rfl⟩
      have hsxb : -1000000 ≤ sx ∧ sx ≤ 1000000 := by rcases hsg with rfl | rfl <;> omega
      rw [hsx] at hei
      have hwr : IntKind.i64.wrap sx = sx := by rw [IntKind.wrap_i64]; omega
      have hw64 : wrap64 sx = sx := by unfold wrap64; omega
      have hres := HR.out
      rw [sdF, hq, hE] at hres
      have HRR := Lib.hid hres
      clear hres HR hx hq hE
      go_wp2_with fail
      go_loopg [5, 8] E (fun gf v5 v8 wx => ∃ (k m : Nat), v8 = .int .i64 k ∧ v5 = .int .i64 m ∧ k + gf = E ∧ m ≤ 1000000000000000 ∧ wx = wr ∧ Hid ((match (pw q gf m).bind (fun m => sdF e g' (i + 1) m) with | none => 1000000000000001 | some n => n) = V))
      case atStart => exact ⟨0, n, rfl, rfl, by omega, hn, rfl, HRR⟩
      case round =>
        clear HRR
        obtain ⟨k, m, rfl, rfl, hk, hm, rfl, HR⟩ := hrel
        by_cases hlk : k < E
        · obtain ⟨g2, rfl⟩ : ∃ g', gk = g' + 1 := ⟨gk - 1, by omega⟩
          have q1 : decide ((k : Int) < sx) = true := by simp; omega
          have hb1 : m * q ≤ 1000000000000000 * 5 := Nat.mul_le_mul hm hqb.2
          obtain ⟨mq, hmq⟩ : ∃ x, m * q = x := ⟨_, rfl⟩
          have hmqI : (m : Int) * (q : Int) = (mq : Int) := by rw [← hmq]; exact (Int.natCast_mul m q).symm
          rw [hmq] at hb1
          have hres := HR.out
          rw [pw, hmq] at hres
          clear hmq HR
          by_cases hbig : mq > 1000000000000000
          · rw [if_pos hbig] at hres
            have hres2 : 1000000000000001 = V := hres
            subst hres2
            have q2 : decide ((mq : Int) > 1000000000000000) = true := by simp; omega
            have HBG := Lib.hid hbig
            clear hres hbig
            go_wp2_with fail
            go_ret
            exact ⟨rfl, HB0.out⟩
          · rw [if_neg hbig] at hres
            have HRN := Lib.hid hres
            have q2 : decide ((mq : Int) > 1000000000000000) = false := by simp; omega
            clear hres
            go_wp2_with fail
            go_roundg g2
            case measure => omega
            case rel => exact ⟨k + 1, mq, by go_num, rfl, by omega, by omega, rfl, HRN⟩
        · obtain rfl : gk = 0 := by omega
          obtain rfl : k = E := by omega
          have q1 : decide ((k : Int) < sx) = false := by simp; omega
          have hres := HR.out
          rw [pw, Option.bind_some] at hres
          have HRN := Lib.hid hres
          clear hres HR
          go_wp2_with fail
          go_roundg g'
          case measure => omega
          case rel => exact ⟨i + 1, m, by go_num, rfl, by omega, hm, rfl, HRN⟩
    · obtain rfl : gk = 0 := by omega
      obtain rfl : i = 3 := by omega
      have q0 : decide (((3 : Nat) : Int) < 3) = false := by decide
      have hres := HR.out
      rw [sdF] at hres
      have hres2 : n = V := hres
      subst hres2
      clear hres
      go_wp2_with fail
      go_ret
      exact ⟨rfl, HB0.out⟩
end Go.Proofs.YtdplfphgomckfaaDoor.Dr
