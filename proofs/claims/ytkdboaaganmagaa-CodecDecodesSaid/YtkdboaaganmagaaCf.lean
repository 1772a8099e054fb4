/- codec.Decode. -/
import Derived.Test.YtkdboaaganmagaaCe
import Derived.Test.YtkdboaaganmagaaCf0
import Derived.Test.YtkdboaaganmagaaCf1
import Derived.Recover
import Derived.Defers
import Derived.Deep.RegionHeld
namespace Go.Proofs.Ytkdboaaganmagaa.Cf
set_option linter.unusedVariables false
set_option linter.unusedSimpArgs false
open Go.RowKit Go.Proofs.YtkdboaaganmagaaW.PrintWords Go.Proofs.Ytkdboaaganmagaa.OP Go.Proofs.Ytkdboaaganmagaa.Ca Go.Proofs.Ytkdboaaganmagaa.Cd Go.Proofs.Ytkdboaaganmagaa.Ce Go.Proofs.Ytkdboaaganmagaa.Cf0
def DPost (w : World) (p : Pg) (err : Int) (e : Ending) (w' : World) : Prop := ∃ v6 v7 v8 v11 : Value, e = .returned (.tuple #[.agg (PB p v6 v7 v8 v11), .int .i64 err]) ∧ Ce.Rows w.heap.size w' p v6 v7 v8 v11 ∧ Below w.heap.size w w'
theorem zrows (B : Nat) (W : World) : Ce.Rows B W Zg (.slice none 0 0) (.slice none 0 0) (.slice none 0 0) (.slice none 0 0) := ⟨Kd.R_nil _ _ _ _ _, Kd.R_nil _ _ _ _ _, Kd.R_nil _ _ _ _ _, Kd.R_nil _ _ _ _ _⟩
theorem i29 : (Try.prog.info? 29).map (·.size) = some 12 := by kernel_rfl
theorem res13 (W : World) (B : Nat) (PV : Array Value) (err : Int) (tmps : Array Value) (h2 : tmps.getD 2 undef = .pointer (some ⟨B, 0, none⟩)) (h3 : tmps.getD 3 undef = .pointer (some ⟨B + 1, 0, none⟩)) (hs : PV.size = 12) (hat : W.rangeAt B 0 PV.toList) (he : W.cell? ⟨B + 1, 0, none⟩ = some (.int .i64 err)) : (results Try.f13 tmps).run Try.prog W = .ok (.tuple #[.agg PV, .int .i64 err]) W := by
  have h1 := run_loadVar_mid (P := Try.prog) W B 0 29 PV.toList _ hat Try.underlying29 rfl (by rw [Array.length_toList, hs]; exact i29)
  have h4 : (loadVar 32 ⟨B + 1, 0, none⟩).run Try.prog W = .ok (.int .i64 err) W := by simp [go_sem, he]
  simp only [Array.getD_eq_getD_getElem?] at h2 h3
  simp [results, Try.results13, h2, h3, asAddr, h1, h4]
set_option maxHeartbeats 2000000 in
set_option maxRecDepth 100000 in
theorem dec_long (A : Option Addr) (c : Nat) (l : List Int) (w : World) (hc : l.length ≤ c) (h : l.length > 1048576) : Calls Try.prog 13 #[.slice A l.length c] w (DPost w Zg 2) := by
  have hmf : ∀ (fn : Fn) (first cap : Array Value) (w : World), (Instr.makeFunc fn first cap).run Try.prog w = .ok (.func fn first cap) w := fun _ _ _ _ => rfl
  have h0 : decide ((l.length : Int) > 1048576) = true := by simp; omega
  go_enter_defers Try.func13, Try.ntmps13
  go_wp2
  refine ⟨.tuple #[.agg Z29, .int .i64 2], res13 _ w.heap.size Z29 2 _ rfl rfl rfl ?_ ?_, ?_⟩
  · exact range_blk (Blk.blk_alloc (Blk.blk_new w _) _)
  · simp [Z29]
  · exact ⟨_, _, _, _, rfl, zrows _ _, ((Below.refl _ _).alloc (Nat.le_refl _) _).alloc (by simp) _⟩
set_option maxHeartbeats 2000000 in
set_option maxRecDepth 100000 in
theorem dec_none (A : Option Addr) (c : Nat) (l : List Int) (w : World) (hr : Kd.C (Kd.int .u8) w A l.length l) (hc : l.length ≤ c) (h : ¬ l.length > 1048576) (hin : InB l) (hp : prog l = none) : Calls Try.prog 13 #[.slice A l.length c] w (DPost w Zg 40) := by
  have hmf : ∀ (fn : Fn) (first cap : Array Value) (w : World), (Instr.makeFunc fn first cap).run Try.prog w = .ok (.func fn first cap) w := fun _ _ _ _ => rfl
  have h0 : decide ((l.length : Int) > 1048576) = false := by simp; omega
  have HC := Lib.hid (fun W1 g (h1 : Rd w W1 g l) (h2 : Below w.heap.size w W1) => prog_any w W1 g l hin h1 h2)
  rw [hp] at HC
  have HR := Lib.hid hr; clear hr hp hin
  go_enter_defers Try.func13, Try.ntmps13
  go_wp2_with fail
  have hb1 := ((((Below.refl w.heap.size w).alloc (Nat.le_refl _) (.cells Z29 29)).alloc (by simp) (.cells #[.int .i64 0] 32))).alloc (by simp; omega) (.cells #[.slice A l.length c] 58)
  have k2 := Blk.blk_alloc (Blk.blk_alloc (Blk.blk_new w (.cells Z29 29)) (.cells #[.int .i64 0] 32)) (.cells #[.slice A l.length c] 58)
  have k3 := Blk.blk_alloc (Blk.blk_at (w.alloc (.cells Z29 29)) (.cells #[.int .i64 0] 32) (w.heap.size + 1) (by simp)) (.cells #[.slice A l.length c] 58)
  have k4 := Blk.blk_at ((w.alloc (.cells Z29 29)).alloc (.cells #[.int .i64 0] 32)) (.cells #[.slice A l.length c] 58) (w.heap.size + 2) (by simp)
  refine (HC.out _ _ ⟨A, c, k4, hc, HR.out, by omega⟩ hb1).mono ?_
  rintro e w1 ⟨rfl, hb, hk⟩
  refine leaves_cons (f := 22) (args := #[.pointer (some ⟨w.heap.size, 0, none⟩), .pointer (some ⟨w.heap.size + 1, 0, none⟩)]) (by simp) (by simp [go_sem]) ?_
  have m2 := hk.blk k2 (by omega) (by simp)
  have m3 := hk.blk k3 (by omega) (by simp)
  refine (catch_panicking w.heap.size 70 (.agg #[]) [] w1 m2 m3).mono ?_
  rintro e u' w'' ⟨rfl, rfl, rfl⟩
  simp only [settle, List.dropWhile_nil]
  have th := there_z m2
  refine ⟨.tuple #[.agg Z29, .int .i64 40], res13 _ w.heap.size Z29 40 _ rfl rfl rfl ?_ ?_, ?_⟩
  · intro j v hj
    refine (World.cell?_setCell_far _ _ _ _ (by simp)).trans ?_
    exact World.rangeAt_setCells_same w1 w.heap.size 0 Zp.toList th j v hj
  · have := Blk.blk_cell (Blk.blk_set (t := 32) (g := w.heap.size + 1) (cs := #[.int .i64 0]) (w := w1.setCells w.heap.size 0 Zp.toList) (by rw [heap_sets _ _ _ _ (w.heap.size + 1) (by omega)]; exact m3) 0 (.int .i64 40)) 0
    simpa using this
  · exact ⟨_, _, _, _, rfl, zrows _ _, (below_sets (Nat.le_refl _) hb _ _).setCell (by show w.heap.size ≤ w.heap.size + 1; omega) _⟩
set_option maxHeartbeats 2000000 in
set_option maxRecDepth 100000 in
theorem dec_some (A : Option Addr) (c : Nat) (l : List Int) (w : World) (p : Pg) (hr : Kd.C (Kd.int .u8) w A l.length l) (hc : l.length ≤ c) (h : ¬ l.length > 1048576) (hin : InB l) (hp : prog l = some p) : Calls Try.prog 13 #[.slice A l.length c] w (DPost w p 0) := by
  have hmf : ∀ (fn : Fn) (first cap : Array Value) (w : World), (Instr.makeFunc fn first cap).run Try.prog w = .ok (.func fn first cap) w := fun _ _ _ _ => rfl
  have h0 : decide ((l.length : Int) > 1048576) = false := by simp; omega
  have HC := Lib.hid (fun W1 g (h1 : Rd w W1 g l) (h2 : Below w.heap.size w W1) => prog_any w W1 g l hin h1 h2)
  rw [hp] at HC
  have HR := Lib.hid hr; clear hr hp hin
  go_enter_defers Try.func13, Try.ntmps13
  go_wp2_with fail
  have hb1 := ((((Below.refl w.heap.size w).alloc (Nat.le_refl _) (.cells Z29 29)).alloc (by simp) (.cells #[.int .i64 0] 32))).alloc (by simp; omega) (.cells #[.slice A l.length c] 58)
  have k2 := Blk.blk_alloc (Blk.blk_alloc (Blk.blk_new w (.cells Z29 29)) (.cells #[.int .i64 0] 32)) (.cells #[.slice A l.length c] 58)
  have k3 := Blk.blk_alloc (Blk.blk_at (w.alloc (.cells Z29 29)) (.cells #[.int .i64 0] 32) (w.heap.size + 1) (by simp)) (.cells #[.slice A l.length c] 58)
  have k4 := Blk.blk_at ((w.alloc (.cells Z29 29)).alloc (.cells #[.int .i64 0] 32)) (.cells #[.slice A l.length c] 58) (w.heap.size + 2) (by simp)
  refine (HC.out _ _ ⟨A, c, k4, hc, HR.out, by omega⟩ hb1).mono ?_
  rintro e w1 ⟨⟨v6, v7, v8, v11, rfl, hrows⟩, hb, hk⟩
  have m2 := hk.blk k2 (by omega) (by simp)
  have m3 := hk.blk k3 (by omega) (by simp)
  obtain ⟨A6, c6, rfl⟩ := Kd.R_slice hrows.1
  obtain ⟨A7, c7, rfl⟩ := Kd.R_slice hrows.2.1
  obtain ⟨A8, c8, rfl⟩ := Kd.R_slice hrows.2.2.1
  obtain ⟨A11, c11, rfl⟩ := Kd.R_slice hrows.2.2.2
  obtain ⟨PV, hPV⟩ : ∃ x, x = PB p (.slice A6 p.l6.length c6) (.slice A7 p.l7.length c7) (.slice A8 p.l8.length c8) (.slice A11 p.l11.length c11) := ⟨_, rfl⟩
  have hs : PV.size = 12 := by rw [hPV]; rfl
  have hall : PV.all (·.oneCell') = true := by rw [hPV]; simp [PB, Value.oneCell']
  rw [← hPV]
  obtain ⟨B, hB⟩ : ∃ B, w.heap.size = B := ⟨_, rfl⟩
  rw [hB] at m2 m3 hb
  have th : w1.there B 0 PV.size := by rw [hs]; exact there_blk m2 (by rfl)
  obtain ⟨W2, hW2⟩ : ∃ W2, w1.setCells B 0 PV.toList = W2 := ⟨_, rfl⟩
  have hat := World.rangeAt_setCells_same w1 B 0 PV.toList (by rw [Array.length_toList]; exact th)
  have m4 : W2.heap[B + 1]? = some (.cells #[.int .i64 0] 32 (0, 0)) := by rw [← hW2, heap_sets _ _ _ _ (B + 1) (by omega)]; exact m3
  have hb2 : Below B w W2 := by rw [← hW2]; exact below_sets (Nat.le_refl _) hb _ _
  have hrows2 : Ce.Rows B W2 p (.slice A6 p.l6.length c6) (.slice A7 p.l7.length c7) (.slice A8 p.l8.length c8) (.slice A11 p.l11.length c11) := by
    rw [hB] at hrows
    obtain ⟨r1, r2, r3, r4⟩ := hrows
    rw [← hW2]
    exact ⟨row_end rfl r1 m2 (by decide) (Nat.le_refl _) _, row_end rfl r2 m2 (by decide) (Nat.le_refl _) _, row_end rfl r3 m2 (by decide) (Nat.le_refl _) _, row_end rfl r4 m2 (by decide) (Nat.le_refl _) _⟩
  rw [hW2] at hat
  have HG := Lib.hid (And.intro hat (And.intro m4 (And.intro hb2 (And.intro hrows2 (And.intro hPV hs)))))
  have TH := Lib.hid th; have HW2 := Lib.hid hW2; have HALL := Lib.hid hall; have HS := Lib.hid hs
  have y4 := Blk.blk_cell m4 0; have z4 := Blk.blk_frozen m4 0
  simp at y4
  rw [hB]
  clear hat m4 hb2 hrows2 hPV th hW2 hall hs hrows m2 m3 hb hk k2 k3 k4 hb1
  go_wp2_with (refine wpList_store_mid rfl 29 (.tmp 2) (.tmp 11) rfl B 0 PV (by simp [Act.eval]) (by simp [Act.eval]) TH.out (by rw [HS.out]; exact i29) HALL.out ?_; rw [HW2.out])
  obtain ⟨hat, m4, hb2, hrows2, hPV, hs⟩ := HG.out
  refine leaves_cons (f := 22) (args := #[.pointer (some ⟨B, 0, none⟩), .pointer (some ⟨B + 1, 0, none⟩)]) (by simp) (by simp [go_sem]) ?_
  refine (catch_idle B _).mono ?_
  rintro e u' w'' ⟨rfl, rfl, rfl⟩
  simp only [settle]
  obtain ⟨r1, r2, r3, r4⟩ := hrows2
  refine ⟨.tuple #[.agg PV, .int .i64 0], res13 _ B PV 0 _ rfl rfl hs ?_ ?_, ?_⟩
  · intro j v hj
    exact (World.cell?_setCell_far _ _ _ _ (by simp)).trans (hat j v hj)
  · have := Blk.blk_cell (Blk.blk_set m4 0 (.int .i64 0)) 0
    simpa using this
  · unfold DPost
    rw [hB]
    exact ⟨_, _, _, _, by rw [hPV], ⟨row_far rfl r1 m4 (by decide) _, row_far rfl r2 m4 (by decide) _, row_far rfl r3 m4 (by decide) _, row_far rfl r4 m4 (by decide) _⟩, hb2.setCell (by show B ≤ B + 1; omega) _⟩
theorem Dec.calls (k : Nat) (A0 : Option Addr) (c0 : Nat) (l0 : List Int) (r1 r2 r3 r4 r5 r6 : Int) (r7 : List Int) (r8 : List S51) (r9 : List S54) (r10 r11 : Int) (r12 : List S45) (r13 : Int) (w : World) (hr0 : Kd.C (Kd.int .u8) w A0 l0.length l0) (hc0 : l0.length ≤ c0) (h : Dec.f k l0 = some (r1, r2, r3, r4, r5, r6, r7, r8, r9, r10, r11, r12, r13)) :
    Calls Try.prog 13 #[.slice A0 l0.length c0] w fun e w' => ∃ v6 v7 v8 v11 : Value, e = .returned (.tuple #[.agg #[.int .i64 r1, .int .i64 r2, .int .i64 r3, .int .i64 r4, .int .i64 r5, .int .i64 r6, v6, v7, v8, .int .i64 r10, .int .i64 r11, v11], .int .i64 r13]) ∧ Kd.R (Kd.int .i64) 2 w' w.heap.size (fun _ => True) v6 r7 ∧ Kd.R k51 51 w' w.heap.size (fun _ => True) v7 r8 ∧ Kd.R k54 54 w' w.heap.size (fun _ => True) v8 r9 ∧ Kd.R k45 45 w' w.heap.size (fun _ => True) v11 r12 ∧ Below w.heap.size w w' := by
  unfold Dec.f at h
  obtain ⟨t, ht, h⟩ := Option.bind_eq_some_iff.1 h
  have key : Calls Try.prog 13 #[.slice A0 l0.length c0] w (DPost w t.1 t.2) := by
    unfold decF at ht
    split at ht
    · next h1 => injection ht with ht; subst ht; exact dec_long A0 c0 l0 w hc0 h1
    · next h1 =>
      split at ht
      · next h2 =>
        have hin : InB l0 := fun x hx => by simpa using (List.all_eq_true.1 h2) x hx
        split at ht
        · next h3 => injection ht with ht; subst ht; exact dec_none A0 c0 l0 w hr0 hc0 h1 hin h3
        · next p h3 => injection ht with ht; subst ht; exact dec_some A0 c0 l0 w p hr0 hc0 h1 hin h3
      · cases ht
  obtain ⟨p, err⟩ := t
  injection h with h
  simp only [ofPg, Prod.mk.injEq] at h
  obtain ⟨rfl, rfl, rfl, rfl, rfl, rfl, rfl, rfl, rfl, rfl, rfl, rfl, rfl⟩ := h
  refine key.mono ?_
  rintro e w' ⟨v6, v7, v8, v11, rfl, ⟨r1, r2, r3, r4⟩, hb⟩
  exact ⟨v6, v7, v8, v11, rfl, r1, r2, r3, r4, hb⟩
end Go.Proofs.Ytkdboaaganmagaa.Cf
