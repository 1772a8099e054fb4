/- codec.Encode: the bytes of a program that can be told. -/
import Derived.Test.YtkdboaaganmagaaCa
import Derived.Test.YtkdboaaganmagaaOPx5
import Derived.Lib.SlBytesConst
import Derived.Deep.DeepCutAuto
namespace Go.Proofs.Ytkdboaaganmagaa.Cb
set_option linter.unusedVariables false
set_option linter.unusedSimpArgs false
open Go.RowKit Go.Proofs.YtkdboaaganmagaaW.PrintWords Go.Proofs.Ytkdboaaganmagaa.OP Go.Proofs.Ytkdboaaganmagaa.Ca

theorem own_lit {W : World} {B b : Nat} (xs : List Int) (hx : xs.length ≤ 1000) (hB : B ≤ b) (h : W.heap[b]? = some (.cells (xs.map (Value.int .u8)).toArray 5 (0, 0))) : Kd.R (Kd.int .u8) 5 W B (fun _ => True) (.slice (some ⟨b, 0, none⟩) xs.length xs.length) xs := by
 refine ⟨fun _ _ => trivial, xs.map (Value.int .u8), ⟨by show _ = _ * 1; simp, .inr ⟨b, xs.length, _, rfl, hB, h, Nat.le_refl _, by unfold maxLen; omega, ?_, ?_⟩⟩, ?_⟩
 ·show (xs.map (Value.int .u8)).toArray.size = xs.length * 1
  simp
 ·show (xs.map (Value.int .u8)).take (xs.length * 1) = _
  rw [Nat.mul_one, List.take_of_length_le (by simp)]
 ·refine ⟨by show _ = _ * 1; simp, fun j p hj => ?_⟩
  show ((xs.map (Value.int .u8)).drop (j * 1)).take 1 = [Value.int .u8 p]
  have hl := (List.getElem?_eq_some_iff.1 hj).1
  rw [Nat.mul_one, List.drop_eq_getElem_cons (by simpa using hl), List.take_succ_cons, List.take_zero, List.getElem_map, (List.getElem?_eq_some_iff.1 hj).2]
def encW (x : S51) : List Int := be4 x.f0 ++ be4 x.f1 ++ be8s [x.f2, x.f3]
def encC (x : S54) : List Int := be8s [wrap64 x.f0, wrap64 x.f1, wrap64 x.f2, wrap64 x.f3, wrap64 x.f4]
def encI (x : S45) : List Int := [x.f0 % 256] ++ be8s [x.f1]
theorem encW_len (x : S51) : (encW x).length = 24 := rfl
theorem encC_len (x : S54) : (encC x).length = 40 := rfl
theorem encI_len (x : S45) : (encI x).length = 9 := rfl
section
variable {α : Type} (f : α → List Int) (n : Nat) (hf : ∀ x, (f x).length = n)
include hf in
theorem flat_len (l : List α) : (l.flatMap f).length = n * l.length := by
 induction l with
 | nil => rfl
 | cons a r ih => rw [List.flatMap_cons, List.length_append, ih, hf, List.length_cons, Nat.mul_succ]; omega
theorem flat_snoc (d : α) (l : List α) (k : Nat) (h : k < l.length) : (l.take (k + 1)).flatMap f = (l.take k).flatMap f ++ f (l.getD k d) := by
 rw [List.take_succ_eq_append_getElem h, List.flatMap_append, List.getD_eq_getElem?_getD, List.getElem?_eq_getElem h]
 simp
end
/-- A program's bytes. -/
def encB (a0 a1 a2 a3 a4 a5 : Int) (l6 : List Int) (l7 : List S51) (l8 : List S54) (a9 a10 : Int) (l11 : List S45) : List Int :=
 [99, 112, 115, 49] ++ be4 a0 ++ be4 a9 ++ be4 a10 ++ be8s [a1, a2, a3, a4, a5] ++ be4 l6.length ++ be8s l6 ++ be4 l7.length ++ l7.flatMap encW ++ be4 l8.length ++ l8.flatMap encC ++ be4 l11.length ++ l11.flatMap encI
def Enc.f (k : Nat) (a0 a1 a2 a3 a4 a5 : Int) (l6 : List Int) (l7 : List S51) (l8 : List S54) (a9 a10 : Int) (l11 : List S45) : Option (List Int × Int) :=
 (codec_told.f k a0 a1 a2 a3 a4 a5 l6 l7 l8 a9 a10 l11).bind fun t => if t = true then (if l6.length ≤ 16384 ∧ l7.length ≤ 256 ∧ l8.length ≤ 256 ∧ l11.length ≤ 16384 then some (encB a0 a1 a2 a3 a4 a5 l6 l7 l8 a9 a10 l11, 0) else none) else some ([], 1)
theorem Enc.mono (a0 a1 a2 a3 a4 a5 : Int) (l6 : List Int) (l7 : List S51) (l8 : List S54) (a9 a10 : Int) (l11 : List S45) : ∀ k, LeO (Enc.f k a0 a1 a2 a3 a4 a5 l6 l7 l8 a9 a10 l11) (Enc.f (k + 1) a0 a1 a2 a3 a4 a5 l6 l7 l8 a9 a10 l11) := by
 intro k
 unfold Enc.f
 refine LeO.bind (codec_told.mono _ _ _ _ _ _ _ _ _ _ _ _ _) (fun _ => LeO.refl _)
/-- The argument's box. -/
def BOX (a0 a1 a2 a3 a4 a5 : Int) (v6 v7 v8 : Value) (a9 a10 : Int) (v11 : Value) : Array Value := #[.int .i64 a0, .int .i64 a1, .int .i64 a2, .int .i64 a3, .int .i64 a4, .int .i64 a5, v6, v7, v8, .int .i64 a9, .int .i64 a10, v11]
def EPost (r : List Int) (e0 : Int) (w : World) (e : Ending) (w' : World) : Prop := ∃ v0_ : Value, e = .returned (.tuple #[v0_, .int .i64 e0]) ∧ Kd.R (Kd.int .u8) 5 w' w.heap.size (fun _ => True) v0_ r ∧ Below w.heap.size w w'
/-- Where Encode stands: the bytes so far, the argument's box. -/
def Es (w : World) (g : Nat) (bx : Array Value) (L : List Int) (wx : World) : Prop := IsW w.heap.size wx g L ∧ Below w.heap.size w wx ∧ wx.heap[w.heap.size]? = some (.cells bx 29 (0, 0)) ∧ w.heap.size < g
theorem Es.four {w wx w' : World} {g : Nat} {bx : Array Value} {L L' : List Int} {e : Ending} (h : Es w g bx L wx) (hp : FourPost w wx g L' e w') : e = .returned (.tuple #[]) ∧ Es w g bx L' w' ∧ KeepT wx w' g :=
 ⟨hp.1, ⟨hp.2.1, hp.2.2.1, hp.2.2.2.2 _ _ h.2.2.1 (by have := h.2.2.2; omega) (fun cs fr hh => by cases hh), h.2.2.2⟩, hp.2.2.2⟩
theorem box_cells {w wx : World} {g : Nat} {a0 a1 a2 a3 a4 a5 a9 a10 : Int} {v6 v7 v8 v11 : Value} {L : List Int} (h : Es w g (BOX a0 a1 a2 a3 a4 a5 v6 v7 v8 a9 a10 v11) L wx) :
  wx.cell? ⟨w.heap.size, 0, none⟩ = some (.int .i64 a0) ∧ wx.cell? ⟨w.heap.size, 1, none⟩ = some (.int .i64 a1) ∧ wx.cell? ⟨w.heap.size, 2, none⟩ = some (.int .i64 a2) ∧ wx.cell? ⟨w.heap.size, 3, none⟩ = some (.int .i64 a3) ∧ wx.cell? ⟨w.heap.size, 4, none⟩ = some (.int .i64 a4) ∧ wx.cell? ⟨w.heap.size, 5, none⟩ = some (.int .i64 a5) ∧ wx.cell? ⟨w.heap.size, 6, none⟩ = some v6 ∧ wx.cell? ⟨w.heap.size, 7, none⟩ = some v7 ∧ wx.cell? ⟨w.heap.size, 8, none⟩ = some v8 ∧ wx.cell? ⟨w.heap.size, 9, none⟩ = some (.int .i64 a9) ∧ wx.cell? ⟨w.heap.size, 10, none⟩ = some (.int .i64 a10) ∧ wx.cell? ⟨w.heap.size, 11, none⟩ = some v11 :=
 ⟨Blk.blk_cell h.2.2.1 0, Blk.blk_cell h.2.2.1 1, Blk.blk_cell h.2.2.1 2, Blk.blk_cell h.2.2.1 3, Blk.blk_cell h.2.2.1 4, Blk.blk_cell h.2.2.1 5, Blk.blk_cell h.2.2.1 6, Blk.blk_cell h.2.2.1 7, Blk.blk_cell h.2.2.1 8, Blk.blk_cell h.2.2.1 9, Blk.blk_cell h.2.2.1 10, Blk.blk_cell h.2.2.1 11⟩
theorem stored {B g : Nat} {Wa w1 : World} {v v1 : Value} {l' : List Int} (hv : Wa.heap[g]? = some (.cells #[v] 47 (0, 0))) (hne : some g ≠ v.ownBlock) (ho : Kd.R (Kd.int .u8) 5 w1 B (fun _ => True) v1 l') (hgr : Wa.grownBy w1 v.ownBlock) (hown : v1.ownBlock = v.ownBlock ∨ ∃ b, v1.ownBlock = some b ∧ Wa.heap.size ≤ b) (hB : B ≤ g) : IsW B (w1.setCell ⟨g, 0, none⟩ v1) g l' := by
 have hne1 : some g ≠ v1.ownBlock := by
  rcases hown with h | ⟨b, h, hb⟩
  ·rw [h]; exact hne
  ·rw [h]
   intro e
   injection e with e
   have := Blk.blk_lt hv
   omega
 exact ⟨_, Blk.blk_set (Blk.blk_grown hv hgr hne) 0 _, Kd.R_mono (Kd.R_far (Kd.R_far1 ho rfl hne1) (fun k h => h.2) _) (fun _ _ => trivial), hB⟩
/-- A literal of whole numbers stays. -/
theorem lit_keeps {w wx : World} {g : Nat} (ns : List Int) (hl : ns.length ≤ 1000) (hg : g < wx.heap.size) : ∀ W', Below w.heap.size w W' → KeepT (wx.alloc (.cells (ns.map (Value.int .i64)).toArray 2)) W' g → Kd.C (Kd.int .i64) W' (some ⟨wx.heap.size, 0, none⟩) ns.length ns :=
 fun W' _ hk => lit_row .i64 ns hl (hk.2 _ _ (Blk.blk_new _ _) (by omega) (fun cs fr hh => by cases hh))
theorem lit_keeps_at {w wx : World} {g : Nat} (b : Nat) (ns : List Int) (hl : ns.length ≤ 1000) (hb : b = wx.heap.size) (hg : g < wx.heap.size) : ∀ W', Below w.heap.size w W' → KeepT (wx.alloc (.cells (ns.map (Value.int .i64)).toArray 2)) W' g → Kd.C (Kd.int .i64) W' (some ⟨b, 0, none⟩) ns.length ns := by
 subst hb; exact lit_keeps ns hl hg
theorem Es.keep {w wx w' : World} {g : Nat} {bx : Array Value} {L L' : List Int} (h : Es w g bx L wx) (hw : IsW w.heap.size w' g L') (hb : Below w.heap.size w w') (hk : KeepT wx w' g) : Es w g bx L' w' :=
 ⟨hw, hb, hk.2 _ _ h.2.2.1 (by have := h.2.2.2; omega) (fun cs fr hh => by cases hh), h.2.2.2⟩
theorem IsW.alloc {B : Nat} {W : World} {g : Nat} {l : List Int} (h : IsW B W g l) (o : Obj) : IsW B (W.alloc o) g l := by
 obtain ⟨v, h1, h2, h3⟩ := h
 exact ⟨v, Blk.blk_alloc h1 o, Kd.R_alloc h2 o, h3⟩
theorem Es.alloc {w wx : World} {g : Nat} {bx : Array Value} {L : List Int} (h : Es w g bx L wx) (o : Obj) : Es w g bx L (wx.alloc o) :=
 ⟨IsW.alloc h.1 o, h.2.1.alloc h.2.1.size _, Blk.blk_alloc h.2.2.1 o, h.2.2.2⟩
theorem IsW.far {B : Nat} {W : World} {g : Nat} {l : List Int} (h : IsW B W g l) {p : Addr} {cs : Array Value} {t : TypeId} {fr : Nat × Nat} (hg : g ≠ p.block) (hp : W.heap[p.block]? = some (.cells cs t fr)) (ht : t ≠ 5) (u : Value) : IsW B (W.setCell p u) g l := by
 obtain ⟨v, h1, h2, h3⟩ := h
 exact ⟨v, Blk.blk_far h1 hg u, Kd.R_mono (Kd.R_far (Kd.R_far1 h2 rfl (typed_ne (n := 0) h2 hp (fun cs fr hh => ht (by injection hh)))) (fun k h => h.2) u) (fun _ _ => trivial), h3⟩
theorem Es.far {w wx : World} {g : Nat} {bx : Array Value} {L : List Int} (h : Es w g bx L wx) {p : Addr} {cs : Array Value} {t : TypeId} {fr : Nat × Nat} (hp : wx.heap[p.block]? = some (.cells cs t fr)) (hg : g < p.block) (ht : t ≠ 5) (u : Value) : Es w g bx L (wx.setCell p u) :=
 ⟨IsW.far h.1 (by omega) hp ht u, h.2.1.setCell (by have := h.2.2.2; omega) _, Blk.blk_far h.2.2.1 (by have := h.2.2.2; omega) u, h.2.2.2⟩

set_option maxHeartbeats 8000000 in
set_option maxRecDepth 100000 in
theorem enc_no (k : Nat) (a0 a1 a2 a3 a4 a5 : Int) (A6 : Option Addr) (c6 : Nat) (l6 : List Int) (A7 : Option Addr) (c7 : Nat) (l7 : List S51) (A8 : Option Addr) (c8 : Nat) (l8 : List S54) (a9 a10 : Int) (A11 : Option Addr) (c11 : Nat) (l11 : List S45) (w : World) (hr6 : Kd.C (Kd.int .i64) w A6 l6.length l6) (hc6 : l6.length ≤ c6) (hr7 : Kd.C k51 w A7 l7.length l7) (hc7 : l7.length ≤ c7) (hr8 : Kd.C k54 w A8 l8.length l8) (hc8 : l8.length ≤ c8) (hr11 : Kd.C k45 w A11 l11.length l11) (hc11 : l11.length ≤ c11) (ht : codec_told.f k a0 a1 a2 a3 a4 a5 l6 l7 l8 a9 a10 l11 = some false) :
  Calls Try.prog 10 #[.agg #[.int .i64 a0, .int .i64 a1, .int .i64 a2, .int .i64 a3, .int .i64 a4, .int .i64 a5, .slice A6 l6.length c6, .slice A7 l7.length c7, .slice A8 l8.length c8, .int .i64 a9, .int .i64 a10, .slice A11 l11.length c11]] w (EPost [] 1 w) := by
 have HT := Lib.hid (fun W (hb : Below w.heap.size w W) => codec_told.calls k a0 a1 a2 a3 a4 a5 A6 c6 l6 A7 c7 l7 A8 c8 l8 a9 a10 A11 c11 l11 _ W (Kd.C_below hr6 hb) hc6 (Kd.C_below hr7 hb) hc7 (Kd.C_below hr8 hb) hc8 (Kd.C_below hr11 hb) hc11 ht)
 have H6 := Lib.hid hr6; have H7 := Lib.hid hr7; have H8 := Lib.hid hr8; have H11 := Lib.hid hr11
 clear hr6 hr7 hr8 hr11 ht
 go_enter Try.func10, Try.ntmps10
 go_wp2_with fail
 refine (HT.out _ ((Below.refl _ _).alloc (Nat.le_refl _) _)).mono ?_
 rintro e w1 ⟨rfl, hb1⟩
 have HB1 := Lib.hid (Blk.below_then ((Below.refl _ _).alloc (Nat.le_refl _) _) hb1 (by simp))
 clear hb1
 go_wp2
 go_ret2
 exact ⟨_, rfl, Kd.R_nil _ _ _ _ _, HB1.out⟩
set_option maxHeartbeats 8000000 in
set_option maxRecDepth 100000 in
theorem enc_yes (k : Nat) (a0 a1 a2 a3 a4 a5 : Int) (A6 : Option Addr) (c6 : Nat) (l6 : List Int) (A7 : Option Addr) (c7 : Nat) (l7 : List S51) (A8 : Option Addr) (c8 : Nat) (l8 : List S54) (a9 a10 : Int) (A11 : Option Addr) (c11 : Nat) (l11 : List S45) (w : World) (hr6 : Kd.C (Kd.int .i64) w A6 l6.length l6) (hc6 : l6.length ≤ c6) (hr7 : Kd.C k51 w A7 l7.length l7) (hc7 : l7.length ≤ c7) (hr8 : Kd.C k54 w A8 l8.length l8) (hc8 : l8.length ≤ c8) (hr11 : Kd.C k45 w A11 l11.length l11) (hc11 : l11.length ≤ c11) (ht : codec_told.f k a0 a1 a2 a3 a4 a5 l6 l7 l8 a9 a10 l11 = some true) (h6 : l6.length ≤ 16384) (h7 : l7.length ≤ 256) (h8 : l8.length ≤ 256) (h11 : l11.length ≤ 16384) :
  Calls Try.prog 10 #[.agg #[.int .i64 a0, .int .i64 a1, .int .i64 a2, .int .i64 a3, .int .i64 a4, .int .i64 a5, .slice A6 l6.length c6, .slice A7 l7.length c7, .slice A8 l8.length c8, .int .i64 a9, .int .i64 a10, .slice A11 l11.length c11]] w (EPost (encB a0 a1 a2 a3 a4 a5 l6 l7 l8 a9 a10 l11) 0 w) := by
 have HT := Lib.hid (fun W (hb : Below w.heap.size w W) => codec_told.calls k a0 a1 a2 a3 a4 a5 A6 c6 l6 A7 c7 l7 A8 c8 l8 a9 a10 A11 c11 l11 _ W (Kd.C_below hr6 hb) hc6 (Kd.C_below hr7 hb) hc7 (Kd.C_below hr8 hb) hc8 (Kd.C_below hr11 hb) hc11 ht)
 have H6 := Lib.hid hr6; have H7 := Lib.hid hr7; have H8 := Lib.hid hr8; have H11 := Lib.hid hr11
 clear hr6 hr7 hr8 hr11 ht
 go_enter Try.func10, Try.ntmps10
 go_wp2_with fail
 refine (HT.out _ ((Below.refl _ _).alloc (Nat.le_refl _) _)).mono ?_
 rintro e w1 ⟨rfl, hb1⟩
 have HX1 := Lib.hid (Blk.blk_below (Blk.blk_new w (.cells (BOX a0 a1 a2 a3 a4 a5 (.slice A6 l6.length c6) (.slice A7 l7.length c7) (.slice A8 l8.length c8) a9 a10 (.slice A11 l11.length c11)) 29)) hb1 (by simp))
 have HB1 := Lib.hid (Blk.below_then ((Below.refl _ _).alloc (Nat.le_refl _) _) hb1 (by simp))
 clear hb1
 have hs1 := Blk.blk_lt HX1.out
 have c0 := Blk.blk_cell HX1.out 0
 have c1 := Blk.blk_cell HX1.out 1
 have c2 := Blk.blk_cell HX1.out 2
 have c3 := Blk.blk_cell HX1.out 3
 have c4 := Blk.blk_cell HX1.out 4
 have c5 := Blk.blk_cell HX1.out 5
 have c6 := Blk.blk_cell HX1.out 6
 have c7 := Blk.blk_cell HX1.out 7
 have c8 := Blk.blk_cell HX1.out 8
 have c9 := Blk.blk_cell HX1.out 9
 have c10 := Blk.blk_cell HX1.out 10
 have c11 := Blk.blk_cell HX1.out 11
 unfold BOX at c0 c1 c2 c3 c4 c5 c6 c7 c8 c9 c10 c11
 simp at c0 c1 c2 c3 c4 c5 c6 c7 c8 c9 c10 c11
 have kc := fun (w : World) (C : Array Value) (n c : Nat) => Lib.run_convert_bytes_const (P := Try.prog) w 47 5 C n c Try.underlying47 Try.underlying5
 go_wp2_with fail
 clear c0 c1 c2 c3 c4 c5 c6 c7 c8 c9 c10 c11
 refine (four_first w _ (w1.heap.size + 1) w1.heap.size (4, 5) _ (by exact Blk.blk_alloc (Blk.blk_new _ _) _) (Blk.blk_at _ _ _ (by simp)) (by have := HB1.out.size; omega) ((HB1.out.alloc HB1.out.size _).alloc (by have := HB1.out.size; simp; omega) _)).mono ?_
 rintro e w2 ⟨rfl, hw2, hb2, hk2⟩
 obtain ⟨g, hg⟩ : ∃ g, w1.heap.size + 1 = g := ⟨_, rfl⟩
 rw [hg] at hw2 hk2
 simp only [hg]
 have HE2 : Hid (Es w g (BOX a0 a1 a2 a3 a4 a5 (.slice A6 l6.length c6) (.slice A7 l7.length c7) (.slice A8 l8.length c8) a9 a10 (.slice A11 l11.length c11)) (mag ++ be4 a0) w2) := Lib.hid ⟨hw2, hb2, hk2.2 _ _ (Blk.blk_alloc (Blk.blk_alloc HX1.out _) _) (by omega) (fun cs fr hh => by cases hh), by omega⟩
 clear HB1 HX1 kc hw2 hb2 hk2 hs1 hg HT
 obtain ⟨L2, hL2⟩ : ∃ L, mag ++ be4 a0 = L := ⟨_, rfl⟩
 have nL2 : L2.length ≤ 8 := by rw [← hL2]; simp only [List.length_append, be8s_len, List.length_cons, List.length_nil, be4, mag]; omega
 rw [hL2] at HE2
 have HL2 := Lib.hid hL2; clear hL2
 obtain ⟨-, -, -, -, -, -, -, -, -, c9, -, -⟩ := box_cells HE2.out
 go_wp2_with fail
 clear c9
 refine (four_any w _ g _ _ (by omega) HE2.out.1 HE2.out.2.1).mono ?_
 rintro e w3 hp
 obtain ⟨rfl, hE, hk⟩ := Es.four HE2.out hp
 have HE3 := Lib.hid hE; clear hp hE hk HE2
 obtain ⟨L3, hL3⟩ : ∃ L, L2 ++ be4 a9 = L := ⟨_, rfl⟩
 have nL3 : L3.length ≤ 12 := by rw [← hL3]; simp only [List.length_append, be8s_len, List.length_cons, List.length_nil, be4, mag]; omega
 rw [hL3] at HE3
 have HL3 := Lib.hid hL3; clear hL3
 obtain ⟨-, -, -, -, -, -, -, -, -, -, c10, -⟩ := box_cells HE3.out
 go_wp2_with fail
 clear c10
 refine (four_any w _ g _ _ (by omega) HE3.out.1 HE3.out.2.1).mono ?_
 rintro e w4 hp
 obtain ⟨rfl, hE, hk⟩ := Es.four HE3.out hp
 have HE4 := Lib.hid hE; clear hp hE hk HE3
 obtain ⟨L4, hL4⟩ : ∃ L, L3 ++ be4 a10 = L := ⟨_, rfl⟩
 have nL4 : L4.length ≤ 16 := by rw [← hL4]; simp only [List.length_append, be8s_len, List.length_cons, List.length_nil, be4, mag]; omega
 rw [hL4] at HE4
 have HL4 := Lib.hid hL4; clear hL4
 obtain ⟨-, c1, c2, c3, c4, c5, -, -, -, -, -, -⟩ := box_cells HE4.out
 have hgl4 := Blk.blk_lt HE4.out.1.choose_spec.1
 go_wp2_with fail
 clear c1 c2 c3 c4 c5
 refine (eight_any w _ g _ _ _ [a1, a2, a3, a4, a5] (by show _ + 8 * 5 ≤ _; omega) (Nat.le_refl _) (lit_keeps [a1, a2, a3, a4, a5] (by show 5 ≤ 1000; omega) hgl4) (HE4.out.alloc _).1 (HE4.out.alloc _).2.1).mono ?_
 rintro e w5 hp
 obtain ⟨rfl, hE, hk⟩ := Es.four (HE4.out.alloc _) hp
 have HE5 := Lib.hid hE; clear hp hE hk HE4 hgl4
 obtain ⟨L5, hL5⟩ : ∃ L, L4 ++ be8s [a1, a2, a3, a4, a5] = L := ⟨_, rfl⟩
 have nL5 : L5.length ≤ 56 := by rw [← hL5]; simp only [List.length_append, be8s_len, List.length_cons, List.length_nil, be4, mag]; omega
 rw [hL5] at HE5
 have HL5 := Lib.hid hL5; clear hL5
 obtain ⟨-, -, -, -, -, -, c6, -, -, -, -, -⟩ := box_cells HE5.out
 go_wp2_with fail
 clear c6
 refine (four_any w _ g _ _ (by omega) HE5.out.1 HE5.out.2.1).mono ?_
 rintro e w6 hp
 obtain ⟨rfl, hE, hk⟩ := Es.four HE5.out hp
 have HE6 := Lib.hid hE; clear hp hE hk HE5
 obtain ⟨L6, hL6⟩ : ∃ L, L5 ++ be4 (l6.length : Int) = L := ⟨_, rfl⟩
 have nL6 : L6.length ≤ 60 := by rw [← hL6]; simp only [List.length_append, be8s_len, List.length_cons, List.length_nil, be4, mag]; omega
 rw [hL6] at HE6
 have HL6 := Lib.hid hL6; clear hL6
 obtain ⟨-, -, -, -, -, -, c6, -, -, -, -, -⟩ := box_cells HE6.out
 go_wp2_with fail
 clear c6
 refine (eight_any w _ g _ _ _ l6 (by omega) hc6 (fun W1 hb _ => Kd.C_below H6.out hb) HE6.out.1 HE6.out.2.1).mono ?_
 rintro e w7 hp
 obtain ⟨rfl, hE, hk⟩ := Es.four HE6.out hp
 have HE7 := Lib.hid hE; clear hp hE hk HE6
 obtain ⟨L7, hL7⟩ : ∃ L, L6 ++ be8s l6 = L := ⟨_, rfl⟩
 have nL7 : L7.length ≤ 131132 := by rw [← hL7]; simp only [List.length_append, be8s_len, List.length_cons, List.length_nil, be4, mag]; omega
 rw [hL7] at HE7
 have HL7 := Lib.hid hL7; clear hL7
 obtain ⟨-, -, -, -, -, -, -, c7, -, -, -, -⟩ := box_cells HE7.out
 go_wp2_with fail
 clear c7
 refine (four_any w _ g _ _ (by omega) HE7.out.1 HE7.out.2.1).mono ?_
 rintro e w8 hp
 obtain ⟨rfl, hE, hk⟩ := Es.four HE7.out hp
 have HE8 := Lib.hid hE; clear hp hE hk HE7
 obtain ⟨L8, hL8⟩ : ∃ L, L7 ++ be4 (l7.length : Int) = L := ⟨_, rfl⟩
 have nL8 : L8.length ≤ 131136 := by rw [← hL8]; simp only [List.length_append, be8s_len, List.length_cons, List.length_nil, be4, mag]; omega
 rw [hL8] at HE8
 have HL8 := Lib.hid hL8; clear hL8
 obtain ⟨-, -, -, -, -, -, -, c7, -, -, -, -⟩ := box_cells HE8.out
 go_wp2_with fail
 clear c7
 obtain ⟨m51, hm51⟩ : ∃ m, l7.length = m := ⟨_, rfl⟩
 have HM51 := Lib.hid hm51
 have hlm51 : m51 ≤ 256 := by omega
 simp only [hm51]
 clear hm51
 go_loopg [6, 56] m51 (fun gf v6 v56 wx => ∃ q : Nat, v56 = .int .i64 q ∧ q + gf = m51 ∧ Es w g (BOX a0 a1 a2 a3 a4 a5 (.slice A6 l6.length c6) (.slice A7 l7.length c7) (.slice A8 l8.length c8) a9 a10 (.slice A11 l11.length c11)) (L8 ++ (l7.take q).flatMap encW) wx)
 case atStart => exact ⟨0, rfl, by omega, by simpa using HE8.out⟩
 case round =>
  clear HE8
  obtain ⟨q, rfl, hq, he⟩ := hrel
  have HE8 := Lib.hid he; clear he
  by_cases hlt : q < m51
  ·obtain ⟨g', rfl⟩ : ∃ g', gk = g' + 1 := ⟨gk - 1, by omega⟩
   obtain ⟨ad, e, d0, d1, d2, d3⟩ := at_T51 (Kd.C_below H7.out HE8.out.2.1) q (by omega) (by rw [HM51.out]; omega)
   subst e
   have hsn := flat_snoc encW z51 l7 q (by rw [HM51.out]; exact hlt)
   have hfl := flat_len encW 24 encW_len (l7.take q)
   rw [List.length_take, HM51.out, Nat.min_eq_left (by omega)] at hfl
   rw [Int.toNat_natCast] at d0 d1 d2 d3
   have hx0 : rd_T51 l7 q = l7.getD q z51 := by unfold rd_T51; rw [Int.toNat_natCast]
   rw [hx0] at d0 d1 d2 d3
   obtain ⟨x, hx⟩ : ∃ x, l7.getD q z51 = x := ⟨_, rfl⟩
   rw [hx] at hsn d0 d1 d2 d3
   obtain ⟨T, hT⟩ : ∃ T, (l7.take q).flatMap encW = T := ⟨_, rfl⟩
   rw [hT] at hsn hfl HE8
   have HSN := Lib.hid hsn
   have nT : (L8 ++ T).length ≤ 137280 := by rw [List.length_append]; omega
   have q0 : decide ((q : Int) < (m51 : Int)) = true := by simp; omega
   have q0n : decide (q < m51) = true := by simp; omega
   clear hx hx0 hsn hT hfl
   have hgw := Blk.blk_lt HE8.out.1.choose_spec.1
   go_wp2_with fail
   clear d0 d1 d2 d3
   have HV0 := Lib.hid (Blk.blk_new wr (.cells #[.int .i64 x.f0, .int .i64 x.f1, .int .i64 x.f2, .int .i64 x.f3] 51))
   have HA0 := Lib.hid (HE8.out.alloc (.cells #[.int .i64 x.f0, .int .i64 x.f1, .int .i64 x.f2, .int .i64 x.f3] 51))
   clear HE8
   refine (four_any w _ g _ _ (by omega) HA0.out.1 HA0.out.2.1).mono ?_
   rintro e u1 hp
   obtain ⟨rfl, hE, hk⟩ := Es.four HA0.out hp
   have HA1 := Lib.hid hE
   have HV1 := Lib.hid (hk.2 _ _ HV0.out (by omega) (fun cs fr hh => by cases hh))
   clear hp hE hk HA0 HV0
   have d1 := Blk.blk_cell HV1.out 1
   simp at d1
   have hgu := Blk.blk_lt HA1.out.1.choose_spec.1
   go_wp2_with fail
   clear d1
   refine (four_any w _ g _ _ (by rw [List.length_append]; show _ + 4 ≤ _; omega) HA1.out.1 HA1.out.2.1).mono ?_
   rintro e u2 hp
   obtain ⟨rfl, hE, hk⟩ := Es.four HA1.out hp
   have HA2 := Lib.hid hE
   have HV2 := Lib.hid (hk.2 _ _ HV1.out (by omega) (fun cs fr hh => by cases hh))
   clear hp hE hk HA1 HV1
   have d2 := Blk.blk_cell HV2.out 2
   have d3 := Blk.blk_cell HV2.out 3
   simp at d2 d3
   have hgu := Blk.blk_lt HA2.out.1.choose_spec.1
   go_wp2_with fail
   clear d2 d3
   refine (eight_any w _ g _ _ _ [x.f2, x.f3] (by rw [List.length_append, List.length_append]; show _ + 4 + 4 + 8 * 2 ≤ _; show _ + 8 * 2 ≤ _; omega) (Nat.le_refl _) (lit_keeps [x.f2, x.f3] (by show 2 ≤ 1000; omega) hgu) (HA2.out.alloc _).1 (HA2.out.alloc _).2.1).mono ?_
   rintro e u3 hp
   obtain ⟨rfl, hE, hk⟩ := Es.four (HA2.out.alloc _) hp
   have HA3 := Lib.hid hE
   clear hp hE hk HA2 HV2 hgu
   go_wp2
   go_roundg g'
   case measure => omega
   case rel =>
    refine ⟨q + 1, by go_num, by omega, ?_⟩
    have h := HA3.out
    have e : L8 ++ T ++ be4 x.f0 ++ be4 x.f1 ++ be8s [x.f2, x.f3] = L8 ++ (T ++ encW x) := by unfold encW; simp only [List.append_assoc]
    rw [HSN.out, ← e]
    exact h
  ·obtain rfl : q = m51 := by omega
   clear hlt
   have q0 : decide ((q : Int) < (q : Int)) = false := by simp
   have q0n : decide (q < q) = false := by simp
   have he2 := HE8.out
   rw [← HM51.out, List.take_length] at he2
   have hfl := flat_len encW 24 encW_len l7
   have HE9 := Lib.hid he2; clear he2 HE8
   obtain ⟨L9, hL9⟩ : ∃ L, L8 ++ l7.flatMap encW = L := ⟨_, rfl⟩
   have nL9 : L9.length ≤ 137280 := by rw [← hL9, List.length_append]; omega
   rw [hL9] at HE9
   have HL9 := Lib.hid hL9; clear hL9 hfl
   obtain ⟨-, -, -, -, -, -, -, -, c8, -, -, -⟩ := box_cells HE9.out
   go_wp2_with fail
   clear c8
   refine (four_any w _ g _ _ (by omega) HE9.out.1 HE9.out.2.1).mono ?_
   rintro e w10 hp
   obtain ⟨rfl, hE, hk⟩ := Es.four HE9.out hp
   have HE10 := Lib.hid hE; clear hp hE hk HE9
   obtain ⟨L10, hL10⟩ : ∃ L, L9 ++ be4 (l8.length : Int) = L := ⟨_, rfl⟩
   have nL10 : L10.length ≤ 137284 := by rw [← hL10]; simp only [List.length_append, be8s_len, List.length_cons, List.length_nil, be4, mag]; omega
   rw [hL10] at HE10
   have HL10 := Lib.hid hL10; clear hL10
   obtain ⟨-, -, -, -, -, -, -, -, c8, -, -, -⟩ := box_cells HE10.out
   go_wp2_with fail
   clear c8
   obtain ⟨m54, hm54⟩ : ∃ m, l8.length = m := ⟨_, rfl⟩
   have HM54 := Lib.hid hm54
   have hlm54 : m54 ≤ 256 := by omega
   simp only [hm54]
   clear hm54
   go_loopg [8, 80] m54 (fun gf v8 v80 wx => ∃ q : Nat, v80 = .int .i64 q ∧ q + gf = m54 ∧ Es w g (BOX a0 a1 a2 a3 a4 a5 (.slice A6 l6.length c6) (.slice A7 l7.length c7) (.slice A8 l8.length c8) a9 a10 (.slice A11 l11.length c11)) (L10 ++ (l8.take q).flatMap encC) wx)
   case atStart => exact ⟨0, rfl, by omega, by simpa using HE10.out⟩
   case round =>
    clear HE10
    obtain ⟨q, rfl, hq, he⟩ := hrel
    have HE10 := Lib.hid he; clear he
    by_cases hlt : q < m54
    ·obtain ⟨g', rfl⟩ : ∃ g', gk = g' + 1 := ⟨gk - 1, by omega⟩
     obtain ⟨ad, e, d0, d1, d2, d3, d4⟩ := at_T54 (Kd.C_below H8.out HE10.out.2.1) q (by omega) (by rw [HM54.out]; omega)
     subst e
     have hsn := flat_snoc encC z54 l8 q (by rw [HM54.out]; exact hlt)
     have hfl := flat_len encC 40 encC_len (l8.take q)
     rw [List.length_take, HM54.out, Nat.min_eq_left (by omega)] at hfl
     rw [Int.toNat_natCast] at d0 d1 d2 d3 d4
     have hx0 : rd_T54 l8 q = l8.getD q z54 := by unfold rd_T54; rw [Int.toNat_natCast]
     rw [hx0] at d0 d1 d2 d3 d4
     obtain ⟨x, hx⟩ : ∃ x, l8.getD q z54 = x := ⟨_, rfl⟩
     rw [hx] at hsn d0 d1 d2 d3 d4
     obtain ⟨T, hT⟩ : ∃ T, (l8.take q).flatMap encC = T := ⟨_, rfl⟩
     rw [hT] at hsn hfl HE10
     have HSN := Lib.hid hsn
     have nT : (L10 ++ T).length ≤ 147524 := by rw [List.length_append]; omega
     have q0 : decide ((q : Int) < (m54 : Int)) = true := by simp; omega
     have q0n : decide (q < m54) = true := by simp; omega
     clear hx hx0 hsn hT hfl
     have hgw := Blk.blk_lt HE10.out.1.choose_spec.1
     go_wp2_with fail
     clear d0 d1 d2 d3 d4
     have HV0 := Lib.hid (Blk.blk_new wr (.cells #[.int .u64 x.f0, .int .u64 x.f1, .int .u64 x.f2, .int .u64 x.f3, .int .u64 x.f4] 54))
     have HA0 := Lib.hid (HE10.out.alloc (.cells #[.int .u64 x.f0, .int .u64 x.f1, .int .u64 x.f2, .int .u64 x.f3, .int .u64 x.f4] 54))
     clear HE10
     have hgu : g < (wr.alloc (.cells #[.int .u64 x.f0, .int .u64 x.f1, .int .u64 x.f2, .int .u64 x.f3, .int .u64 x.f4] 54)).heap.size := by simp; omega
     refine (eight_any w _ g _ _ _ [wrap64 x.f0, wrap64 x.f1, wrap64 x.f2, wrap64 x.f3, wrap64 x.f4] (by show _ + 8 * 5 ≤ _; omega) (Nat.le_refl _) (lit_keeps_at (wr.heap.size + 1) [wrap64 x.f0, wrap64 x.f1, wrap64 x.f2, wrap64 x.f3, wrap64 x.f4] (by show 5 ≤ 1000; omega) (by simp) hgu) (HA0.out.alloc _).1 (HA0.out.alloc _).2.1).mono ?_
     rintro e u1 hp
     obtain ⟨rfl, hE, hk⟩ := Es.four (HA0.out.alloc _) hp
     have HA1 := Lib.hid hE
     clear hp hE hk HA0 HV0 hgu
     go_wp2
     go_roundg g'
     case measure => omega
     case rel =>
      refine ⟨q + 1, by go_num, by omega, ?_⟩
      have h := HA1.out
      have e : L10 ++ T ++ be8s [wrap64 x.f0, wrap64 x.f1, wrap64 x.f2, wrap64 x.f3, wrap64 x.f4] = L10 ++ (T ++ encC x) := by unfold encC; simp only [List.append_assoc]
      rw [HSN.out, ← e]
      exact h
    ·obtain rfl : q = m54 := by omega
     clear hlt
     have q0 : decide ((q : Int) < (q : Int)) = false := by simp
     have q0n : decide (q < q) = false := by simp
     have he2 := HE10.out
     rw [← HM54.out, List.take_length] at he2
     have hfl := flat_len encC 40 encC_len l8
     have HE11 := Lib.hid he2; clear he2 HE10
     obtain ⟨L11, hL11⟩ : ∃ L, L10 ++ l8.flatMap encC = L := ⟨_, rfl⟩
     have nL11 : L11.length ≤ 147524 := by rw [← hL11, List.length_append]; omega
     rw [hL11] at HE11
     have HL11 := Lib.hid hL11; clear hL11 hfl
     obtain ⟨-, -, -, -, -, -, -, -, -, -, -, c11⟩ := box_cells HE11.out
     go_wp2_with fail
     clear c11
     refine (four_any w _ g _ _ (by omega) HE11.out.1 HE11.out.2.1).mono ?_
     rintro e w12 hp
     obtain ⟨rfl, hE, hk⟩ := Es.four HE11.out hp
     have HE12 := Lib.hid hE; clear hp hE hk HE11
     obtain ⟨L12, hL12⟩ : ∃ L, L11 ++ be4 (l11.length : Int) = L := ⟨_, rfl⟩
     have nL12 : L12.length ≤ 147528 := by rw [← hL12]; simp only [List.length_append, be8s_len, List.length_cons, List.length_nil, be4, mag]; omega
     rw [hL12] at HE12
     have HL12 := Lib.hid hL12; clear hL12
     obtain ⟨-, -, -, -, -, -, -, -, -, -, -, c11⟩ := box_cells HE12.out
     go_wp2_with fail
     clear c11
     obtain ⟨m45, hm45⟩ : ∃ m, l11.length = m := ⟨_, rfl⟩
     have HM45 := Lib.hid hm45
     have hlm45 : m45 ≤ 16384 := by omega
     simp only [hm45]
     clear hm45
     go_loopg [10, 109] m45 (fun gf v10 v109 wx => ∃ q : Nat, v109 = .int .i64 q ∧ q + gf = m45 ∧ Es w g (BOX a0 a1 a2 a3 a4 a5 (.slice A6 l6.length c6) (.slice A7 l7.length c7) (.slice A8 l8.length c8) a9 a10 (.slice A11 l11.length c11)) (L12 ++ (l11.take q).flatMap encI) wx)
     case atStart => exact ⟨0, rfl, by omega, by simpa using HE12.out⟩
     case round =>
      clear HE12
      obtain ⟨q, rfl, hq, he⟩ := hrel
      have HE12 := Lib.hid he; clear he
      by_cases hlt : q < m45
      ·obtain ⟨g', rfl⟩ : ∃ g', gk = g' + 1 := ⟨gk - 1, by omega⟩
       obtain ⟨ad, e, d0, d1⟩ := at_T45 (Kd.C_below H11.out HE12.out.2.1) q (by omega) (by rw [HM45.out]; omega)
       subst e
       have hsn := flat_snoc encI z45 l11 q (by rw [HM45.out]; exact hlt)
       have hfl := flat_len encI 9 encI_len (l11.take q)
       rw [List.length_take, HM45.out, Nat.min_eq_left (by omega)] at hfl
       rw [Int.toNat_natCast] at d0 d1
       have hx0 : rd_T45 l11 q = l11.getD q z45 := by unfold rd_T45; rw [Int.toNat_natCast]
       rw [hx0] at d0 d1
       obtain ⟨x, hx⟩ : ∃ x, l11.getD q z45 = x := ⟨_, rfl⟩
       rw [hx] at hsn d0 d1
       obtain ⟨T, hT⟩ : ∃ T, (l11.take q).flatMap encI = T := ⟨_, rfl⟩
       rw [hT] at hsn hfl HE12
       have HSN := Lib.hid hsn
       have nT : (L12 ++ T).length ≤ 294984 := by rw [List.length_append]; omega
       have q0 : decide ((q : Int) < (m45 : Int)) = true := by simp; omega
       have q0n : decide (q < m45) = true := by simp; omega
       clear hx hx0 hsn hT hfl
       obtain ⟨LT, hLT⟩ : ∃ LT, L12 ++ T = LT := ⟨_, rfl⟩
       rw [hLT] at HE12 nT
       have HLT := Lib.hid hLT; clear hLT
       obtain ⟨v, hv, hr, hgg⟩ := HE12.out.1
       obtain ⟨A1, c1, e1⟩ := Kd.R_slice hr
       subst e1
       have hvc := Blk.blk_cell hv 0; have hvf := Blk.blk_frozen hv 0; simp at hvc
       have HVV := Lib.hid hv; have HR := Lib.hid hr
       have HNE := Lib.hid (typed_ne (n := 0) hr hv (fun cs fr h => by cases h))
       clear hv hr
       have hbs := HE12.out.2.1.size
       have HNB := Lib.hid (typed_ne (n := 0) HR.out HE12.out.2.2.1 (fun cs fr h => by cases h))
       have hgw := Blk.blk_lt HE12.out.1.choose_spec.1
       have HV0 := Lib.hid (Blk.blk_new wr (.cells #[.int .i64 x.f0, .int .i64 x.f1] 45))
       have HA0 := Lib.hid (HE12.out.alloc (.cells #[.int .i64 x.f0, .int .i64 x.f1] 45))
       clear HE12
       have HNV := Lib.hid (typed_ne (n := 0) (Kd.R_alloc HR.out (.cells #[.int .i64 x.f0, .int .i64 x.f1] 45)) HV0.out (fun cs fr h => by cases h))
       go_wp2_with ((with_reducible refine gate_builtin (b := .append) (xs := #[.tmp 113, .tmp 117]) rfl ?_); at_builtin; refine Kd.R_append_rows (Kd.int .u8) (Rr := fun x cs => cs = [Value.int .u8 x]) (w0 := w) w.heap.size rfl (.tmp 113) (.tmp 117) 47 5 (.int .u8 0) 1 rfl Try.underlying47 info5 rfl ?h1 ?h2 (.slice A1 LT.length c1) LT [x.f0 % 256] (some ⟨wr.heap.size + 1, 0, none⟩) 1 1 (fun _ => True) (fun _ => False) ?hs ?hx ?aO ?aR ?aK ?aH ?aF ?aB ?aS ?aL ?aZ; (case h1 => decide); (case h2 => decide); (case hs => rfl); (case hx => rfl); (case aK => exact fun _ _ h => h); (case aH => exact fun _ h => h.elim); (case aF => exact fun _ _ => trivial); (case aO => exact Kd.R_alloc (Kd.R_alloc HR.out _) _); (case aR => exact lit_row .u8 [x.f0 % 256] (by simp) (Blk.blk_at _ _ _ (by simp))); (case aB => exact HA0.out.2.1.alloc HA0.out.2.1.size _); (case aS => simp; omega); (case aL => omega); intro v1 w1_ ho hb hgr hown; obtain ⟨A2, c2, e2⟩ := Kd.R_slice ho; subst e2; have HS := Lib.hid (stored (Blk.blk_alloc (Blk.blk_alloc HVV.out _) _) HNE.out ho hgr hown hgg); have HB2 := Lib.hid hb; have HX2 := Lib.hid (Blk.blk_grown (Blk.blk_alloc HA0.out.2.2.1 _) hgr HNB.out); have HW2 := Lib.hid (Blk.blk_grown (Blk.blk_alloc HV0.out _) hgr HNV.out); have HG2 := Lib.hid (Blk.blk_grown (Blk.blk_alloc (Blk.blk_alloc HVV.out _) _) hgr HNE.out); have hvc2 := Blk.blk_cell HG2.out 0; have hvf2 := Blk.blk_frozen HG2.out 0; simp at hvc2; have d4 := Blk.blk_cell HW2.out 1; simp at d4; clear ho hb hgr hown)
       have hs2 := HS.out
       rw [List.length_append] at hs2
       have HA1 : Hid (Es w g _ (LT ++ [x.f0 % 256]) (w1_.setCell ⟨g, 0, none⟩ (.slice A2 (LT.length + 1) c2))) := Lib.hid ⟨hs2, HB2.out.setCell hgg _, Blk.blk_far (p := ⟨g, 0, none⟩) HX2.out (by have := HA0.out.2.2.2; show w.heap.size ≠ g; omega) _, HA0.out.2.2.2⟩
       have HV1 := HV0
       have hgu : g < (w1_.setCell ⟨g, 0, none⟩ (.slice A2 (LT.length + 1) c2)).heap.size := by have := Blk.blk_lt HG2.out; simp; omega
       clear hvc2 hvf2 d4 hs2 HS HA0
       refine (eight_any w _ g _ _ _ [x.f1] (by rw [List.length_append]; show _ + 1 + 8 * 1 ≤ _; show _ + 8 * 1 ≤ _; omega) (Nat.le_refl _) (lit_keeps_at w1_.heap.size [x.f1] (by show 1 ≤ 1000; omega) (by simp) hgu) (HA1.out.alloc _).1 (HA1.out.alloc _).2.1).mono ?_
       rintro e u2 hp
       obtain ⟨rfl, hE, hk⟩ := Es.four (HA1.out.alloc _) hp
       have HA2 := Lib.hid hE
       clear hp hE hk HA1 HV1 hgu
       go_wp2
       go_roundg g'
       case measure => omega
       case rel =>
        refine ⟨q + 1, by go_num, by omega, ?_⟩
        have h := HA2.out
        have e : LT ++ [x.f0 % 256] ++ be8s [x.f1] = L12 ++ (T ++ encI x) := by rw [← HLT.out]; unfold encI; simp only [List.append_assoc]
        rw [HSN.out, ← e]
        exact h
      ·obtain rfl : q = m45 := by omega
       clear hlt
       have q0 : decide ((q : Int) < (q : Int)) = false := by simp
       have q0n : decide (q < q) = false := by simp
       have he2 := HE12.out
       rw [← HM45.out, List.take_length] at he2
       have hfl := flat_len encI 9 encI_len l11
       have HE13 := Lib.hid he2; clear he2 HE12
       obtain ⟨L13, hL13⟩ : ∃ L, L12 ++ l11.flatMap encI = L := ⟨_, rfl⟩
       have nL13 : L13.length ≤ 294984 := by rw [← hL13, List.length_append]; omega
       rw [hL13] at HE13
       have HL13 := Lib.hid hL13; clear hL13 hfl
       obtain ⟨v, hv, hr, hgg⟩ := HE13.out.1
       obtain ⟨A1, c1, e1⟩ := Kd.R_slice hr
       subst e1
       have hvc := Blk.blk_cell hv 0
       simp at hvc
       have HR := Lib.hid hr
       clear hv hr
       go_wp2
       go_ret2
       refine ⟨_, rfl, ?_, HE13.out.2.1⟩
       have e : encB a0 a1 a2 a3 a4 a5 l6 l7 l8 a9 a10 l11 = L13 := by
        rw [← HL13.out, ← HL12.out, ← HL11.out, ← HL10.out, ← HL9.out, ← HL8.out, ← HL7.out, ← HL6.out, ← HL5.out, ← HL4.out, ← HL3.out, ← HL2.out, HM51.out, HM54.out, HM45.out]
        unfold encB
        rw [HM51.out, HM54.out, HM45.out]
        rfl
       rw [e]
       exact HR.out
theorem Enc.calls (k : Nat) (a0 a1 a2 a3 a4 a5 : Int) (A6 : Option Addr) (c6 : Nat) (l6 : List Int) (A7 : Option Addr) (c7 : Nat) (l7 : List S51) (A8 : Option Addr) (c8 : Nat) (l8 : List S54) (a9 a10 : Int) (A11 : Option Addr) (c11 : Nat) (l11 : List S45) (r1 : List Int) (r2 : Int) (w : World) (hr6 : Kd.C (Kd.int .i64) w A6 l6.length l6) (hc6 : l6.length ≤ c6) (hr7 : Kd.C k51 w A7 l7.length l7) (hc7 : l7.length ≤ c7) (hr8 : Kd.C k54 w A8 l8.length l8) (hc8 : l8.length ≤ c8) (hr11 : Kd.C k45 w A11 l11.length l11) (hc11 : l11.length ≤ c11) (h : Enc.f k a0 a1 a2 a3 a4 a5 l6 l7 l8 a9 a10 l11 = some (r1, r2)) :
  Calls Try.prog 10 #[.agg #[.int .i64 a0, .int .i64 a1, .int .i64 a2, .int .i64 a3, .int .i64 a4, .int .i64 a5, .slice A6 l6.length c6, .slice A7 l7.length c7, .slice A8 l8.length c8, .int .i64 a9, .int .i64 a10, .slice A11 l11.length c11]] w fun e w' => ∃ v0_ : Value, e = .returned (.tuple #[v0_, .int .i64 r2]) ∧ Kd.R (Kd.int .u8) 5 w' w.heap.size (fun _ => True) v0_ r1 ∧ Below w.heap.size w w' := by
 unfold Enc.f at h
 obtain ⟨t, ht, h⟩ := Option.bind_eq_some_iff.1 h
 cases t
 ·simp only [Bool.false_eq_true, if_false, Option.some.injEq, Prod.mk.injEq] at h
  obtain ⟨rfl, rfl⟩ := h
  exact enc_no k a0 a1 a2 a3 a4 a5 A6 c6 l6 A7 c7 l7 A8 c8 l8 a9 a10 A11 c11 l11 w hr6 hc6 hr7 hc7 hr8 hc8 hr11 hc11 ht
 ·simp only [if_true] at h
  split at h
  ·rename_i hb
   simp only [Option.some.injEq, Prod.mk.injEq] at h
   obtain ⟨rfl, rfl⟩ := h
   exact enc_yes k a0 a1 a2 a3 a4 a5 A6 c6 l6 A7 c7 l7 A8 c8 l8 a9 a10 A11 c11 l11 w hr6 hc6 hr7 hc7 hr8 hc8 hr11 hc11 ht hb.1 hb.2.1 hb.2.2.1 hb.2.2.2
  ·cases h
end Go.Proofs.Ytkdboaaganmagaa.Cb
