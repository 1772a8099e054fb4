/- The reference's Encode: the same bytes. -/
import Derived.Test.YtkdboaaganmagaaCb
import Derived.Test.YtkdboaaganmagaaOPx1
namespace Go.Proofs.Ytkdboaaganmagaa.Cc
set_option linter.unusedVariables false
set_option linter.unusedSimpArgs false
open Go.RowKit Go.Proofs.YtkdboaaganmagaaW.PrintWords Go.Proofs.Ytkdboaaganmagaa.OP Go.Proofs.Ytkdboaaganmagaa.Ca Go.Proofs.Ytkdboaaganmagaa.Cb

theorem shr_le (n : Int) (k : Nat) (hk : k ≤ 64) : shr .u64 n (k : Int) = n / 2 ^ k := by
 unfold shr
 have : IntKind.u64.bits = 64 := rfl
 rw [this, Int.toNat_natCast, Nat.min_eq_left hk]
theorem num_step (K : Nat) (L : List Int) (n : Int) (i : Nat) (hi : i < 8) (hL : L.length ≤ 100000000000) : capstanref22_number.l0 (K + 1) L n i = capstanref22_number.l0 K (L ++ [n / 2 ^ (8 * i) % 256]) n ((i : Int) - 1) := by
 have e1 : wrap64 (8 * (i : Int)) = ((8 * i : Nat) : Int) := by rw [w64 (by omega) (by omega)]; omega
 have e2 : IntKind.u64.wrap ((8 * i : Nat) : Int) = ((8 * i : Nat) : Int) := by rw [IntKind.wrap_u64]; omega
 rw [capstanref22_number.l0, if_pos (by omega), e1, e2, if_pos (by omega), if_pos (by omega), shr_le n (8 * i) (by omega), w64 (by omega) (by omega)]
theorem num_end (K : Nat) (L : List Int) (n : Int) : capstanref22_number.l0 (K + 1) L n (-1) = some L := by
 rw [capstanref22_number.l0, if_neg (by omega)]
theorem num4 (L : List Int) (n : Int) (hL : L.length ≤ 10000000000) : capstanref22_number.f 10 L n 4 = some (L ++ be4 n) := by
 unfold capstanref22_number.f
 rw [w64 (a := 4 - 1) (by omega) (by omega)]
 have h3 := num_step 9 L n 3 (by omega) (by omega)
 have h2 := num_step 8 (L ++ [n / 2 ^ 24 % 256]) n 2 (by omega) (by simp; omega)
 have h1 := num_step 7 (L ++ [n / 2 ^ 24 % 256] ++ [n / 2 ^ 16 % 256]) n 1 (by omega) (by simp; omega)
 have h0 := num_step 6 (L ++ [n / 2 ^ 24 % 256] ++ [n / 2 ^ 16 % 256] ++ [n / 2 ^ 8 % 256]) n 0 (by omega) (by simp; omega)
 rw [show (4 : Int) - 1 = ((3 : Nat) : Int) from rfl, h3]
 rw [show ((3 : Nat) : Int) - 1 = ((2 : Nat) : Int) from rfl, show 8 * 3 = 24 from rfl, h2]
 rw [show ((2 : Nat) : Int) - 1 = ((1 : Nat) : Int) from rfl, show 8 * 2 = 16 from rfl, h1]
 rw [show ((1 : Nat) : Int) - 1 = ((0 : Nat) : Int) from rfl, show 8 * 1 = 8 from rfl, h0]
 rw [show ((0 : Nat) : Int) - 1 = -1 from rfl, num_end]
 unfold be4
 simp
theorem num8' (L : List Int) (n : Int) (hL : L.length ≤ 10000000000) : capstanref22_number.f 10 L n 8 = some (L ++ [n / 2 ^ 56 % 256, n / 2 ^ 48 % 256, n / 2 ^ 40 % 256, n / 2 ^ 32 % 256, n / 2 ^ 24 % 256, n / 2 ^ 16 % 256, n / 2 ^ 8 % 256, n / 2 ^ 0 % 256]) := by
 unfold capstanref22_number.f
 rw [w64 (a := 8 - 1) (by omega) (by omega)]
 have h7 := num_step 9 L n 7 (by omega) (by omega)
 have h6 := num_step 8 (L ++ [n / 2 ^ 56 % 256]) n 6 (by omega) (by simp; omega)
 have h5 := num_step 7 (L ++ [n / 2 ^ 56 % 256] ++ [n / 2 ^ 48 % 256]) n 5 (by omega) (by simp; omega)
 have h4 := num_step 6 (L ++ [n / 2 ^ 56 % 256] ++ [n / 2 ^ 48 % 256] ++ [n / 2 ^ 40 % 256]) n 4 (by omega) (by simp; omega)
 have h3 := num_step 5 (L ++ [n / 2 ^ 56 % 256] ++ [n / 2 ^ 48 % 256] ++ [n / 2 ^ 40 % 256] ++ [n / 2 ^ 32 % 256]) n 3 (by omega) (by simp; omega)
 have h2 := num_step 4 (L ++ [n / 2 ^ 56 % 256] ++ [n / 2 ^ 48 % 256] ++ [n / 2 ^ 40 % 256] ++ [n / 2 ^ 32 % 256] ++ [n / 2 ^ 24 % 256]) n 2 (by omega) (by simp; omega)
 have h1 := num_step 3 (L ++ [n / 2 ^ 56 % 256] ++ [n / 2 ^ 48 % 256] ++ [n / 2 ^ 40 % 256] ++ [n / 2 ^ 32 % 256] ++ [n / 2 ^ 24 % 256] ++ [n / 2 ^ 16 % 256]) n 1 (by omega) (by simp; omega)
 have h0 := num_step 2 (L ++ [n / 2 ^ 56 % 256] ++ [n / 2 ^ 48 % 256] ++ [n / 2 ^ 40 % 256] ++ [n / 2 ^ 32 % 256] ++ [n / 2 ^ 24 % 256] ++ [n / 2 ^ 16 % 256] ++ [n / 2 ^ 8 % 256]) n 0 (by omega) (by simp; omega)
 rw [show (8 : Int) - 1 = ((7 : Nat) : Int) from rfl, h7]
 rw [show ((7 : Nat) : Int) - 1 = ((6 : Nat) : Int) from rfl, show 8 * 7 = 56 from rfl, h6]
 rw [show ((6 : Nat) : Int) - 1 = ((5 : Nat) : Int) from rfl, show 8 * 6 = 48 from rfl, h5]
 rw [show ((5 : Nat) : Int) - 1 = ((4 : Nat) : Int) from rfl, show 8 * 5 = 40 from rfl, h4]
 rw [show ((4 : Nat) : Int) - 1 = ((3 : Nat) : Int) from rfl, show 8 * 4 = 32 from rfl, h3]
 rw [show ((3 : Nat) : Int) - 1 = ((2 : Nat) : Int) from rfl, show 8 * 3 = 24 from rfl, h2]
 rw [show ((2 : Nat) : Int) - 1 = ((1 : Nat) : Int) from rfl, show 8 * 2 = 16 from rfl, h1]
 rw [show ((1 : Nat) : Int) - 1 = ((0 : Nat) : Int) from rfl, show 8 * 1 = 8 from rfl, h0]
 rw [show ((0 : Nat) : Int) - 1 = -1 from rfl, num_end, show 8 * 0 = 0 from rfl]
 simp
theorem num1 (L : List Int) (n : Int) (hL : L.length ≤ 10000000000) : capstanref22_number.f 10 L n 1 = some (L ++ [n % 256]) := by
 unfold capstanref22_number.f
 rw [w64 (a := 1 - 1) (by omega) (by omega)]
 have h0 := num_step 9 L n 0 (by omega) (by omega)
 rw [show (1 : Int) - 1 = ((0 : Nat) : Int) from rfl, h0]
 rw [show ((0 : Nat) : Int) - 1 = -1 from rfl, num_end, show 8 * 0 = 0 from rfl]
 simp
theorem be4_wrap (n : Int) : be4 (IntKind.u64.wrap n) = be4 n := by
 rw [IntKind.wrap_u64]
 unfold be4
 congr 1
 ·omega
 ·congr 1
  ·omega
  ·congr 1
   ·omega
   ·congr 1; omega
theorem eight_is (n : Int) : [n / 2 ^ 56 % 256, n / 2 ^ 48 % 256, n / 2 ^ 40 % 256, n / 2 ^ 32 % 256, n / 2 ^ 24 % 256, n / 2 ^ 16 % 256, n / 2 ^ 8 % 256, n / 2 ^ 0 % 256] = be8 n := by
 unfold be8 be4
 rw [IntKind.wrap_u64]
 simp only [List.cons_append, List.nil_append]
 congr 1
 ·omega
 ·congr 1
  ·omega
  ·congr 1
   ·omega
   ·congr 1
    ·omega
    ·congr 1
     ·omega
     ·congr 1
      ·omega
      ·congr 1
       ·omega
       ·congr 1; omega
theorem be8_of {a b : Int} (h : IntKind.u64.wrap a = IntKind.u64.wrap b) : be8 a = be8 b := by unfold be8; rw [h]
theorem num4w (L : List Int) (n : Int) (hL : L.length ≤ 10000000000) : capstanref22_number.f 10 L (IntKind.u64.wrap n) 4 = some (L ++ be4 n) := by rw [num4 _ _ hL, be4_wrap]
theorem num8 (L : List Int) (n : Int) (hL : L.length ≤ 10000000000) : capstanref22_number.f 10 L n 8 = some (L ++ be8 n) := by rw [num8' _ _ hL, eight_is]
theorem num8w (L : List Int) (n : Int) (hL : L.length ≤ 10000000000) : capstanref22_number.f 10 L (IntKind.u64.wrap n) 8 = some (L ++ be8 n) := by rw [num8 _ _ hL, be8_of (a := IntKind.u64.wrap n) (b := n) (by rw [IntKind.wrap_u64, IntKind.wrap_u64]; omega)]
theorem num1w (L : List Int) (n : Int) (hL : L.length ≤ 10000000000) : capstanref22_number.f 10 L (IntKind.u64.wrap n) 1 = some (L ++ [n % 256]) := by
 rw [num1 _ _ hL, show IntKind.u64.wrap n % 256 = n % 256 from by rw [IntKind.wrap_u64]; omega]
theorem be8_w64 (n : Int) : be8 (wrap64 n) = be8 n := be8_of (by unfold wrap64; rw [IntKind.wrap_u64, IntKind.wrap_u64]; omega)
/-- All blocks but rows of bytes stay. -/
def KeepN (W W' : World) : Prop := W.heap.size ≤ W'.heap.size ∧ ∀ (k : Nat) (o : Obj), W.heap[k]? = some o → (∀ cs fr, o ≠ .cells cs 5 fr) → W'.heap[k]? = some o
theorem arr5 (k : IntKind) (b0 b1 b2 b3 b4 : Int) (q : Nat) (h : q < 5) : (#[.int k b0, .int k b1, .int k b2, .int k b3, .int k b4] : Array Value)[q]? = some (.int k ([b0, b1, b2, b3, b4].getD q 0)) := by
 have : q = 0 ∨ q = 1 ∨ q = 2 ∨ q = 3 ∨ q = 4 := by omega
 rcases this with rfl | rfl | rfl | rfl | rfl <;> rfl
/-- Where the reference's Encode stands. -/
def Rs (w : World) (bx : Array Value) (v : Value) (L : List Int) (wx : World) : Prop := Kd.R (Kd.int .u8) 5 wx w.heap.size (fun _ => True) v L ∧ Below w.heap.size w wx ∧ wx.heap[w.heap.size]? = some (.cells bx 29 (0, 0))
theorem Rs.alloc {w wx : World} {bx : Array Value} {v : Value} {L : List Int} (h : Rs w bx v L wx) (o : Obj) : Rs w bx v L (wx.alloc o) := ⟨Kd.R_alloc h.1 o, h.2.1.alloc h.2.1.size _, Blk.blk_alloc h.2.2 o⟩
def NPost (w : World) (bx : Array Value) (r : List Int) (wx : World) (e : Ending) (w' : World) : Prop := ∃ v1, e = .returned v1 ∧ Rs w bx v1 r w' ∧ KeepN wx w'
theorem nb {w wx : World} {bx : Array Value} {v : Value} {L r : List Int} {n sz : Int} (hs : Rs w bx v L wx) (h : capstanref22_number.f 10 L n sz = some r) : Calls Try.prog 21 #[v, .int .u64 n, .int .i64 sz] wx (NPost w bx r wx) := by
 have ht := Kd.R_tight (d := Kd.int .u8) rfl hs.1
 refine (capstanref22_number.calls 10 _ v L n sz r w wx hs.2.1 ht h).mono ?_
 rintro e w' ⟨v1, rfl, hr, hb, hk⟩
 have hkeep : KeepN wx w' := ⟨hk.1, fun k o hk1 ho => (hk.2 k (Blk.blk_lt hk1) (fun he => by
  have := typed_ne (n := 0) hs.1 hk1 ho
  exact this (by first | exact he | exact he.symm))).trans hk1⟩
 exact ⟨v1, rfl, ⟨Kd.R_mono hr (fun _ _ => trivial), hb, hkeep.2 _ _ hs.2.2 (fun cs fr hh => by cases hh)⟩, hkeep⟩
theorem rbox {w wx : World} {v : Value} {a0 a1 a2 a3 a4 a5 a9 a10 : Int} {v6 v7 v8 v11 : Value} {L : List Int} (h : Rs w (BOX a0 a1 a2 a3 a4 a5 v6 v7 v8 a9 a10 v11) v L wx) :
  wx.cell? ⟨w.heap.size, 0, none⟩ = some (.int .i64 a0) ∧ wx.cell? ⟨w.heap.size, 1, none⟩ = some (.int .i64 a1) ∧ wx.cell? ⟨w.heap.size, 2, none⟩ = some (.int .i64 a2) ∧ wx.cell? ⟨w.heap.size, 3, none⟩ = some (.int .i64 a3) ∧ wx.cell? ⟨w.heap.size, 4, none⟩ = some (.int .i64 a4) ∧ wx.cell? ⟨w.heap.size, 5, none⟩ = some (.int .i64 a5) ∧ wx.cell? ⟨w.heap.size, 6, none⟩ = some v6 ∧ wx.cell? ⟨w.heap.size, 7, none⟩ = some v7 ∧ wx.cell? ⟨w.heap.size, 8, none⟩ = some v8 ∧ wx.cell? ⟨w.heap.size, 9, none⟩ = some (.int .i64 a9) ∧ wx.cell? ⟨w.heap.size, 10, none⟩ = some (.int .i64 a10) ∧ wx.cell? ⟨w.heap.size, 11, none⟩ = some v11 :=
 ⟨Blk.blk_cell h.2.2 0, Blk.blk_cell h.2.2 1, Blk.blk_cell h.2.2 2, Blk.blk_cell h.2.2 3, Blk.blk_cell h.2.2 4, Blk.blk_cell h.2.2 5, Blk.blk_cell h.2.2 6, Blk.blk_cell h.2.2 7, Blk.blk_cell h.2.2 8, Blk.blk_cell h.2.2 9, Blk.blk_cell h.2.2 10, Blk.blk_cell h.2.2 11⟩
def REnc.f (k : Nat) (a0 a1 a2 a3 a4 a5 : Int) (l6 : List Int) (l7 : List S51) (l8 : List S54) (a9 a10 : Int) (l11 : List S45) : Option (List Int × Int) :=
 (capstanref22_Told.f k a0 a1 a2 a3 a4 a5 l6 l7 l8 a9 a10 l11).bind fun t => if t = true then (if l6.length ≤ 16384 ∧ l7.length ≤ 256 ∧ l8.length ≤ 256 ∧ l11.length ≤ 16384 then some (encB a0 a1 a2 a3 a4 a5 l6 l7 l8 a9 a10 l11, 0) else none) else some ([], 1)
theorem REnc.mono (a0 a1 a2 a3 a4 a5 : Int) (l6 : List Int) (l7 : List S51) (l8 : List S54) (a9 a10 : Int) (l11 : List S45) : ∀ k, LeO (REnc.f k a0 a1 a2 a3 a4 a5 l6 l7 l8 a9 a10 l11) (REnc.f (k + 1) a0 a1 a2 a3 a4 a5 l6 l7 l8 a9 a10 l11) := by
 intro k
 unfold REnc.f
 refine LeO.bind (capstanref22_Told.mono _ _ _ _ _ _ _ _ _ _ _ _ _) (fun _ => LeO.refl _)

set_option maxHeartbeats 8000000 in
set_option maxRecDepth 100000 in
theorem renc_no (k : Nat) (a0 a1 a2 a3 a4 a5 : Int) (A6 : Option Addr) (c6 : Nat) (l6 : List Int) (A7 : Option Addr) (c7 : Nat) (l7 : List S51) (A8 : Option Addr) (c8 : Nat) (l8 : List S54) (a9 a10 : Int) (A11 : Option Addr) (c11 : Nat) (l11 : List S45) (w : World) (hr6 : Kd.C (Kd.int .i64) w A6 l6.length l6) (hc6 : l6.length ≤ c6) (hr7 : Kd.C k51 w A7 l7.length l7) (hc7 : l7.length ≤ c7) (hr8 : Kd.C k54 w A8 l8.length l8) (hc8 : l8.length ≤ c8) (hr11 : Kd.C k45 w A11 l11.length l11) (hc11 : l11.length ≤ c11) (ht : capstanref22_Told.f k a0 a1 a2 a3 a4 a5 l6 l7 l8 a9 a10 l11 = some false) :
  Calls Try.prog 11 #[.agg #[.int .i64 a0, .int .i64 a1, .int .i64 a2, .int .i64 a3, .int .i64 a4, .int .i64 a5, .slice A6 l6.length c6, .slice A7 l7.length c7, .slice A8 l8.length c8, .int .i64 a9, .int .i64 a10, .slice A11 l11.length c11]] w (EPost [] 1 w) := by
 have HT := Lib.hid (fun W (hb : Below w.heap.size w W) => capstanref22_Told.calls k a0 a1 a2 a3 a4 a5 A6 c6 l6 A7 c7 l7 A8 c8 l8 a9 a10 A11 c11 l11 _ W (Kd.C_below hr6 hb) hc6 (Kd.C_below hr7 hb) hc7 (Kd.C_below hr8 hb) hc8 (Kd.C_below hr11 hb) hc11 ht)
 have H6 := Lib.hid hr6; have H7 := Lib.hid hr7; have H8 := Lib.hid hr8; have H11 := Lib.hid hr11
 clear hr6 hr7 hr8 hr11 ht
 go_enter Try.func11, Try.ntmps11
 go_wp2_with fail
 refine (HT.out _ ((Below.refl _ _).alloc (Nat.le_refl _) _)).mono ?_
 rintro e w1 ⟨rfl, hb1⟩
 have HB1 := Lib.hid (Blk.below_then ((Below.refl _ _).alloc (Nat.le_refl _) _) hb1 (by simp))
 clear hb1
 go_wp2
 go_ret2
 exact ⟨_, rfl, Kd.R_nil _ _ _ _ _, HB1.out⟩
set_option maxHeartbeats 8000000 in
set_option maxRecDepth 100000 in
theorem renc_yes (k : Nat) (a0 a1 a2 a3 a4 a5 : Int) (A6 : Option Addr) (c6 : Nat) (l6 : List Int) (A7 : Option Addr) (c7 : Nat) (l7 : List S51) (A8 : Option Addr) (c8 : Nat) (l8 : List S54) (a9 a10 : Int) (A11 : Option Addr) (c11 : Nat) (l11 : List S45) (w : World) (hr6 : Kd.C (Kd.int .i64) w A6 l6.length l6) (hc6 : l6.length ≤ c6) (hr7 : Kd.C k51 w A7 l7.length l7) (hc7 : l7.length ≤ c7) (hr8 : Kd.C k54 w A8 l8.length l8) (hc8 : l8.length ≤ c8) (hr11 : Kd.C k45 w A11 l11.length l11) (hc11 : l11.length ≤ c11) (ht : capstanref22_Told.f k a0 a1 a2 a3 a4 a5 l6 l7 l8 a9 a10 l11 = some true) (h6 : l6.length ≤ 16384) (h7 : l7.length ≤ 256) (h8 : l8.length ≤ 256) (h11 : l11.length ≤ 16384) :
  Calls Try.prog 11 #[.agg #[.int .i64 a0, .int .i64 a1, .int .i64 a2, .int .i64 a3, .int .i64 a4, .int .i64 a5, .slice A6 l6.length c6, .slice A7 l7.length c7, .slice A8 l8.length c8, .int .i64 a9, .int .i64 a10, .slice A11 l11.length c11]] w (EPost (encB a0 a1 a2 a3 a4 a5 l6 l7 l8 a9 a10 l11) 0 w) := by
 have HT := Lib.hid (fun W (hb : Below w.heap.size w W) => capstanref22_Told.calls k a0 a1 a2 a3 a4 a5 A6 c6 l6 A7 c7 l7 A8 c8 l8 a9 a10 A11 c11 l11 _ W (Kd.C_below hr6 hb) hc6 (Kd.C_below hr7 hb) hc7 (Kd.C_below hr8 hb) hc8 (Kd.C_below hr11 hb) hc11 ht)
 have H6 := Lib.hid hr6; have H7 := Lib.hid hr7; have H8 := Lib.hid hr8; have H11 := Lib.hid hr11
 clear hr6 hr7 hr8 hr11 ht
 go_enter Try.func11, Try.ntmps11
 go_wp2_with fail
 refine (HT.out _ ((Below.refl _ _).alloc (Nat.le_refl _) _)).mono ?_
 rintro e w1 ⟨rfl, hb1⟩
 have HX1 := Lib.hid (Blk.blk_below (Blk.blk_new w (.cells (BOX a0 a1 a2 a3 a4 a5 (.slice A6 l6.length c6) (.slice A7 l7.length c7) (.slice A8 l8.length c8) a9 a10 (.slice A11 l11.length c11)) 29)) hb1 (by simp))
 have HB1 := Lib.hid (Blk.below_then ((Below.refl _ _).alloc (Nat.le_refl _) _) hb1 (by simp))
 clear hb1
 have HE0 : Hid (Rs w (BOX a0 a1 a2 a3 a4 a5 (.slice A6 l6.length c6) (.slice A7 l7.length c7) (.slice A8 l8.length c8) a9 a10 (.slice A11 l11.length c11)) (.slice (some ⟨w1.heap.size, 0, none⟩) 4 4) mag (w1.alloc (.cells #[.int .u8 99, .int .u8 112, .int .u8 115, .int .u8 49] 5))) := Lib.hid ⟨own_lit mag (by decide) HB1.out.size (Blk.blk_new _ _), HB1.out.alloc HB1.out.size _, Blk.blk_alloc HX1.out _⟩
 have nL0 : mag.length ≤ 4 := Nat.le_refl _
 clear HB1 HX1 HT
 obtain ⟨y0, -, -, -, -, -, -, -, -, -, -, -⟩ := rbox HE0.out
 go_wp2_with fail
 clear y0
 refine (nb HE0.out (num4w _ _ (by omega))).mono ?_
 rintro e w2 ⟨v1, rfl, hs, -⟩
 have HE1 := Lib.hid hs; clear hs HE0
 obtain ⟨L1, hL1⟩ : ∃ L, mag ++ be4 a0 = L := ⟨_, rfl⟩
 have nL1 : L1.length ≤ 8 := by rw [← hL1]; simp only [List.length_append, be8s_len, List.length_cons, List.length_nil, be8_len, be4]; omega
 rw [hL1] at HE1
 have HL1 := Lib.hid hL1; clear hL1
 obtain ⟨-, -, -, -, -, -, -, -, -, y9, -, -⟩ := rbox HE1.out
 go_wp2_with fail
 clear y9
 refine (nb HE1.out (num4w _ _ (by omega))).mono ?_
 rintro e w3 ⟨v2, rfl, hs, -⟩
 have HE2 := Lib.hid hs; clear hs HE1
 obtain ⟨L2, hL2⟩ : ∃ L, L1 ++ be4 a9 = L := ⟨_, rfl⟩
 have nL2 : L2.length ≤ 12 := by rw [← hL2]; simp only [List.length_append, be8s_len, List.length_cons, List.length_nil, be8_len, be4]; omega
 rw [hL2] at HE2
 have HL2 := Lib.hid hL2; clear hL2
 obtain ⟨-, -, -, -, -, -, -, -, -, -, y10, -⟩ := rbox HE2.out
 go_wp2_with fail
 clear y10
 refine (nb HE2.out (num4w _ _ (by omega))).mono ?_
 rintro e w4 ⟨v3, rfl, hs, -⟩
 have HE3 := Lib.hid hs; clear hs HE2
 obtain ⟨L3, hL3⟩ : ∃ L, L2 ++ be4 a10 = L := ⟨_, rfl⟩
 have nL3 : L3.length ≤ 16 := by rw [← hL3]; simp only [List.length_append, be8s_len, List.length_cons, List.length_nil, be8_len, be4]; omega
 rw [hL3] at HE3
 have HL3 := Lib.hid hL3; clear hL3
 obtain ⟨-, y1, y2, y3, y4, y5, -, -, -, -, -, -⟩ := rbox HE3.out
 go_wp2
 clear y1 y2 y3 y4 y5
 have HA0 := Lib.hid (HE3.out.alloc (.cells #[.int .i64 a1, .int .i64 a2, .int .i64 a3, .int .i64 a4, .int .i64 a5] 56))
 go_loopg [4, 6] 5 (fun gf v4 v6 wx => ∃ q : Nat, v6 = .int .i64 q ∧ q + gf = 5 ∧ Rs w (BOX a0 a1 a2 a3 a4 a5 (.slice A6 l6.length c6) (.slice A7 l7.length c7) (.slice A8 l8.length c8) a9 a10 (.slice A11 l11.length c11)) v4 (L3 ++ be8s ([a1, a2, a3, a4, a5].take q)) wx ∧ wx.heap[w4.heap.size]? = some (.cells #[.int .i64 a1, .int .i64 a2, .int .i64 a3, .int .i64 a4, .int .i64 a5] 56 (0, 0)))
 case atStart => exact ⟨0, rfl, rfl, by simpa [be8s] using HA0.out, Blk.blk_new _ _⟩
 case round =>
  clear HA0 HE3
  obtain ⟨q, rfl, hq, he, harr⟩ := hrel
  have HQ := Lib.hid he; have HARR := Lib.hid harr; clear he harr
  by_cases hlt : q < 5
  ·obtain ⟨g', rfl⟩ : ∃ g', gk = g' + 1 := ⟨gk - 1, by omega⟩
   have hcell := (Blk.blk_cell HARR.out q).trans (arr5 .i64 a1 a2 a3 a4 a5 q hlt)
   have hsn := be8s_snoc [a1, a2, a3, a4, a5] q hlt
   have hfl := be8s_len ([a1, a2, a3, a4, a5].take q)
   rw [List.length_take] at hfl
   have hfl2 : (be8s ([a1, a2, a3, a4, a5].take q)).length ≤ 40 := by rw [hfl]; show 8 * min q 5 ≤ 40; omega
   obtain ⟨x, hx⟩ : ∃ x, [a1, a2, a3, a4, a5].getD q 0 = x := ⟨_, rfl⟩
   rw [hx] at hsn hcell
   obtain ⟨T, hT⟩ : ∃ T, be8s ([a1, a2, a3, a4, a5].take q) = T := ⟨_, rfl⟩
   rw [hT] at hsn hfl2 HQ
   have HSN := Lib.hid hsn
   have q0 : decide ((q : Int) < 5) = true := by simp; omega
   clear hx hsn hT hfl
   go_wp2_with fail
   refine (nb HQ.out (num8w _ _ (by rw [List.length_append]; omega))).mono ?_
   rintro e u ⟨v_, rfl, hs, hk⟩
   have HQ2 := Lib.hid hs; have HARR2 := Lib.hid (hk.2 _ _ HARR.out (fun cs fr hh => by cases hh)); clear hs hk HQ HARR hcell
   go_wp2
   go_roundg g'
   case measure => omega
   case rel => exact ⟨q + 1, by go_num, by omega, by rw [HSN.out, ← List.append_assoc]; exact HQ2.out, HARR2.out⟩
  ·obtain rfl : q = 5 := by omega
   have q0 : decide (((5 : Nat) : Int) < 5) = false := by decide
   have he2 := HQ.out
   rw [show [a1, a2, a3, a4, a5].take 5 = [a1, a2, a3, a4, a5] from rfl] at he2
   have HE4 := Lib.hid he2; clear he2
   clear HQ HARR hlt
   obtain ⟨L4, hL4⟩ : ∃ L, L3 ++ be8s [a1, a2, a3, a4, a5] = L := ⟨_, rfl⟩
   have nL4 : L4.length ≤ 56 := by rw [← hL4]; simp only [List.length_append, be8s_len, List.length_cons, List.length_nil, be8_len, be4]; omega
   rw [hL4] at HE4
   have HL4 := Lib.hid hL4; clear hL4
   obtain ⟨-, -, -, -, -, -, y6, -, -, -, -, -⟩ := rbox HE4.out
   go_wp2_with fail
   clear y6
   refine (nb HE4.out (num4 _ _ (by omega))).mono ?_
   rintro e w101 ⟨v101, rfl, hs, -⟩
   have HE5 := Lib.hid hs; clear hs HE4
   obtain ⟨L5, hL5⟩ : ∃ L, L4 ++ be4 l6.length = L := ⟨_, rfl⟩
   have nL5 : L5.length ≤ 60 := by rw [← hL5]; simp only [List.length_append, be8s_len, List.length_cons, List.length_nil, be8_len, be4]; omega
   rw [hL5] at HE5
   have HL5 := Lib.hid hL5; clear hL5
   obtain ⟨-, -, -, -, -, -, y6, -, -, -, -, -⟩ := rbox HE5.out
   go_wp2
   clear y6
   go_loopg [4, 7] l6.length (fun gf v4 v7 wx => ∃ q : Nat, v7 = .int .i64 q ∧ q + gf = l6.length ∧ Rs w (BOX a0 a1 a2 a3 a4 a5 (.slice A6 l6.length c6) (.slice A7 l7.length c7) (.slice A8 l8.length c8) a9 a10 (.slice A11 l11.length c11)) v4 (L5 ++ be8s (l6.take q)) wx)
   case atStart => exact ⟨0, rfl, by omega, by simpa [be8s] using HE5.out⟩
   case round =>
    clear HE5
    obtain ⟨q, rfl, hq, he⟩ := hrel
    have HE5 := Lib.hid he; clear he
    by_cases hlt : q < l6.length
    ·obtain ⟨g', rfl⟩ : ∃ g', gk = g' + 1 := ⟨gk - 1, by omega⟩
     obtain ⟨-, -, -, -, -, -, y6, -, -, -, -, -⟩ := rbox HE5.out
     obtain ⟨ad, e, hcell⟩ := row_at (Kd.C_below H6.out HE5.out.2.1) q hlt
     subst e
     have hsn := be8s_snoc l6 q hlt
     have hfl := be8s_len (l6.take q)
     rw [List.length_take, Nat.min_eq_left (by omega)] at hfl
     obtain ⟨x, hx⟩ : ∃ x, l6.getD q 0 = x := ⟨_, rfl⟩
     rw [hx] at hsn hcell
     obtain ⟨T, hT⟩ : ∃ T, be8s (l6.take q) = T := ⟨_, rfl⟩
     rw [hT] at hsn hfl HE5
     have HSN := Lib.hid hsn
     have q0 : decide ((q : Int) < (l6.length : Int)) = true := by simp; omega
     have q0n : decide (q < l6.length) = true := by simp; omega
     clear hx hsn hT
     go_wp2_with fail
     clear y6
     refine (nb HE5.out (num8w _ _ (by rw [List.length_append]; omega))).mono ?_
     rintro e u ⟨v_, rfl, hs, -⟩
     have HQ2 := Lib.hid hs; clear hs HE5 hcell
     go_wp2
     go_roundg g'
     case measure => omega
     case rel => exact ⟨q + 1, by go_num, by omega, by rw [HSN.out, ← List.append_assoc]; exact HQ2.out⟩
    ·obtain rfl : gk = 0 := by omega
     have hql : q = l6.length := by omega
     subst hql
     have q0 : decide ((l6.length : Int) < (l6.length : Int)) = false := by simp
     have q0n : decide (l6.length < l6.length) = false := by simp
     have he2 := HE5.out
     rw [List.take_length] at he2
     have hfl := be8s_len l6
     clear hlt hq
     obtain ⟨-, -, -, -, -, -, y6, -, -, -, -, -⟩ := rbox HE5.out
     clear HE5
     have HE6 := Lib.hid he2; clear he2
     obtain ⟨L6, hL6⟩ : ∃ L, L5 ++ be8s l6 = L := ⟨_, rfl⟩
     have nL6 : L6.length ≤ 131132 := by rw [← hL6, List.length_append]; omega
     rw [hL6] at HE6
     have HL6 := Lib.hid hL6; clear hL6
     clear hfl
     obtain ⟨-, -, -, -, -, -, -, y7, -, -, -, -⟩ := rbox HE6.out
     go_wp2_with fail
     clear y7
     refine (nb HE6.out (num4 _ _ (by omega))).mono ?_
     rintro e w102 ⟨v102, rfl, hs, -⟩
     have HE7 := Lib.hid hs; clear hs HE6
     obtain ⟨L7, hL7⟩ : ∃ L, L6 ++ be4 l7.length = L := ⟨_, rfl⟩
     have nL7 : L7.length ≤ 131136 := by rw [← hL7]; simp only [List.length_append, be8s_len, List.length_cons, List.length_nil, be8_len, be4]; omega
     rw [hL7] at HE7
     have HL7 := Lib.hid hL7; clear hL7
     obtain ⟨-, -, -, -, -, -, -, y7, -, -, -, -⟩ := rbox HE7.out
     go_wp2
     clear y7
     go_loopg [4, 8, 9] l7.length (fun gf v4 v8 v9 wx => ∃ q : Nat, v8 = .int .i64 q ∧ q + gf = l7.length ∧ Rs w (BOX a0 a1 a2 a3 a4 a5 (.slice A6 l6.length c6) (.slice A7 l7.length c7) (.slice A8 l8.length c8) a9 a10 (.slice A11 l11.length c11)) v4 (L7 ++ (l7.take q).flatMap encW) wx)
     case atStart => exact ⟨0, rfl, by omega, by simpa [be8s] using HE7.out⟩
     case round =>
      clear HE7
      obtain ⟨q, rfl, hq, he⟩ := hrel
      have HE7 := Lib.hid he; clear he
      by_cases hlt : q < l7.length
      ·obtain ⟨g', rfl⟩ : ∃ g', gk = g' + 1 := ⟨gk - 1, by omega⟩
       obtain ⟨-, -, -, -, -, -, -, y7, -, -, -, -⟩ := rbox HE7.out
       obtain ⟨ad, e, d0, d1, d2, d3⟩ := at_T51 (Kd.C_below H7.out HE7.out.2.1) q (by omega) (by omega)
       subst e
       have hsn := flat_snoc encW z51 l7 q hlt
       have hfl := flat_len encW 24 encW_len (l7.take q)
       rw [List.length_take, Nat.min_eq_left (by omega)] at hfl
       rw [Int.toNat_natCast] at d0 d1 d2 d3
       have hx0 : rd_T51 l7 q = l7.getD q z51 := by unfold rd_T51; rw [Int.toNat_natCast]
       rw [hx0] at d0 d1 d2 d3
       obtain ⟨x, hx⟩ : ∃ x, l7.getD q z51 = x := ⟨_, rfl⟩
       rw [hx] at hsn d0 d1 d2 d3
       obtain ⟨T, hT⟩ : ∃ T, (l7.take q).flatMap encW = T := ⟨_, rfl⟩
       rw [hT] at hsn hfl HE7
       obtain ⟨LT, hLT⟩ : ∃ LT, L7 ++ T = LT := ⟨_, rfl⟩
       have nT : LT.length ≤ 10000000 := by rw [← hLT, List.length_append]; omega
       rw [hLT] at HE7
       have HLT := Lib.hid hLT
       have HSN := Lib.hid hsn
       have q0 : decide ((q : Int) < (l7.length : Int)) = true := by simp; omega
       have q0n : decide (q < l7.length) = true := by simp; omega
       clear hx hx0 hsn hT hLT hfl
       have HV0 := Lib.hid (Blk.blk_new wr (.cells #[.int .i64 x.f0, .int .i64 x.f1, .int .i64 x.f2, .int .i64 x.f3] 51))
       have HQ0 := Lib.hid (HE7.out.alloc (.cells #[.int .i64 x.f0, .int .i64 x.f1, .int .i64 x.f2, .int .i64 x.f3] 51))
       go_wp2_with fail
       clear y7 d0 d1 d2 d3 HE7
       refine (nb HQ0.out (num4w _ _ (by first | omega | (simp only [List.length_append, be8_len, be4, List.length_cons, List.length_nil]; omega)))).mono ?_
       rintro e u0 ⟨v_0, rfl, hs, hk⟩
       have HQ1 := Lib.hid hs
       have HV1 := Lib.hid (hk.2 _ _ HV0.out (fun cs fr hh => by cases hh)); clear HV0
       clear hs hk HQ0
       have d1 := Blk.blk_cell HV1.out 1
       try simp at d1
       go_wp2_with fail
       clear d1
       refine (nb HQ1.out (num4w _ _ (by first | omega | (simp only [List.length_append, be8_len, be4, List.length_cons, List.length_nil]; omega)))).mono ?_
       rintro e u1 ⟨v_1, rfl, hs, hk⟩
       have HQ2 := Lib.hid hs
       have HV2 := Lib.hid (hk.2 _ _ HV1.out (fun cs fr hh => by cases hh)); clear HV1
       clear hs hk HQ1
       have d2 := Blk.blk_cell HV2.out 2
       try simp at d2
       go_wp2_with fail
       clear d2
       refine (nb HQ2.out (num8w _ _ (by first | omega | (simp only [List.length_append, be8_len, be4, List.length_cons, List.length_nil]; omega)))).mono ?_
       rintro e u2 ⟨v_2, rfl, hs, hk⟩
       have HQ3 := Lib.hid hs
       have HV3 := Lib.hid (hk.2 _ _ HV2.out (fun cs fr hh => by cases hh)); clear HV2
       clear hs hk HQ2
       have d3 := Blk.blk_cell HV3.out 3
       try simp at d3
       go_wp2_with fail
       clear d3
       refine (nb HQ3.out (num8w _ _ (by first | omega | (simp only [List.length_append, be8_len, be4, List.length_cons, List.length_nil]; omega)))).mono ?_
       rintro e u3 ⟨v_3, rfl, hs, hk⟩
       have HQ4 := Lib.hid hs
       have HV4 := Lib.hid (hk.2 _ _ HV3.out (fun cs fr hh => by cases hh)); clear HV3
       clear hs hk HQ3
       go_wp2
       go_roundg g'
       case measure => omega
       case rel =>
        refine ⟨q + 1, by go_num, by omega, ?_⟩
        have h := HQ4.out
        have e : LT ++ be4 x.f0 ++ be4 x.f1 ++ be8 x.f2 ++ be8 x.f3 = L7 ++ (T ++ encW x) := by rw [← HLT.out]; unfold encW; simp only [be8s, List.flatMap_cons, List.flatMap_nil, List.append_nil, List.append_assoc, be8_w64]
        rw [HSN.out, ← e]
        exact h
      ·obtain rfl : gk = 0 := by omega
       have hql : q = l7.length := by omega
       subst hql
       have q0 : decide ((l7.length : Int) < (l7.length : Int)) = false := by simp
       have q0n : decide (l7.length < l7.length) = false := by simp
       have he2 := HE7.out
       rw [List.take_length] at he2
       have hfl := flat_len encW 24 encW_len l7
       clear hlt hq
       obtain ⟨-, -, -, -, -, -, -, y7, -, -, -, -⟩ := rbox HE7.out
       clear HE7
       have HE8 := Lib.hid he2; clear he2
       obtain ⟨L8, hL8⟩ : ∃ L, L7 ++ l7.flatMap encW = L := ⟨_, rfl⟩
       have nL8 : L8.length ≤ 137280 := by rw [← hL8, List.length_append]; omega
       rw [hL8] at HE8
       have HL8 := Lib.hid hL8; clear hL8
       clear hfl
       obtain ⟨-, -, -, -, -, -, -, -, y8, -, -, -⟩ := rbox HE8.out
       go_wp2_with fail
       clear y8
       refine (nb HE8.out (num4 _ _ (by omega))).mono ?_
       rintro e w103 ⟨v103, rfl, hs, -⟩
       have HE9 := Lib.hid hs; clear hs HE8
       obtain ⟨L9, hL9⟩ : ∃ L, L8 ++ be4 l8.length = L := ⟨_, rfl⟩
       have nL9 : L9.length ≤ 137284 := by rw [← hL9]; simp only [List.length_append, be8s_len, List.length_cons, List.length_nil, be8_len, be4]; omega
       rw [hL9] at HE9
       have HL9 := Lib.hid hL9; clear hL9
       obtain ⟨-, -, -, -, -, -, -, -, y8, -, -, -⟩ := rbox HE9.out
       go_wp2
       clear y8
       go_loopg [4, 10, 11, 12, 13] l8.length (fun gf v4 v10 v11 v12 v13 wx => ∃ q : Nat, v10 = .int .i64 q ∧ q + gf = l8.length ∧ Rs w (BOX a0 a1 a2 a3 a4 a5 (.slice A6 l6.length c6) (.slice A7 l7.length c7) (.slice A8 l8.length c8) a9 a10 (.slice A11 l11.length c11)) v4 (L9 ++ (l8.take q).flatMap encC) wx)
       case atStart => exact ⟨0, rfl, by omega, by simpa [be8s] using HE9.out⟩
       case round =>
        clear HE9
        obtain ⟨q, rfl, hq, he⟩ := hrel
        have HE9 := Lib.hid he; clear he
        by_cases hlt : q < l8.length
        ·obtain ⟨g', rfl⟩ : ∃ g', gk = g' + 1 := ⟨gk - 1, by omega⟩
         obtain ⟨-, -, -, -, -, -, -, -, y8, -, -, -⟩ := rbox HE9.out
         obtain ⟨ad, e, d0, d1, d2, d3, d4⟩ := at_T54 (Kd.C_below H8.out HE9.out.2.1) q (by omega) (by omega)
         subst e
         have hsn := flat_snoc encC z54 l8 q hlt
         have hfl := flat_len encC 40 encC_len (l8.take q)
         rw [List.length_take, Nat.min_eq_left (by omega)] at hfl
         rw [Int.toNat_natCast] at d0 d1 d2 d3 d4
         have hx0 : rd_T54 l8 q = l8.getD q z54 := by unfold rd_T54; rw [Int.toNat_natCast]
         rw [hx0] at d0 d1 d2 d3 d4
         obtain ⟨x, hx⟩ : ∃ x, l8.getD q z54 = x := ⟨_, rfl⟩
         rw [hx] at hsn d0 d1 d2 d3 d4
         obtain ⟨T, hT⟩ : ∃ T, (l8.take q).flatMap encC = T := ⟨_, rfl⟩
         rw [hT] at hsn hfl HE9
         obtain ⟨LT, hLT⟩ : ∃ LT, L9 ++ T = LT := ⟨_, rfl⟩
         have nT : LT.length ≤ 10000000 := by rw [← hLT, List.length_append]; omega
         rw [hLT] at HE9
         have HLT := Lib.hid hLT
         have HSN := Lib.hid hsn
         have q0 : decide ((q : Int) < (l8.length : Int)) = true := by simp; omega
         have q0n : decide (q < l8.length) = true := by simp; omega
         clear hx hx0 hsn hT hLT hfl
         have HQ0 := Lib.hid ((HE9.out.alloc (.cells #[.int .u64 x.f0, .int .u64 x.f1, .int .u64 x.f2, .int .u64 x.f3, .int .u64 x.f4] 54)).alloc (.cells #[.int .u64 x.f0, .int .u64 x.f1, .int .u64 x.f2, .int .u64 x.f3, .int .u64 x.f4] 57))
         have HV0 := Lib.hid (Blk.blk_at (wr.alloc (.cells #[.int .u64 x.f0, .int .u64 x.f1, .int .u64 x.f2, .int .u64 x.f3, .int .u64 x.f4] 54)) (.cells #[.int .u64 x.f0, .int .u64 x.f1, .int .u64 x.f2, .int .u64 x.f3, .int .u64 x.f4] 57) (wr.heap.size + 1) (by simp))
         go_wp2
         clear y8 d0 d1 d2 d3 d4 HE9
         obtain ⟨nb_, hnb⟩ : ∃ n, wr.heap.size + 1 = n := ⟨_, rfl⟩
         rw [hnb] at HV0
         simp only [hnb]
         clear hnb
         go_loopg [4, 13] 5 (fun gf v4 v13 wx => ∃ z : Nat, v13 = .int .i64 z ∧ z + gf = 5 ∧ Rs w (BOX a0 a1 a2 a3 a4 a5 (.slice A6 l6.length c6) (.slice A7 l7.length c7) (.slice (some ad) l8.length c8) a9 a10 (.slice A11 l11.length c11)) v4 (LT ++ be8s ([x.f0, x.f1, x.f2, x.f3, x.f4].take z)) wx ∧ wx.heap[nb_]? = some (.cells #[.int .u64 x.f0, .int .u64 x.f1, .int .u64 x.f2, .int .u64 x.f3, .int .u64 x.f4] 57 (0, 0)))
         case atStart => exact ⟨0, rfl, rfl, by simpa [be8s] using HQ0.out, HV0.out⟩
         case round =>
          clear HQ0 HV0
          obtain ⟨z, rfl, hz, he, harr⟩ := hrel
          have HQ0 := Lib.hid he; have HV0 := Lib.hid harr; clear he harr
          by_cases hlz : z < 5
          ·obtain ⟨z', rfl⟩ : ∃ z', gk = z' + 1 := ⟨gk - 1, by omega⟩
           have hcell := (Blk.blk_cell HV0.out z).trans (arr5 .u64 x.f0 x.f1 x.f2 x.f3 x.f4 z hlz)
           have hsn := be8s_snoc [x.f0, x.f1, x.f2, x.f3, x.f4] z hlz
           have hfl := be8s_len ([x.f0, x.f1, x.f2, x.f3, x.f4].take z)
           rw [List.length_take] at hfl
           have hfl2 : (be8s ([x.f0, x.f1, x.f2, x.f3, x.f4].take z)).length ≤ 40 := by rw [hfl]; show 8 * min z 5 ≤ 40; omega
           obtain ⟨y, hy⟩ : ∃ y, [x.f0, x.f1, x.f2, x.f3, x.f4].getD z 0 = y := ⟨_, rfl⟩
           rw [hy] at hsn hcell
           obtain ⟨T2, hT2⟩ : ∃ T, be8s ([x.f0, x.f1, x.f2, x.f3, x.f4].take z) = T := ⟨_, rfl⟩
           rw [hT2] at hsn hfl2 HQ0
           have HSN2 := Lib.hid hsn
           have q1 : decide ((z : Int) < 5) = true := by simp; omega
           clear hy hsn hT2 hfl
           go_wp2_with fail
           refine (nb HQ0.out (num8 _ _ (by rw [List.length_append]; omega))).mono ?_
           rintro e u ⟨v_, rfl, hs, hk⟩
           have HQ2 := Lib.hid hs; have HARR2 := Lib.hid (hk.2 _ _ HV0.out (fun cs fr hh => by cases hh)); clear hs hk HQ0 HV0 hcell
           go_wp2
           go_roundg z'
           case measure => omega
           case rel => exact ⟨z + 1, by go_num, by omega, by rw [HSN2.out, ← List.append_assoc]; exact HQ2.out, HARR2.out⟩
          ·obtain rfl : z = 5 := by omega
           have q1 : decide (((5 : Nat) : Int) < 5) = false := by decide
           have he2 := HQ0.out
           rw [show [x.f0, x.f1, x.f2, x.f3, x.f4].take 5 = [x.f0, x.f1, x.f2, x.f3, x.f4] from rfl] at he2
           have HQ1 := Lib.hid he2
           clear he2 HQ0 HV0
           go_wp2
           go_roundg g'
           case measure => omega
           case rel =>
            refine ⟨q + 1, by go_num, by omega, ?_⟩
            have h := HQ1.out
            have e : LT ++ be8s [x.f0, x.f1, x.f2, x.f3, x.f4] = L9 ++ (T ++ encC x) := by rw [← HLT.out]; unfold encC; simp only [be8s, List.flatMap_cons, List.flatMap_nil, List.append_nil, List.append_assoc, be8_w64]
            rw [HSN.out, ← e]
            exact h
        ·obtain rfl : gk = 0 := by omega
         have hql : q = l8.length := by omega
         subst hql
         have q0 : decide ((l8.length : Int) < (l8.length : Int)) = false := by simp
         have q0n : decide (l8.length < l8.length) = false := by simp
         have he2 := HE9.out
         rw [List.take_length] at he2
         have hfl := flat_len encC 40 encC_len l8
         clear hlt hq
         obtain ⟨-, -, -, -, -, -, -, -, y8, -, -, -⟩ := rbox HE9.out
         clear HE9
         have HE10 := Lib.hid he2; clear he2
         obtain ⟨L10, hL10⟩ : ∃ L, L9 ++ l8.flatMap encC = L := ⟨_, rfl⟩
         have nL10 : L10.length ≤ 147524 := by rw [← hL10, List.length_append]; omega
         rw [hL10] at HE10
         have HL10 := Lib.hid hL10; clear hL10
         clear hfl
         obtain ⟨-, -, -, -, -, -, -, -, -, -, -, y11⟩ := rbox HE10.out
         go_wp2_with fail
         clear y11
         refine (nb HE10.out (num4 _ _ (by omega))).mono ?_
         rintro e w104 ⟨v104, rfl, hs, -⟩
         have HE11 := Lib.hid hs; clear hs HE10
         obtain ⟨L11, hL11⟩ : ∃ L, L10 ++ be4 l11.length = L := ⟨_, rfl⟩
         have nL11 : L11.length ≤ 147528 := by rw [← hL11]; simp only [List.length_append, be8s_len, List.length_cons, List.length_nil, be8_len, be4]; omega
         rw [hL11] at HE11
         have HL11 := Lib.hid hL11; clear hL11
         obtain ⟨-, -, -, -, -, -, -, -, -, -, -, y11⟩ := rbox HE11.out
         go_wp2
         clear y11
         go_loopg [4, 14] l11.length (fun gf v4 v14 wx => ∃ q : Nat, v14 = .int .i64 q ∧ q + gf = l11.length ∧ Rs w (BOX a0 a1 a2 a3 a4 a5 (.slice A6 l6.length c6) (.slice A7 l7.length c7) (.slice A8 l8.length c8) a9 a10 (.slice A11 l11.length c11)) v4 (L11 ++ (l11.take q).flatMap encI) wx)
         case atStart => exact ⟨0, rfl, by omega, by simpa [be8s] using HE11.out⟩
         case round =>
          clear HE11
          obtain ⟨q, rfl, hq, he⟩ := hrel
          have HE11 := Lib.hid he; clear he
          by_cases hlt : q < l11.length
          ·obtain ⟨g', rfl⟩ : ∃ g', gk = g' + 1 := ⟨gk - 1, by omega⟩
           obtain ⟨-, -, -, -, -, -, -, -, -, -, -, y11⟩ := rbox HE11.out
           have HBL := Lib.hid HE11.out.2.1
           obtain ⟨ad, e, d0, d1⟩ := at_T45 (Kd.C_below H11.out HE11.out.2.1) q (by omega) (by omega)
           subst e
           have hsn := flat_snoc encI z45 l11 q hlt
           have hfl := flat_len encI 9 encI_len (l11.take q)
           rw [List.length_take, Nat.min_eq_left (by omega)] at hfl
           rw [Int.toNat_natCast] at d0 d1
           have hx0 : rd_T45 l11 q = l11.getD q z45 := by unfold rd_T45; rw [Int.toNat_natCast]
           rw [hx0] at d0 d1
           obtain ⟨x, hx⟩ : ∃ x, l11.getD q z45 = x := ⟨_, rfl⟩
           rw [hx] at hsn d0 d1
           obtain ⟨T, hT⟩ : ∃ T, (l11.take q).flatMap encI = T := ⟨_, rfl⟩
           rw [hT] at hsn hfl HE11
           obtain ⟨LT, hLT⟩ : ∃ LT, L11 ++ T = LT := ⟨_, rfl⟩
           have nT : LT.length ≤ 10000000 := by rw [← hLT, List.length_append]; omega
           rw [hLT] at HE11
           have HLT := Lib.hid hLT
           have HSN := Lib.hid hsn; have HX := Lib.hid hx
           have q0 : decide ((q : Int) < (l11.length : Int)) = true := by simp; omega
           have q0n : decide (q < l11.length) = true := by simp; omega
           clear hx hx0 hsn hT hLT hfl
           have HQ0 := HE11
           go_wp2_with fail
           clear y11 d0 d1 HE11
           refine (nb HQ0.out (num1w _ _ (by first | omega | (simp only [List.length_append, be8_len, be4, List.length_cons, List.length_nil]; omega)))).mono ?_
           rintro e u0 ⟨v_0, rfl, hs, hk⟩
           have HQ1 := Lib.hid hs
           clear hs hk HQ0
           obtain ⟨-, -, -, -, -, -, -, -, -, -, -, y11⟩ := rbox HQ1.out
           obtain ⟨ad2, e2, d0, d1⟩ := at_T45 (Kd.C_below H11.out HQ1.out.2.1) q (by omega) (by omega)
           injection e2 with e2
           subst e2
           rw [Int.toNat_natCast] at d0 d1
           have hx0 : rd_T45 l11 q = x := by have := HX.out; unfold rd_T45; rw [Int.toNat_natCast]; exact this
           rw [hx0] at d0 d1
           clear hx0
           go_wp2_with fail
           clear y11 d0 d1
           refine (nb HQ1.out (num8w _ _ (by first | omega | (simp only [List.length_append, be8_len, be4, List.length_cons, List.length_nil]; omega)))).mono ?_
           rintro e u1 ⟨v_1, rfl, hs, hk⟩
           have HQ2 := Lib.hid hs
           clear hs hk HQ1
           go_wp2
           go_roundg g'
           case measure => omega
           case rel =>
            refine ⟨q + 1, by go_num, by omega, ?_⟩
            have h := HQ2.out
            have e : LT ++ [x.f0 % 256] ++ be8 x.f1 = L11 ++ (T ++ encI x) := by rw [← HLT.out]; unfold encI; simp only [be8s, List.flatMap_cons, List.flatMap_nil, List.append_nil, List.append_assoc, be8_w64]
            rw [HSN.out, ← e]
            exact h
          ·obtain rfl : gk = 0 := by omega
           have hql : q = l11.length := by omega
           subst hql
           have q0 : decide ((l11.length : Int) < (l11.length : Int)) = false := by simp
           have q0n : decide (l11.length < l11.length) = false := by simp
           have he2 := HE11.out
           rw [List.take_length] at he2
           have hfl := flat_len encI 9 encI_len l11
           clear hlt hq
           obtain ⟨-, -, -, -, -, -, -, -, -, -, -, y11⟩ := rbox HE11.out
           clear HE11
           have HE12 := Lib.hid he2; clear he2
           obtain ⟨L12, hL12⟩ : ∃ L, L11 ++ l11.flatMap encI = L := ⟨_, rfl⟩
           have nL12 : L12.length ≤ 294984 := by rw [← hL12, List.length_append]; omega
           rw [hL12] at HE12
           have HL12 := Lib.hid hL12; clear hL12
           clear hfl
           obtain ⟨A1, c1, e1⟩ := Kd.R_slice HE12.out.1
           subst e1
           go_wp2
           go_ret2
           refine ⟨_, rfl, ?_, HE12.out.2.1⟩
           have e : encB a0 a1 a2 a3 a4 a5 l6 l7 l8 a9 a10 l11 = L12 := by
            rw [← HL12.out, ← HL11.out, ← HL10.out, ← HL9.out, ← HL8.out, ← HL7.out, ← HL6.out, ← HL5.out, ← HL4.out, ← HL3.out, ← HL2.out, ← HL1.out]
            rfl
           rw [e]
           exact HE12.out.1
theorem REnc.calls (k : Nat) (a0 a1 a2 a3 a4 a5 : Int) (A6 : Option Addr) (c6 : Nat) (l6 : List Int) (A7 : Option Addr) (c7 : Nat) (l7 : List S51) (A8 : Option Addr) (c8 : Nat) (l8 : List S54) (a9 a10 : Int) (A11 : Option Addr) (c11 : Nat) (l11 : List S45) (r1 : List Int) (r2 : Int) (w : World) (hr6 : Kd.C (Kd.int .i64) w A6 l6.length l6) (hc6 : l6.length ≤ c6) (hr7 : Kd.C k51 w A7 l7.length l7) (hc7 : l7.length ≤ c7) (hr8 : Kd.C k54 w A8 l8.length l8) (hc8 : l8.length ≤ c8) (hr11 : Kd.C k45 w A11 l11.length l11) (hc11 : l11.length ≤ c11) (h : REnc.f k a0 a1 a2 a3 a4 a5 l6 l7 l8 a9 a10 l11 = some (r1, r2)) :
  Calls Try.prog 11 #[.agg #[.int .i64 a0, .int .i64 a1, .int .i64 a2, .int .i64 a3, .int .i64 a4, .int .i64 a5, .slice A6 l6.length c6, .slice A7 l7.length c7, .slice A8 l8.length c8, .int .i64 a9, .int .i64 a10, .slice A11 l11.length c11]] w fun e w' => ∃ v0_ : Value, e = .returned (.tuple #[v0_, .int .i64 r2]) ∧ Kd.R (Kd.int .u8) 5 w' w.heap.size (fun _ => True) v0_ r1 ∧ Below w.heap.size w w' := by
 unfold REnc.f at h
 obtain ⟨t, ht, h⟩ := Option.bind_eq_some_iff.1 h
 cases t
 ·simp only [Bool.false_eq_true, if_false, Option.some.injEq, Prod.mk.injEq] at h
  obtain ⟨rfl, rfl⟩ := h
  exact renc_no k a0 a1 a2 a3 a4 a5 A6 c6 l6 A7 c7 l7 A8 c8 l8 a9 a10 A11 c11 l11 w hr6 hc6 hr7 hc7 hr8 hc8 hr11 hc11 ht
 ·simp only [if_true] at h
  split at h
  ·rename_i hb
   simp only [Option.some.injEq, Prod.mk.injEq] at h
   obtain ⟨rfl, rfl⟩ := h
   exact renc_yes k a0 a1 a2 a3 a4 a5 A6 c6 l6 A7 c7 l7 A8 c8 l8 a9 a10 A11 c11 l11 w hr6 hc6 hr7 hc7 hr8 hc8 hr11 hc11 ht hb.1 hb.2.1 hb.2.2.1 hb.2.2.2
  ·cases h
end Go.Proofs.Ytkdboaaganmagaa.Cc
