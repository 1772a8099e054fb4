/- The reader's methods: bytes are taken off the front, or the reader gives up. -/
import Derived.Test.YtkdboaaganmagaaCa
import Derived.Deep.LoopGhost
import Derived.Deep.DeepCutAuto
import Derived.Recover
namespace Go.Proofs.Ytkdboaaganmagaa.Cd
set_option linter.unusedVariables false
set_option linter.unusedSimpArgs false
open Go.RowKit Go.Proofs.YtkdboaaganmagaaW.PrintWords Go.Proofs.Ytkdboaaganmagaa.OP Go.Proofs.Ytkdboaaganmagaa.Ca

/-- The reader's variable g holds what is left. -/
def Rd (w0 W : World) (g : Nat) (l : List Int) : Prop := ∃ A c, W.heap[g]? = some (.cells #[.slice A l.length c] 58 (0, 0)) ∧ l.length ≤ c ∧ Kd.C (Kd.int .u8) w0 A l.length l ∧ w0.heap.size ≤ g
def gives : List PanicEntry := [{ v := .iface 70 (.agg #[]), recovered := false }]
def Gone (w0 W : World) (g : Nat) (e : Ending) (W' : World) : Prop := e = .panicked gives ∧ Below w0.heap.size w0 W' ∧ KeepBut W W' g none
def Took (w0 W : World) (g n : Nat) (l : List Int) (e : Ending) (W' : World) : Prop :=
 ∃ A, e = .returned (.slice A n n) ∧ Kd.C (Kd.int .u8) w0 A n (l.take n) ∧ Rd w0 W' g (l.drop n) ∧ Below w0.heap.size w0 W' ∧ KeepBut W W' g none
set_option maxHeartbeats 4000000 in
set_option maxRecDepth 100000 in
theorem take_no (w0 W : World) (g n : Nat) (l : List Int) (hn : n < 1000) (hl : l.length < n) (hW : Rd w0 W g l) (hB : Below w0.heap.size w0 W) : Calls Try.prog 28 #[.pointer (some ⟨g, 0, none⟩), .int .i64 n] W (Gone w0 W g) := by
 obtain ⟨A, c, hv, hc, hC, hg⟩ := hW
 have hvc := Blk.blk_cell hv 0
 have hvf := Blk.blk_frozen hv 0
 simp at hvc
 have HB := Lib.hid hB
 clear hB hC hv
 go_enter Try.func28, Try.ntmps28
 go_wp2
 exact ⟨rfl, rfl, HB.out, KeepBut.refl W g none⟩
set_option maxHeartbeats 4000000 in
set_option maxRecDepth 100000 in
theorem take_yes (w0 W : World) (g n : Nat) (l : List Int) (hn1 : 1 ≤ n) (hn : n < 1000) (hl : n ≤ l.length) (hW : Rd w0 W g l) (hB : Below w0.heap.size w0 W) : Calls Try.prog 28 #[.pointer (some ⟨g, 0, none⟩), .int .i64 n] W (Took w0 W g n l) := by
 obtain ⟨A, c, hv, hc, hC, hg⟩ := hW
 have hvc := Blk.blk_cell hv 0
 have hvf := Blk.blk_frozen hv 0
 simp at hvc
 have HV := Lib.hid hv
 obtain ⟨ad, hA, hrow⟩ := hC.2.2 (by omega)
 subst hA
 have HB := Lib.hid hB; have HC := Lib.hid hC; have HR := Lib.hid hrow
 have hm := hC.2.1
 clear hB hC hrow hv
 by_cases hcap : c = n
 ·subst hcap
  go_enter Try.func28, Try.ntmps28
  go_wp2
  go_ret
  have hcl : l.length = c := by omega
  refine ⟨some ad, rfl, ⟨by rw [List.length_take]; omega, by omega, fun _ => ⟨ad, rfl, fun j p hj => HR.out j p (by rw [List.getElem?_take] at hj; split at hj; exact hj; cases hj)⟩⟩, ⟨some ad, 0, ?_, ?_, ⟨rfl, by rw [List.length_drop]; omega, fun h0 => ?_⟩, hg⟩, HB.out.setCell hg _, ?_⟩
  ·have := Blk.blk_set HV.out 0 (.slice (some ad) 0 0)
   rw [show (l.drop c).length = 0 from by rw [List.length_drop]; omega]
   exact this
  ·rw [List.length_drop]; omega
  ·rw [List.length_drop] at h0; omega
  ·exact (KeepBut.refl W g none).set_ _ _
 ·go_enter Try.func28, Try.ntmps28
  go_wp2
  go_ret
  refine ⟨some ad, rfl, ⟨by rw [List.length_take]; omega, by omega, fun _ => ⟨ad, rfl, fun j p hj => HR.out j p (by rw [List.getElem?_take] at hj; split at hj; exact hj; cases hj)⟩⟩, ⟨some (ad.add n), c - n, ?_, by rw [List.length_drop]; omega, ⟨rfl, by rw [List.length_drop]; omega, fun h0 => ⟨ad.add n, rfl, fun j p hj => ?_⟩⟩, hg⟩, HB.out.setCell hg _, ?_⟩
  ·have := Blk.blk_set HV.out 0 (.slice (some (ad.add n)) (l.length - n) (c - n))
   rw [List.length_drop]
   exact this
  ·rw [List.getElem?_drop] at hj
   obtain ⟨c', h1, h2, h3⟩ := HR.out (n + j) p hj
   refine ⟨c', h1, h2, fun i u hu => ?_⟩
   have := h3 i u hu
   rw [show (n + j) * (Kd.int .u8).sz + i = n + (j * (Kd.int .u8).sz + i) from by show (n + j) * 1 + i = n + (j * 1 + i); omega] at this
   rw [← this]
   congr 1
   exact Go.Proofs.YtkdboaaganmagaaW.PrintWords.add_add ad n _
  ·exact (KeepBut.refl W g none).set_ _ _
/-- The number of four bytes. -/
def val4 (a b c d : Int) : Int := ((a * 256 + b) * 256 + c) * 256 + d
/-- Four bytes taken. -/
def p4 : List Int → Option (Int × List Int)
 | a :: b :: c :: d :: r => some (val4 a b c d, r)
 | _ => none
theorem p4_none {l : List Int} (h : p4 l = none) : l.length < 4 := by
 match l, h with
 | [], _ => decide
 | [_], _ => show 1 < 4; decide
 | [_, _], _ => show 2 < 4; decide
 | [_, _, _], _ => show 3 < 4; decide
 | _ :: _ :: _ :: _ :: _, h => cases h
def InB (l : List Int) : Prop := ∀ x ∈ l, 0 ≤ x ∧ x ≤ 255
def WPost (w0 W : World) (g : Nat) (k : IntKind) (v : Int) (r : List Int) (e : Ending) (W' : World) : Prop := e = .returned (.int k v) ∧ Rd w0 W' g r ∧ Below w0.heap.size w0 W' ∧ KeepBut W W' g none
theorem or8 (x y : Int) (hx : 0 ≤ x) (hx2 : x < 72057594037927936) (hy : 0 ≤ y) (hy2 : y < 256) : bits .or .u64 (IntKind.u64.wrap (x * 256)) y = x * 256 + y := by
 obtain ⟨X, rfl⟩ : ∃ X : Nat, x = X := ⟨x.toNat, by omega⟩
 obtain ⟨Y, rfl⟩ : ∃ Y : Nat, y = Y := ⟨y.toNat, by omega⟩
 have e0 : IntKind.u64.wrap ((X : Int) * 256) = ((X * 256 : Nat) : Int) := by rw [IntKind.wrap_u64]; omega
 have e1 : bits .or .u64 ((X * 256 : Nat) : Int) (Y : Int) = IntKind.u64.wrap ((BitVec.ofInt 64 ((X * 256 : Nat) : Int) ||| BitVec.ofInt 64 (Y : Int)).toNat : Int) := rfl
 have h1 : X * 256 < 2 ^ 64 := by omega
 have h2 : Y < 2 ^ 64 := by omega
 have h3 : X * 256 ||| Y = X * 256 + Y := by
  have := Nat.two_pow_add_eq_or_of_lt (i := 8) (b := Y) (by omega) X
  rw [Nat.mul_comm X 256]
  exact this.symm
 rw [e0, e1, BitVec.ofInt_natCast, BitVec.ofInt_natCast, BitVec.toNat_or, BitVec.toNat_ofNat, BitVec.toNat_ofNat, Nat.mod_eq_of_lt h1, Nat.mod_eq_of_lt h2, h3, IntKind.wrap_u64]
 omega
theorem or32 (x y : Int) (hx : 0 ≤ x) (hx2 : x < 4294967296) (hy : 0 ≤ y) (hy2 : y < 4294967296) : bits .or .u64 (x * 4294967296) y = x * 4294967296 + y := by
 obtain ⟨X, rfl⟩ : ∃ X : Nat, x = X := ⟨x.toNat, by omega⟩
 obtain ⟨Y, rfl⟩ : ∃ Y : Nat, y = Y := ⟨y.toNat, by omega⟩
 have e0 : (X : Int) * 4294967296 = ((X * 4294967296 : Nat) : Int) := by omega
 have e1 : bits .or .u64 ((X * 4294967296 : Nat) : Int) (Y : Int) = IntKind.u64.wrap ((BitVec.ofInt 64 ((X * 4294967296 : Nat) : Int) ||| BitVec.ofInt 64 (Y : Int)).toNat : Int) := rfl
 have h1 : X * 4294967296 < 2 ^ 64 := by omega
 have h2 : Y < 2 ^ 64 := by omega
 have h3 : X * 4294967296 ||| Y = X * 4294967296 + Y := by
  have := Nat.two_pow_add_eq_or_of_lt (i := 32) (b := Y) (by omega) X
  rw [Nat.mul_comm X 4294967296]
  exact this.symm
 rw [e0, e1, BitVec.ofInt_natCast, BitVec.ofInt_natCast, BitVec.toNat_or, BitVec.toNat_ofNat, BitVec.toNat_ofNat, Nat.mod_eq_of_lt h1, Nat.mod_eq_of_lt h2, h3, IntKind.wrap_u64]
 omega
set_option maxHeartbeats 4000000 in
set_option maxRecDepth 100000 in
theorem word_no (w0 W : World) (g : Nat) (l : List Int) (h : p4 l = none) (hW : Rd w0 W g l) (hB : Below w0.heap.size w0 W) : Calls Try.prog 32 #[.pointer (some ⟨g, 0, none⟩)] W (Gone w0 W g) := by
 have HC := Lib.hid (take_no w0 W g 4 l (by decide) (p4_none h) hW hB)
 clear hW hB h
 go_enter Try.func32, Try.ntmps32
 go_wp2_with fail
 refine HC.out.mono ?_
 rintro e w1 ⟨rfl, hb, hk⟩
 have HB := Lib.hid hb; have HK := Lib.hid hk
 clear hb hk
 go_wp2
 exact ⟨rfl, rfl, HB.out, HK.out⟩
def fold4 (l : List Int) (k : Nat) : Int := (l.take k).foldl (fun a c => a * 256 + c) 0
theorem fold4_snoc (l : List Int) (k : Nat) (h : k < l.length) : fold4 l (k + 1) = fold4 l k * 256 + l.getD k 0 := by
 unfold fold4
 rw [List.take_succ_eq_append_getElem h, List.foldl_append, List.getD_eq_getElem?_getD, List.getElem?_eq_getElem h]
 rfl
theorem fold4_bd (l : List Int) (hb : InB l) : ∀ k, k ≤ l.length → 0 ≤ fold4 l k ∧ fold4 l k < 256 ^ k
 | 0, _ => by unfold fold4; simp
 | k + 1, h => by
  have ih := fold4_bd l hb k (by omega)
  have hx := hb (l.getD k 0) (by rw [List.getD_eq_getElem?_getD, List.getElem?_eq_getElem (show k < l.length by omega)]; exact List.getElem_mem _)
  rw [fold4_snoc l k (by omega), Int.pow_succ]
  omega
set_option maxHeartbeats 4000000 in
set_option maxRecDepth 100000 in
theorem word_yes (w0 W : World) (g : Nat) (a b c d : Int) (r : List Int) (hin : InB (a :: b :: c :: d :: r)) (hW : Rd w0 W g (a :: b :: c :: d :: r)) (hB : Below w0.heap.size w0 W) : Calls Try.prog 32 #[.pointer (some ⟨g, 0, none⟩)] W (WPost w0 W g .u64 (val4 a b c d) r) := by
 have HC := Lib.hid (take_yes w0 W g 4 _ (by decide) (by decide) (by show 4 ≤ r.length + 1 + 1 + 1 + 1; omega) hW hB)
 have hin4 : InB [a, b, c, d] := fun x hx => hin x (by
  simp only [List.mem_cons, List.not_mem_nil, or_false] at hx ⊢
  rcases hx with h | h | h | h
  ·exact .inl h
  ·exact .inr (.inl h)
  ·exact .inr (.inr (.inl h))
  ·exact .inr (.inr (.inr (.inl h))))
 have HIN := Lib.hid hin4
 clear hW hB hin hin4
 go_enter Try.func32, Try.ntmps32
 go_wp2_with fail
 refine HC.out.mono ?_
 rintro e w1 ⟨A, rfl, hc, hr, hb, hk⟩
 obtain ⟨ad, hA, hrow⟩ := hc.2.2 (by decide)
 subst hA
 have HR := Lib.hid hr; have HB := Lib.hid hb; have HK := Lib.hid hk; have HROW := Lib.hid hrow
 clear hr hb hk hrow hc
 go_wp2
 go_loopg [3, 5, 9] 4 (fun gf v3 v5 v9 wx => ∃ q : Nat, v9 = .int .i64 q ∧ v3 = .int .u64 (fold4 [a, b, c, d] q) ∧ q + gf = 4 ∧ wx = w1)
 case atStart => exact ⟨0, rfl, rfl, rfl, rfl⟩
 case round =>
  obtain ⟨q, rfl, rfl, hq, rfl⟩ := hrel
  by_cases hlt : q < 4
  ·obtain ⟨g', rfl⟩ : ∃ g', gk = g' + 1 := ⟨gk - 1, by omega⟩
   have hsn := fold4_snoc [a, b, c, d] q hlt
   have hbd := fold4_bd [a, b, c, d] HIN.out q (by show q ≤ 4; omega)
   have hx := HIN.out ([a, b, c, d].getD q 0) (by rw [List.getD_eq_getElem?_getD, List.getElem?_eq_getElem (show q < [a, b, c, d].length from hlt)]; exact List.getElem_mem _)
   have hcell : wr.cell? (ad.add q) = some (.int .u8 ([a, b, c, d].getD q 0)) := by
    obtain ⟨c', h1, h2, h3⟩ := HROW.out q ([a, b, c, d].getD q 0) (by
     show ([a, b, c, d] : List Int)[q]? = _
     rw [List.getD_eq_getElem?_getD, List.getElem?_eq_getElem (show q < [a, b, c, d].length from hlt)]; rfl)
    have h4 : c' = [.int .u8 ([a, b, c, d].getD q 0)] := h2
    subst h4
    have := h3 0 _ rfl
    rw [show q * (Kd.int .u8).sz + 0 = q from by show q * 1 + 0 = q; omega] at this
    exact (HB.out.cell (World.block_lt_of_cell? _ _ this)).trans this
   obtain ⟨x, hx0⟩ : ∃ x, [a, b, c, d].getD q 0 = x := ⟨_, rfl⟩
   obtain ⟨y, hy0⟩ : ∃ y, fold4 [a, b, c, d] q = y := ⟨_, rfl⟩
   rw [hx0] at hsn hx hcell
   rw [hy0] at hsn hbd
   simp only [hy0]
   have h72 : y < 72057594037927936 := Int.lt_of_lt_of_le hbd.2 (by
    have : q = 0 ∨ q = 1 ∨ q = 2 ∨ q = 3 := by omega
    rcases this with rfl | rfl | rfl | rfl <;> decide)
   have HO := Lib.hid (or8 y x hbd.1 h72 hx.1 (by omega))
   have HSN := Lib.hid hsn
   have q0 : decide ((q : Int) < 4) = true := by simp; omega
   have hwx : IntKind.u64.wrap x = x := by rw [IntKind.wrap_u64]; omega
   have HWX := Lib.hid hwx
   clear hsn hx0 hy0 hbd hx h72 hwx
   go_wp2
   go_roundg g'
   case measure => omega
   case rel => exact ⟨q + 1, by go_num, by rw [HWX.out, HO.out, HSN.out], by omega, rfl⟩
  ·obtain rfl : q = 4 := by omega
   have e4 : fold4 [a, b, c, d] 4 = val4 a b c d := by
    show (((0 * 256 + a) * 256 + b) * 256 + c) * 256 + d = _
    unfold val4; omega
   have q0 : decide (((4 : Nat) : Int) < 4) = false := by decide
   rw [e4]
   clear e4
   go_wp2
   go_ret
   exact ⟨rfl, HR.out, HB.out, HK.out⟩
theorem InB.drop4 {a b c d : Int} {r : List Int} (h : InB (a :: b :: c :: d :: r)) : InB r := fun x hx => h x (by simp [hx])
theorem val4_bd {a b c d : Int} {r : List Int} (h : InB (a :: b :: c :: d :: r)) : 0 ≤ val4 a b c d ∧ val4 a b c d < 4294967296 := by
 have h1 := h a (by simp); have h2 := h b (by simp); have h3 := h c (by simp); have h4 := h d (by simp)
 unfold val4
 omega
theorem p4_some {l : List Int} {v : Int} {r : List Int} (h : p4 l = some (v, r)) : ∃ a b c d, l = a :: b :: c :: d :: r ∧ v = val4 a b c d := by
 match l, h with
 | a :: b :: c :: d :: r', h =>
  have h2 : some (val4 a b c d, r') = some (v, r) := h
  simp only [Option.some.injEq, Prod.mk.injEq] at h2
  obtain ⟨rfl, rfl⟩ := h2
  exact ⟨a, b, c, d, rfl, rfl⟩
/-- A call that may give up: as the plain reader says. -/
def RP (w0 W : World) (g : Nat) (k : IntKind) (o : Option (Int × List Int)) (e : Ending) (W' : World) : Prop := match o with | none => Gone w0 W g e W' | some (v, r) => WPost w0 W g k v r e W'
theorem word_any (w0 W : World) (g : Nat) (l : List Int) (hin : InB l) (hW : Rd w0 W g l) (hB : Below w0.heap.size w0 W) : Calls Try.prog 32 #[.pointer (some ⟨g, 0, none⟩)] W (RP w0 W g .u64 (p4 l)) := by
 cases h : p4 l with
 | none => exact word_no w0 W g l h hW hB
 | some vr =>
  obtain ⟨v, r⟩ := vr
  obtain ⟨a, b, c, d, rfl, rfl⟩ := p4_some h
  exact word_yes w0 W g a b c d r hin hW hB
theorem p4_in {l : List Int} {v : Int} {r : List Int} (h : p4 l = some (v, r)) (hin : InB l) : InB r ∧ 0 ≤ v ∧ v < 4294967296 := by
 obtain ⟨a, b, c, d, rfl, rfl⟩ := p4_some h
 exact ⟨hin.drop4, val4_bd hin⟩
/-- A number of four bytes that is at most 2^31 - 1; one of at most so much; one of eight bytes. -/
def q4 (l : List Int) : Option (Int × List Int) := (p4 l).bind fun t => if t.1 > 2147483647 then none else some t
def qc (most : Int) (l : List Int) : Option (Int × List Int) := (q4 l).bind fun t => if t.1 > most then none else some t
def q8 (l : List Int) : Option (Int × List Int) := (p4 l).bind fun t => (p4 t.2).bind fun u => some (wrap64 (t.1 * 4294967296 + u.1), u.2)
set_option maxHeartbeats 4000000 in
set_option maxRecDepth 100000 in
theorem four_any (w0 W : World) (g : Nat) (l : List Int) (hin : InB l) (hW : Rd w0 W g l) (hB : Below w0.heap.size w0 W) : Calls Try.prog 29 #[.pointer (some ⟨g, 0, none⟩)] W (RP w0 W g .i64 (q4 l)) := by
 have HC := Lib.hid (word_any w0 W g l hin hW hB)
 unfold q4
 cases h : p4 l with
 | none =>
  rw [h] at HC
  clear hW hB hin h
  go_enter Try.func29, Try.ntmps29
  go_wp2_with fail
  refine HC.out.mono ?_
  rintro e w1 ⟨rfl, hb, hk⟩
  have HB := Lib.hid hb; have HK := Lib.hid hk
  clear hb hk
  go_wp2
  exact ⟨rfl, rfl, HB.out, HK.out⟩
 | some vr =>
  obtain ⟨v, r⟩ := vr
  obtain ⟨_, hv0, hv1⟩ := p4_in h hin
  rw [h] at HC
  simp only [Option.bind_some]
  clear hW hB hin h
  by_cases hm : v > 2147483647
  ·rw [if_pos hm]
   go_enter Try.func29, Try.ntmps29
   go_wp2_with fail
   refine HC.out.mono ?_
   rintro e w1 ⟨rfl, hr, hb, hk⟩
   have HB := Lib.hid hb; have HK := Lib.hid hk
   clear hb hk hr
   go_wp2
   exact ⟨rfl, rfl, HB.out, HK.out⟩
  ·rw [if_neg hm]
   have hw : wrap64 v = v := by rw [w64 (by omega) (by omega)]
   have HW := Lib.hid hw
   clear hw
   go_enter Try.func29, Try.ntmps29
   go_wp2_with fail
   refine HC.out.mono ?_
   rintro e w1 ⟨rfl, hr, hb, hk⟩
   have HR := Lib.hid hr; have HB := Lib.hid hb; have HK := Lib.hid hk
   clear hb hk hr
   go_wp2
   go_ret
   exact ⟨rfl, HR.out, HB.out, HK.out⟩
set_option maxHeartbeats 4000000 in
set_option maxRecDepth 100000 in
theorem count_any (w0 W : World) (g : Nat) (l : List Int) (most : Int) (hin : InB l) (hW : Rd w0 W g l) (hB : Below w0.heap.size w0 W) : Calls Try.prog 31 #[.pointer (some ⟨g, 0, none⟩), .int .i64 most] W (RP w0 W g .i64 (qc most l)) := by
 have HC := Lib.hid (four_any w0 W g l hin hW hB)
 unfold qc
 cases h : q4 l with
 | none =>
  rw [h] at HC
  clear hW hB hin h
  go_enter Try.func31, Try.ntmps31
  go_wp2_with fail
  refine HC.out.mono ?_
  rintro e w1 ⟨rfl, hb, hk⟩
  have HB := Lib.hid hb; have HK := Lib.hid hk
  clear hb hk
  go_wp2
  exact ⟨rfl, rfl, HB.out, HK.out⟩
 | some vr =>
  obtain ⟨v, r⟩ := vr
  rw [h] at HC
  simp only [Option.bind_some]
  clear hW hB hin h
  by_cases hm : v > most
  ·rw [if_pos hm]
   go_enter Try.func31, Try.ntmps31
   go_wp2_with fail
   refine HC.out.mono ?_
   rintro e w1 ⟨rfl, hr, hb, hk⟩
   have HB := Lib.hid hb; have HK := Lib.hid hk
   clear hb hk hr
   go_wp2
   exact ⟨rfl, rfl, HB.out, HK.out⟩
  ·rw [if_neg hm]
   go_enter Try.func31, Try.ntmps31
   go_wp2_with fail
   refine HC.out.mono ?_
   rintro e w1 ⟨rfl, hr, hb, hk⟩
   have HR := Lib.hid hr; have HB := Lib.hid hb; have HK := Lib.hid hk
   clear hb hk hr
   go_wp2
   go_ret
   exact ⟨rfl, HR.out, HB.out, HK.out⟩
set_option maxHeartbeats 4000000 in
set_option maxRecDepth 100000 in
theorem eight_any (w0 W : World) (g : Nat) (l : List Int) (hin : InB l) (hW : Rd w0 W g l) (hB : Below w0.heap.size w0 W) : Calls Try.prog 30 #[.pointer (some ⟨g, 0, none⟩)] W (RP w0 W g .i64 (q8 l)) := by
 have HC := Lib.hid (word_any w0 W g l hin hW hB)
 unfold q8
 cases h : p4 l with
 | none =>
  rw [h] at HC
  clear hW hB hin h
  go_enter Try.func30, Try.ntmps30
  go_wp2_with fail
  refine HC.out.mono ?_
  rintro e w1 ⟨rfl, hb, hk⟩
  have HB := Lib.hid hb; have HK := Lib.hid hk
  clear hb hk
  go_wp2
  exact ⟨rfl, rfl, HB.out, HK.out⟩
 | some vr =>
  obtain ⟨v, r⟩ := vr
  obtain ⟨hin2, hv0, hv1⟩ := p4_in h hin
  rw [h] at HC
  simp only [Option.bind_some]
  have HC2 := Lib.hid (fun W1 (hr : Rd w0 W1 g r) (hb : Below w0.heap.size w0 W1) => word_any w0 W1 g r hin2 hr hb)
  clear hW hB hin h
  cases h2 : p4 r with
  | none =>
   rw [h2] at HC2
   clear hin2 h2
   go_enter Try.func30, Try.ntmps30
   go_wp2_with fail
   refine HC.out.mono ?_
   rintro e w1 ⟨rfl, hr, hb, hk⟩
   have HR := Lib.hid hr; have HB := Lib.hid hb; have HK := Lib.hid hk
   clear hb hk hr
   go_wp2_with fail
   refine (HC2.out _ HR.out HB.out).mono ?_
   rintro e w2 ⟨rfl, hb, hk⟩
   have HB2 := Lib.hid hb; have HK2 := Lib.hid (HK.out.trans hk (.inl rfl))
   clear hb hk
   go_wp2
   exact ⟨rfl, rfl, HB2.out, HK2.out⟩
  | some us =>
   obtain ⟨u, t⟩ := us
   obtain ⟨_, hu0, hu1⟩ := p4_in h2 hin2
   rw [h2] at HC2
   simp only [Option.bind_some]
   have HO := Lib.hid (or32 v u hv0 hv1 hu0 hu1)
   clear hin2 h2
   go_enter Try.func30, Try.ntmps30
   go_wp2_with fail
   refine HC.out.mono ?_
   rintro e w1 ⟨rfl, hr, hb, hk⟩
   have HR := Lib.hid hr; have HB := Lib.hid hb; have HK := Lib.hid hk
   clear hb hk hr
   go_wp2_with fail
   refine (HC2.out _ HR.out HB.out).mono ?_
   rintro e w2 ⟨rfl, hr, hb, hk⟩
   have HR2 := Lib.hid hr; have HB2 := Lib.hid hb; have HK2 := Lib.hid (HK.out.trans hk (.inl rfl))
   clear hb hk hr
   go_wp2
   go_ret
   exact ⟨by rw [HO.out]; rfl, HR2.out, HB2.out, HK2.out⟩
end Go.Proofs.Ytkdboaaganmagaa.Cd
