/- The writer's methods: four and eight lay their bytes behind those that are there. -/
import Derived.Test.YtkdboaaganmagaaBlk2
import Derived.Test.YtkdboaaganmagaaOPx0
import Derived.Handy
import Derived.WalkSpells
import Derived.WalkLawsBesides
import Derived.Deep.LoopGhost
import Derived.Outline
namespace Go.Proofs.Ytkdboaaganmagaa.Ca
set_option linter.unusedVariables false
open Go.RowKit Go.Proofs.YtkdboaaganmagaaW.PrintWords Go.Proofs.Ytkdboaaganmagaa.OP

/-- Four bytes of a number, the highest ahead. -/
def be4 (n : Int) : List Int := [n / 16777216 % 256, n / 65536 % 256, n / 256 % 256, n % 256]
/-- The writer's variable g holds a slice of the call's own, with these bytes. -/
def IsW (B : Nat) (W : World) (g : Nat) (l : List Int) : Prop := ∃ v, W.heap[g]? = some (.cells #[v] 47 (0, 0)) ∧ Kd.R (Kd.int .u8) 5 W B (fun _ => True) v l ∧ B ≤ g
/-- All blocks but g and rows of bytes stay. -/
def KeepT (W W' : World) (g : Nat) : Prop := W.heap.size ≤ W'.heap.size ∧ ∀ k o, W.heap[k]? = some o → k ≠ g → (∀ cs fr, o ≠ .cells cs 5 fr) → W'.heap[k]? = some o
theorem lit_row {W : World} {b : Nat} {t : TypeId} {fr : Nat × Nat} (k : IntKind) (xs : List Int) (hx : xs.length ≤ 1000) (h : W.heap[b]? = some (.cells (xs.map (Value.int k)).toArray t fr)) : ReadsRow (fun x cs => cs = [Value.int k x]) 1 W (some ⟨b, 0, none⟩) xs.length xs := by
  refine ⟨rfl, by omega, fun _ => ⟨_, rfl, fun j p hj => ⟨[.int k p], rfl, rfl, fun i u hu => ?_⟩⟩⟩
  have hi : i = 0 := by
    have := (List.getElem?_eq_some_iff.1 hu).1
    simp at this; exact this
  subst hi
  simp only [List.getElem?_cons_zero, Option.some.injEq] at hu
  subst hu
  have := cell_of_row W b j _ t fr h
  rw [show (⟨b, 0, none⟩ : Addr).add (j * 1 + 0) = ⟨b, j, none⟩ from by simp [Addr.add]; omega, this]
  simp [hj]
theorem typed_ne {W : World} {B e k n : Nat} {ok : Nat → Prop} {v : Value} {l : List Int} {o : Obj} {kk : IntKind} (h : Kd.R (Kd.int kk) e W B ok v l) (hk : W.heap[k]? = some o) (ho : ∀ cs fr, o ≠ .cells cs e fr) : some k ≠ v.ownBlock := by
  intro he
  obtain ⟨inner, hown, _⟩ := h.2
  obtain ⟨cells, hc⟩ := own_typed hown k he.symm
  rw [hk] at hc
  injection hc with hc
  exact ho _ _ hc
theorem KeepT.refl (W : World) (g : Nat) : KeepT W W g := ⟨Nat.le_refl _, fun k o h _ _ => h⟩
theorem KeepT.trans {W W1 W2 : World} {g : Nat} (h1 : KeepT W W1 g) (h2 : KeepT W1 W2 g) : KeepT W W2 g := ⟨Nat.le_trans h1.1 h2.1, fun k o h hk ho => h2.2 k o (h1.2 k o h hk ho) hk ho⟩
theorem KeepT.alloc {W W1 : World} {g : Nat} (h : KeepT W W1 g) (o : Obj) : KeepT W (W1.alloc o) g := ⟨Nat.le_trans h.1 (by simp), fun k o' hk hg ho => Blk.blk_alloc (h.2 k o' hk hg ho) o⟩
theorem KeepT.drew {W W1 : World} {g : Nat} (h : KeepT W W1 g) : KeepT W W1.drew g := ⟨h.1, fun k o' hk hg ho => h.2 k o' hk hg ho⟩
theorem KeepT.drewN {W W1 : World} {g : Nat} (h : KeepT W W1 g) (n : Nat) : KeepT W (W1.drewN n) g := ⟨by rw [World.heap_drewN]; exact h.1, fun k o' hk hg ho => by rw [World.heap_drewN]; exact h.2 k o' hk hg ho⟩
def FourPost (w0 : World) (W : World) (g : Nat) (l : List Int) (e : Ending) (W' : World) : Prop :=
  e = .returned (.tuple #[]) ∧ IsW w0.heap.size W' g l ∧ Below w0.heap.size w0 W' ∧ KeepT W W' g
set_option maxHeartbeats 4000000 in
set_option maxRecDepth 100000 in
theorem four_any (w0 W : World) (g : Nat) (l : List Int) (n : Int) (hl : l.length ≤ 1000000000) (hW : IsW w0.heap.size W g l) (hB : Below w0.heap.size w0 W) :
    Calls Try.prog 18 #[.pointer (some ⟨g, 0, none⟩), .int .i64 n] W (FourPost w0 W g (l ++ be4 n)) := by
  obtain ⟨v, hv, hr, hg⟩ := hW
  have hvc := Blk.blk_cell hv 0
  have hvf := Blk.blk_frozen hv 0
  simp at hvc
  have hgl := Blk.blk_lt hv
  have hne : some g ≠ v.ownBlock := typed_ne (n := 0) hr hv (fun cs fr h => by cases h)
  have HNE := Lib.hid hne
  clear hne
  have HV := Lib.hid hv; have HR := Lib.hid hr; have HB := Lib.hid hB
  have hbs := hB.size
  clear hv hr hB
  go_enter Try.func18, Try.ntmps18
  go_wp2_with ((with_reducible refine gate_builtin (b := .append) (xs := #[.tmp 7, .tmp 19]) rfl ?_); at_builtin; go_loud (refine Kd.R_append_rows (Kd.int .u8) (Rr := fun x cs => cs = [Value.int .u8 x]) (w0 := w0) w0.heap.size rfl (.tmp 7) (.tmp 19) 47 5 (.int .u8 0) 1 rfl Try.underlying47 info5 rfl ?h1 ?h2 v l (be4 n) (some ⟨W.heap.size, 0, none⟩) 4 4 (fun _ => True) (fun _ => False) ?hs ?hx ?aO ?aR ?aK ?aH ?aF ?aB ?aS ?aL ?aZ; (case h1 => decide); (case h2 => decide); (case hs => rfl); (case hx => rfl); (case aK => exact fun _ _ h => h); (case aH => exact fun _ h => h.elim); (case aF => exact fun _ _ => trivial); (case aO => exact Kd.R_alloc HR.out _); (case aR => exact lit_row .u8 (be4 n) (by simp [be4]) (Blk.blk_new W _)); (case aB => exact HB.out.alloc HB.out.size _); (case aS => simp; omega); (case aL => omega); intro v1 w1 ho hb hgr hown; obtain ⟨A1, c1, e1⟩ := Kd.R_slice ho; subst e1; have HO := Lib.hid ho; have HB1 := Lib.hid hb; have HG := Lib.hid hgr; have HN := Lib.hid hown; have HV1 : Hid (w1.heap[g]? = some (.cells #[v] 47 (0, 0))) := Lib.hid (Blk.blk_grown (Blk.blk_alloc HV.out _) hgr HNE.out); have hvc1 := Blk.blk_cell HV1.out 0; have hvf1 := Blk.blk_frozen HV1.out 0; simp at hvc1; clear ho hb hgr hown))
  have hne1 : some g ≠ (Value.slice A1 (l ++ be4 n).length c1).ownBlock := by
    rcases HN.out with h | ⟨b, h, hb⟩
    · rw [h]; exact HNE.out
    · rw [h]
      intro e
      injection e with e
      simp at hb
      omega
  have ho2 := HO.out
  rw [List.length_append] at hne1 ho2
  go_end0
  refine ⟨rfl, ⟨_, Blk.blk_set HV1.out 0 _, Kd.R_mono (Kd.R_far (Kd.R_far1 ho2 rfl hne1) (fun k h => h.2) _) (fun _ _ => trivial), hg⟩, HB1.out.setCell hg _, ?_, fun k o hk hkg ho => Blk.blk_far (Blk.blk_grown (Blk.blk_alloc hk _) HG.out (typed_ne (n := 0) HR.out hk ho)) hkg _⟩
  have := HG.out.size
  simp at this ⊢
  omega
theorem R_of_owns {W : World} {B : Nat} {v : Value} (xs : List Int) (h : W.ownsRow B 5 1 v xs.length (xs.map (Value.int .u8))) : Kd.R (Kd.int .u8) 5 W B (fun _ => True) v xs := by
  refine ⟨fun _ _ => trivial, xs.map (Value.int .u8), h, ?_⟩
  refine ⟨by show _ = _ * 1; simp, fun j p hj => ?_⟩
  show ((xs.map (Value.int .u8)).drop (j * 1)).take 1 = [Value.int .u8 p]
  have hl := (List.getElem?_eq_some_iff.1 hj).1
  rw [Nat.mul_one, List.drop_eq_getElem_cons (by simpa using hl), List.take_succ_cons, List.take_zero, List.getElem_map, (List.getElem?_eq_some_iff.1 hj).2]
def mag : List Int := [99, 112, 115, 49]
set_option maxHeartbeats 4000000 in
set_option maxRecDepth 100000 in
/-- The first one: behind the literal, which is full. -/
theorem four_first (w0 W : World) (g b : Nat) (fr : Nat × Nat) (n : Int) (hb : W.heap[b]? = some (.cells (mag.map (Value.int .u8)).toArray 5 fr)) (hv : W.heap[g]? = some (.cells #[.slice (some ⟨b, 0, none⟩) 4 4] 47 (0, 0))) (hg : w0.heap.size ≤ g) (hB : Below w0.heap.size w0 W) :
    Calls Try.prog 18 #[.pointer (some ⟨g, 0, none⟩), .int .i64 n] W (FourPost w0 W g (mag ++ be4 n)) := by
  have hvc := Blk.blk_cell hv 0
  have hvf := Blk.blk_frozen hv 0
  simp at hvc
  have hgl := Blk.blk_lt hv
  have HV := Lib.hid hv; have HB := Lib.hid hB; have HL := Lib.hid hb
  have hbs := hB.size
  obtain ⟨i0, hi, hzz⟩ := Option.map_eq_some_iff.1 info5
  simp only [Prod.mk.injEq] at hzz
  have HZ := Lib.hid hzz; have HI := Lib.hid hi
  have HR : Hid (∀ j u, (mag.map (Value.int .u8))[j]? = some u → (W.alloc (.cells ((be4 n).map (Value.int .u8)).toArray 5)).cell? ((⟨b, 0, none⟩ : Addr).add j) = some u) := Lib.hid (fun j u hj => by
    have h := Blk.blk_cell (Blk.blk_alloc HL.out (.cells ((be4 n).map (Value.int .u8)).toArray 5)) j
    rw [show (⟨b, 0, none⟩ : Addr).add j = ⟨b, j, none⟩ from by simp [Addr.add]; omega, h]
    simpa using hj)
  have HN : Hid (∀ j u, ((be4 n).map (Value.int .u8))[j]? = some u → (W.alloc (.cells ((be4 n).map (Value.int .u8)).toArray 5)).cell? ((⟨W.heap.size, 0, none⟩ : Addr).add j) = some u) := Lib.hid (fun j u hj => by
    have h := Blk.blk_cell (Blk.blk_new W (.cells ((be4 n).map (Value.int .u8)).toArray 5)) j
    rw [show (⟨W.heap.size, 0, none⟩ : Addr).add j = ⟨W.heap.size, j, none⟩ from by simp [Addr.add]; omega, h]
    simpa using hj)
  clear hv hB hb hzz hi
  go_enter Try.func18, Try.ntmps18
  go_wp2_with ((with_reducible refine gate_builtin (b := .append) (xs := #[.tmp 7, .tmp 19]) rfl ?_); at_builtin; refine wpList_append_grows _ rfl (.tmp 7) (.tmp 19) 47 rfl 5 i0 (.int .u8 0) 1 1 Try.underlying47 HI.out HZ.out.1 HZ.out.2.1 HZ.out.2.2 rfl (by decide) (some ⟨b, 0, none⟩) 4 4 (mag.map (Value.int .u8)) rfl (fun h => by cases h) rfl (fun b' h => by injection h with h; subst h; exact HR.out) ⟨W.heap.size, 0, none⟩ 4 4 ((be4 n).map (Value.int .u8)) rfl rfl HN.out (fun u hu => by obtain ⟨x, _, rfl⟩ := List.mem_map.1 hu; rfl) (by decide) (by decide) (by decide) ?_; intro v1 w1 ho hgr; have HO := Lib.hid (R_of_owns (mag ++ be4 n) (by rw [List.map_append]; exact ho)); have HG := Lib.hid hgr; have HV1 : Hid (w1.heap[g]? = some (.cells #[.slice (some ⟨b, 0, none⟩) 4 4] 47 (0, 0))) := Lib.hid (Blk.blk_grown (Blk.blk_alloc HV.out _) hgr (by simp)); have hvc1 := Blk.blk_cell HV1.out 0; have hvf1 := Blk.blk_frozen HV1.out 0; simp at hvc1; obtain ⟨A1, c1, e1⟩ := Kd.R_slice HO.out; subst e1; clear ho hgr)
  have hs1 := HG.out.size
  simp at hs1
  go_end0
  refine ⟨rfl, ⟨_, Blk.blk_set HV1.out 0 _, ?_, hg⟩, ?_, by simp; omega, fun k o hk hkg ho => Blk.blk_far (Blk.blk_grown (Blk.blk_alloc hk _) HG.out (by simp)) hkg _⟩
  · have h2 := Kd.R_lower HO.out (show w0.heap.size ≤ (W.alloc (.cells #[.int .u8 (n / 16777216 % 256), .int .u8 (n / 65536 % 256), .int .u8 (n / 256 % 256), .int .u8 (n % 256)] 5)).heap.size by simp; omega)
    refine Kd.R_mono (Kd.R_far (Kd.R_far1 h2 rfl ?_) (fun k h => h.2) _) (fun _ _ => trivial)
    exact typed_ne (n := 0) HO.out HV1.out (fun cs fr h => by cases h)
  · exact ((HB.out.alloc HB.out.size _).grown HG.out (by simp; omega) (fun k h => by cases h)).setCell hg _
/-- Eight bytes of a number, the highest ahead. -/
def be8 (n : Int) : List Int := be4 (IntKind.u64.wrap n / 4294967296) ++ be4 (IntKind.u64.wrap n % 4294967296)
def be8s (ns : List Int) : List Int := ns.flatMap be8
theorem be8_len (n : Int) : (be8 n).length = 8 := rfl
theorem be8s_len (ns : List Int) : (be8s ns).length = 8 * ns.length := by
  unfold be8s
  induction ns with
  | nil => rfl
  | cons a r ih => rw [List.flatMap_cons, List.length_append, ih, be8_len, List.length_cons]; omega
theorem be8s_snoc (ns : List Int) (k : Nat) (h : k < ns.length) : be8s (ns.take (k + 1)) = be8s (ns.take k) ++ be8 (ns.getD k 0) := by
  unfold be8s
  rw [List.take_succ_eq_append_getElem h, List.flatMap_append, List.getD_eq_getElem?_getD, List.getElem?_eq_getElem h]
  simp
theorem row_at {W : World} {A : Option Addr} {ns : List Int} (h : Kd.C (Kd.int .i64) W A ns.length ns) (k : Nat) (hk : k < ns.length) : ∃ ad, A = some ad ∧ W.cell? (ad.add k) = some (.int .i64 (ns.getD k 0)) := by
  obtain ⟨ad, e, hc⟩ := h.2.2 (by omega)
  obtain ⟨c, _, hr, hcell⟩ := hc k _ (List.getElem?_eq_getElem hk)
  refine ⟨ad, e, ?_⟩
  have hr2 : c = [.int .i64 ns[k]] := hr
  subst hr2
  have := hcell 0 _ rfl
  rw [show k * (Kd.int .i64).sz + 0 = k from by show k * 1 + 0 = k; omega] at this
  rw [List.getD_eq_getElem?_getD, List.getElem?_eq_getElem hk]
  exact this
theorem and32 (x : Int) (h0 : 0 ≤ x) (h1 : x < 18446744073709551616) : bits .and .u64 x 4294967295 = x % 4294967296 := by
  obtain ⟨S, rfl⟩ : ∃ S : Nat, x = S := ⟨x.toNat, by omega⟩
  have hS : S < 2 ^ 64 := by omega
  have e : bits .and .u64 (S : Int) ((4294967295 : Nat) : Int) = IntKind.u64.wrap ((BitVec.ofInt 64 (S : Int) &&& BitVec.ofInt 64 ((4294967295 : Nat) : Int)).toNat : Int) := rfl
  have hm : S &&& 4294967295 = S % 4294967296 := Nat.and_two_pow_sub_one_eq_mod S 32
  rw [show (4294967295 : Int) = ((4294967295 : Nat) : Int) from rfl, e, BitVec.ofInt_natCast, BitVec.ofInt_natCast, BitVec.toNat_and, BitVec.toNat_ofNat, BitVec.toNat_ofNat, Nat.mod_eq_of_lt hS, Nat.mod_eq_of_lt (by omega : 4294967295 < 2 ^ 64), hm, IntKind.wrap_u64]
  omega
theorem wrap_u (x : Int) : 0 ≤ IntKind.u64.wrap x ∧ IntKind.u64.wrap x < 18446744073709551616 := by rw [IntKind.wrap_u64]; omega
theorem w64 {a : Int} (h1 : -9223372036854775808 ≤ a) (h2 : a ≤ 9223372036854775807) : wrap64 a = a := by unfold wrap64; omega
theorem be8_is (x : Int) (L : List Int) : L ++ be4 (wrap64 (IntKind.u64.wrap x / 4294967296)) ++ be4 (wrap64 (bits .and .u64 (IntKind.u64.wrap x) 4294967295)) = L ++ be8 x := by
  obtain ⟨h0, h1⟩ := wrap_u x
  rw [and32 _ h0 h1]
  unfold be8
  obtain ⟨y, hy⟩ : ∃ y, IntKind.u64.wrap x = y := ⟨_, rfl⟩
  rw [hy] at h0 h1 ⊢
  rw [w64 (a := y / 4294967296) (by omega) (by omega), w64 (a := y % 4294967296) (by omega) (by omega), List.append_assoc]
set_option maxHeartbeats 4000000 in
set_option maxRecDepth 100000 in
theorem eight_any (w0 W : World) (g : Nat) (l : List Int) (A : Option Addr) (c : Nat) (ns : List Int) (hl : l.length + 8 * ns.length ≤ 1000000000) (hc : ns.length ≤ c)
    (hC : ∀ W', Below w0.heap.size w0 W' → KeepT W W' g → Kd.C (Kd.int .i64) W' A ns.length ns) (hW : IsW w0.heap.size W g l) (hB : Below w0.heap.size w0 W) :
    Calls Try.prog 19 #[.pointer (some ⟨g, 0, none⟩), .slice A ns.length c] W (FourPost w0 W g (l ++ be8s ns)) := by
  have HC := Lib.hid hC; have HW := Lib.hid hW; have HB := Lib.hid hB
  clear hC hW hB
  have hm : ns.length ≤ 9223372036854775807 := by omega
  obtain ⟨m, hm2⟩ : ∃ m, ns.length = m := ⟨_, rfl⟩
  rw [hm2] at hl hc hm
  have HM := Lib.hid hm2
  rw [hm2]
  clear hm2
  go_enter Try.func19, Try.ntmps19
  go_wp2
  go_loopg [5, 8] m (fun gf v5 v8 wx => ∃ k : Nat, v8 = .int .i64 k ∧ k + gf = m ∧ IsW w0.heap.size wx g (l ++ be8s (ns.take k)) ∧ Below w0.heap.size w0 wx ∧ KeepT W wx g)
  case atStart => exact ⟨0, rfl, by omega, by simpa [be8s] using HW.out, HB.out, KeepT.refl W g⟩
  case round =>
    clear HW HB
    obtain ⟨k, rfl, hk, hw, hb, hkt⟩ := hrel
    have HW := Lib.hid hw; have HB := Lib.hid hb; have HK := Lib.hid hkt; clear hw hb hkt
    by_cases hlt : k < m
    · obtain ⟨g', rfl⟩ : ∃ g', gk = g' + 1 := ⟨gk - 1, by omega⟩
      obtain ⟨ad, e, hcell⟩ := row_at (HC.out _ HB.out HK.out) k (by rw [HM.out]; exact hlt)
      subst e
      have hsn := be8s_snoc ns k (by rw [HM.out]; exact hlt)
      have hlen := be8s_len (ns.take k)
      rw [List.length_take, HM.out, Nat.min_eq_left (by omega)] at hlen
      obtain ⟨x, hx⟩ : ∃ x, ns.getD k 0 = x := ⟨_, rfl⟩
      rw [hx] at hcell hsn
      obtain ⟨T, hT⟩ : ∃ T, be8s (ns.take k) = T := ⟨_, rfl⟩
      rw [hT] at hsn hlen HW
      have HSN := Lib.hid hsn
      have hT2 : (l ++ T).length ≤ 999999992 := by rw [List.length_append]; omega
      have q0 : decide ((k : Int) < (m : Int)) = true := by simp; omega
      clear hx hsn hT hlen
      go_wp2_with fail
      refine (four_any w0 _ g (l ++ T) _ (by omega) HW.out HB.out).mono ?_
      rintro e w1 ⟨rfl, hw1, hb1, hk1⟩
      have HW1 := Lib.hid hw1; have HB1 := Lib.hid hb1; have HK1 := Lib.hid (HK.out.trans hk1); clear hw1 hb1 hk1
      go_wp2_with fail
      refine (four_any w0 _ g _ _ (by rw [List.length_append]; show _ + 4 ≤ _; omega) HW1.out HB1.out).mono ?_
      rintro e w2 ⟨rfl, hw2, hb2, hk2⟩
      have HW2 := Lib.hid hw2; have HB2 := Lib.hid hb2; have HK2 := Lib.hid (HK1.out.trans hk2); clear hw2 hb2 hk2
      go_wp2
      go_roundg g'
      case measure => omega
      case rel =>
        refine ⟨k + 1, by go_num, by omega, ?_, HB2.out, HK2.out⟩
        have h := HW2.out
        rw [be8_is] at h
        rw [HSN.out, ← List.append_assoc]
        exact h
    · obtain rfl : k = m := by omega
      have q0 : decide ((k : Int) < (k : Int)) = false := by simp
      go_wp2
      go_end0
      refine ⟨rfl, ?_, HB.out, HK.out⟩
      have := HW.out
      rw [← HM.out, List.take_length] at this
      exact this
end Go.Proofs.Ytkdboaaganmagaa.Ca
