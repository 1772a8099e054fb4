/- A dimension's text: the plain words; strconv.Itoa; the reference's Text, walked. Conditions: as each theorem states. -/
import Derived.Test.YtdplfphgomckfaaDoorDb
import Derived.Lib.ItoaLen
import Derived.Lib.Join
import Derived.Laws.MakeOwn
import Derived.Deep.CutBlock
import Derived.Outline
namespace Go.Proofs.YtdplfphgomckfaaDoor.Dt
set_option linter.unusedVariables false
set_option linter.unusedSimpArgs false
open Go.RowKit Go.Proofs.YtdplfphgomckfaaDoorW.PrintWords Go.Proofs.YtdplfphgomckfaaDoor.Laid Go.Proofs.YtdplfphgomckfaaDoor.Da Go.Proofs.YtdplfphgomckfaaDoor.Db
open Go.Sort in
theorem grow_below {w : World} (k : Nat) (os : Array Obj) : Below w.heap.size w (grow (w.drewN k) os) := by
  refine ⟨rfl, rfl, rfl, ?_, fun i hi => ?_⟩
  · show w.heap.size ≤ ((w.drewN k).heap ++ os).size
    rw [World.heap_drewN, Array.size_append]; omega
  · show ((w.drewN k).heap ++ os)[i]? = _
    rw [World.heap_drewN, Array.getElem?_append_left (by omega)]
theorem itoa_any (n : Int) (h0 : -9223372036854775808 ≤ n) (h1 : n ≤ 9223372036854775807) (w : World) (hL : Laid w) : Calls Tryd.prog 29 #[.int .i64 n] w fun e w' => e = .returned (.string (bs (Lib.itoa n))) ∧ Below w.heap.size w w' := by
  refine (Tryd.strconv_Itoa n h0 h1 w hL.1).mono ?_
  rintro e w' ⟨rfl, k, os, rfl⟩
  exact ⟨rfl, grow_below k os⟩
theorem bs_app (a b : List UInt8) : bs a ++ bs b = bs (a ++ b) := by
  apply ByteArray.ext
  simp [bs]
theorem bs_size (a : List UInt8) : (bs a).size = a.length := by simp [bs, ByteArray.size]
theorem bs_list (a : List UInt8) : (bs a).toList = a := by rw [ByteArray.toList_eq]; rfl
def nmB (i : Nat) : List UInt8 := bases.getD i []
def piece (i : Nat) (n : Int) : List UInt8 := if n = 1 then nmB i else nmB i ++ 94 :: Lib.itoa n
def pcs (d : List Int) : Nat → List (List UInt8)
  | 0 => []
  | k + 1 => if d.getD k 0 = 0 then pcs d k else pcs d k ++ [piece k (d.getD k 0)]
def txt (d : List Int) (k : Nat) : List UInt8 := Lib.join (pcs d k) [42]
def textL (d : List Int) : List UInt8 := if pcs d 5 = [] then [49] else txt d 5
theorem join_snoc (xs : List (List UInt8)) (y sep : List UInt8) : Lib.join (xs ++ [y]) sep = if xs = [] then y else Lib.join xs sep ++ (sep ++ y) := by
  cases xs with
  | nil => rw [if_pos rfl, List.nil_append, Lib.join_one]
  | cons x r =>
    rw [if_neg (by simp), List.cons_append, Lib.join_cons, Lib.join_cons]
    unfold Lib.joinTail
    simp
theorem nm_ne (i : Nat) (h : i < 5) : nmB i ≠ [] := by
  have : i = 0 ∨ i = 1 ∨ i = 2 ∨ i = 3 ∨ i = 4 := by omega
  rcases this with rfl | rfl | rfl | rfl | rfl <;> decide
theorem nm_len (i : Nat) (h : i < 5) : (nmB i).length ≤ 4 := by
  have : i = 0 ∨ i = 1 ∨ i = 2 ∨ i = 3 ∨ i = 4 := by omega
  rcases this with rfl | rfl | rfl | rfl | rfl <;> decide
theorem piece_ne (i : Nat) (n : Int) (h : i < 5) : piece i n ≠ [] := by
  unfold piece
  split
  · exact nm_ne i h
  · simp
theorem piece_len (i : Nat) (n : Int) (h : i < 5) (h0 : -9223372036854775808 ≤ n) (h1 : n ≤ 9223372036854775807) : (piece i n).length ≤ 26 := by
  unfold piece
  have := nm_len i h
  have := Lib.itoa_length_le n h0 h1
  split
  · omega
  · rw [List.length_append, List.length_cons]; omega
theorem pcs_ne (d : List Int) : ∀ k, k ≤ 5 → ∀ x ∈ pcs d k, x ≠ []
  | 0, _, x, hx => by cases hx
  | k + 1, hk, x, hx => by
    unfold pcs at hx
    split at hx
    · exact pcs_ne d k (by omega) x hx
    · rcases List.mem_append.1 hx with h | h
      · exact pcs_ne d k (by omega) x h
      · rw [List.mem_singleton.1 h]; exact piece_ne k _ (by omega)
theorem txt_nil (d : List Int) (k : Nat) (hk : k ≤ 5) : txt d k = [] ↔ pcs d k = [] := by
  constructor
  · intro h
    unfold txt at h
    cases hp : pcs d k with
    | nil => rfl
    | cons x r =>
      rw [hp, Lib.join_cons] at h
      have := pcs_ne d k hk x (by rw [hp]; simp)
      exact absurd (List.append_eq_nil_iff.1 h).1 this
  · intro h; unfold txt; rw [h]; rfl
theorem txt_zero (d : List Int) (k : Nat) (h : d.getD k 0 = 0) : txt d (k + 1) = txt d k := by
  unfold txt
  rw [pcs, if_pos h]
theorem txt_first (d : List Int) (k : Nat) (h : ¬ d.getD k 0 = 0) (hp : pcs d k = []) : txt d (k + 1) = piece k (d.getD k 0) := by
  unfold txt
  rw [pcs, if_neg h, join_snoc, if_pos hp]
theorem txt_more (d : List Int) (k : Nat) (h : ¬ d.getD k 0 = 0) (hp : ¬ pcs d k = []) : txt d (k + 1) = txt d k ++ ([42] ++ piece k (d.getD k 0)) := by
  unfold txt
  rw [pcs, if_neg h, join_snoc, if_neg hp]
def OkD (d : List Int) : Prop := d.length = 5 ∧ ∀ x ∈ d, -9223372036854775808 ≤ x ∧ x ≤ 9223372036854775807
theorem okD_at {d : List Int} (h : OkD d) (k : Nat) (hk : k < 5) : -9223372036854775808 ≤ d.getD k 0 ∧ d.getD k 0 ≤ 9223372036854775807 := h.2 _ (by
  rw [List.getD_eq_getElem?_getD, List.getElem?_eq_getElem (by rw [h.1]; exact hk)]; exact List.getElem_mem _)
theorem txt_len (d : List Int) (h : OkD d) : ∀ k, k ≤ 5 → (txt d k).length ≤ 27 * k
  | 0, _ => by simp [txt, pcs, Lib.join_nil]
  | k + 1, hk => by
    have ih := txt_len d h k (by omega)
    have hd := okD_at h k (by omega)
    have hp := piece_len k (d.getD k 0) (by omega) hd.1 hd.2
    by_cases h0 : d.getD k 0 = 0
    · rw [txt_zero d k h0]; omega
    · by_cases hn : pcs d k = []
      · rw [txt_first d k h0 hn]; omega
      · rw [txt_more d k h0 hn, List.length_append, List.length_append, List.length_singleton]; omega
def dC (d : List Int) : Array Value := (d.map (Value.int .i64)).toArray
theorem dC_at (d : List Int) (k : Nat) (h : k < d.length) : (dC d)[k]? = some (.int .i64 (d.getD k 0)) := by
  unfold dC
  simp [List.getD_eq_getElem?_getD, h]
def nmC : Array Value := #[.string (bs [115]), .string (bs [114, 101, 113]), .string (bs [66]), .string (bs [114, 101, 112]), .string (bs [99, 111, 114, 101])]
theorem nmC_at (k : Nat) (h : k < 5) : nmC[k]? = some (.string (bs (nmB k))) := by
  have : k = 0 ∨ k = 1 ∨ k = 2 ∨ k = 3 ∨ k = 4 := by omega
  rcases this with rfl | rfl | rfl | rfl | rfl <;> rfl
theorem bs_emp (a : List UInt8) : (bs a).toList.isEmpty = a.isEmpty := by rw [bs_list]
def Kx (w : World) (b : Nat) (d : List Int) (wx : World) : Prop := Below w.heap.size w wx ∧ wx.heap[b]? = some (.cells (dC d) 24 (0, 0)) ∧ wx.heap[b + 1]? = some (.cells nmC 65 (0, 0))
theorem Kx.below {w : World} {b : Nat} {d : List Int} {wx wy : World} (h : Kx w b d wx) (hb : Below wx.heap.size wx wy) : Kx w b d wy := ⟨Blk.below_then h.1 hb h.1.size, (hb.block _ (Blk.blk_lt h.2.1)).trans h.2.1, (hb.block _ (Blk.blk_lt h.2.2)).trans h.2.2⟩
theorem str_eq {A B : ByteArray} (h : A = B) : Value.string A = .string B := by rw [h]
def XPost (w : World) (r : ByteArray) (e : Ending) (w' : World) : Prop := e = .returned (.string r) ∧ Below w.heap.size w w'
set_option maxHeartbeats 8000000 in
set_option maxRecDepth 100000 in
theorem rtext_any (d : List Int) (hd : OkD d) (x0 x1 x2 x3 x4 : Int) (hx : d = [x0, x1, x2, x3, x4]) (w : World) (hL : Laid w) : Calls Tryd.prog 16 #[.agg #[.int .i64 x0, .int .i64 x1, .int .i64 x2, .int .i64 x3, .int .i64 x4]] w (XPost w (bs (textL d))) := by
  have HL := Lib.hid hL
  have HD := Lib.hid hd
  have hdl : d.length = 5 := hd.1
  have hbox : (#[.int .i64 x0, .int .i64 x1, .int .i64 x2, .int .i64 x3, .int .i64 x4] : Array Value) = dC d := by rw [hx]; rfl
  have HBX := Lib.hid (Blk.blk_alloc (Blk.blk_new w (.cells (dC d) 24)) (.cells nmC 65))
  have HNM := Lib.hid (Blk.blk_at (w.alloc (.cells (dC d) 24)) (.cells nmC 65) (w.heap.size + 1) (by simp))
  have HB0 := Lib.hid (((Below.refl w.heap.size w).alloc (Nat.le_refl _) (.cells (dC d) 24)).alloc (by simp) (.cells nmC 65))
  rw [← hbox] at HBX HNM HB0
  obtain ⟨b, hb⟩ : ∃ b, w.heap.size = b := ⟨_, rfl⟩
  rw [hb] at HBX HNM
  clear hL hd hx
  have HKX := Lib.hid (show Kx w b d ((w.alloc (.cells #[.int .i64 x0, .int .i64 x1, .int .i64 x2, .int .i64 x3, .int .i64 x4] 24)).alloc (.cells nmC 65)) from ⟨HB0.out, by rw [← hbox]; exact HBX.out, HNM.out⟩)
  clear hbox HBX HNM HB0
  go_enter Tryd.func16, Tryd.ntmps16
  go_wp2_with fail
  go_loopg [3, 5] 5 (fun gf v3 v5 wx => ∃ (q : Nat), v5 = .int .i64 q ∧ q + gf = 5 ∧ v3 = .string (bs (txt d q)) ∧ Hid (Kx w b d wx))
  case atStart => exact ⟨0, rfl, by omega, rfl, HKX⟩
  case round =>
    clear HKX
    obtain ⟨q, rfl, hq, rfl, HK⟩ := hrel
    have htl := txt_len d HD.out q (by omega)
    have htn := txt_nil d q (by omega)
    obtain ⟨T, hT⟩ : ∃ T, bs (txt d q) = T := ⟨_, rfl⟩
    have hTs : T.size ≤ 140 := by rw [← hT, bs_size]; omega
    have hTe : T.toList.isEmpty = (txt d q).isEmpty := by rw [← hT, bs_emp]
    rw [hT]
    by_cases hlt : q < 5
    · obtain ⟨g', rfl⟩ : ∃ g', gk = g' + 1 := ⟨gk - 1, by omega⟩
      have q0 : decide ((q : Int) < 5) = true := by simp; omega
      have hn := okD_at HD.out q hlt
      have y1 := (Blk.blk_cell HK.out.2.1 q).trans (dC_at d q (by omega))
      have y2 := (Blk.blk_cell HK.out.2.2 q).trans (nmC_at q hlt)
      obtain ⟨n, hnn⟩ : ∃ n, d.getD q 0 = n := ⟨_, rfl⟩
      obtain ⟨N, hN⟩ : ∃ N, bs (nmB q) = N := ⟨_, rfl⟩
      have hNs : N.size ≤ 4 := by rw [← hN, bs_size]; exact nm_len q hlt
      rw [hnn] at y1 hn
      rw [hN] at y2
      have HT := Lib.hid hT
      have HNN := Lib.hid hnn
      have HN := Lib.hid hN
      by_cases h0 : n = 0
      · have HX := Lib.hid (txt_zero d q (by rw [hnn]; exact h0))
        have e0 : (n == 0) = true := by simpa using h0
        clear hT hnn hN hTe htn
        subst h0
        go_wp2_with fail
        go_roundg g'
        case measure => omega
        case rel => exact ⟨q + 1, by go_num, by omega, str_eq (by rw [HX.out, HT.out]), HK⟩
      · have e0 : (n == 0) = false := by simpa using h0
        have hd0 : ¬ d.getD q 0 = 0 := by rw [hnn]; exact h0
        have hI := itoa_any n hn.1 hn.2
        have HI := Lib.hid hI
        have hIl := Lib.itoa_length_le n hn.1 hn.2
        obtain ⟨I, hII⟩ : ∃ I, bs (Lib.itoa n) = I := ⟨_, rfl⟩
        have hIs : I.size ≤ 21 := by rw [← hII, bs_size]; exact hIl
        simp only [hII] at HI
        have HII := Lib.hid hII
        -- what the round makes of the text
        have key1 : n = 1 → bs (txt d (q + 1)) = if T.toList.isEmpty = true then T ++ N else T ++ bs [42] ++ N := by
          intro h1
          rw [hTe]
          cases he : txt d q with
          | nil =>
            rw [if_pos (show ([] : List UInt8).isEmpty = true from rfl), txt_first d q hd0 (htn.1 he), hnn, ← hT, he, ← hN, bs_app]
            unfold piece
            rw [if_pos h1]; rfl
          | cons x r =>
            rw [if_neg (by simp), txt_more d q hd0 (fun h => by have := htn.2 h; rw [he] at this; cases this), hnn, ← hT, ← hN, bs_app, bs_app]
            unfold piece
            rw [if_pos h1, List.append_assoc]
        have key2 : n ≠ 1 → bs (txt d (q + 1)) = if T.toList.isEmpty = true then T ++ N ++ (bs [94] ++ I) else T ++ bs [42] ++ N ++ (bs [94] ++ I) := by
          intro h1
          rw [hTe]
          cases he : txt d q with
          | nil =>
            rw [if_pos (show ([] : List UInt8).isEmpty = true from rfl), txt_first d q hd0 (htn.1 he), hnn, ← hT, he, ← hN, ← hII, bs_app, bs_app, bs_app]
            unfold piece
            rw [if_neg h1]; rfl
          | cons x r =>
            rw [if_neg (by simp), txt_more d q hd0 (fun h => by have := htn.2 h; rw [he] at this; cases this), hnn, ← hT, ← hN, ← hII, bs_app, bs_app, bs_app, bs_app]
            unfold piece
            rw [if_neg h1, List.append_assoc, List.append_assoc]
            rfl
        have K1 := Lib.hid key1
        have K2 := Lib.hid key2
        have HLX := Lib.hid (HL.out.below HK.out.1)
        clear hT hnn hN hTe htn hd0 hII hIl hI key1 key2
        cases he : T.toList.isEmpty with
        | true =>
          have e1 : (!T.toList.isEmpty) = false := by rw [he]; rfl
          by_cases h1 : n = 1
          · have HX := Lib.hid (K1.out h1)
            have e2 : (n == 1) = true := by simpa using h1
            have e3 : (n != 1) = false := by simpa using h1
            subst h1
            go_wp2_with fail
            go_roundg g'
            case measure => omega
            case rel => exact ⟨q + 1, by go_num, by omega, str_eq (by (rw [HX.out, he, if_pos rfl]); try rfl), HK⟩
          · have HX := Lib.hid (K2.out h1)
            have e2 : (n == 1) = false := by simpa using h1
            have e3 : (n != 1) = true := by simpa using h1
            go_wp2_with fail
            refine (HI.out _ HLX.out).mono ?_
            rintro e w3 ⟨rfl, hb3⟩
            have HK3 := Lib.hid (HK.out.below hb3)
            clear hb3
            go_wp2_with fail
            go_roundg g'
            case measure => omega
            case rel => exact ⟨q + 1, by go_num, by omega, str_eq (by (rw [HX.out, he, if_pos rfl]); try rfl), HK3⟩
        | false =>
          have e1 : (!T.toList.isEmpty) = true := by rw [he]; rfl
          by_cases h1 : n = 1
          · have HX := Lib.hid (K1.out h1)
            have e2 : (n == 1) = true := by simpa using h1
            have e3 : (n != 1) = false := by simpa using h1
            subst h1
            go_wp2_with fail
            go_roundg g'
            case measure => omega
            case rel => exact ⟨q + 1, by go_num, by omega, str_eq (by (rw [HX.out, he, if_neg (by decide)]); try rfl), HK⟩
          · have HX := Lib.hid (K2.out h1)
            have e2 : (n == 1) = false := by simpa using h1
            have e3 : (n != 1) = true := by simpa using h1
            go_wp2_with fail
            refine (HI.out _ HLX.out).mono ?_
            rintro e w3 ⟨rfl, hb3⟩
            have HK3 := Lib.hid (HK.out.below hb3)
            clear hb3
            go_wp2_with fail
            go_roundg g'
            case measure => omega
            case rel => exact ⟨q + 1, by go_num, by omega, str_eq (by (rw [HX.out, he, if_neg (by decide)]); try rfl), HK3⟩
    · obtain rfl : q = 5 := by omega
      have q0 : decide (((5 : Nat) : Int) < 5) = false := by decide
      have HT := Lib.hid hT
      have HTN := Lib.hid htn
      have hte := hTe
      clear hT htn hTe
      have key : bs (textL d) = if T.toList.isEmpty = true then bs [49] else T := by
        unfold textL
        rw [hte]
        cases h : txt d 5 with
        | nil => rw [if_pos (HTN.out.1 h)]; rfl
        | cons x r => rw [if_neg (fun h2 => by have := HTN.out.2 h2; rw [h] at this; cases this), if_neg (by simp), ← HT.out, h]
      have KEY := Lib.hid key
      clear key hte
      cases he : T.toList.isEmpty with
      | true =>
        go_wp2_with fail
        go_ret
        exact ⟨by (rw [KEY.out, he, if_pos rfl]); try rfl, HK.out.1⟩
      | false =>
        go_wp2_with fail
        go_ret
        exact ⟨by (rw [KEY.out, he, if_neg (by decide)]); try rfl, HK.out.1⟩
end Go.Proofs.YtdplfphgomckfaaDoor.Dt
