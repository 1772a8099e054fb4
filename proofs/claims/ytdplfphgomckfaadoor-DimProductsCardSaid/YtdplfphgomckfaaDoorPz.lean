/- Reading a unit ends, in every text; DimReads in plain Lean. Conditions: as each theorem states. -/
import Derived.Test.YtdplfphgomckfaaDoorDe
import Derived.Test.YtdplfphgomckfaaDoorDg2
namespace Go.Proofs.YtdplfphgomckfaaDoor.Ra
set_option linter.unusedVariables false
open Go.RowKit Go.Proofs.YtdplfphgomckfaaDoorW.PrintWords Go.Proofs.YtdplfphgomckfaaDoor.Laid Go.Proofs.YtdplfphgomckfaaDoor.Da Go.Proofs.YtdplfphgomckfaaDoor.Db Go.Proofs.YtdplfphgomckfaaDoor.Dd Go.Proofs.YtdplfphgomckfaaDoor.De
theorem ev_mono {α : Type} {f : Nat → Option α} {r : α} (K : Nat) (h : f K = some r) (m : ∀ k, LeO (f k) (f (k + 1))) : Ev f r := by
 refine ⟨K, fun k hk => ?_⟩
 obtain ⟨d, rfl⟩ : ∃ d, k = K + d := ⟨k - K, by omega⟩
 clear hk
 induction d with
 | zero => exact h
 | succ d ih => exact m (K + d) r ih
theorem rd_tot (s : ByteArray) : ∀ (k a : Nat) (d : Bool) (u : Un), a ≤ s.size → s.size - a < k → ∃ t, rdL s k a d u = some t ∧ t.2.1 ≤ s.size ∧ (t.2.2 = 0 ∨ t.2.2 = 20 ∨ t.2.2 = 21)
 | 0, _, _, _, _, h => by omega
 | k + 1, a, d, u, ha, hk => by
  obtain ⟨⟨r, tm, en, ok⟩, hf⟩ : ∃ f, facF s a = f := ⟨_, rfl⟩
  obtain ⟨hen, hok, _⟩ := fac_ok s a ha r tm en ok hf
  rw [rdL, hf]
  unfold rdF
  dsimp only
  split
  ·next hk' =>
   have hae := (hok hk').2
   cases takes r d tm u with
   | none => exact ⟨_, rfl, ha, .inr (.inr rfl)⟩
   | some u' =>
    unfold rdE
    dsimp only
    split
    ·exact ⟨_, rfl, Nat.zero_le _, .inl rfl⟩
    ·split
     ·exact ⟨_, rfl, hen, .inr (.inl rfl)⟩
     ·exact rd_tot s k (en + 1) _ u' (by omega) (by omega)
  ·exact ⟨_, rfl, hen, .inr (.inl rfl)⟩
theorem read_tot (s : ByteArray) : ∃ t, Ev (fun k => Read.f k s) (flat t) := by
 by_cases h : s.size > 64
 ·refine ⟨(Zu, 0, 2), 0, fun k _ => ?_⟩
  show (readF k s).map flat = _
  unfold readF
  rw [if_pos h]; rfl
 ·obtain ⟨t, ht, _⟩ := rd_tot s (s.size + 1) 0 false U1 (by omega) (by omega)
  refine ⟨t, ev_mono (s.size + 1) ?_ (Read.mono s)⟩
  unfold Read.f readF
  rw [if_neg h, ht]; rfl
theorem read_awake : De.Read.f 8 (⟨#[107, 114, 101, 113, 47, 109, 105, 110]⟩ : ByteArray) = some (50, 3, -1, 1, 0, 0, 0, 0, 0) := by kernel_rfl
end Go.Proofs.YtdplfphgomckfaaDoor.Ra
/- Reading a text that has another one behind it: the same factors; two readings of the same rest differ by what they had. Conditions: as each theorem states. -/
namespace Go.Proofs.YtdplfphgomckfaaDoor.Pa
set_option linter.unusedVariables false
set_option linter.unusedSimpArgs false
open Go.RowKit Go.Proofs.YtdplfphgomckfaaDoorW.PrintWords Go.Proofs.YtdplfphgomckfaaDoor.Laid Go.Proofs.YtdplfphgomckfaaDoor.Da Go.Proofs.YtdplfphgomckfaaDoor.Db Go.Proofs.YtdplfphgomckfaaDoor.Dd Go.Proofs.YtdplfphgomckfaaDoor.De Go.Proofs.YtdplfphgomckfaaDoor.Dg Go.Proofs.YtdplfphgomckfaaDoor.Ra
/-! the two texts -/
def Pre (s a : ByteArray) : Prop := ∃ b : List UInt8, s.data.toList = a.data.toList ++ 42 :: b
theorem Pre.size {s a : ByteArray} (h : Pre s a) : a.size < s.size := by
 obtain ⟨b, h⟩ := h
 have := congrArg List.length h
 simp at this
 omega
theorem Pre.get {s a : ByteArray} (h : Pre s a) (i : Nat) (hi : i < a.size) : s.data.toList.getD i 0 = a.data.toList.getD i 0 := by
 obtain ⟨b, h⟩ := h
 rw [h, List.getD_eq_getElem?_getD, List.getElem?_append_left (by simpa using hi), ← List.getD_eq_getElem?_getD]
theorem Pre.at {s a : ByteArray} (h : Pre s a) : s.data.toList.getD a.size 0 = 42 := by
 obtain ⟨b, h⟩ := h
 rw [h, List.getD_eq_getElem?_getD, List.getElem?_append_right (by simp)]
 simp
theorem tw_app (p : UInt8 → Bool) (h42 : p 42 = false) (b : List UInt8) : ∀ l : List UInt8, tw p (l ++ 42 :: b) = tw p l
 | [] => by simp [tw, h42]
 | c :: l => by
  rw [List.cons_append, tw_cons, tw_cons, tw_app p h42 b l]
theorem Pre.tw {s a : ByteArray} (h : Pre s a) (p : UInt8 → Bool) (h42 : p 42 = false) (i : Nat) (hi : i ≤ a.size) : tw p (s.data.toList.drop i) = tw p (a.data.toList.drop i) := by
 obtain ⟨b, h⟩ := h
 rw [h, List.drop_append_of_le_length (by simpa using hi), tw_app p h42 b]
theorem Pre.ext {s a : ByteArray} (h : Pre s a) (i j : Nat) (hj : j ≤ a.size) : s.extract i j = a.extract i j := by
 obtain ⟨b, h⟩ := h
 apply ByteArray.ext
 apply Array.ext'
 rw [Lib.extract_data, Lib.extract_data, h]
 by_cases hi : i ≤ j
 ·rw [List.drop_append_of_le_length (by simp; omega), List.take_append_of_le_length (by simp; omega)]
 ·rw [show j - i = 0 from by omega, List.take_zero, List.take_zero]
theorem fac_pre {s a : ByteArray} (h : Pre s a) (i : Nat) (hi : i ≤ a.size) : facF s i = facF a i := by
 have hs := h.size
 unfold facF
 rw [h.tw letB (by decide) i hi]
 have h1 := tw_size letB a i hi
 obtain ⟨c, hc⟩ : ∃ c, i + tw letB (a.data.toList.drop i) = c := ⟨_, rfl⟩
 rw [hc] at h1 ⊢
 rw [h.ext i c h1]
 cases lastRow (a.extract i c) 18 with
 | none => rfl
 | some r =>
  rw [facG_some, facG_some]
  by_cases hca : c = a.size
  ·rw [if_pos (show c = s.size ∨ s.data.toList.getD c 0 ≠ 94 from .inr (by rw [hca, h.at]; decide)), if_pos (show c = a.size ∨ a.data.toList.getD c 0 ≠ 94 from .inl hca)]
  ·have hg := h.get c (by omega)
   by_cases h94 : a.data.toList.getD c 0 = 94
   ·have n1 : ¬ (c = s.size ∨ s.data.toList.getD c 0 ≠ 94) := by rintro (h' | h'); omega; exact h' (hg.trans h94)
    have n2 : ¬ (c = a.size ∨ a.data.toList.getD c 0 ≠ 94) := by rintro (h' | h'); exact hca h'; exact h' h94
    rw [if_neg n1, if_neg n2, h.tw digB (by decide) (c + 1) (by omega)]
    have h2 := tw_size digB a (c + 1) (by omega)
    obtain ⟨m, hm⟩ : ∃ m, tw digB (a.data.toList.drop (c + 1)) = m := ⟨_, rfl⟩
    rw [hm] at h2 ⊢
    unfold facH
    by_cases hm1 : m < 1
    ·rw [if_pos (.inl hm1), if_pos (.inl hm1)]
    ·rw [h.get (c + 1) (by omega), h.ext (c + 1) (c + 1 + m) h2]
   ·rw [if_pos (.inr (by rw [hg]; exact h94)), if_pos (.inr h94)]
/-- b stands in s behind the first n bytes, up to its end. -/
def Suf (s b : ByteArray) (n : Nat) : Prop := s.data.toList.drop n = b.data.toList ∧ n ≤ s.size
theorem Suf.size {s b : ByteArray} {n : Nat} (h : Suf s b n) : s.size = n + b.size := by
 have := congrArg List.length h.1
 have h2 := h.2
 simp at this
 omega
theorem Suf.drop {s b : ByteArray} {n : Nat} (h : Suf s b n) (i : Nat) : s.data.toList.drop (n + i) = b.data.toList.drop i := by rw [← h.1, List.drop_drop]
theorem Suf.get {s b : ByteArray} {n : Nat} (h : Suf s b n) (i : Nat) : s.data.toList.getD (n + i) 0 = b.data.toList.getD i 0 := by
 rw [← h.1, List.getD_eq_getElem?_getD, List.getD_eq_getElem?_getD, List.getElem?_drop]
theorem Suf.ext {s b : ByteArray} {n : Nat} (h : Suf s b n) (i j : Nat) : s.extract (n + i) (n + j) = b.extract i j := by
 apply ByteArray.ext
 apply Array.ext'
 rw [Lib.extract_data, Lib.extract_data, h.drop, show n + j - (n + i) = j - i from by omega]
def shiftF (n : Nat) (f : Rw × Nat × Nat × Bool) : Rw × Nat × Nat × Bool := (f.1, f.2.1, n + f.2.2.1, f.2.2.2)
theorem fac_suf {s b : ByteArray} {n : Nat} (h : Suf s b n) (i : Nat) : facF s (n + i) = shiftF n (facF b i) := by
 have hs := h.size
 unfold facF
 rw [h.drop i]
 obtain ⟨T, hT⟩ : ∃ T, tw letB (b.data.toList.drop i) = T := ⟨_, rfl⟩
 rw [hT, show n + i + T = n + (i + T) from by omega, h.ext i (i + T)]
 obtain ⟨c, hc⟩ : ∃ c, i + T = c := ⟨_, rfl⟩
 rw [hc]
 cases lastRow (b.extract i c) 18 with
 | none => rfl
 | some r =>
  rw [facG_some, facG_some]
  have e : (n + c = s.size ∨ s.data.toList.getD (n + c) 0 ≠ 94) ↔ (c = b.size ∨ b.data.toList.getD c 0 ≠ 94) := by
   rw [h.get c]
   constructor
   ·rintro (h1 | h1)
    ·exact .inl (by omega)
    ·exact .inr h1
   ·rintro (h1 | h1)
    ·exact .inl (by omega)
    ·exact .inr h1
  by_cases hq : c = b.size ∨ b.data.toList.getD c 0 ≠ 94
  ·rw [if_pos hq, if_pos (e.2 hq)]; rfl
  ·rw [if_neg hq, if_neg (fun h' => hq (e.1 h')), show n + c + 1 = n + (c + 1) from by omega, h.drop (c + 1)]
   unfold facH
   obtain ⟨m, hm⟩ : ∃ m, tw digB (b.data.toList.drop (c + 1)) = m := ⟨_, rfl⟩
   rw [hm, h.get (c + 1), show n + (c + 1) + m = n + (c + 1 + m) from by omega, h.ext (c + 1) (c + 1 + m)]
   split <;> rfl
/-! readings -/
def RdR (s : ByteArray) (i : Nat) (d : Bool) (u : Un) (t : Un × Nat × Int) : Prop := ∃ k, rdL s k i d u = some t
theorem rdL_up (s : ByteArray) (k j i : Nat) (d : Bool) (u : Un) (t : Un × Nat × Int) (h : rdL s k i d u = some t) : rdL s (k + j) i d u = some t := by
 induction j with
 | zero => exact h
 | succ j ih => exact rdL_mono s (k + j) i d u t ih
theorem RdR.uniq {s : ByteArray} {i : Nat} {d : Bool} {u : Un} {t t' : Un × Nat × Int} (h : RdR s i d u t) (h' : RdR s i d u t') : t = t' := by
 obtain ⟨k, h⟩ := h
 obtain ⟨k', h'⟩ := h'
 have a := rdL_up s k k' i d u t h
 have b := rdL_up s k' k i d u t' h'
 rw [Nat.add_comm] at b
 exact Option.some.inj (a.symm.trans b)
/-- What a text's reading says of the reading of the text with more behind it. -/
theorem pre_read {s a : ByteArray} (h : Pre s a) : ∀ (k i : Nat) (d : Bool) (u : Un) (t : Un × Nat × Int), i ≤ a.size → rdL a k i d u = some t →
  (t.2.2 ≠ 0 → RdR s i d u t) ∧ (t.2.2 = 0 → ∀ t', RdR s (a.size + 1) false t.1 t' → RdR s i d u t')
 | 0, _, _, _, _, _, h => by cases h
 | k + 1, i, d, u, t, hi, ht => by
  have hs := h.size
  obtain ⟨⟨r, tm, en, ok⟩, hf⟩ : ∃ f, facF a i = f := ⟨_, rfl⟩
  obtain ⟨hen, hok, _⟩ := fac_ok a i hi r tm en ok hf
  have hf' : facF s i = (r, tm, en, ok) := (fac_pre h i hi).trans hf
  have hS : ∀ j, rdL s (j + 1) i d u = rdF s i d u (rdL s j) (r, tm, en, ok) := fun j => by rw [rdL, hf']
  rw [rdL, hf] at ht
  unfold rdF at ht hS
  dsimp only at ht hS
  by_cases hk : ok = true
  ·rw [if_pos hk] at ht
   cases htk : takes r d tm u with
   | none =>
    rw [htk] at ht
    unfold rdE at ht
    injection ht with ht
    subst ht
    exact ⟨fun _ => ⟨1, by rw [hS, if_pos hk, htk]; rfl⟩, fun h0 => absurd h0 (show ¬ ((21 : Int) = 0) by decide)⟩
   | some u' =>
    rw [htk] at ht
    unfold rdE at ht
    dsimp only at ht
    have hS2 : ∀ j, rdL s (j + 1) i d u = if s.data.toList.getD en 0 ≠ 42 ∧ s.data.toList.getD en 0 ≠ 47 then some (Zu, en, 20) else rdL s j (en + 1) (s.data.toList.getD en 0 == 47) u' := fun j => by
     rw [hS, if_pos hk, htk]
     unfold rdE
     dsimp only
     rw [if_neg (by omega)]
    by_cases he : en = a.size
    ·rw [if_pos he] at ht
     injection ht with ht
     subst ht
     refine ⟨fun h0 => absurd rfl h0, fun _ t' ht' => ?_⟩
     obtain ⟨j, hj⟩ := ht'
     refine ⟨j + 1, ?_⟩
     rw [hS2, he, h.at, if_neg (by decide)]
     exact hj
    ·rw [if_neg he] at ht
     have hg := h.get en (by omega)
     rw [hg] at hS2
     by_cases hc : a.data.toList.getD en 0 ≠ 42 ∧ a.data.toList.getD en 0 ≠ 47
     ·rw [if_pos hc] at ht
      injection ht with ht
      subst ht
      exact ⟨fun _ => ⟨1, by rw [hS2, if_pos hc]⟩, fun h0 => absurd h0 (show ¬ ((20 : Int) = 0) by decide)⟩
     ·rw [if_neg hc] at ht
      have ih := pre_read h k (en + 1) _ u' t (by omega) ht
      refine ⟨fun h0 => ?_, fun h0 t' ht' => ?_⟩
      ·obtain ⟨j, hj⟩ := ih.1 h0
       exact ⟨j + 1, by rw [hS2, if_neg hc]; exact hj⟩
      ·obtain ⟨j, hj⟩ := ih.2 h0 t' ht'
       exact ⟨j + 1, by rw [hS2, if_neg hc]; exact hj⟩
  ·rw [if_neg hk] at ht
   injection ht with ht
   subst ht
   exact ⟨fun _ => ⟨1, by rw [hS, if_neg hk]⟩, fun h0 => absurd h0 (show ¬ ((20 : Int) = 0) by decide)⟩
/-! two readings of the same rest -/
def Same (p q p' q' : List Int) (n : Nat) : Prop := ∀ k, k < n → p'.getD k 0 - q'.getD k 0 = p.getD k 0 - q.getD k 0
theorem Same.trans {p q p' q' p2 q2 : List Int} {n : Nat} (h : Same p q p' q' n) (h' : Same p' q' p2 q2 n) : Same p q p2 q2 n := fun k hk => (h' k hk).trans (h k hk)
theorem bump_same (p q : List Int) (x : Go.Proofs.YtdplfphgomckfaaDoor.OP.S46) (sg : Int) : Same p q (bump p x sg) (bump q x sg) 3 := by
 intro k hk
 have : k = 0 ∨ k = 1 ∨ k = 2 := by omega
 rcases this with rfl | rfl | rfl <;> (simp only [bump, List.getD_cons_zero, List.getD_cons_succ]; omega)
theorem set_same (l : List Int) (n : Nat) (v : Int) (h : n < l.length) : (l.set n v).getD n 0 = v := by
 rw [List.getD_eq_getElem?_getD, List.getElem?_set_self h]; rfl
theorem set_other (l : List Int) (n m : Nat) (v : Int) (h : n ≠ m) : (l.set n v).getD m 0 = l.getD m 0 := by
 rw [List.getD_eq_getElem?_getD, List.getElem?_set_ne h, ← List.getD_eq_getElem?_getD]
theorem bumpD_same (d e : List Int) (base sg : Int) (hd : d.length = 5) (he : e.length = 5) (hb : base < 5) : Same d e (bumpD d base sg) (bumpD e base sg) 5 := by
 intro k hk
 unfold bumpD
 by_cases h : base < 0
 ·rw [if_pos h, if_pos h]
 ·rw [if_neg h, if_neg h]
  by_cases hk2 : base.toNat = k
  ·subst hk2
   rw [set_same _ _ _ (by omega), set_same _ _ _ (by omega)]
   omega
  ·rw [set_other _ _ _ _ hk2, set_other _ _ _ _ hk2]
theorem takes_same (r : Rw) (hr : r ∈ table) (d : Bool) : ∀ (n : Nat) (u v u' v' : Un) (p q e f : List Int), OkU u → OkU v → RU u p e → RU v q f → takes r d n u = some u' → takes r d n v = some v' →
  ∃ p' q' e' f', OkU u' ∧ OkU v' ∧ RU u' p' e' ∧ RU v' q' f' ∧ Same p q p' q' 3 ∧ Same e f e' f' 5
 | 0, u, v, u', v', p, q, e, f, hu, hv, ru, rv, h, h' => by
  injection h with h
  injection h' with h'
  subst h h'
  exact ⟨p, q, e, f, hu, hv, ru, rv, fun _ _ => rfl, fun _ _ => rfl⟩
 | n + 1, u, v, u', v', p, q, e, f, hu, hv, ru, rv, h, h' => by
  unfold takes at h h'
  by_cases c : (stepR u r d).2 = true
  ·rw [if_pos c] at h
   by_cases c' : (stepR v r d).2 = true
   ·rw [if_pos c'] at h'
    have s1 := (step_ref u p e r d hu hr ru).1 c
    have s2 := (step_ref v q f r d hv hr rv).1 c'
    have l1 : e.length = 5 := by rw [← ru.2.2.1]; exact hu.2.2.2.2.1
    have l2 : f.length = 5 := by rw [← rv.2.2.1]; exact hv.2.2.2.2.1
    obtain ⟨p', q', e', f', a1, a2, a3, a4, a5, a6⟩ := takes_same r hr d n _ _ u' v' _ _ _ _ (stepR_ok u r d hu hr c) (stepR_ok v r d hv hr c') s1.1 s2.1 h h'
    exact ⟨p', q', e', f', a1, a2, a3, a4, (bump_same p q _ _).trans a5, (bumpD_same e f _ _ l1 l2 (by have := (row_ok hr).2.2.2.2.2; omega)).trans a6⟩
   ·rw [if_neg c'] at h'; cases h'
  ·rw [if_neg c] at h; cases h
theorem two_reads {s b : ByteArray} {c : Nat} (hS : Suf s b c) : ∀ (k i : Nat) (d : Bool) (u v : Un) (p q e f : List Int) (w w' : Un) (x x' : Nat), i ≤ b.size → OkU u → OkU v → RU u p e → RU v q f → rdL s k (c + i) d u = some (w, x, 0) → rdL b k i d v = some (w', x', 0) →
  ∃ p' q' e' f', OkU w ∧ OkU w' ∧ RU w p' e' ∧ RU w' q' f' ∧ Same p q p' q' 3 ∧ Same e f e' f' 5
 | 0, i, d, u, v, p, q, e, f, w, w', x, x', _, _, _, _, _, h, _ => by cases h
 | k + 1, i, d, u, v, p, q, e, f, w, w', x, x', hi, hu, hv, ru, rv, h, h' => by
  have hsz := hS.size
  obtain ⟨⟨r, tm, en, ok⟩, hf⟩ : ∃ f, facF b i = f := ⟨_, rfl⟩
  obtain ⟨hen, hok, _⟩ := fac_ok b i hi r tm en ok hf
  have hf' : facF s (c + i) = (r, tm, c + en, ok) := by rw [fac_suf hS, hf]; rfl
  rw [rdL, hf'] at h
  rw [rdL, hf] at h'
  unfold rdF at h h'
  dsimp only at h h'
  by_cases hk : ok = true
  ·rw [if_pos hk] at h h'
   have hr := (hok hk).1
   cases t1 : takes r d tm u with
   | none =>
    rw [t1] at h
    unfold rdE at h
    injection h with h
    injection h with _ h
    injection h with _ h
    cases h
   | some u2 =>
    cases t2 : takes r d tm v with
    | none =>
     rw [t2] at h'
     unfold rdE at h'
     injection h' with h'
     injection h' with _ h'
     injection h' with _ h'
     cases h'
    | some v2 =>
     rw [t1] at h
     rw [t2] at h'
     unfold rdE at h h'
     dsimp only at h h'
     obtain ⟨p2, q2, e2, f2, a1, a2, a3, a4, a5, a6⟩ := takes_same r hr d tm u v u2 v2 p q e f hu hv ru rv t1 t2
     by_cases he : en = b.size
     ·rw [if_pos (by omega)] at h
      rw [if_pos he] at h'
      injection h with h
      injection h with h _
      injection h' with h'
      injection h' with h' _
      subst h h'
      exact ⟨p2, q2, e2, f2, a1, a2, a3, a4, a5, a6⟩
     ·rw [if_neg (by omega), hS.get en] at h
      rw [if_neg he] at h'
      by_cases hc : b.data.toList.getD en 0 ≠ 42 ∧ b.data.toList.getD en 0 ≠ 47
      ·rw [if_pos hc] at h
       injection h with h
       injection h with _ h
       injection h with _ h
       cases h
      ·rw [if_neg hc] at h h'
       obtain ⟨p3, q3, e3, f3, b1, b2, b3, b4, b5, b6⟩ := two_reads hS k (en + 1) _ u2 v2 p2 q2 e2 f2 w w' x x' (by omega) a1 a2 a3 a4 (by rw [Nat.add_assoc] at h; exact h) h'
       exact ⟨p3, q3, e3, f3, b1, b2, b3, b4, a5.trans b5, a6.trans b6⟩
  ·rw [if_neg hk] at h
   injection h with h
   injection h with _ h
   injection h with _ h
   cases h
/-- A right reading: the unit and its exponents. -/
theorem one_read (s : ByteArray) (k i : Nat) (d : Bool) (u : Un) (p e : List Int) (w : Un) (x : Nat) (hi : i ≤ s.size) (hu : OkU u) (ru : RU u p e) (h : rdL s k i d u = some (w, x, 0)) : ∃ p' e', OkU w ∧ RU w p' e' := by
 have hS : Suf s s 0 := ⟨by rw [List.drop_zero], Nat.zero_le _⟩
 obtain ⟨p', q', e', f', a1, _, a3, _⟩ := two_reads hS k i d u u p p e e w w x x hi hu hu ru ru (by rw [Nat.zero_add]; exact h) h
 exact ⟨p', e', a1, a3⟩
theorem RU1 : RU U1 [0, 0, 0] [0, 0, 0, 0, 0] := ⟨by decide, by decide, rfl, rfl⟩
end Go.Proofs.YtdplfphgomckfaaDoor.Pa
