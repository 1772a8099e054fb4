/- Reading undoes writing, and writing undoes reading: the words, the rows, the program. -/
import Derived.Test.YtkdboaaganmagaaCe0
import Derived.Test.YtkdboaaganmagaaCb
namespace Go.Proofs.Ytkdboaaganmagaa.Tc
set_option linter.unusedVariables false
set_option linter.unusedSimpArgs false
open Go.RowKit Go.Proofs.YtkdboaaganmagaaW.PrintWords Go.Proofs.Ytkdboaaganmagaa.OP Go.Proofs.Ytkdboaaganmagaa.Ca Go.Proofs.Ytkdboaaganmagaa.Cb Go.Proofs.Ytkdboaaganmagaa.Cd Go.Proofs.Ytkdboaaganmagaa.Ce
/-- f reads what g writes of the values that meet P, and nothing else. -/
structure Pair {α : Type} (P : α → Prop) (g : α → List Int) (f : List Int → Option (α × List Int)) : Prop where
  fwd : ∀ x r, P x → f (g x ++ r) = some (x, r)
  bwd : ∀ l x r, InB l → f l = some (x, r) → l = g x ++ r ∧ P x
theorem InB.tail {a r : List Int} (h : InB (a ++ r)) : InB r := fun x hx => h x (List.mem_append_right _ hx)
theorem p4_be4 (n : Int) (r : List Int) (h0 : 0 ≤ n) (h1 : n < 4294967296) : p4 (be4 n ++ r) = some (n, r) := by
  unfold be4
  simp only [List.cons_append, List.nil_append, p4]
  congr 2
  unfold val4; omega
theorem p4_back (l : List Int) (n : Int) (r : List Int) (hin : InB l) (h : p4 l = some (n, r)) : l = be4 n ++ r ∧ 0 ≤ n ∧ n < 4294967296 := by
  obtain ⟨a, b, c, d, rfl, rfl⟩ := p4_some h
  have ha := hin a (by simp); have hb := hin b (by simp); have hc := hin c (by simp); have hd := hin d (by simp)
  unfold be4 val4
  refine ⟨?_, by omega, by omega⟩
  simp only [List.cons_append, List.nil_append, List.cons.injEq, and_true]
  refine ⟨?_, ?_, ?_, ?_⟩ <;> omega
theorem pair4 : Pair (fun n : Int => 0 ≤ n ∧ n ≤ 2147483647) be4 q4 where
  fwd n r h := by
    unfold q4
    rw [p4_be4 n r h.1 (by omega), Option.bind_some, if_neg (by show ¬ n > 2147483647; omega)]
  bwd l n r hin h := by
    unfold q4 at h
    obtain ⟨⟨m, s⟩, h1, h2⟩ := Option.bind_eq_some_iff.1 h
    have h2' : (if m > 2147483647 then none else some (m, s)) = some (n, r) := h2
    split at h2'
    · cases h2'
    · injection h2' with h3
      injection h3 with h4 h5
      subst h4 h5
      obtain ⟨e, g0, g1⟩ := p4_back l _ _ hin h1
      exact ⟨e, g0, by omega⟩
theorem pair8 : Pair (fun n : Int => -9223372036854775808 ≤ n ∧ n ≤ 9223372036854775807) be8 q8 where
  fwd n r h := by
    unfold q8 be8
    rw [IntKind.wrap_u64, List.append_assoc, p4_be4 _ _ (by omega) (by omega), Option.bind_some]
    show (p4 (be4 _ ++ r)).bind _ = _
    rw [p4_be4 _ _ (by omega) (by omega), Option.bind_some]
    congr 2
    show wrap64 _ = n
    unfold wrap64; omega
  bwd l n r hin h := by
    unfold q8 at h
    obtain ⟨⟨a, s⟩, h1, h2⟩ := Option.bind_eq_some_iff.1 h
    obtain ⟨⟨b, t⟩, h3, h4⟩ := Option.bind_eq_some_iff.1 h2
    have h3' : p4 s = some (b, t) := h3
    have h5 : some (wrap64 (a * 4294967296 + b), t) = some (n, r) := h4
    injection h5 with h6
    injection h6 with h7 h8
    subst h8
    obtain ⟨e1, a0, a1⟩ := p4_back l _ _ hin h1
    obtain ⟨e2, b0, b1⟩ := p4_back s _ _ (InB.tail (a := be4 a) (by rw [← e1]; exact hin)) h3'
    unfold wrap64 at h7
    refine ⟨?_, by omega, by omega⟩
    rw [e1, e2, ← List.append_assoc]
    congr 1
    unfold be8
    rw [IntKind.wrap_u64, show n % 18446744073709551616 / 4294967296 = a from by omega, show n % 18446744073709551616 % 4294967296 = b from by omega]
theorem pairC (m : Int) (hm : m ≤ 2147483647) : Pair (fun n : Int => 0 ≤ n ∧ n ≤ m) be4 (qc m) where
  fwd n r h := by
    unfold qc
    rw [pair4.fwd n r ⟨h.1, by omega⟩, Option.bind_some, if_neg (by show ¬ n > m; omega)]
  bwd l n r hin h := by
    unfold qc at h
    obtain ⟨⟨k, s⟩, h1, h2⟩ := Option.bind_eq_some_iff.1 h
    have h2' : (if k > m then none else some (k, s)) = some (n, r) := h2
    split at h2'
    · cases h2'
    · injection h2' with h3
      injection h3 with h4 h5
      subst h4 h5
      obtain ⟨e, g0, g1⟩ := pair4.bwd l _ _ hin h1
      exact ⟨e, g0, by omega⟩
theorem qA_acc {α : Type} (f : List Int → Option (α × List Int)) : ∀ (n : Nat) (acc : List α) (l : List Int), qA f n acc l = (qA f n [] l).bind fun t => some (acc ++ t.1, t.2) := by
  intro n
  induction n with
  | zero => intro acc l; simp [qA]
  | succ n ih =>
    intro acc l
    unfold qA
    cases h : f l with
    | none => rfl
    | some t =>
      simp only [Option.bind_some]
      rw [ih (acc ++ [t.1]), ih ([] ++ [t.1])]
      cases h2 : qA f n [] t.2 with
      | none => rfl
      | some u => simp
theorem pairA {α : Type} {P : α → Prop} {g : α → List Int} {f : List Int → Option (α × List Int)} (h : Pair P g f) (n : Nat) : Pair (fun xs : List α => xs.length = n ∧ ∀ x ∈ xs, P x) (fun xs => xs.flatMap g) (qA f n []) := by
  induction n with
  | zero =>
    refine ⟨fun xs r hx => ?_, fun l xs r hin hx => ?_⟩
    · obtain rfl := List.eq_nil_of_length_eq_zero hx.1
      rfl
    · unfold qA at hx
      injection hx with hx
      injection hx with h1 h2
      subst h1 h2
      exact ⟨rfl, rfl, fun _ h => by cases h⟩
  | succ n ih =>
    refine ⟨fun xs r hx => ?_, fun l xs r hin hx => ?_⟩
    · obtain ⟨x, ys, rfl⟩ : ∃ x ys, xs = x :: ys := by
        cases xs with
        | nil => simp at hx
        | cons x ys => exact ⟨x, ys, rfl⟩
      unfold qA
      rw [List.flatMap_cons, List.append_assoc, h.fwd x _ (hx.2 x (by simp)), Option.bind_some]
      show qA f n ([] ++ [x]) (ys.flatMap g ++ r) = _
      rw [qA_acc, ih.fwd ys r ⟨by have := hx.1; simp at this; omega, fun y hy => hx.2 y (List.mem_cons_of_mem _ hy)⟩]
      rfl
    · unfold qA at hx
      obtain ⟨⟨x, s⟩, h1, h2⟩ := Option.bind_eq_some_iff.1 hx
      have h2' : qA f n ([] ++ [x]) s = some (xs, r) := h2
      rw [qA_acc] at h2'
      obtain ⟨⟨ys, t⟩, h3, h4⟩ := Option.bind_eq_some_iff.1 h2'
      injection h4 with h4
      injection h4 with h5 h6
      have h6' : t = r := h6
      subst h6'
      obtain ⟨e1, p1⟩ := h.bwd l x s hin h1
      obtain ⟨e2, p2, p3⟩ := ih.bwd s ys t (InB.tail (a := g x) (by rw [← e1]; exact hin)) h3
      have h5' : x :: ys = xs := h5
      subst h5'
      refine ⟨by rw [e1, e2, List.flatMap_cons, List.append_assoc], by simp; exact p2, fun y hy => ?_⟩
      rcases List.mem_cons.1 hy with rfl | hy
      · exact p1
      · exact p3 y hy
theorem Pair.seq {α β : Type} {P : α → Prop} {Q : β → Prop} {g : α → List Int} {f : List Int → Option (α × List Int)} {g2 : β → List Int} {f2 : List Int → Option (β × List Int)} (h : Pair P g f) (h2 : Pair Q g2 f2) : Pair (fun x : α × β => P x.1 ∧ Q x.2) (fun x => g x.1 ++ g2 x.2) (fun l => (f l).bind fun t => (f2 t.2).bind fun u => some ((t.1, u.1), u.2)) where
  fwd x r hx := by
    show (f (g x.1 ++ g2 x.2 ++ r)).bind _ = _
    rw [List.append_assoc, h.fwd _ _ hx.1, Option.bind_some, h2.fwd _ _ hx.2, Option.bind_some]
  bwd l x r hin hx := by
    obtain ⟨⟨a, s⟩, h1, h3⟩ := Option.bind_eq_some_iff.1 hx
    obtain ⟨⟨b, t⟩, h4, h5⟩ := Option.bind_eq_some_iff.1 h3
    injection h5 with h5
    injection h5 with h6 h7
    have h6' : (a, b) = x := h6
    have h7' : t = r := h7
    subst h6' h7'
    obtain ⟨e1, p1⟩ := h.bwd l a s hin h1
    obtain ⟨e2, p2⟩ := h2.bwd s b t (InB.tail (a := g a) (by rw [← e1]; exact hin)) h4
    exact ⟨by rw [e1, e2, List.append_assoc], p1, p2⟩
theorem Pair.map {α β : Type} {P : α → Prop} {g : α → List Int} {f : List Int → Option (α × List Int)} (h : Pair P g f) {Q : β → Prop} {g2 : β → List Int} {f2 : List Int → Option (β × List Int)} (tw : α → β) (of : β → α) (ht : ∀ b, Q b → tw (of b) = b) (hQ : ∀ b, Q b → P (of b)) (hP : ∀ a, P a → Q (tw a)) (hg : ∀ b, Q b → g2 b = g (of b)) (hg2 : ∀ a, P a → g2 (tw a) = g a) (hf : ∀ l, f2 l = (f l).bind fun t => some (tw t.1, t.2)) : Pair Q g2 f2 where
  fwd x r hx := by
    rw [hf, hg x hx, h.fwd _ _ (hQ x hx), Option.bind_some]
    show some (tw (of x), r) = _
    rw [ht x hx]
  bwd l x r hin hx := by
    rw [hf] at hx
    obtain ⟨⟨a, s⟩, h1, h2⟩ := Option.bind_eq_some_iff.1 hx
    injection h2 with h2
    injection h2 with h3 h4
    have h3' : tw a = x := h3
    have h4' : s = r := h4
    subst h3' h4'
    obtain ⟨e, p⟩ := h.bwd l a s hin h1
    exact ⟨by rw [e, hg2 a p], hP a p⟩
def I64 (n : Int) : Prop := -9223372036854775808 ≤ n ∧ n ≤ 9223372036854775807
def U64 (n : Int) : Prop := 0 ≤ n ∧ n ≤ 18446744073709551615
def F4 (n : Int) : Prop := 0 ≤ n ∧ n ≤ 2147483647
theorem pairW : Pair (fun x : S51 => F4 x.f0 ∧ F4 x.f1 ∧ I64 x.f2 ∧ I64 x.f3) encW fW :=
  (pair4.seq (pair4.seq (pair8.seq pair8))).map (fun a => ⟨a.1, a.2.1, a.2.2.1, a.2.2.2⟩) (fun b => (b.f0, b.f1, b.f2, b.f3)) (fun _ _ => rfl) (fun b h => h) (fun a h => h)
    (fun b _ => by unfold encW be8s; simp) (fun a _ => by unfold encW be8s; simp) (fun l => by
      unfold fW
      simp only [Option.bind_assoc, Option.bind_some])
theorem pairC54 : Pair (fun x : S54 => U64 x.f0 ∧ U64 x.f1 ∧ U64 x.f2 ∧ U64 x.f3 ∧ U64 x.f4) encC fC :=
  (pair8.seq (pair8.seq (pair8.seq (pair8.seq pair8)))).map (fun a => ⟨IntKind.u64.wrap a.1, IntKind.u64.wrap a.2.1, IntKind.u64.wrap a.2.2.1, IntKind.u64.wrap a.2.2.2.1, IntKind.u64.wrap a.2.2.2.2⟩) (fun b => (wrap64 b.f0, wrap64 b.f1, wrap64 b.f2, wrap64 b.f3, wrap64 b.f4))
    (fun b h => by
      obtain ⟨⟨a0, a1⟩, ⟨b0, b1⟩, ⟨c0, c1⟩, ⟨d0, d1⟩, ⟨e0, e1⟩⟩ := h
      obtain ⟨f0, f1, f2, f3, f4⟩ := b
      simp only [IntKind.wrap_u64, S54.mk.injEq] at *
      unfold wrap64
      refine ⟨?_, ?_, ?_, ?_, ?_⟩ <;> omega)
    (fun b h => by unfold wrap64; refine ⟨?_, ?_, ?_, ?_, ?_⟩ <;> (simp only []; omega))
    (fun a h => by unfold U64; simp only [IntKind.wrap_u64]; refine ⟨?_, ?_, ?_, ?_, ?_⟩ <;> omega)
    (fun b _ => by unfold encC be8s; simp)
    (fun a h => by
      obtain ⟨⟨a0, a1⟩, ⟨b0, b1⟩, ⟨c0, c1⟩, ⟨d0, d1⟩, ⟨e0, e1⟩⟩ := h
      unfold encC be8s
      have w : ∀ n : Int, -9223372036854775808 ≤ n → n ≤ 9223372036854775807 → wrap64 (IntKind.u64.wrap n) = n := fun n h0 h1 => by rw [IntKind.wrap_u64]; unfold wrap64; omega
      simp only [w _ a0 a1, w _ b0 b1, w _ c0 c1, w _ d0 d1, w _ e0 e1]
      simp)
    (fun l => by
      unfold fC
      simp only [Option.bind_assoc, Option.bind_some])
theorem pairI : Pair (fun x : S45 => (0 ≤ x.f0 ∧ x.f0 ≤ 255) ∧ I64 x.f1) encI fI where
  fwd x r h := by
    unfold encI be8s fI
    have e : x.f0 % 256 = x.f0 := by omega
    rw [e]
    show (q8 (List.flatMap be8 [x.f1] ++ r)).bind _ = _
    have e2 : List.flatMap be8 [x.f1] = be8 x.f1 := by simp
    rw [e2, pair8.fwd x.f1 r h.2, Option.bind_some]
  bwd l x r hin h := by
    cases l with
    | nil => cases h
    | cons a t =>
      unfold fI at h
      obtain ⟨⟨b, s⟩, h1, h2⟩ := Option.bind_eq_some_iff.1 h
      injection h2 with h2
      injection h2 with h3 h4
      have h4' : s = r := h4
      subst h3 h4'
      obtain ⟨e, p⟩ := pair8.bwd t b s (fun x hx => hin x (List.mem_cons_of_mem _ hx)) h1
      have ha := hin a (by simp)
      refine ⟨?_, ha, p⟩
      unfold encI be8s
      have e1 : a % 256 = a := by omega
      rw [e1, e]
      simp
theorem pairN {α : Type} {P : α → Prop} {g : α → List Int} {f : List Int → Option (α × List Int)} (m : Nat) (hm : m ≤ 2147483647) (h : Pair P g f) : Pair (fun xs : List α => xs.length ≤ m ∧ ∀ x ∈ xs, P x) (fun xs => be4 xs.length ++ xs.flatMap g) (fun l => (qc m l).bind fun t => qA f t.1.toNat [] t.2) where
  fwd xs r hx := by
    show (qc m (be4 xs.length ++ xs.flatMap g ++ r)).bind _ = _
    rw [List.append_assoc, (pairC m (by omega)).fwd _ _ ⟨by omega, by have := hx.1; omega⟩, Option.bind_some]
    show qA f ((xs.length : Int).toNat) [] _ = _
    rw [Int.toNat_natCast]
    exact (pairA h xs.length).fwd xs r ⟨rfl, hx.2⟩
  bwd l xs r hin hx := by
    obtain ⟨⟨n, s⟩, h1, h2⟩ := Option.bind_eq_some_iff.1 hx
    obtain ⟨e1, p0, p1⟩ := (pairC m (by omega)).bwd l n s hin h1
    obtain ⟨e2, p2, p3⟩ := (pairA h n.toNat).bwd s xs r (InB.tail (a := be4 n) (by rw [← e1]; exact hin)) h2
    have en : (xs.length : Int) = n := by omega
    refine ⟨?_, by omega, p3⟩
    show l = be4 xs.length ++ xs.flatMap g ++ r
    rw [en, List.append_assoc, ← e2]
    exact e1
/-- What a program's parts are when it can be told. -/
def PgOk (p : Pg) : Prop := F4 p.a0 ∧ F4 p.a9 ∧ F4 p.a10 ∧ I64 p.a1 ∧ I64 p.a2 ∧ I64 p.a3 ∧ I64 p.a4 ∧ I64 p.a5 ∧ (p.l6.length ≤ 16384 ∧ ∀ x ∈ p.l6, I64 x) ∧ (p.l7.length ≤ 256 ∧ ∀ x ∈ p.l7, F4 x.f0 ∧ F4 x.f1 ∧ I64 x.f2 ∧ I64 x.f3) ∧ (p.l8.length ≤ 256 ∧ ∀ x ∈ p.l8, U64 x.f0 ∧ U64 x.f1 ∧ U64 x.f2 ∧ U64 x.f3 ∧ U64 x.f4) ∧ (p.l11.length ≤ 16384 ∧ ∀ x ∈ p.l11, (0 ≤ x.f0 ∧ x.f0 ≤ 255) ∧ I64 x.f1)
def encP (p : Pg) : List Int := encB p.a0 p.a1 p.a2 p.a3 p.a4 p.a5 p.l6 p.l7 p.l8 p.a9 p.a10 p.l11
def bodyP (p : Pg) : List Int := be4 p.a0 ++ (be4 p.a9 ++ (be4 p.a10 ++ (be8 p.a1 ++ (be8 p.a2 ++ (be8 p.a3 ++ (be8 p.a4 ++ (be8 p.a5 ++ ((be4 p.l6.length ++ p.l6.flatMap be8) ++ ((be4 p.l7.length ++ p.l7.flatMap encW) ++ ((be4 p.l8.length ++ p.l8.flatMap encC) ++ (be4 p.l11.length ++ p.l11.flatMap encI)))))))))))
theorem encP_is (p : Pg) : encP p = [99, 112, 115, 49] ++ bodyP p := by
  unfold encP encB bodyP be8s
  simp only [List.flatMap_cons, List.flatMap_nil, List.append_nil, List.append_assoc]
def fP (l : List Int) : Option (Pg × List Int) :=
  (q4 l).bind fun a => (q4 a.2).bind fun b => (q4 b.2).bind fun c => (q8 c.2).bind fun d => (q8 d.2).bind fun e => (q8 e.2).bind fun f => (q8 f.2).bind fun g => (q8 g.2).bind fun h =>
  (qc 16384 h.2).bind fun t => (qA q8 t.1.toNat [] t.2).bind fun u => (qc 256 u.2).bind fun t2 => (qA fW t2.1.toNat [] t2.2).bind fun u2 => (qc 256 u2.2).bind fun t3 => (qA fC t3.1.toNat [] t3.2).bind fun u3 => (qc 16384 u3.2).bind fun t4 => (qA fI t4.1.toNat [] t4.2).bind fun u4 =>
  some (⟨a.1, d.1, e.1, f.1, g.1, h.1, u.1, u2.1, u3.1, b.1, c.1, u4.1⟩, u4.2)
theorem pairP : Pair PgOk bodyP fP :=
  (pair4.seq (pair4.seq (pair4.seq (pair8.seq (pair8.seq (pair8.seq (pair8.seq (pair8.seq ((pairN 16384 (by decide) pair8).seq ((pairN 256 (by decide) pairW).seq ((pairN 256 (by decide) pairC54).seq (pairN 16384 (by decide) pairI)))))))))))).map
    (fun x => ⟨x.1, x.2.2.2.1, x.2.2.2.2.1, x.2.2.2.2.2.1, x.2.2.2.2.2.2.1, x.2.2.2.2.2.2.2.1, x.2.2.2.2.2.2.2.2.1, x.2.2.2.2.2.2.2.2.2.1, x.2.2.2.2.2.2.2.2.2.2.1, x.2.1, x.2.2.1, x.2.2.2.2.2.2.2.2.2.2.2⟩)
    (fun p => (p.a0, p.a9, p.a10, p.a1, p.a2, p.a3, p.a4, p.a5, p.l6, p.l7, p.l8, p.l11))
    (fun _ _ => rfl) (fun p h => h) (fun x h => h) (fun p _ => rfl) (fun x _ => rfl)
    (fun l => by
      unfold fP
      simp only [Option.bind_assoc, Option.bind_some]
      rfl)
theorem c0_is (l : List Int) : c0 l = (fP l).bind fun t => if t.2.length = 0 then some t.1 else none := by
  unfold c0 c1 c2 c3 c4 c5 fP
  simp only [Option.bind_assoc, Option.bind_some]
theorem u8_is (n : Int) (m : Nat) (h : 0 ≤ n ∧ n ≤ 255) (hm : m < 256) : UInt8.ofNat n.toNat = UInt8.ofNat m ↔ n = m := by
  constructor
  · intro e
    have e2 := congrArg UInt8.toNat e
    rw [UInt8.toNat_ofNat', UInt8.toNat_ofNat'] at e2
    omega
  · rintro rfl
    rw [Int.toNat_natCast]
theorem magic_is (l : List Int) (h : InB l) (hl : l.length = 4) : (strOfNums l).toList = ([99, 112, 115, 49] : List UInt8) ↔ l = [99, 112, 115, 49] := by
  obtain ⟨a, b, c, d, rfl⟩ : ∃ a b c d, l = [a, b, c, d] := by
    match l, hl with
    | [a, b, c, d], _ => exact ⟨a, b, c, d, rfl⟩
  rw [ByteArray.toList_eq, strOfNums_data]
  have e : ([99, 112, 115, 49] : List UInt8) = [UInt8.ofNat 99, UInt8.ofNat 112, UInt8.ofNat 115, UInt8.ofNat 49] := rfl
  rw [e]
  simp only [List.map_cons, List.map_nil, List.cons.injEq, and_true]
  rw [u8_is a 99 (h a (by simp)) (by decide), u8_is b 112 (h b (by simp)) (by decide), u8_is c 115 (h c (by simp)) (by decide), u8_is d 49 (h d (by simp)) (by decide)]
  rfl
theorem prog_enc (p : Pg) (h : PgOk p) : prog (encP p) = some p := by
  unfold prog
  rw [encP_is, if_neg (by simp), show List.take 4 ([99, 112, 115, 49] ++ bodyP p) = [99, 112, 115, 49] from rfl, if_pos ((magic_is _ (fun x hx => by simp at hx; rcases hx with rfl | rfl | rfl | rfl <;> omega) rfl).2 rfl)]
  show c0 (bodyP p) = some p
  have := pairP.fwd p [] h
  rw [List.append_nil] at this
  rw [c0_is, this]
  rfl
theorem prog_back (l : List Int) (hin : InB l) (p : Pg) (h : prog l = some p) : l = encP p ∧ PgOk p := by
  unfold prog at h
  split at h
  · cases h
  · next h4 =>
    split at h
    · next hm =>
      have h4' : 4 ≤ l.length := by omega
      have hm' := (magic_is (l.take 4) (fun x hx => hin x (List.mem_of_mem_take hx)) (by simp; omega)).1 hm
      rw [c0_is] at h
      obtain ⟨⟨q, r⟩, h1, h2⟩ := Option.bind_eq_some_iff.1 h
      have h2' : (if r.length = 0 then some q else none) = some p := h2
      split at h2'
      · next hr =>
        injection h2' with h3
        subst h3
        obtain rfl := List.eq_nil_of_length_eq_zero hr
        obtain ⟨e, ok⟩ := pairP.bwd _ q [] (fun x hx => hin x (List.mem_of_mem_drop hx)) h1
        refine ⟨?_, ok⟩
        rw [encP_is, ← List.take_append_drop 4 l, hm', e, List.append_nil]
      · cases h2'
    · cases h
end Go.Proofs.Ytkdboaaganmagaa.Tc
