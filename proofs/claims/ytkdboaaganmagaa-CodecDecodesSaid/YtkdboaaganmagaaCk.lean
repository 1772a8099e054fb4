/- The reference's Decode, in printed form: it reads what codec.Decode reads. -/
import Derived.Test.YtkdboaaganmagaaCj
namespace Go.Proofs.Ytkdboaaganmagaa.Ck
set_option linter.unusedVariables false
set_option linter.unusedSimpArgs false
open Go.RowKit Go.Proofs.YtkdboaaganmagaaW.PrintWords Go.Proofs.Ytkdboaaganmagaa.OP Go.Proofs.Ytkdboaaganmagaa.Ca Go.Proofs.Ytkdboaaganmagaa.Cd Go.Proofs.Ytkdboaaganmagaa.Ce Go.Proofs.Ytkdboaaganmagaa.Cf Go.Proofs.Ytkdboaaganmagaa.Cj
def RDec.f (k : Nat) (l : List Int) : Option DT := Dec.f k l
theorem RDec.mono (l : List Int) : ∀ k, LeO (RDec.f k l) (RDec.f (k + 1) l) := fun k => LeO.refl _
theorem RDec.calls (k : Nat) (A0 : Option Addr) (c0 : Nat) (l0 : List Int) (r1 r2 r3 r4 r5 r6 : Int) (r7 : List Int) (r8 : List S51) (r9 : List S54) (r10 r11 : Int) (r12 : List S45) (r13 : Int) (w : World) (hr0 : Kd.C (Kd.int .u8) w A0 l0.length l0) (hc0 : l0.length ≤ c0) (h : RDec.f k l0 = some (r1, r2, r3, r4, r5, r6, r7, r8, r9, r10, r11, r12, r13)) :
    Calls Try.prog 14 #[.slice A0 l0.length c0] w fun e w' => ∃ v6 v7 v8 v11 : Value, e = .returned (.tuple #[.agg #[.int .i64 r1, .int .i64 r2, .int .i64 r3, .int .i64 r4, .int .i64 r5, .int .i64 r6, v6, v7, v8, .int .i64 r10, .int .i64 r11, v11], .int .i64 r13]) ∧ Kd.R (Kd.int .i64) 2 w' w.heap.size (fun _ => True) v6 r7 ∧ Kd.R k51 51 w' w.heap.size (fun _ => True) v7 r8 ∧ Kd.R k54 54 w' w.heap.size (fun _ => True) v8 r9 ∧ Kd.R k45 45 w' w.heap.size (fun _ => True) v11 r12 ∧ Below w.heap.size w w' := by
  unfold RDec.f Dec.f at h
  obtain ⟨t, ht, h⟩ := Option.bind_eq_some_iff.1 h
  have key : Calls Try.prog 14 #[.slice A0 l0.length c0] w (DPost w t.1 t.2) := by
    unfold decF at ht
    split at ht
    · next h1 => injection ht with ht; subst ht; exact rdec_long A0 c0 l0 w h1
    · next h1 =>
      split at ht
      · next h2 =>
        have hin : InB l0 := fun x hx => by simpa using (List.all_eq_true.1 h2) x hx
        have hm := rdec_main A0 c0 l0 w hr0 hc0 h1 hin
        split at ht
        · next h3 => injection ht with ht; subst ht; rw [h3] at hm; exact hm
        · next p h3 => injection ht with ht; subst ht; rw [h3] at hm; exact hm
      · cases ht
  obtain ⟨p, err⟩ := t
  injection h with h
  simp only [ofPg, Prod.mk.injEq] at h
  obtain ⟨rfl, rfl, rfl, rfl, rfl, rfl, rfl, rfl, rfl, rfl, rfl, rfl, rfl⟩ := h
  refine key.mono ?_
  rintro e w' ⟨v6, v7, v8, v11, rfl, ⟨r1, r2, r3, r4⟩, hb⟩
  exact ⟨v6, v7, v8, v11, rfl, r1, r2, r3, r4, hb⟩
end Go.Proofs.Ytkdboaaganmagaa.Ck
