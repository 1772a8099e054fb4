/- Reading a unit ends, in every text; DimReads in plain Lean. Conditions: as each theorem states. -/
import Derived.Test.YtdplfphgomckfaaDoorDe
namespace Go.Proofs.YtdplfphgomckfaaDoor.Ra
set_option linter.unusedVariables false
open Go.RowKit Go.Proofs.YtdplfphgomckfaaDoorW.PrintWords Go.Proofs.YtdplfphgomckfaaDoor.Laid Go.Proofs.YtdplfphgomckfaaDoor.Da Go.Proofs.YtdplfphgomckfaaDoor.Db Go.Proofs.YtdplfphgomckfaaDoor.Dd Go.Proofs.YtdplfphgomckfaaDoor.De
theorem ev_mono {α : Type} {f : Nat → Option α} {r : α} (K : Nat) (h : f K = some r) (m : ∀ k, LeO (f k) (f (k + 1))) : Ev f r := by
  refine ⟨K, fun k hk => ?_⟩
  obtain ⟨d, rfl⟩ : ∃ d, k = K + d := ⟨k - K, by omega⟩
  clear hk
  induction d with
  | zero => exact h
  | succ d ih => exact m (K + d) r ih
theorem rd_tot (s : ByteArray) : ∀ (k a : Nat) (d : Bool) (u : Un), a ≤ s.size → s.size - a < k → ∃ t, rdL s k a d u = some t ∧ t.2.1 ≤ s.size ∧ (t.2.2 = 0 ∨ t.2.2 = 20 ∨ t.2.2 = 21)
  | 0, _, _, _, _, h => by omega
  | k + 1, a, d, u, ha, hk => by
    obtain ⟨⟨r, tm, en, ok⟩, hf⟩ : ∃ f, facF s a = f := ⟨_, rfl⟩
    obtain ⟨hen, hok, _⟩ := fac_ok s a ha r tm en ok hf
    rw [rdL, hf]
    unfold rdF
    dsimp only
    split
    · next hk' =>
      have hae := (hok hk').2
      cases takes r d tm u with
      | none => exact ⟨_, rfl, ha, .inr (.inr rfl)⟩
      | some u' =>
        unfold rdE
        dsimp only
        split
        · exact ⟨_, rfl, Nat.zero_le _, .inl rfl⟩
        · split
          · exact ⟨_, rfl, hen, .inr (.inl rfl)⟩
          · exact rd_tot s k (en + 1) _ u' (by omega) (by omega)
    · exact ⟨_, rfl, hen, .inr (.inl rfl)⟩
theorem read_tot (s : ByteArray) : ∃ t, Ev (fun k => Read.f k s) (flat t) := by
  by_cases h : s.size > 64
  · refine ⟨(Zu, 0, 2), 0, fun k _ => ?_⟩
    show (readF k s).map flat = _
    unfold readF
    rw [if_pos h]; rfl
  · obtain ⟨t, ht, _⟩ := rd_tot s (s.size + 1) 0 false U1 (by omega) (by omega)
    refine ⟨t, ev_mono (s.size + 1) ?_ (Read.mono s)⟩
    unfold Read.f readF
    rw [if_neg h, ht]; rfl
theorem read_awake : De.Read.f 8 (⟨#[107, 114, 101, 113, 47, 109, 105, 110]⟩ : ByteArray) = some (50, 3, -1, 1, 0, 0, 0, 0, 0) := by kernel_rfl
end Go.Proofs.YtdplfphgomckfaaDoor.Ra
