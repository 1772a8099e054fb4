/- CronReads: what is to be shown of the call. -/
import Derived.Test.YtkmcmgfmahildaaDoorPw
import Derived.Test.YtkmcmgfmahildaaDoorPk
import Derived.Test.YtkmcmgfmahildaaDoorCz
import Derived.Test.YtkmcmgfmahildaaDoorORx1
import Derived.Test.YtkmcmgfmahildaaDoorArgCronReads
import Derived.OpenShut
namespace Go.Proofs.YtkmcmgfmahildaaDoor.Pz
set_option linter.unusedVariables false
open Go.RowKit Go.Proofs.YtkmcmgfmahildaaDoorW.PrintWords Go.Proofs.YtkmcmgfmahildaaDoor.OA Go.Proofs.YtkmcmgfmahildaaDoor.Bt Go.Proofs.YtkmcmgfmahildaaDoor.Laid Go.Proofs.YtkmcmgfmahildaaDoor.Pw

theorem setP_more (s : ByteArray) (lo hi : Nat) (r : Bool × Nat × Nat) (d : Nat) : ∀ (g p acc : Nat), setP s lo hi g p acc = some r → setP s lo hi (g + d) p acc = some r := by
  intro g
  induction g with
  | zero => intro p acc h; simp [setP] at h
  | succ g ih =>
    intro p acc h
    rw [show g + 1 + d = (g + d) + 1 from by omega]
    unfold setP at h ⊢
    split
    · rename_i h1
      rw [if_pos h1] at h
      split
      · rename_i h2
        rw [if_pos h2] at h
        exact ih _ _ h
      · rename_i h2
        rw [if_neg h2] at h
        exact h
    · rename_i h1
      rw [if_neg h1] at h
      exact h
theorem ref_set (s : ByteArray) (hs : s.size ≤ 256) (f lo hi : Nat) (hlo : Ca.low.f f = some (lo : Int)) (hhi : Ca.high.f f = some (hi : Int)) (hh : hi < 64) (hl : lo ≤ hi) (K : Nat) (hK : 800 ≤ K) (r : Bool × Nat × Nat) : ∀ (g p acc : Nat), p ≤ s.size → acc < 18446744073709551616 → setP s lo hi g p acc = some r →
    ∃ l, Cz.rItems K g (ofB acc) s p f = some (l, (r.2.2 : Int), r.1) ∧ (r.1 = true → l = ofB r.2.1 ∧ r.2.1 < 18446744073709551616) := by
  intro g
  induction g with
  | zero => intro p acc _ _ h; simp [setP] at h
  | succ g ih =>
    intro p acc h1 h2 h3
    obtain ⟨e1, e2, e3⟩ := itemP_pos s p lo hi h1 hh
    unfold Cz.rItems
    rw [ref_item s hs p f lo hi acc h1 hlo hhi hh hl K hK]
    unfold setP at h3
    obtain ⟨⟨ok, v, q⟩, hi_⟩ : ∃ x, itemP s p lo hi = x := ⟨_, rfl⟩
    rw [hi_] at h3 e1 e2 e3 ⊢
    simp only [RF, Option.bind_some] at h3 e1 e2 e3 ⊢
    cases ok
    · simp only [Bool.false_eq_true, if_false] at h3 ⊢
      injection h3 with h3
      subst h3
      exact ⟨_, rfl, fun h => by cases h⟩
    · simp only [if_true] at h3 ⊢
      have h64 : acc ||| v < 18446744073709551616 := Nat.or_lt_two_pow (n := 64) h2 e3
      rw [if_pos (by omega)]
      by_cases h4 : atB s q 44 = true
      · rw [if_pos h4] at h3
        have hq := atB_lt h4
        rw [if_pos (by omega), if_pos (by rw [← bt_at s q 44 hq] at h4; simpa using h4)]
        exact ih (q + 1) (acc ||| v) (atB_lt h4) h64 h3
      · rw [if_neg h4] at h3
        injection h3 with h3
        subst h3
        by_cases hq : q < s.size
        · rw [if_pos (by omega), if_neg (fun h => h4 (by rw [← bt_at s q 44 hq, h]; rfl))]
          exact ⟨_, rfl, fun _ => ⟨rfl, h64⟩⟩
        · rw [if_neg (by omega)]
          exact ⟨_, rfl, fun _ => ⟨rfl, h64⟩⟩
theorem lohi (i : Nat) (hi : i < 5) : ∃ lo h : Nat, low i = (lo : Int) ∧ high i = (h : Int) ∧ lo ≤ h ∧ h < 64 ∧ Ca.low.f i = some (lo : Int) ∧ Ca.high.f i = some (h : Int) := by
  have : i = 0 ∨ i = 1 ∨ i = 2 ∨ i = 3 ∨ i = 4 := by omega
  rcases this with rfl | rfl | rfl | rfl | rfl
  · exact ⟨0, 59, rfl, rfl, by omega, by omega, rfl, rfl⟩
  · exact ⟨0, 23, rfl, rfl, by omega, by omega, rfl, rfl⟩
  · exact ⟨1, 31, rfl, rfl, by omega, by omega, rfl, rfl⟩
  · exact ⟨1, 12, rfl, rfl, by omega, by omega, rfl, rfl⟩
  · exact ⟨0, 6, rfl, rfl, by omega, by omega, rfl, rfl⟩
/-- A field, as both read it. -/
theorem fields (s : ByteArray) (hs : s.size ≤ 256) (f : Nat) (hf : f < 5) (p : Nat) (hp : p ≤ s.size) (K : Nat) (hK : 1000 ≤ K) :
    ∃ (ok : Bool) (v q : Nat), q ≤ s.size ∧ cron_reader_set.f K s p (low f) (high f) = some ((v : Int), ok, s, (q : Int)) ∧ ∃ v' : Int, Cz.rField K s p f = some (v', (q : Int), ok) ∧ (ok = true → v' = (v : Int)) := by
  obtain ⟨lo, hi, e1, e2, hl, hh, e3, e4⟩ := lohi f hf
  obtain ⟨⟨ok, v, q⟩, hr, r1, r2⟩ := setP_some s lo hi hh 300 p 0 hp (by omega)
  have hg := go_set s hs lo hi hh hl _ 300 p 0 K hp (by omega) hr (by omega)
  refine ⟨ok, v, q, r2, ?_, ?_⟩
  · unfold cron_reader_set.f
    rw [e1, e2]
    exact hg
  · obtain ⟨l, h1, h2⟩ := ref_set s hs f lo hi e3 e4 hh hl K (by omega) _ K p 0 hp (by omega) (by
      have := setP_more s lo hi _ (K - 300) 300 p 0 hr
      rw [show 300 + (K - 300) = K from by omega] at this
      exact this)
    unfold Cz.rField
    rw [← ofB_zero, h1]
    simp only [Option.bind_some]
    cases ok
    · simp
    · obtain ⟨h3, h4⟩ := h2 rfl
      rw [if_pos rfl, h3, ref_bitsOf _ h4 K (by omega)]
      simp
theorem upds : Ce.upd = Cz.upd := rfl
theorem readF_eq (s : ByteArray) (hs : s.size ≤ 256) (K : Nat) (hK : 1000 ≤ K) : ∀ (g : Nat) (V : Nat → Int) (p : Nat), g ≤ 5 → p ≤ s.size → ∃ r, Ce.readF K g V s p = some r ∧ Cz.rF K g V s p = some r := by
  intro g
  induction g with
  | zero => intro V p _ _; exact ⟨_, rfl, rfl⟩
  | succ g ih =>
    intro V p hg hp
    unfold Ce.readF Cz.rF
    have key : ∃ (p' : Nat) (b : Bool), p' ≤ s.size ∧ (if 0 < 4 - g then cron_reader_is.f s p 32 else some (true, s, (p : Int))) = some (b, s, (p' : Int)) ∧ (if 0 < 4 - g then (if 0 ≤ (p : Int) then (if (p : Int) < (s.size : Int) then (if bt s p = 32 then some ((p : Int) + 1, true) else some ((p : Int), false)) else some ((p : Int), false)) else none) else some ((p : Int), true)) = some ((p' : Int), b) := by
      by_cases h0 : 0 < 4 - g
      · rw [if_pos h0, if_pos h0, is_f s hs p 32, if_pos (show 0 ≤ (p : Int) from by omega)]
        by_cases h1 : p < s.size
        · rw [if_pos (show (p : Int) < (s.size : Int) from by omega)]
          by_cases h2 : bt s p = 32
          · have : atB s p 32 = true := by rw [← bt_at s p 32 h1, h2]; rfl
            rw [if_pos h2, if_pos this]
            exact ⟨p + 1, true, h1, rfl, by rw [show (p : Int) + 1 = ((p + 1 : Nat) : Int) from by omega]⟩
          · have : ¬ atB s p 32 = true := by rw [← bt_at s p 32 h1]; simpa using h2
            rw [if_neg h2, if_neg this]
            exact ⟨p, false, hp, rfl, rfl⟩
        · rw [if_neg (show ¬ (p : Int) < (s.size : Int) from by omega), atB_no h1]
          exact ⟨p, false, hp, by simp, rfl⟩
      · rw [if_neg h0, if_neg h0]
        exact ⟨p, true, hp, rfl, rfl⟩
    obtain ⟨p', b, hp', k1, k2⟩ := key
    rw [k1, k2]
    simp only [Option.bind_some]
    cases b
    · simp
    · simp only [if_true]
      obtain ⟨ok, v, q, hq, g1, v', g2, g3⟩ := fields s hs (4 - g) (by omega) p' hp' K hK
      rw [g1, g2]
      simp only [Option.bind_some]
      cases ok
      · simp
      · rw [g3 rfl]
        simp only [if_true]
        exact ih _ q (by omega) hq
theorem read_eq (s : ByteArray) (K : Nat) (hK : 1000 ≤ K) : ∃ r, Ce.Read.f K s = some r ∧ Cz.RRead.f K s = some r := by
  unfold Ce.Read.f Cz.RRead.f
  by_cases h : 256 < s.size
  · rw [if_pos h, if_pos h]
    exact ⟨_, rfl, rfl⟩
  · rw [if_neg h, if_neg h]
    obtain ⟨r, h1, h2⟩ := readF_eq s (by omega) K hK 5 (fun _ => 0) 0 (by omega) (by omega)
    rw [show Ce.readF K 5 (fun _ => 0) s 0 = some r from h1, show Cz.rF K 5 (fun _ => 0) s 0 = some r from h2]
    simp only [Option.bind_some]
    split
    · split
      · exact ⟨_, rfl, rfl⟩
      · exact ⟨_, rfl, rfl⟩
    · exact ⟨_, rfl, rfl⟩
theorem awake_K : OB.capstanlaw04_awake.f 1000 = some true := at_rounds (g := fun k => OB.capstanlaw04_awake.f k) (fun k => OB.capstanlaw04_awake.mono k) (by omega : 100 ≤ 1000) Pk.awake_is
theorem reads_f (s : ByteArray) : OR.capstanlaw04_CronReads.f 1000 s = some true := by
  unfold OR.capstanlaw04_CronReads.f
  obtain ⟨r, h1, h2⟩ := read_eq s 1000 (by omega)
  rw [awake_K, h1, h2]
  simp
theorem walk : ArgCronReads.Walk := fun s w hL hs => OR.capstanlaw04_CronReads.calls 1000 s true w (reads_f s) hL
end Go.Proofs.YtkmcmgfmahildaaDoor.Pz
