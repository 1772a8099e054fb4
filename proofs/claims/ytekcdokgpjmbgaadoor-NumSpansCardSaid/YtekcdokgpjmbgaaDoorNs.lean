/- num.ReadSpan. -/
import Derived.Test.YtekcdokgpjmbgaaDoorNr
namespace Go.Proofs.YtekcdokgpjmbgaaDoor.Ns
set_option linter.unusedVariables false
set_option linter.unusedSimpArgs false
open Go.RowKit Go.Proofs.YtekcdokgpjmbgaaDoorW.PrintWords Go.Proofs.YtekcdokgpjmbgaaDoor.OA Go.Proofs.YtekcdokgpjmbgaaDoor.Nd Go.Proofs.YtekcdokgpjmbgaaDoor.Ne Go.Proofs.YtekcdokgpjmbgaaDoor.Nr
set_option maxHeartbeats 8000000 in
set_option maxRecDepth 100000 in
theorem span_d (s : ByteArray) (w : World) (hs : s.size ≤ 4611686018427387904) (hne : ¬ s.toList = []) (T : ByteArray × Int) (h1 : 0 ≤ idx s 100) (hT : addF (addF (addF (addF (s, 0) 100 86400) 104 3600) 109 60) 115 1 = T) :
    Calls Tryd.prog 10 #[.string s] w (FinP w T) := by
  have HT0 := Lib.hid hT
  clear hT
  have HI := Lib.hid (fun (c : Int) (W : World) => Na.ib.calls s c (idx s c) W rfl)
  have hmf : ∀ (fn : Fn) (first cap : Array Value) (w : World), (Instr.makeFunc fn first cap).run Tryd.prog w = .ok (.func fn first cap) w := fun _ _ _ _ => rfl
  have e0 : s.toList.isEmpty = false := by cases h : s.toList with
    | nil => exact absurd h hne
    | cons _ _ => rfl
  clear hne
  have d1 : decide (0 ≤ idx s 100) = true := decide_eq_true h1
  have HS0 : Hid (St w s 0 ((w.alloc (.cells #[.string s] 9)).alloc (.cells #[.int .i64 0] 2))) := Lib.hid ⟨((Below.refl _ _).alloc (Nat.le_refl _) _).alloc (by simp) _, Blk.blk_alloc (Blk.blk_new _ _) _, Blk.blk_at _ _ _ (by simp)⟩
  go_enter Tryd.func10, Tryd.ntmps10
  go_wp2_with (go_at_call 20; refine (HI.out _ _).mono ?_; rintro e W1 ⟨rfl, nd, rfl⟩)
  refine (add_any w _ s 0 100 86400 hs (by first | exact HS0.out | exact HS0.out.drewN _)).mono ?_
  rintro e Wa1 ⟨rfl, hst⟩
  obtain ⟨⟨s1, n1⟩, ht1⟩ : ∃ t, addF (s, 0) 100 86400 = t := ⟨_, rfl⟩
  rw [ht1] at hst
  have hz1 := HT0.out
  rw [ht1] at hz1
  have HT1 := Lib.hid hz1
  clear hz1
  have hs1 : s1.size ≤ 4611686018427387904 := by
    have := add_size (s, 0) 100 86400
    rw [ht1] at this
    exact Nat.le_trans this hs
  have HS1 := Lib.hid hst
  clear hst ht1
  have a1 := Blk.blk_cell HS1.out.2.1 0
  have b1 := Blk.blk_cell HS1.out.2.2 0
  simp at a1 b1
  go_wp2_with fail
  refine (add_any w _ s1 n1 104 3600 hs1 HS1.out).mono ?_
  rintro e Wa2 ⟨rfl, hst⟩
  obtain ⟨⟨s2, n2⟩, ht2⟩ : ∃ t, addF (s1, n1) 104 3600 = t := ⟨_, rfl⟩
  rw [ht2] at hst
  have hz2 := HT1.out
  rw [ht2] at hz2
  have HT2 := Lib.hid hz2
  clear hz2
  have hs2 : s2.size ≤ 4611686018427387904 := by
    have := add_size (s1, n1) 104 3600
    rw [ht2] at this
    exact Nat.le_trans this hs1
  have HS2 := Lib.hid hst
  clear hst ht2
  have a2 := Blk.blk_cell HS2.out.2.1 0
  have b2 := Blk.blk_cell HS2.out.2.2 0
  simp at a2 b2
  go_wp2_with fail
  refine (add_any w _ s2 n2 109 60 hs2 HS2.out).mono ?_
  rintro e Wa3 ⟨rfl, hst⟩
  obtain ⟨⟨s3, n3⟩, ht3⟩ : ∃ t, addF (s2, n2) 109 60 = t := ⟨_, rfl⟩
  rw [ht3] at hst
  have hz3 := HT2.out
  rw [ht3] at hz3
  have HT3 := Lib.hid hz3
  clear hz3
  have hs3 : s3.size ≤ 4611686018427387904 := by
    have := add_size (s2, n2) 109 60
    rw [ht3] at this
    exact Nat.le_trans this hs2
  have HS3 := Lib.hid hst
  clear hst ht3
  have a3 := Blk.blk_cell HS3.out.2.1 0
  have b3 := Blk.blk_cell HS3.out.2.2 0
  simp at a3 b3
  go_wp2_with fail
  refine (add_any w _ s3 n3 115 1 hs3 HS3.out).mono ?_
  rintro e Wa4 ⟨rfl, hst⟩
  obtain ⟨⟨s4, n4⟩, ht4⟩ : ∃ t, addF (s3, n3) 115 1 = t := ⟨_, rfl⟩
  rw [ht4] at hst
  have hz4 := HT3.out
  rw [ht4] at hz4
  have HT4 := Lib.hid hz4
  clear hz4
  have hs4 : s4.size ≤ 4611686018427387904 := by
    have := add_size (s3, n3) 115 1
    rw [ht4] at this
    exact Nat.le_trans this hs3
  have HS4 := Lib.hid hst
  clear hst ht4
  have a4 := Blk.blk_cell HS4.out.2.1 0
  have b4 := Blk.blk_cell HS4.out.2.2 0
  simp at a4 b4
  obtain rfl := HT4.out
  by_cases z0 : s4.toList = []
  · have f0 : s4.toList.isEmpty = true := by rw [z0]; rfl
    by_cases z1 : n4 < 1
    · have f1 : decide (n4 < 1) = true := decide_eq_true z1
      go_wp2
      go_ret2
      exact FinP.bad (.inr (.inl z1)) rfl HS4.out.1
    · have f1 : decide (n4 < 1) = false := decide_eq_false z1
      by_cases z2 : 604800 < n4
      · have f2 : decide (604800 < n4) = true := decide_eq_true z2
        go_wp2
        go_ret2
        exact FinP.bad (.inr (.inr z2)) rfl HS4.out.1
      · have f2 : decide (604800 < n4) = false := decide_eq_false z2
        go_wp2
        go_ret2
        exact FinP.ok (by intro h; rcases h with h | h | h <;> first | exact h z0 | omega) rfl HS4.out.1
  · have f0 : s4.toList.isEmpty = false := by cases h : s4.toList with
      | nil => exact absurd h z0
      | cons _ _ => rfl
    go_wp2
    go_ret2
    exact FinP.bad (.inl z0) rfl HS4.out.1
set_option maxHeartbeats 8000000 in
set_option maxRecDepth 100000 in
theorem span_h (s : ByteArray) (w : World) (hs : s.size ≤ 4611686018427387904) (hne : ¬ s.toList = []) (T : ByteArray × Int) (h1 : ¬ 0 ≤ idx s 100) (h2 : 0 ≤ idx s 104) (hT : addF (addF (addF (s, 0) 104 3600) 109 60) 115 1 = T) :
    Calls Tryd.prog 10 #[.string s] w (FinP w T) := by
  have HT0 := Lib.hid hT
  clear hT
  have HI := Lib.hid (fun (c : Int) (W : World) => Na.ib.calls s c (idx s c) W rfl)
  have hmf : ∀ (fn : Fn) (first cap : Array Value) (w : World), (Instr.makeFunc fn first cap).run Tryd.prog w = .ok (.func fn first cap) w := fun _ _ _ _ => rfl
  have e0 : s.toList.isEmpty = false := by cases h : s.toList with
    | nil => exact absurd h hne
    | cons _ _ => rfl
  clear hne
  have d1 : decide (0 ≤ idx s 100) = false := decide_eq_false h1
  have d2 : decide (0 ≤ idx s 104) = true := decide_eq_true h2
  have HS0 : Hid (St w s 0 ((w.alloc (.cells #[.string s] 9)).alloc (.cells #[.int .i64 0] 2))) := Lib.hid ⟨((Below.refl _ _).alloc (Nat.le_refl _) _).alloc (by simp) _, Blk.blk_alloc (Blk.blk_new _ _) _, Blk.blk_at _ _ _ (by simp)⟩
  go_enter Tryd.func10, Tryd.ntmps10
  go_wp2_with (go_at_call 20; refine (HI.out _ _).mono ?_; rintro e W1 ⟨rfl, nd, rfl⟩)
  refine (add_any w _ s 0 104 3600 hs (by first | exact HS0.out | exact HS0.out.drewN _)).mono ?_
  rintro e Wa1 ⟨rfl, hst⟩
  obtain ⟨⟨s1, n1⟩, ht1⟩ : ∃ t, addF (s, 0) 104 3600 = t := ⟨_, rfl⟩
  rw [ht1] at hst
  have hz1 := HT0.out
  rw [ht1] at hz1
  have HT1 := Lib.hid hz1
  clear hz1
  have hs1 : s1.size ≤ 4611686018427387904 := by
    have := add_size (s, 0) 104 3600
    rw [ht1] at this
    exact Nat.le_trans this hs
  have HS1 := Lib.hid hst
  clear hst ht1
  have a1 := Blk.blk_cell HS1.out.2.1 0
  have b1 := Blk.blk_cell HS1.out.2.2 0
  simp at a1 b1
  go_wp2_with fail
  refine (add_any w _ s1 n1 109 60 hs1 HS1.out).mono ?_
  rintro e Wa2 ⟨rfl, hst⟩
  obtain ⟨⟨s2, n2⟩, ht2⟩ : ∃ t, addF (s1, n1) 109 60 = t := ⟨_, rfl⟩
  rw [ht2] at hst
  have hz2 := HT1.out
  rw [ht2] at hz2
  have HT2 := Lib.hid hz2
  clear hz2
  have hs2 : s2.size ≤ 4611686018427387904 := by
    have := add_size (s1, n1) 109 60
    rw [ht2] at this
    exact Nat.le_trans this hs1
  have HS2 := Lib.hid hst
  clear hst ht2
  have a2 := Blk.blk_cell HS2.out.2.1 0
  have b2 := Blk.blk_cell HS2.out.2.2 0
  simp at a2 b2
  go_wp2_with fail
  refine (add_any w _ s2 n2 115 1 hs2 HS2.out).mono ?_
  rintro e Wa3 ⟨rfl, hst⟩
  obtain ⟨⟨s3, n3⟩, ht3⟩ : ∃ t, addF (s2, n2) 115 1 = t := ⟨_, rfl⟩
  rw [ht3] at hst
  have hz3 := HT2.out
  rw [ht3] at hz3
  have HT3 := Lib.hid hz3
  clear hz3
  have hs3 : s3.size ≤ 4611686018427387904 := by
    have := add_size (s2, n2) 115 1
    rw [ht3] at this
    exact Nat.le_trans this hs2
  have HS3 := Lib.hid hst
  clear hst ht3
  have a3 := Blk.blk_cell HS3.out.2.1 0
  have b3 := Blk.blk_cell HS3.out.2.2 0
  simp at a3 b3
  obtain rfl := HT3.out
  by_cases z0 : s3.toList = []
  · have f0 : s3.toList.isEmpty = true := by rw [z0]; rfl
    by_cases z1 : n3 < 1
    · have f1 : decide (n3 < 1) = true := decide_eq_true z1
      go_wp2
      go_ret2
      exact FinP.bad (.inr (.inl z1)) rfl HS3.out.1
    · have f1 : decide (n3 < 1) = false := decide_eq_false z1
      by_cases z2 : 604800 < n3
      · have f2 : decide (604800 < n3) = true := decide_eq_true z2
        go_wp2
        go_ret2
        exact FinP.bad (.inr (.inr z2)) rfl HS3.out.1
      · have f2 : decide (604800 < n3) = false := decide_eq_false z2
        go_wp2
        go_ret2
        exact FinP.ok (by intro h; rcases h with h | h | h <;> first | exact h z0 | omega) rfl HS3.out.1
  · have f0 : s3.toList.isEmpty = false := by cases h : s3.toList with
      | nil => exact absurd h z0
      | cons _ _ => rfl
    go_wp2
    go_ret2
    exact FinP.bad (.inl z0) rfl HS3.out.1
set_option maxHeartbeats 8000000 in
set_option maxRecDepth 100000 in
theorem span_m (s : ByteArray) (w : World) (hs : s.size ≤ 4611686018427387904) (hne : ¬ s.toList = []) (T : ByteArray × Int) (h1 : ¬ 0 ≤ idx s 100) (h2 : ¬ 0 ≤ idx s 104) (h3 : 0 ≤ idx s 109) (hT : addF (addF (s, 0) 109 60) 115 1 = T) :
    Calls Tryd.prog 10 #[.string s] w (FinP w T) := by
  have HT0 := Lib.hid hT
  clear hT
  have HI := Lib.hid (fun (c : Int) (W : World) => Na.ib.calls s c (idx s c) W rfl)
  have hmf : ∀ (fn : Fn) (first cap : Array Value) (w : World), (Instr.makeFunc fn first cap).run Tryd.prog w = .ok (.func fn first cap) w := fun _ _ _ _ => rfl
  have e0 : s.toList.isEmpty = false := by cases h : s.toList with
    | nil => exact absurd h hne
    | cons _ _ => rfl
  clear hne
  have d1 : decide (0 ≤ idx s 100) = false := decide_eq_false h1
  have d2 : decide (0 ≤ idx s 104) = false := decide_eq_false h2
  have d3 : decide (0 ≤ idx s 109) = true := decide_eq_true h3
  have HS0 : Hid (St w s 0 ((w.alloc (.cells #[.string s] 9)).alloc (.cells #[.int .i64 0] 2))) := Lib.hid ⟨((Below.refl _ _).alloc (Nat.le_refl _) _).alloc (by simp) _, Blk.blk_alloc (Blk.blk_new _ _) _, Blk.blk_at _ _ _ (by simp)⟩
  go_enter Tryd.func10, Tryd.ntmps10
  go_wp2_with (go_at_call 20; refine (HI.out _ _).mono ?_; rintro e W1 ⟨rfl, nd, rfl⟩)
  refine (add_any w _ s 0 109 60 hs (by first | exact HS0.out | exact HS0.out.drewN _)).mono ?_
  rintro e Wa1 ⟨rfl, hst⟩
  obtain ⟨⟨s1, n1⟩, ht1⟩ : ∃ t, addF (s, 0) 109 60 = t := ⟨_, rfl⟩
  rw [ht1] at hst
  have hz1 := HT0.out
  rw [ht1] at hz1
  have HT1 := Lib.hid hz1
  clear hz1
  have hs1 : s1.size ≤ 4611686018427387904 := by
    have := add_size (s, 0) 109 60
    rw [ht1] at this
    exact Nat.le_trans this hs
  have HS1 := Lib.hid hst
  clear hst ht1
  have a1 := Blk.blk_cell HS1.out.2.1 0
  have b1 := Blk.blk_cell HS1.out.2.2 0
  simp at a1 b1
  go_wp2_with fail
  refine (add_any w _ s1 n1 115 1 hs1 HS1.out).mono ?_
  rintro e Wa2 ⟨rfl, hst⟩
  obtain ⟨⟨s2, n2⟩, ht2⟩ : ∃ t, addF (s1, n1) 115 1 = t := ⟨_, rfl⟩
  rw [ht2] at hst
  have hz2 := HT1.out
  rw [ht2] at hz2
  have HT2 := Lib.hid hz2
  clear hz2
  have hs2 : s2.size ≤ 4611686018427387904 := by
    have := add_size (s1, n1) 115 1
    rw [ht2] at this
    exact Nat.le_trans this hs1
  have HS2 := Lib.hid hst
  clear hst ht2
  have a2 := Blk.blk_cell HS2.out.2.1 0
  have b2 := Blk.blk_cell HS2.out.2.2 0
  simp at a2 b2
  obtain rfl := HT2.out
  by_cases z0 : s2.toList = []
  · have f0 : s2.toList.isEmpty = true := by rw [z0]; rfl
    by_cases z1 : n2 < 1
    · have f1 : decide (n2 < 1) = true := decide_eq_true z1
      go_wp2
      go_ret2
      exact FinP.bad (.inr (.inl z1)) rfl HS2.out.1
    · have f1 : decide (n2 < 1) = false := decide_eq_false z1
      by_cases z2 : 604800 < n2
      · have f2 : decide (604800 < n2) = true := decide_eq_true z2
        go_wp2
        go_ret2
        exact FinP.bad (.inr (.inr z2)) rfl HS2.out.1
      · have f2 : decide (604800 < n2) = false := decide_eq_false z2
        go_wp2
        go_ret2
        exact FinP.ok (by intro h; rcases h with h | h | h <;> first | exact h z0 | omega) rfl HS2.out.1
  · have f0 : s2.toList.isEmpty = false := by cases h : s2.toList with
      | nil => exact absurd h z0
      | cons _ _ => rfl
    go_wp2
    go_ret2
    exact FinP.bad (.inl z0) rfl HS2.out.1
set_option maxHeartbeats 8000000 in
set_option maxRecDepth 100000 in
theorem span_s (s : ByteArray) (w : World) (hs : s.size ≤ 4611686018427387904) (hne : ¬ s.toList = []) (T : ByteArray × Int) (h1 : ¬ 0 ≤ idx s 100) (h2 : ¬ 0 ≤ idx s 104) (h3 : ¬ 0 ≤ idx s 109) (hT : addF (s, 0) 115 1 = T) :
    Calls Tryd.prog 10 #[.string s] w (FinP w T) := by
  have HT0 := Lib.hid hT
  clear hT
  have HI := Lib.hid (fun (c : Int) (W : World) => Na.ib.calls s c (idx s c) W rfl)
  have hmf : ∀ (fn : Fn) (first cap : Array Value) (w : World), (Instr.makeFunc fn first cap).run Tryd.prog w = .ok (.func fn first cap) w := fun _ _ _ _ => rfl
  have e0 : s.toList.isEmpty = false := by cases h : s.toList with
    | nil => exact absurd h hne
    | cons _ _ => rfl
  clear hne
  have d1 : decide (0 ≤ idx s 100) = false := decide_eq_false h1
  have d2 : decide (0 ≤ idx s 104) = false := decide_eq_false h2
  have d3 : decide (0 ≤ idx s 109) = false := decide_eq_false h3
  have HS0 : Hid (St w s 0 ((w.alloc (.cells #[.string s] 9)).alloc (.cells #[.int .i64 0] 2))) := Lib.hid ⟨((Below.refl _ _).alloc (Nat.le_refl _) _).alloc (by simp) _, Blk.blk_alloc (Blk.blk_new _ _) _, Blk.blk_at _ _ _ (by simp)⟩
  go_enter Tryd.func10, Tryd.ntmps10
  go_wp2_with (go_at_call 20; refine (HI.out _ _).mono ?_; rintro e W1 ⟨rfl, nd, rfl⟩)
  refine (add_any w _ s 0 115 1 hs (by first | exact HS0.out | exact HS0.out.drewN _)).mono ?_
  rintro e Wa1 ⟨rfl, hst⟩
  obtain ⟨⟨s1, n1⟩, ht1⟩ : ∃ t, addF (s, 0) 115 1 = t := ⟨_, rfl⟩
  rw [ht1] at hst
  have hz1 := HT0.out
  rw [ht1] at hz1
  have HT1 := Lib.hid hz1
  clear hz1
  have hs1 : s1.size ≤ 4611686018427387904 := by
    have := add_size (s, 0) 115 1
    rw [ht1] at this
    exact Nat.le_trans this hs
  have HS1 := Lib.hid hst
  clear hst ht1
  have a1 := Blk.blk_cell HS1.out.2.1 0
  have b1 := Blk.blk_cell HS1.out.2.2 0
  simp at a1 b1
  obtain rfl := HT1.out
  by_cases z0 : s1.toList = []
  · have f0 : s1.toList.isEmpty = true := by rw [z0]; rfl
    by_cases z1 : n1 < 1
    · have f1 : decide (n1 < 1) = true := decide_eq_true z1
      go_wp2
      go_ret2
      exact FinP.bad (.inr (.inl z1)) rfl HS1.out.1
    · have f1 : decide (n1 < 1) = false := decide_eq_false z1
      by_cases z2 : 604800 < n1
      · have f2 : decide (604800 < n1) = true := decide_eq_true z2
        go_wp2
        go_ret2
        exact FinP.bad (.inr (.inr z2)) rfl HS1.out.1
      · have f2 : decide (604800 < n1) = false := decide_eq_false z2
        go_wp2
        go_ret2
        exact FinP.ok (by intro h; rcases h with h | h | h <;> first | exact h z0 | omega) rfl HS1.out.1
  · have f0 : s1.toList.isEmpty = false := by cases h : s1.toList with
      | nil => exact absurd h z0
      | cons _ _ => rfl
    go_wp2
    go_ret2
    exact FinP.bad (.inl z0) rfl HS1.out.1
def ReadSpan.f (s : ByteArray) : Option (Int × Int) := if s.size ≤ 4611686018427387904 then some (spanF s) else none
theorem ReadSpan.calls (s : ByteArray) (r1 r2 : Int) (w : World) (h : ReadSpan.f s = some (r1, r2)) :
    Calls Tryd.prog 10 #[.string s] w fun e w' => e = .returned (.tuple #[.int .i64 r1, .int .i64 r2]) ∧ Below w.heap.size w w' := by
  unfold ReadSpan.f at h
  split at h
  · rename_i hs
    injection h with h
    unfold spanF at h
    by_cases hne : s.toList = []
    · rw [if_pos hne] at h
      injection h with h1 h2
      subst h1 h2
      have e0 : s.toList.isEmpty = true := by rw [hne]; rfl
      clear hne
      go_enter Tryd.func10, Tryd.ntmps10
      go_wp2
      go_ret2
      exact ⟨rfl, (Below.refl _ _).alloc (Nat.le_refl _) _⟩
    · rw [if_neg hne] at h
      have key : Calls Tryd.prog 10 #[.string s] w (FinP w (spanA s)) := by
        unfold spanA
        by_cases h1 : 0 ≤ idx s 100
        · rw [if_pos h1]; exact span_d s w hs hne _ h1 rfl
        · rw [if_neg h1]
          by_cases h2 : 0 ≤ idx s 104
          · rw [if_pos h2]; exact span_h s w hs hne _ h1 h2 rfl
          · rw [if_neg h2]
            by_cases h3 : 0 ≤ idx s 109
            · rw [if_pos h3]; exact span_m s w hs hne _ h1 h2 h3 rfl
            · rw [if_neg h3]; exact span_s s w hs hne _ h1 h2 h3 rfl
      refine key.mono ?_
      rintro e w' ⟨he, hb⟩
      split at he
      · rename_i hz
        rw [if_pos hz] at h
        injection h with h1 h2
        subst h1 h2
        exact ⟨he, hb⟩
      · rename_i hz
        rw [if_neg hz] at h
        injection h with h1 h2
        subst h1 h2
        exact ⟨he, hb⟩
  · cases h
end Go.Proofs.YtekcdokgpjmbgaaDoor.Ns
