/- ScanJoins. -/
import Derived.Test.YtmgjmjoclglidaaDoorSj
import Derived.Test.YtmgjmjoclglidaaDoorArgScanJoins
namespace Go.Proofs.YtmgjmjoclglidaaDoor.Sj2
set_option linter.unusedVariables false
open Go.RowKit Go.Proofs.YtmgjmjoclglidaaDoor.Blk Go.Proofs.YtmgjmjoclglidaaDoor.Blk2 Go.Proofs.YtmgjmjoclglidaaDoor.Laid Go.Proofs.YtmgjmjoclglidaaDoor.Sa Go.Proofs.YtmgjmjoclglidaaDoor.Sb Go.Proofs.YtmgjmjoclglidaaDoor.Sw Go.Proofs.YtmgjmjoclglidaaDoor.Sl Go.Proofs.YtmgjmjoclglidaaDoor.Sj

theorem chk_in (s : ByteArray) : 0 ≤ (chk 0 (pcs s s.size 0)).2.1 ∧ (chk 0 (pcs s s.size 0)).2.1 ≤ s.size := by
  have h := (pcs_in s s.size 0).2
  obtain ⟨l, o, hlo⟩ : ∃ l o, pcs s s.size 0 = (l, o) := ⟨_, _, rfl⟩
  rw [hlo] at h ⊢
  cases o with
  | none => simp [chk]
  | some q => have := h q rfl; simp [chk]; omega
set_option maxHeartbeats 4000000 in
set_option maxRecDepth 100000 in
theorem walk (a b : ByteArray) (w : World) (ha : a.size ≤ 140737488351232) (hb : b.size ≤ 140737488351232) (hL : Laid w) : Calls Tryd.prog 4 #[.string a, .string b] w fun e w' => e = .returned (.bool true) ∧ Below w.heap.size w w' := by
  have HL := Lib.hid hL
  clear hL
  have hsz : (a ++ b).size = a.size + b.size := ByteArray.size_append
  have HA := Lib.hid (fun W (hW : Laid W) => check_any a W (by omega) hW)
  have HBB := Lib.hid (fun W (hW : Laid W) => check_any b W (by omega) hW)
  have HAB := Lib.hid (fun W (hW : Laid W) => check_any (a ++ b) W (by omega) hW)
  have hin := chk_in (a ++ b)
  have HSZ := Lib.hid hsz
  go_enter Tryd.func4, Tryd.ntmps4
  go_wp2_with fail
  refine (awake_any _ HL.out).mono ?_
  rintro e w1 ⟨rfl, hbb⟩
  have H1 := Lib.hid hbb; clear hbb
  go_wp2_with fail
  refine (HA.out _ (HL.out.below H1.out)).mono ?_
  rintro e w2 ⟨rfl, hbb⟩
  have H2 := Lib.hid (below_then H1.out hbb H1.out.size); clear hbb
  go_wp2_with fail
  refine (HBB.out _ (HL.out.below H2.out)).mono ?_
  rintro e w3 ⟨rfl, hbb⟩
  have H3 := Lib.hid (below_then H2.out hbb H2.out.size); clear hbb
  go_wp2_with fail
  refine (HAB.out _ (HL.out.below H3.out)).mono ?_
  rintro e w4 ⟨rfl, hbb⟩
  have H4 := Lib.hid (below_then H3.out hbb H3.out.size); clear hbb
  obtain ⟨l, oa, hla⟩ : ∃ l o, pcs a a.size 0 = (l, o) := ⟨_, _, rfl⟩
  obtain ⟨m, ob, hlb⟩ : ∃ l o, pcs b b.size 0 = (l, o) := ⟨_, _, rfl⟩
  cases oa with
  | some q =>
    have hq := pcs_code a a.size 0 q (by rw [hla])
    have e1 : chk 0 (pcs a a.size 0) = (0, q.1, q.2) := by unfold chk; rw [hla]
    rw [e1]
    obtain ⟨q1, q2⟩ := q
    have hne : (q2 != 0) = true := by simp; simp at hq; omega
    have hne' : (q2 == 0) = false := by simp; simp at hq; omega
    clear hq e1 hla hlb HA HBB HAB
    generalize chk 0 (pcs b b.size 0) = R2
    generalize chk 0 (pcs (a ++ b) (a ++ b).size 0) = R3 at hin ⊢
    obtain ⟨m1, m2, m3⟩ := R2
    obtain ⟨k1, k2, k3⟩ := R3
    obtain ⟨i1, i2⟩ := hin
    simp only at i1 i2
    rw [hsz] at i2
    have b1 : decide (k2 < 0) = false := by simp; omega
    go_wp2
    go_ret
    exact ⟨rfl, H4.out⟩
  | none =>
    have e1 : chk 0 (pcs a a.size 0) = ((l.length : Int), 0, 0) := by unfold chk; rw [hla]; simp
    rw [e1]
    cases ob with
    | some q =>
      have hq := pcs_code b b.size 0 q (by rw [hlb])
      have e2 : chk 0 (pcs b b.size 0) = (0, q.1, q.2) := by unfold chk; rw [hlb]
      rw [e2]
      obtain ⟨q1, q2⟩ := q
      have hne : (q2 != 0) = true := by simp; simp at hq; omega
      have hne' : (q2 == 0) = false := by simp; simp at hq; omega
      clear hq e1 e2 hla hlb HA HBB HAB
      generalize chk 0 (pcs (a ++ b) (a ++ b).size 0) = R3 at hin ⊢
      obtain ⟨k1, k2, k3⟩ := R3
      obtain ⟨i1, i2⟩ := hin
      simp only at i1 i2
      rw [hsz] at i2
      have b1 : decide (k2 < 0) = false := by simp; omega
      go_wp2
      all_goals go_ret
      all_goals exact ⟨rfl, H4.out⟩
    | none =>
      have e2 : chk 0 (pcs b b.size 0) = ((m.length : Int), 0, 0) := by unfold chk; rw [hlb]; simp
      have e3 : chk 0 (pcs (a ++ b) (a ++ b).size 0) = ((l.length : Int) + (m.length : Int), 0, 0) := by
        rw [pcs_both a b l hla, hlb]; unfold chk; simp
      rw [e2, e3]
      obtain ⟨L, C, w1e, w2e⟩ := whr_joint a b l m hla hlb
      obtain ⟨pl, pln⟩ := pcs_left a ⟨#[]⟩ a.size 0 l 0 (by omega) (by omega) hla
      obtain ⟨pm, pmn⟩ := pcs_left b ⟨#[]⟩ b.size 0 m 0 (by omega) (by omega) hlb
      have HW1 := Lib.hid (fun W (hW : Laid W) => where_any a a.size W (by omega) hW)
      have HW2 := Lib.hid (fun W (hW : Laid W) => where_any (a ++ b) a.size W (by omega) hW)
      rw [w1e] at HW1
      rw [w2e] at HW2
      obtain ⟨lx, hlx⟩ : ∃ lx : Nat, lx = l.length := ⟨_, rfl⟩
      obtain ⟨mx, hmx⟩ : ∃ mx : Nat, mx = m.length := ⟨_, rfl⟩
      rw [← hlx] at pln ⊢
      rw [← hmx] at pmn ⊢
      clear e1 e2 e3 hla hlb HA HBB HAB hin w1e w2e pl pm hlx hmx
      have hsm : wrap64 ((lx : Int) + mx) = (lx : Int) + mx := by unfold wrap64; omega
      go_wp2_with fail
      refine (HW1.out _ (HL.out.below H4.out)).mono ?_
      rintro e w5 ⟨rfl, hbb⟩
      have H5 := Lib.hid (below_then H4.out hbb H4.out.size); clear hbb
      go_wp2_with fail
      refine (HW2.out _ (HL.out.below H5.out)).mono ?_
      rintro e w6 ⟨rfl, hbb⟩
      have H6 := Lib.hid (below_then H5.out hbb H5.out.size); clear hbb
      go_wp2
      go_ret
      exact ⟨by simp, H6.out⟩
theorem walkJoins : ArgScanJoins.Walk := fun a b w hL ha hb => walk a b w ha hb hL
end Go.Proofs.YtmgjmjoclglidaaDoor.Sj2
