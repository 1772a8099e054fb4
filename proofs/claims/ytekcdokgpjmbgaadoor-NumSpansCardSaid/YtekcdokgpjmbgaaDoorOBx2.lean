/- Walks of functions, written by a program (wip/tools/own.py) over hand contracts; conditions: as each theorem states. -/
import Derived.Test.YtekcdokgpjmbgaaDoorOBx0
namespace Go.Proofs.YtekcdokgpjmbgaaDoor.OB
open Go.RowKit Go.Proofs.YtekcdokgpjmbgaaDoorW.PrintWords Go.Proofs.YtekcdokgpjmbgaaDoorW.PrintLast Go.Proofs.YtekcdokgpjmbgaaDoorW.PrintMore
attribute [local go_sem] max2_int min2_int max_two min_two max_three min_three max_four min_four   -- for this text's walks alone
set_option linter.unusedVariables false
set_option linter.unusedSimpArgs false

/-! ### capstanlaw10_awake: function 9 -/
def capstanlaw10_awake.f (k : Nat)  : Option (Bool) := (Nb.Read.f k (⟨#[49, 46, 53]⟩ : ByteArray)).bind fun bt101 => ((Ns.ReadSpan.f (⟨#[49, 104, 51, 48, 109]⟩ : ByteArray)).bind fun bt103 => (if bt101.1 = 1500000 then (if bt101.2 = 0 then (if bt103.1 = 5400 then (if bt103.2 = 0 then ((OA.num_Text.f k (-1)).bind fun t105 => (some (t105.toList == ([45, 48, 46, 48, 48, 48, 48, 48, 49] : List UInt8)))) else (some false)) else (some false)) else (some false)) else (some false)))
theorem capstanlaw10_awake.mono : ∀ k, LeO (capstanlaw10_awake.f k ) (capstanlaw10_awake.f (k + 1) ) := by
  intro  k
  unfold capstanlaw10_awake.f
  repeat' first
      | (with_reducible exact Nb.Read.mono _ _)
      | (with_reducible exact OA.num_Text.mono _ _)
      | (with_reducible exact LeO.refl _)
      | (with_reducible exact LeO.none _)
      | (with_reducible refine LeO.ite ?_ ?_)
      | (with_reducible refine LeO.bind ?_ (fun _ => ?_))
      | exact Nb.Read.mono _ _
      | exact OA.num_Text.mono _ _
      | exact LeO.none _
      | refine LeO.ite ?_ ?_
      | refine LeO.bind ?_ (fun _ => ?_)
set_option maxHeartbeats 8000000 in
set_option maxRecDepth 100000 in
theorem capstanlaw10_awake.calls (k : Nat)  (r : Bool) (w : World) (h : capstanlaw10_awake.f k  = some r) (hL_ : Go.Proofs.YtekcdokgpjmbgaaDoor.Laid.Laid w) :
    Calls Tryd.prog 9 #[] w fun e w' => e = .returned (.bool r) ∧ Below w.heap.size w w' := by
  have HL_ := Aside0.mk hL_
  clear hL_
  have HB := Aside0.mk (Below.refl w.heap.size w)
  have H : ((Nb.Read.f k (⟨#[49, 46, 53]⟩ : ByteArray)).bind fun bt101 => ((Ns.ReadSpan.f (⟨#[49, 104, 51, 48, 109]⟩ : ByteArray)).bind fun bt103 => (if bt101.1 = 1500000 then (if bt101.2 = 0 then (if bt103.1 = 5400 then (if bt103.2 = 0 then ((OA.num_Text.f k (-1)).bind fun t105 => (some (t105.toList == ([45, 48, 46, 48, 48, 48, 48, 48, 49] : List UInt8)))) else (some false)) else (some false)) else (some false)) else (some false)))) = some r := h
  clear h
  replace H := Option.bind_eq_some_iff.mp H
  obtain ⟨⟨t101, t102⟩, A10, H⟩ := H
  replace H : ((Ns.ReadSpan.f (⟨#[49, 104, 51, 48, 109]⟩ : ByteArray)).bind fun bt103 => (if t101 = 1500000 then (if t102 = 0 then (if bt103.1 = 5400 then (if bt103.2 = 0 then ((OA.num_Text.f k (-1)).bind fun t105 => (some (t105.toList == ([45, 48, 46, 48, 48, 48, 48, 48, 49] : List UInt8)))) else (some false)) else (some false)) else (some false)) else (some false))) = some r := H
  have A1 := Aside0.mk A10
  clear A10
  replace H := Option.bind_eq_some_iff.mp H
  obtain ⟨⟨t103, t104⟩, A20, H⟩ := H
  replace H : (if t101 = 1500000 then (if t102 = 0 then (if t103 = 5400 then (if t104 = 0 then ((OA.num_Text.f k (-1)).bind fun t105 => (some (t105.toList == ([45, 48, 46, 48, 48, 48, 48, 48, 49] : List UInt8)))) else (some false)) else (some false)) else (some false)) else (some false)) = some r := H
  have A2 := Aside0.mk A20
  clear A20
  by_cases c3 : t101 = 1500000
  · rw [if_pos c3] at H
    have c3b0 : (t101 == 1500000) = true := beq_iff_eq.mpr c3
    have c3b1 : (t101 != 1500000) = false := bne_eq_false_iff_eq.mpr c3
    clear c3
    by_cases c4 : t102 = 0
    · rw [if_pos c4] at H
      have c4b0 : (t102 == 0) = true := beq_iff_eq.mpr c4
      have c4b1 : (t102 != 0) = false := bne_eq_false_iff_eq.mpr c4
      clear c4
      by_cases c5 : t103 = 5400
      · rw [if_pos c5] at H
        have c5b0 : (t103 == 5400) = true := beq_iff_eq.mpr c5
        have c5b1 : (t103 != 5400) = false := bne_eq_false_iff_eq.mpr c5
        clear c5
        by_cases c6 : t104 = 0
        · rw [if_pos c6] at H
          have c6b0 : (t104 == 0) = true := beq_iff_eq.mpr c6
          have c6b1 : (t104 != 0) = false := bne_eq_false_iff_eq.mpr c6
          clear c6
          replace H := Option.bind_eq_some_iff.mp H
          obtain ⟨t105, A70, H⟩ := H
          replace H : (some (t105.toList == ([45, 48, 46, 48, 48, 48, 48, 48, 49] : List UInt8))) = some r := H
          have A7 := Aside0.mk A70
          clear A70
          obtain rfl := Option.some.inj H
          go_enter Tryd.func9, Tryd.ntmps9
          go_wp2_with (first | ((with_reducible refine gate_callee (f := 14) rfl ?_); refine goesL_ (some 6) rfl rfl Tryd.func14 (by kernel_rfl) rfl #[.string (⟨#[49, 46, 53]⟩ : ByteArray)] rfl (by (try simp only [List.map_toArray, List.map_cons, List.map_nil]); first | done | rfl | (simp only [List.length_drop, List.length_take]; rfl)) ?_; (with_reducible refine (Nb.Read.calls k (⟨#[49, 46, 53]⟩ : ByteArray) t101 t102 _ A1.out (by first | exact HL_.out | exact Go.Proofs.YtekcdokgpjmbgaaDoor.Laid.Laid.below HL_.out (by repeat (first | (with_reducible first | exact HB.out | exact Below.refl _ _ | exact (‹Aside0 (Below _ _ _)›).out | apply below_alloc | apply pw_below_drewN | apply below_drew1 | refine Below.setCell ?_ (Aside0.out (by assumption)) _) | exact HB.out | exact (‹Aside0 (Below _ _ _)›).out)))).mono ?_); rintro e w8 ⟨rfl, hb⟩; refine ⟨_, rfl, ?_⟩; have n0_ := Aside0.mk (below_step (by repeat (first | (with_reducible first | exact HB.out | apply below_alloc | apply pw_below_drewN | apply below_drew1) | exact HB.out)) hb); clear HB; have HB := n0_; clear n0_; (try clear hb); (try clear hb2); (try clear hk); (try clear hi)) | ((with_reducible refine gate_callee (f := 10) rfl ?_); refine goesL_ (some 10) rfl rfl Tryd.func10 (by kernel_rfl) rfl #[.string (⟨#[49, 104, 51, 48, 109]⟩ : ByteArray)] rfl (by (try simp only [List.map_toArray, List.map_cons, List.map_nil]); first | done | rfl | (simp only [List.length_drop, List.length_take]; rfl)) ?_; (with_reducible refine (Ns.ReadSpan.calls (⟨#[49, 104, 51, 48, 109]⟩ : ByteArray) t103 t104 _ A2.out).mono ?_); rintro e w9 ⟨rfl, hb⟩; refine ⟨_, rfl, ?_⟩; have n0_ := Aside0.mk (below_step (by repeat (first | (with_reducible first | exact HB.out | apply below_alloc | apply pw_below_drewN | apply below_drew1) | exact HB.out)) hb); clear HB; have HB := n0_; clear n0_; (try clear hb); (try clear hb2); (try clear hk); (try clear hi)) | (go_at_call 16; (with_reducible refine (OA.num_Text.calls k (-1) t105 _ A7.out (by first | exact HL_.out | exact Go.Proofs.YtekcdokgpjmbgaaDoor.Laid.Laid.below HL_.out (by repeat (first | (with_reducible first | exact HB.out | exact Below.refl _ _ | exact (‹Aside0 (Below _ _ _)›).out | apply below_alloc | apply pw_below_drewN | apply below_drew1 | refine Below.setCell ?_ (Aside0.out (by assumption)) _) | exact HB.out | exact (‹Aside0 (Below _ _ _)›).out)))).mono ?_); rintro e w10 ⟨rfl, hb⟩; have n0_ := Aside0.mk (below_step (by repeat (first | (with_reducible first | exact HB.out | apply below_alloc | apply pw_below_drewN | apply below_drew1) | exact HB.out)) hb); clear HB; have HB := n0_; clear n0_; (try clear hb); (try clear hb2); (try clear hk); (try clear hi)))
          go_ret
          exact ⟨by first | rfl | (simp [errW_none, errW_some] <;> rfl) | (simp [*, errW_none, errW_some] <;> rfl), by repeat (first | (with_reducible first | exact HB.out | apply below_alloc | apply pw_below_drewN | apply below_drew1) | exact HB.out)⟩
        · rw [if_neg c6] at H
          have c6b0 : (t104 == 0) = false := beq_eq_false_iff_ne.mpr c6
          have c6b1 : (t104 != 0) = true := bne_iff_ne.mpr c6
          obtain rfl := Option.some.inj H
          go_enter Tryd.func9, Tryd.ntmps9
          go_wp2_with (first | ((with_reducible refine gate_callee (f := 14) rfl ?_); refine goesL_ (some 6) rfl rfl Tryd.func14 (by kernel_rfl) rfl #[.string (⟨#[49, 46, 53]⟩ : ByteArray)] rfl (by (try simp only [List.map_toArray, List.map_cons, List.map_nil]); first | done | rfl | (simp only [List.length_drop, List.length_take]; rfl)) ?_; (with_reducible refine (Nb.Read.calls k (⟨#[49, 46, 53]⟩ : ByteArray) t101 t102 _ A1.out (by first | exact HL_.out | exact Go.Proofs.YtekcdokgpjmbgaaDoor.Laid.Laid.below HL_.out (by repeat (first | (with_reducible first | exact HB.out | exact Below.refl _ _ | exact (‹Aside0 (Below _ _ _)›).out | apply below_alloc | apply pw_below_drewN | apply below_drew1 | refine Below.setCell ?_ (Aside0.out (by assumption)) _) | exact HB.out | exact (‹Aside0 (Below _ _ _)›).out)))).mono ?_); rintro e w11 ⟨rfl, hb⟩; refine ⟨_, rfl, ?_⟩; have n0_ := Aside0.mk (below_step (by repeat (first | (with_reducible first | exact HB.out | apply below_alloc | apply pw_below_drewN | apply below_drew1) | exact HB.out)) hb); clear HB; have HB := n0_; clear n0_; (try clear hb); (try clear hb2); (try clear hk); (try clear hi)) | ((with_reducible refine gate_callee (f := 10) rfl ?_); refine goesL_ (some 10) rfl rfl Tryd.func10 (by kernel_rfl) rfl #[.string (⟨#[49, 104, 51, 48, 109]⟩ : ByteArray)] rfl (by (try simp only [List.map_toArray, List.map_cons, List.map_nil]); first | done | rfl | (simp only [List.length_drop, List.length_take]; rfl)) ?_; (with_reducible refine (Ns.ReadSpan.calls (⟨#[49, 104, 51, 48, 109]⟩ : ByteArray) t103 t104 _ A2.out).mono ?_); rintro e w12 ⟨rfl, hb⟩; refine ⟨_, rfl, ?_⟩; have n0_ := Aside0.mk (below_step (by repeat (first | (with_reducible first | exact HB.out | apply below_alloc | apply pw_below_drewN | apply below_drew1) | exact HB.out)) hb); clear HB; have HB := n0_; clear n0_; (try clear hb); (try clear hb2); (try clear hk); (try clear hi)))
          go_ret
          exact ⟨by first | rfl | (simp [errW_none, errW_some] <;> rfl) | (simp [*, errW_none, errW_some] <;> rfl), by repeat (first | (with_reducible first | exact HB.out | apply below_alloc | apply pw_below_drewN | apply below_drew1) | exact HB.out)⟩
      · rw [if_neg c5] at H
        have c5b0 : (t103 == 5400) = false := beq_eq_false_iff_ne.mpr c5
        have c5b1 : (t103 != 5400) = true := bne_iff_ne.mpr c5
        obtain rfl := Option.some.inj H
        go_enter Tryd.func9, Tryd.ntmps9
        go_wp2_with (first | ((with_reducible refine gate_callee (f := 14) rfl ?_); refine goesL_ (some 6) rfl rfl Tryd.func14 (by kernel_rfl) rfl #[.string (⟨#[49, 46, 53]⟩ : ByteArray)] rfl (by (try simp only [List.map_toArray, List.map_cons, List.map_nil]); first | done | rfl | (simp only [List.length_drop, List.length_take]; rfl)) ?_; (with_reducible refine (Nb.Read.calls k (⟨#[49, 46, 53]⟩ : ByteArray) t101 t102 _ A1.out (by first | exact HL_.out | exact Go.Proofs.YtekcdokgpjmbgaaDoor.Laid.Laid.below HL_.out (by repeat (first | (with_reducible first | exact HB.out | exact Below.refl _ _ | exact (‹Aside0 (Below _ _ _)›).out | apply below_alloc | apply pw_below_drewN | apply below_drew1 | refine Below.setCell ?_ (Aside0.out (by assumption)) _) | exact HB.out | exact (‹Aside0 (Below _ _ _)›).out)))).mono ?_); rintro e w13 ⟨rfl, hb⟩; refine ⟨_, rfl, ?_⟩; have n0_ := Aside0.mk (below_step (by repeat (first | (with_reducible first | exact HB.out | apply below_alloc | apply pw_below_drewN | apply below_drew1) | exact HB.out)) hb); clear HB; have HB := n0_; clear n0_; (try clear hb); (try clear hb2); (try clear hk); (try clear hi)) | ((with_reducible refine gate_callee (f := 10) rfl ?_); refine goesL_ (some 10) rfl rfl Tryd.func10 (by kernel_rfl) rfl #[.string (⟨#[49, 104, 51, 48, 109]⟩ : ByteArray)] rfl (by (try simp only [List.map_toArray, List.map_cons, List.map_nil]); first | done | rfl | (simp only [List.length_drop, List.length_take]; rfl)) ?_; (with_reducible refine (Ns.ReadSpan.calls (⟨#[49, 104, 51, 48, 109]⟩ : ByteArray) t103 t104 _ A2.out).mono ?_); rintro e w14 ⟨rfl, hb⟩; refine ⟨_, rfl, ?_⟩; have n0_ := Aside0.mk (below_step (by repeat (first | (with_reducible first | exact HB.out | apply below_alloc | apply pw_below_drewN | apply below_drew1) | exact HB.out)) hb); clear HB; have HB := n0_; clear n0_; (try clear hb); (try clear hb2); (try clear hk); (try clear hi)))
        go_ret
        exact ⟨by first | rfl | (simp [errW_none, errW_some] <;> rfl) | (simp [*, errW_none, errW_some] <;> rfl), by repeat (first | (with_reducible first | exact HB.out | apply below_alloc | apply pw_below_drewN | apply below_drew1) | exact HB.out)⟩
    · rw [if_neg c4] at H
      have c4b0 : (t102 == 0) = false := beq_eq_false_iff_ne.mpr c4
      have c4b1 : (t102 != 0) = true := bne_iff_ne.mpr c4
      obtain rfl := Option.some.inj H
      go_enter Tryd.func9, Tryd.ntmps9
      go_wp2_with (first | ((with_reducible refine gate_callee (f := 14) rfl ?_); refine goesL_ (some 6) rfl rfl Tryd.func14 (by kernel_rfl) rfl #[.string (⟨#[49, 46, 53]⟩ : ByteArray)] rfl (by (try simp only [List.map_toArray, List.map_cons, List.map_nil]); first | done | rfl | (simp only [List.length_drop, List.length_take]; rfl)) ?_; (with_reducible refine (Nb.Read.calls k (⟨#[49, 46, 53]⟩ : ByteArray) t101 t102 _ A1.out (by first | exact HL_.out | exact Go.Proofs.YtekcdokgpjmbgaaDoor.Laid.Laid.below HL_.out (by repeat (first | (with_reducible first | exact HB.out | exact Below.refl _ _ | exact (‹Aside0 (Below _ _ _)›).out | apply below_alloc | apply pw_below_drewN | apply below_drew1 | refine Below.setCell ?_ (Aside0.out (by assumption)) _) | exact HB.out | exact (‹Aside0 (Below _ _ _)›).out)))).mono ?_); rintro e w15 ⟨rfl, hb⟩; refine ⟨_, rfl, ?_⟩; have n0_ := Aside0.mk (below_step (by repeat (first | (with_reducible first | exact HB.out | apply below_alloc | apply pw_below_drewN | apply below_drew1) | exact HB.out)) hb); clear HB; have HB := n0_; clear n0_; (try clear hb); (try clear hb2); (try clear hk); (try clear hi)) | ((with_reducible refine gate_callee (f := 10) rfl ?_); refine goesL_ (some 10) rfl rfl Tryd.func10 (by kernel_rfl) rfl #[.string (⟨#[49, 104, 51, 48, 109]⟩ : ByteArray)] rfl (by (try simp only [List.map_toArray, List.map_cons, List.map_nil]); first | done | rfl | (simp only [List.length_drop, List.length_take]; rfl)) ?_; (with_reducible refine (Ns.ReadSpan.calls (⟨#[49, 104, 51, 48, 109]⟩ : ByteArray) t103 t104 _ A2.out).mono ?_); rintro e w16 ⟨rfl, hb⟩; refine ⟨_, rfl, ?_⟩; have n0_ := Aside0.mk (below_step (by repeat (first | (with_reducible first | exact HB.out | apply below_alloc | apply pw_below_drewN | apply below_drew1) | exact HB.out)) hb); clear HB; have HB := n0_; clear n0_; (try clear hb); (try clear hb2); (try clear hk); (try clear hi)))
      go_ret
      exact ⟨by first | rfl | (simp [errW_none, errW_some] <;> rfl) | (simp [*, errW_none, errW_some] <;> rfl), by repeat (first | (with_reducible first | exact HB.out | apply below_alloc | apply pw_below_drewN | apply below_drew1) | exact HB.out)⟩
  · rw [if_neg c3] at H
    have c3b0 : (t101 == 1500000) = false := beq_eq_false_iff_ne.mpr c3
    have c3b1 : (t101 != 1500000) = true := bne_iff_ne.mpr c3
    obtain rfl := Option.some.inj H
    go_enter Tryd.func9, Tryd.ntmps9
    go_wp2_with (first | ((with_reducible refine gate_callee (f := 14) rfl ?_); refine goesL_ (some 6) rfl rfl Tryd.func14 (by kernel_rfl) rfl #[.string (⟨#[49, 46, 53]⟩ : ByteArray)] rfl (by (try simp only [List.map_toArray, List.map_cons, List.map_nil]); first | done | rfl | (simp only [List.length_drop, List.length_take]; rfl)) ?_; (with_reducible refine (Nb.Read.calls k (⟨#[49, 46, 53]⟩ : ByteArray) t101 t102 _ A1.out (by first | exact HL_.out | exact Go.Proofs.YtekcdokgpjmbgaaDoor.Laid.Laid.below HL_.out (by repeat (first | (with_reducible first | exact HB.out | exact Below.refl _ _ | exact (‹Aside0 (Below _ _ _)›).out | apply below_alloc | apply pw_below_drewN | apply below_drew1 | refine Below.setCell ?_ (Aside0.out (by assumption)) _) | exact HB.out | exact (‹Aside0 (Below _ _ _)›).out)))).mono ?_); rintro e w17 ⟨rfl, hb⟩; refine ⟨_, rfl, ?_⟩; have n0_ := Aside0.mk (below_step (by repeat (first | (with_reducible first | exact HB.out | apply below_alloc | apply pw_below_drewN | apply below_drew1) | exact HB.out)) hb); clear HB; have HB := n0_; clear n0_; (try clear hb); (try clear hb2); (try clear hk); (try clear hi)) | ((with_reducible refine gate_callee (f := 10) rfl ?_); refine goesL_ (some 10) rfl rfl Tryd.func10 (by kernel_rfl) rfl #[.string (⟨#[49, 104, 51, 48, 109]⟩ : ByteArray)] rfl (by (try simp only [List.map_toArray, List.map_cons, List.map_nil]); first | done | rfl | (simp only [List.length_drop, List.length_take]; rfl)) ?_; (with_reducible refine (Ns.ReadSpan.calls (⟨#[49, 104, 51, 48, 109]⟩ : ByteArray) t103 t104 _ A2.out).mono ?_); rintro e w18 ⟨rfl, hb⟩; refine ⟨_, rfl, ?_⟩; have n0_ := Aside0.mk (below_step (by repeat (first | (with_reducible first | exact HB.out | apply below_alloc | apply pw_below_drewN | apply below_drew1) | exact HB.out)) hb); clear HB; have HB := n0_; clear n0_; (try clear hb); (try clear hb2); (try clear hk); (try clear hi)))
    go_ret
    exact ⟨by first | rfl | (simp [errW_none, errW_some] <;> rfl) | (simp [*, errW_none, errW_some] <;> rfl), by repeat (first | (with_reducible first | exact HB.out | apply below_alloc | apply pw_below_drewN | apply below_drew1) | exact HB.out)⟩

end Go.Proofs.YtekcdokgpjmbgaaDoor.OB
