/- Small functions of cron and of its reference: what each call answers. -/
import Derived.Test.YtkmcmgfmahildaaDoorLaid
import Derived.Test.YtkmcmgfmahildaaDoorBlk2
import Derived.Test.YtkmcmgfmahildaaDoorShelf
import Derived.Test.YtkmcmgfmahildaaDoorWMore
import Derived.Handy
import Derived.WalkSpells
import Derived.WalkLawsBesides
import Derived.Laws.Bits64b
import Derived.Shelf.Spec.TrailingZeros
import Derived.Lib.AtoiErrMem
namespace Go.Proofs.YtkmcmgfmahildaaDoor.Ca
set_option linter.unusedVariables false
open Go.RowKit Go.Proofs.YtkmcmgfmahildaaDoorW.PrintWords Go.Proofs.YtkmcmgfmahildaaDoor.Laid
open Go.Proofs.YtkmcmgfmahildaaDoor.Blk (below_then)

theorem drawn_same {w w' : World} (h : w' = w) : Drawn0 w w' := ⟨0, h⟩
/-! ### math/bits.TrailingZeros64 -/
set_option maxHeartbeats 1000000 in
theorem tz_core (x k idx : Nat) (w : World) (hx0 : ((x : Int) == 0) = false)
    (key : IntKind.u64.wrap (bits BinOp.and IntKind.u64 (x : Int) (IntKind.u64.wrap (-(x : Int))) * 285870213051353865) / 288230376151711744 = (idx : Int))
    (hi : idx < 64) (hk : k < 64) (hcell : w.cell? ⟨1, idx, none⟩ = some (.int .u8 k)) :
    Calls Tryd.prog 43 #[.int .u64 x] w fun e w' => e = .returned (.int .i64 k) ∧ w' = w := by
  go_enter Tryd.func43, Tryd.ntmps43
  go_wp2_with (simp only [key])
  go_ret
  exact ⟨rfl, rfl⟩
theorem tz_any (x : Nat) (hx : x < 18446744073709551616) (w : World) (hL : Laid w) :
    Calls Tryd.prog 43 #[.int .u64 x] w fun e w' => e = .returned (.int .i64 (Lib.ctz 64 x)) ∧ w' = w := by
  by_cases hx0 : x = 0
  · subst hx0
    clear hL
    go_enter Tryd.func43, Tryd.ntmps43
    go_wp2
    go_ret
    exact ⟨rfl, rfl⟩
  · obtain ⟨hlow, hk⟩ := Lib.lowest_bit 64 x hx0 hx
    obtain ⟨hi, htab⟩ := Lib.deBruijn64_at _ hk
    have hcell := hL.1 _ hi
    rw [htab] at hcell
    exact tz_core x _ _ w (by simp; omega) (tz64_key x _ hx hx0 hlow) hi hk hcell
def tz.f (a0 : Int) : Option Int := if 0 ≤ a0 ∧ a0 < 18446744073709551616 then some (Lib.ctz 64 a0.toNat) else none
theorem tz.calls (a0 r : Int) (w : World) (h : tz.f a0 = some r) (hL_ : Laid w) :
    Calls Tryd.prog 43 #[.int .u64 a0] w fun e w' => e = .returned (.int .i64 r) ∧ Drawn0 w w' := by
  unfold tz.f at h
  split at h
  · rename_i hb
    injection h with h
    subst h
    obtain ⟨x, rfl⟩ : ∃ x : Nat, a0 = x := ⟨a0.toNat, by omega⟩
    exact (tz_any x (by omega) w hL_).mono fun _ _ h => ⟨h.1, drawn_same h.2⟩
  · cases h
/-! ### strconv.Itoa, strconv.Atoi -/
def itoa.f (a0 : Int) : Option ByteArray := if 0 ≤ a0 ∧ a0 < 100 then some ⟨(Lib.decDigits a0.toNat).toArray⟩ else none
theorem itoa.calls (a0 : Int) (r : ByteArray) (w : World) (h : itoa.f a0 = some r) :
    Calls Tryd.prog 44 #[.int .i64 a0] w fun e w' => e = .returned (.string r) ∧ Drawn0 w w' := by
  unfold itoa.f at h
  split at h
  · rename_i hb
    injection h with h
    subst h
    obtain ⟨x, rfl⟩ : ∃ x : Nat, a0 = x := ⟨a0.toNat, by omega⟩
    exact (Tryd.strconv_Itoa_small x (by omega) w).mono fun _ _ h => ⟨h.1, drawn_same h.2⟩
  · cases h
def atoi.f (a0 : ByteArray) : Option (Int × Option Int) := if a0.size ≤ 18 then (Lib.atoi a0.data.toList).map (fun n => (n, none)) else none
theorem atoi.calls (a0 : ByteArray) (r1 : Int) (r2 : Option Int) (w : World) (h : atoi.f a0 = some (r1, r2)) :
    Calls Tryd.prog 50 #[.string a0] w fun e w' => e = .returned (.tuple #[.int .i64 r1, .nilIface]) ∧ Below w.heap.size w w' := by
  unfold atoi.f at h
  split at h
  · obtain ⟨n, hn, he⟩ := Option.map_eq_some_iff.1 h
    injection he with e1 e2
    subst e1; subst e2
    refine (Tryd.strconv_Atoi a0 n (by omega) hn w).mono ?_
    rintro e w' ⟨rfl, t, rfl⟩
    exact ⟨rfl, Lib.bytesWorld_below w 5 t⟩
  · cases h
/-! ### Low, High, all -/
def low.f (a0 : Int) : Option Int := if 0 ≤ a0 ∧ a0 < 5 then some (low a0.toNat) else none
def high.f (a0 : Int) : Option Int := if 0 ≤ a0 ∧ a0 < 5 then some (high a0.toNat) else none
theorem low.calls (a0 r : Int) (w : World) (h : low.f a0 = some r) :
    Calls Tryd.prog 31 #[.int .i64 a0] w fun e w' => e = .returned (.int .i64 r) ∧ Drawn0 w w' := by
  unfold low.f at h
  split at h
  · rename_i hb
    injection h with h
    subst h
    have hk : a0 = 0 ∨ a0 = 1 ∨ a0 = 2 ∨ a0 = 3 ∨ a0 = 4 := by omega
    have h0 : ∀ W : World, (Instr.index 71 (.agg #[.int .i64 0, .int .i64 0, .int .i64 1, .int .i64 1, .int .i64 0]) (.int .i64 0)).run Tryd.prog W = .ok (.int .i64 0) W := fun _ => by kernel_rfl
    have h1 : ∀ W : World, (Instr.index 71 (.agg #[.int .i64 0, .int .i64 0, .int .i64 1, .int .i64 1, .int .i64 0]) (.int .i64 1)).run Tryd.prog W = .ok (.int .i64 0) W := fun _ => by kernel_rfl
    have h2 : ∀ W : World, (Instr.index 71 (.agg #[.int .i64 0, .int .i64 0, .int .i64 1, .int .i64 1, .int .i64 0]) (.int .i64 2)).run Tryd.prog W = .ok (.int .i64 1) W := fun _ => by kernel_rfl
    have h3 : ∀ W : World, (Instr.index 71 (.agg #[.int .i64 0, .int .i64 0, .int .i64 1, .int .i64 1, .int .i64 0]) (.int .i64 3)).run Tryd.prog W = .ok (.int .i64 1) W := fun _ => by kernel_rfl
    have h4 : ∀ W : World, (Instr.index 71 (.agg #[.int .i64 0, .int .i64 0, .int .i64 1, .int .i64 1, .int .i64 0]) (.int .i64 4)).run Tryd.prog W = .ok (.int .i64 0) W := fun _ => by kernel_rfl
    clear hb
    rcases hk with rfl | rfl | rfl | rfl | rfl
    all_goals
      go_enter Tryd.func31, Tryd.ntmps31
      go_wp2
      go_ret
      exact ⟨rfl, ⟨0, rfl⟩⟩
  · cases h
theorem high.calls (a0 r : Int) (w : World) (h : high.f a0 = some r) :
    Calls Tryd.prog 32 #[.int .i64 a0] w fun e w' => e = .returned (.int .i64 r) ∧ Drawn0 w w' := by
  unfold high.f at h
  split at h
  · rename_i hb
    injection h with h
    subst h
    have hk : a0 = 0 ∨ a0 = 1 ∨ a0 = 2 ∨ a0 = 3 ∨ a0 = 4 := by omega
    have h0 : ∀ W : World, (Instr.index 71 (.agg #[.int .i64 59, .int .i64 23, .int .i64 31, .int .i64 12, .int .i64 6]) (.int .i64 0)).run Tryd.prog W = .ok (.int .i64 59) W := fun _ => by kernel_rfl
    have h1 : ∀ W : World, (Instr.index 71 (.agg #[.int .i64 59, .int .i64 23, .int .i64 31, .int .i64 12, .int .i64 6]) (.int .i64 1)).run Tryd.prog W = .ok (.int .i64 23) W := fun _ => by kernel_rfl
    have h2 : ∀ W : World, (Instr.index 71 (.agg #[.int .i64 59, .int .i64 23, .int .i64 31, .int .i64 12, .int .i64 6]) (.int .i64 2)).run Tryd.prog W = .ok (.int .i64 31) W := fun _ => by kernel_rfl
    have h3 : ∀ W : World, (Instr.index 71 (.agg #[.int .i64 59, .int .i64 23, .int .i64 31, .int .i64 12, .int .i64 6]) (.int .i64 3)).run Tryd.prog W = .ok (.int .i64 12) W := fun _ => by kernel_rfl
    have h4 : ∀ W : World, (Instr.index 71 (.agg #[.int .i64 59, .int .i64 23, .int .i64 31, .int .i64 12, .int .i64 6]) (.int .i64 4)).run Tryd.prog W = .ok (.int .i64 6) W := fun _ => by kernel_rfl
    clear hb
    rcases hk with rfl | rfl | rfl | rfl | rfl
    all_goals
      go_enter Tryd.func32, Tryd.ntmps32
      go_wp2
      go_ret
      exact ⟨rfl, ⟨0, rfl⟩⟩
  · cases h
/-- The bits of all numbers of a field. -/
def allv (i : Nat) : Int := if i = 0 then 1152921504606846975 else if i = 1 then 16777215 else if i = 2 then 4294967294 else if i = 3 then 8190 else 127
theorem all_any (i : Nat) (hi : i < 5) (w : World) : Calls Tryd.prog 29 #[.agg #[.int .i64 (low i), .int .i64 (high i)]] w fun e w' => e = .returned (.int .u64 (allv i)) ∧ Below w.heap.size w w' := by
  have : i = 0 ∨ i = 1 ∨ i = 2 ∨ i = 3 ∨ i = 4 := by omega
  rcases this with rfl | rfl | rfl | rfl | rfl
  all_goals
    simp only [low, high, allv]
    go_enter Tryd.func29, Tryd.ntmps29
    go_wp2
    go_ret
    exact ⟨rfl, (Below.refl _ _).alloc (Nat.le_refl _) _⟩
end Go.Proofs.YtkmcmgfmahildaaDoor.Ca
