/- The contracts of Read, Text and the reference's Text in printed form, where the names of base units are laid too. Conditions: as each theorem states. -/
import Derived.Test.YtdplfphgomckfaaDoorDe
import Derived.Test.YtdplfphgomckfaaDoorDu
namespace Go.Proofs.YtdplfphgomckfaaDoor.Dv
set_option linter.unusedVariables false
open Go.RowKit Go.Proofs.YtdplfphgomckfaaDoorW.PrintWords Go.Proofs.YtdplfphgomckfaaDoor.Laid Go.Proofs.YtdplfphgomckfaaDoor.Dt Go.Proofs.YtdplfphgomckfaaDoor.Du
def Read.f (k : Nat) (s : ByteArray) : Option (Int × Int × Int × Int × Int × Int × Int × Int × Int) := De.Read.f k s
theorem Read.mono (s : ByteArray) : ∀ k, LeO (Read.f k s) (Read.f (k + 1) s) := De.Read.mono s
theorem Read.calls (k : Nat) (s : ByteArray) (r1 r2 r3 r4 r5 r6 r7 r8 r9 : Int) (w : World) (h : Read.f k s = some (r1, r2, r3, r4, r5, r6, r7, r8, r9)) (hL_ : LaidB w) :
    Calls Tryd.prog 10 #[.string s] w fun e w' => e = .returned (.tuple #[.agg #[.int .i64 r1, .int .i64 r2, .int .i64 r3, .int .i64 r4, .int .i64 r5, .int .i64 r6, .int .i64 r7], .int .i64 r8, .int .i64 r9]) ∧ Below w.heap.size w w' :=
  De.Read.calls k s r1 r2 r3 r4 r5 r6 r7 r8 r9 w h hL_.1
def okB (d : List Int) : Bool := d.all fun x => decide (-9223372036854775808 ≤ x) && decide (x ≤ 9223372036854775807)
theorem okB_ok (a0 a1 a2 a3 a4 : Int) (h : okB [a0, a1, a2, a3, a4] = true) : OkD [a0, a1, a2, a3, a4] := ⟨rfl, fun x hx => by
  have := (List.all_eq_true.1 h) x hx
  simpa using this⟩
def Text.f (a0 a1 a2 a3 a4 : Int) : Option ByteArray := if okB [a0, a1, a2, a3, a4] = true then some (Db.bs (textL [a0, a1, a2, a3, a4])) else none
def RText.f (a0 a1 a2 a3 a4 : Int) : Option ByteArray := Text.f a0 a1 a2 a3 a4
theorem Text.calls (a0 a1 a2 a3 a4 : Int) (r : ByteArray) (w : World) (h : Text.f a0 a1 a2 a3 a4 = some r) (hL_ : LaidB w) :
    Calls Tryd.prog 15 #[.agg #[.int .i64 a0, .int .i64 a1, .int .i64 a2, .int .i64 a3, .int .i64 a4]] w fun e w' => e = .returned (.string r) ∧ Below w.heap.size w w' := by
  unfold Text.f at h
  split at h
  · next hb => injection h with h; subst h; exact text_any _ (okB_ok _ _ _ _ _ hb) _ _ _ _ _ rfl w hL_
  · cases h
theorem RText.calls (a0 a1 a2 a3 a4 : Int) (r : ByteArray) (w : World) (h : RText.f a0 a1 a2 a3 a4 = some r) (hL_ : LaidB w) :
    Calls Tryd.prog 16 #[.agg #[.int .i64 a0, .int .i64 a1, .int .i64 a2, .int .i64 a3, .int .i64 a4]] w fun e w' => e = .returned (.string r) ∧ Below w.heap.size w w' := by
  unfold RText.f Text.f at h
  split at h
  · next hb => injection h with h; subst h; exact rtext_any _ (okB_ok _ _ _ _ _ hb) _ _ _ _ _ rfl w hL_.1
  · cases h
end Go.Proofs.YtdplfphgomckfaaDoor.Dv
