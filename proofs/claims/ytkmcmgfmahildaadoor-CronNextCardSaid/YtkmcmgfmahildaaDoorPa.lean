/- The laws' first question (awake), and what Names computes. -/
import Derived.Test.YtkmcmgfmahildaaDoorOBx1
import Derived.Test.YtkmcmgfmahildaaDoorOBx6
import Derived.Test.YtkmcmgfmahildaaDoorLw
import Derived.Test.YtkmcmgfmahildaaDoorFlat
namespace Go.Proofs.YtkmcmgfmahildaaDoor.Pa
set_option linter.unusedVariables false
open Go.RowKit Go.Proofs.YtkmcmgfmahildaaDoorW.PrintWords Go.Proofs.YtkmcmgfmahildaaDoor.OB Go.Proofs.YtkmcmgfmahildaaDoor.Cd
set_option maxRecDepth 1000000 in
theorem awake_is : capstanlaw04_awake.f 100 = some true := by kernel_rfl
def hasv (a n : Int) : Bool := (Go.bits .and .u64 (shr .u64 a (IntKind.u64.wrap n)) 1) == 1
theorem wrap_nonneg (n : Int) : 0 ≤ IntKind.u64.wrap n := by simp only [IntKind.wrap_u64]; omega
theorem has_f (a n : Int) : cron_has.f a n = some (hasv a n) := by unfold cron_has.f; rw [if_pos (wrap_nonneg n)]; rfl
def namesv (a b c d e t : Int) : Bool :=
  hasv c (ymd (t / 86400)).2.2 && (hasv d (ymd (t / 86400)).2.1 && (hasv e ((t / 86400 + 4) % 7) && (hasv b (t % 86400 / 3600) && hasv a (t % 86400 / 60 % 60))))
theorem names_f (a b c d e t : Int) (h1 : -9223372036854775808 ≤ t) (h2 : t ≤ 9223372036854775807) : cron_Names.f a b c d e t = some (namesv a b c d e t) := by
  unfold cron_Names.f Of.f cron_dated.f namesv
  rw [if_pos ⟨h1, h2⟩]
  simp only [Option.bind_some, has_f]
  cases hasv c (ymd (t / 86400)).2.2 <;> cases hasv d (ymd (t / 86400)).2.1 <;> cases hasv e ((t / 86400 + 4) % 7) <;> cases hasv b (t % 86400 / 3600) <;> cases hasv a (t % 86400 / 60 % 60) <;> rfl
theorem ymd_era (z : Int) : (ymd (z + 146097)).2 = (ymd z).2 := by
  have e1 : (z + 146097 + 719468) % 146097 = (z + 719468) % 146097 := by omega
  unfold ymd
  simp only [e1]
theorem names_cycle (a b c d e t : Int) : namesv a b c d e (t + 12622780800) = namesv a b c d e t := by
  unfold namesv
  rw [show (t + 12622780800) / 86400 = t / 86400 + 146097 from by omega, show (t + 12622780800) % 86400 = t % 86400 from by omega, ymd_era, show (t / 86400 + 146097 + 4) % 7 = (t / 86400 + 4) % 7 from by omega]
end Go.Proofs.YtkmcmgfmahildaaDoor.Pa
