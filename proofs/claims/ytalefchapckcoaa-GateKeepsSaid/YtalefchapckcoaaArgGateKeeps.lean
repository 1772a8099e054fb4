/- What is to be shown of the call of GateKeeps: it answers true and leaves what was there, whatever the arguments. -/
import Derived.Test.YtalefchapckcoaaRows
import Derived.Below
namespace Go.Proofs.Ytalefchapckcoaa.ArgGateKeeps
open Go.RowKit
/-- A slice that came in: nil, or all its elements' cells are known. -/
def Elems2 (w : World) (a : Option Addr) (len cap : Nat) : Prop :=
  (a = none ∧ len = 0 ∧ cap = 0) ∨ ∃ ad, a = some ad ∧ len ≤ cap ∧ cap ≤ maxLen ∧ ∀ i, i < len → ∃ (x0 : Bool) (x1 : Int) (x2 : Int) (x3 : Int), w.cell? (ad.add (i * 4 + 0)) = some (.bool x0) ∧ w.cell? (ad.add (i * 4 + 1)) = some (.int .i64 x1) ∧ w.cell? (ad.add (i * 4 + 2)) = some (.int .i64 x2) ∧ w.cell? (ad.add (i * 4 + 3)) = some (.int .i64 x3) ∧ (Lit.int .i64 x1).wf = true ∧ (Lit.int .i64 x2).wf = true ∧ (Lit.int .i64 x3).wf = true
def Walk : Prop := ∀ (a0_0 : Int) (a0_1 : Int) (a0_2 : Int) (a0_3 : Int) (a0_4 : Int) (a1 : Int) (a2 : Option Addr) (len2 cap2 : Nat) (w : World), (Lit.int .i64 a0_0).wf = true → (Lit.int .i64 a0_1).wf = true → (Lit.int .i64 a0_2).wf = true → (Lit.int .i64 a0_3).wf = true → (Lit.int .i64 a0_4).wf = true → (Lit.int .i64 a1).wf = true → Elems2 w a2 len2 cap2 → len2 * 32 ≤ 140737488351232 → Calls Try.prog 3 #[.agg #[.int .i64 a0_0, .int .i64 a0_1, .int .i64 a0_2, .int .i64 a0_3, .int .i64 a0_4], .int .i64 a1, .slice a2 len2 cap2] w fun e w' => e = .returned (.bool true) ∧ Below w.heap.size w w'
end Go.Proofs.Ytalefchapckcoaa.ArgGateKeeps
