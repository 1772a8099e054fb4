/- What is to be shown of the call of CodecDecodes: it answers true and leaves what was there, whatever the arguments. -/
import Derived.Test.YtkdboaaganmagaaRows
import Derived.Below
namespace Go.Proofs.Ytkdboaaganmagaa.ArgCodecDecodes
open Go.RowKit
/-- A slice that came in: nil, or all its elements' cells are known. -/
def Elems0 (w : World) (a : Option Addr) (len cap : Nat) : Prop :=
  (a = none ∧ len = 0 ∧ cap = 0) ∨ ∃ ad, a = some ad ∧ len ≤ cap ∧ cap ≤ maxLen ∧ ∀ i, i < len → ∃ (x0 : Int), w.cell? (ad.add (i * 1 + 0)) = some (.int .u8 x0) ∧ (Lit.int .u8 x0).wf = true
def Walk : Prop := ∀ (a0 : Option Addr) (len0 cap0 : Nat) (w : World), Elems0 w a0 len0 cap0 → len0 * 1 ≤ 140737488351232 → Calls Try.prog 4 #[.slice a0 len0 cap0] w fun e w' => e = .returned (.bool true) ∧ Below w.heap.size w w'
end Go.Proofs.Ytkdboaaganmagaa.ArgCodecDecodes
