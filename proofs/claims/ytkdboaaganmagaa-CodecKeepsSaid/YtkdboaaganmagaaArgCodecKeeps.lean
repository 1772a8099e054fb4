/- What is to be shown of the call of CodecKeeps: it answers true and leaves what was there, whatever the arguments. -/
import Derived.Test.YtkdboaaganmagaaRows
import Derived.Below
namespace Go.Proofs.Ytkdboaaganmagaa.ArgCodecKeeps
open Go.RowKit
/-- A slice that came in: nil, or all its elements' cells are known. -/
def Elems0_6 (w : World) (a : Option Addr) (len cap : Nat) : Prop :=
  (a = none ∧ len = 0 ∧ cap = 0) ∨ ∃ ad, a = some ad ∧ len ≤ cap ∧ cap ≤ maxLen ∧ ∀ i, i < len → ∃ (x0 : Int), w.cell? (ad.add (i * 1 + 0)) = some (.int .i64 x0) ∧ (Lit.int .i64 x0).wf = true
/-- A slice that came in: nil, or all its elements' cells are known. -/
def Elems0_7 (w : World) (a : Option Addr) (len cap : Nat) : Prop :=
  (a = none ∧ len = 0 ∧ cap = 0) ∨ ∃ ad, a = some ad ∧ len ≤ cap ∧ cap ≤ maxLen ∧ ∀ i, i < len → ∃ (x0 : Int) (x1 : Int) (x2 : Int) (x3 : Int), w.cell? (ad.add (i * 4 + 0)) = some (.int .i64 x0) ∧ w.cell? (ad.add (i * 4 + 1)) = some (.int .i64 x1) ∧ w.cell? (ad.add (i * 4 + 2)) = some (.int .i64 x2) ∧ w.cell? (ad.add (i * 4 + 3)) = some (.int .i64 x3) ∧ (Lit.int .i64 x0).wf = true ∧ (Lit.int .i64 x1).wf = true ∧ (Lit.int .i64 x2).wf = true ∧ (Lit.int .i64 x3).wf = true
/-- A slice that came in: nil, or all its elements' cells are known. -/
def Elems0_8 (w : World) (a : Option Addr) (len cap : Nat) : Prop :=
  (a = none ∧ len = 0 ∧ cap = 0) ∨ ∃ ad, a = some ad ∧ len ≤ cap ∧ cap ≤ maxLen ∧ ∀ i, i < len → ∃ (x0 : Int) (x1 : Int) (x2 : Int) (x3 : Int) (x4 : Int), w.cell? (ad.add (i * 5 + 0)) = some (.int .u64 x0) ∧ w.cell? (ad.add (i * 5 + 1)) = some (.int .u64 x1) ∧ w.cell? (ad.add (i * 5 + 2)) = some (.int .u64 x2) ∧ w.cell? (ad.add (i * 5 + 3)) = some (.int .u64 x3) ∧ w.cell? (ad.add (i * 5 + 4)) = some (.int .u64 x4) ∧ (Lit.int .u64 x0).wf = true ∧ (Lit.int .u64 x1).wf = true ∧ (Lit.int .u64 x2).wf = true ∧ (Lit.int .u64 x3).wf = true ∧ (Lit.int .u64 x4).wf = true
/-- A slice that came in: nil, or all its elements' cells are known. -/
def Elems0_11 (w : World) (a : Option Addr) (len cap : Nat) : Prop :=
  (a = none ∧ len = 0 ∧ cap = 0) ∨ ∃ ad, a = some ad ∧ len ≤ cap ∧ cap ≤ maxLen ∧ ∀ i, i < len → ∃ (x0 : Int) (x1 : Int), w.cell? (ad.add (i * 2 + 0)) = some (.int .i64 x0) ∧ w.cell? (ad.add (i * 2 + 1)) = some (.int .i64 x1) ∧ (Lit.int .i64 x0).wf = true ∧ (Lit.int .i64 x1).wf = true
def Walk : Prop := ∀ (a0_0 : Int) (a0_1 : Int) (a0_2 : Int) (a0_3 : Int) (a0_4 : Int) (a0_5 : Int) (a0_6 : Option Addr) (len0_6 cap0_6 : Nat) (a0_7 : Option Addr) (len0_7 cap0_7 : Nat) (a0_8 : Option Addr) (len0_8 cap0_8 : Nat) (a0_9 : Int) (a0_10 : Int) (a0_11 : Option Addr) (len0_11 cap0_11 : Nat) (w : World), (Lit.int .i64 a0_0).wf = true → (Lit.int .i64 a0_1).wf = true → (Lit.int .i64 a0_2).wf = true → (Lit.int .i64 a0_3).wf = true → (Lit.int .i64 a0_4).wf = true → (Lit.int .i64 a0_5).wf = true → Elems0_6 w a0_6 len0_6 cap0_6 → Elems0_7 w a0_7 len0_7 cap0_7 → Elems0_8 w a0_8 len0_8 cap0_8 → (Lit.int .i64 a0_9).wf = true → (Lit.int .i64 a0_10).wf = true → Elems0_11 w a0_11 len0_11 cap0_11 → Calls Try.prog 8 #[.agg #[.int .i64 a0_0, .int .i64 a0_1, .int .i64 a0_2, .int .i64 a0_3, .int .i64 a0_4, .int .i64 a0_5, .slice a0_6 len0_6 cap0_6, .slice a0_7 len0_7 cap0_7, .slice a0_8 len0_8 cap0_8, .int .i64 a0_9, .int .i64 a0_10, .slice a0_11 len0_11 cap0_11]] w fun e w' => e = .returned (.bool true) ∧ Below w.heap.size w w'
end Go.Proofs.Ytkdboaaganmagaa.ArgCodecKeeps
