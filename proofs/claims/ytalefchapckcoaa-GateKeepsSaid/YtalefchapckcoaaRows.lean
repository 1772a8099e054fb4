/-
  No cell of these rows narrows 'for every input' (looked for: loops, veiled, ifaces, maps, wideKeys, modest, calm, conditions, laid).
  DERIVED. THE GIVEN ROWS OF THIS SEAT. 5 by the template 'for every input the law returns true; each argument reads behind the call as it read before'; 0 by the template 'total and deterministic' (their statements: YtalefchapckcoaaTotals.lean).
  GIVEN WITH THE SEED: the statements are not yours to turn. If you find one false, say at which input.
  Laid BY PROGRAM, IN A SANDBOX (cutbox-rows.mjs): the forced cells as the released guide's own fill.sh prints them over the translation ae8fdba33467ece2… (all of the seat's roots in one cut). By AI agents, Wed Nov 11 2026. No macro, syntax, notation, axiom, sorry.
-/
import Derived.Test.YtalefchapckcoaaChecked
import GoSem.Claim
import GoSem.ClaimJoined
import GoSem.ClaimMapViews
import Derived.JoinedTies
import Derived.KernelRfl
namespace Go.Proofs.Ytalefchapckcoaa
/- THE CELL 'sum', in the pinned program and in every row, IS THE sha256 OF THE DUMP (.gsa) THAT YtalefchapckcoaaProg.lean LOADS. Nothing in Lean hashes anything: it is a label: what it is worth is what the hold of that sum in a sandbox is worth. -/
noncomputable def Try.pinned : Pinned := { name := "ytalefchapckcoaa", sum := "ae8fdba33467ece2a1aba6c275029a39a830e1d9cc64a52001b88264e8677b43", checked := Try.checked }
namespace Rows
def none {H : Type} : Left H := { results := [], args := [] }

/-- 'capstanlaw25.GateKeeps': WHATEVER THE INPUT: true; the input reads as it did. -/
def gateKeepsSpec : ChangeSpec := { name := "gateKeeps", fn := fun _ => fun
  | [d1, d2, d3] => { results := [.lit (.bool true)], args := [d1, d2, d3] }
  | _ => none }
def gateKeepsRow : OpenClaim := { program := "ytalefchapckcoaa", sum := "ae8fdba33467ece2a1aba6c275029a39a830e1d9cc64a52001b88264e8677b43", func := "capstan/capstanlaw25.GateKeeps", spec := "gateKeeps", apart := false }
def GateKeepsSaid : Prop := gateKeepsRow.holds Try.pinned (OpenSpec.ofChange gateKeepsSpec)

/-- ITS FALSE NEIGHBOUR: 'it returns false'. Refute it at one input. -/
def gateKeepsWrong : ChangeSpec := { name := "gateKeeps", fn := fun _ => fun
  | [d1, d2, d3] => { results := [.lit (.bool false)], args := [d1, d2, d3] }
  | _ => none }
def GateKeepsWrongFalsely : Prop := gateKeepsRow.holds Try.pinned (OpenSpec.ofChange gateKeepsWrong)

/-- 'capstanlaw25.GateReaches': WHATEVER THE INPUT: true; the input reads as it did. -/
def gateReachesSpec : ChangeSpec := { name := "gateReaches", fn := fun _ => fun
  | [d1, d2, d3] => { results := [.lit (.bool true)], args := [d1, d2, d3] }
  | _ => none }
def gateReachesRow : OpenClaim := { program := "ytalefchapckcoaa", sum := "ae8fdba33467ece2a1aba6c275029a39a830e1d9cc64a52001b88264e8677b43", func := "capstan/capstanlaw25.GateReaches", spec := "gateReaches", apart := false }
def GateReachesSaid : Prop := gateReachesRow.holds Try.pinned (OpenSpec.ofChange gateReachesSpec)

/-- ITS FALSE NEIGHBOUR: 'it returns false'. Refute it at one input. -/
def gateReachesWrong : ChangeSpec := { name := "gateReaches", fn := fun _ => fun
  | [d1, d2, d3] => { results := [.lit (.bool false)], args := [d1, d2, d3] }
  | _ => none }
def GateReachesWrongFalsely : Prop := gateReachesRow.holds Try.pinned (OpenSpec.ofChange gateReachesWrong)

/-- 'capstanlaw25.GateStale': WHATEVER THE INPUT: true; the input reads as it did. -/
def gateStaleSpec : ChangeSpec := { name := "gateStale", fn := fun _ => fun
  | [d1, d2, d3] => { results := [.lit (.bool true)], args := [d1, d2, d3] }
  | _ => none }
def gateStaleRow : OpenClaim := { program := "ytalefchapckcoaa", sum := "ae8fdba33467ece2a1aba6c275029a39a830e1d9cc64a52001b88264e8677b43", func := "capstan/capstanlaw25.GateStale", spec := "gateStale", apart := false }
def GateStaleSaid : Prop := gateStaleRow.holds Try.pinned (OpenSpec.ofChange gateStaleSpec)

/-- ITS FALSE NEIGHBOUR: 'it returns false'. Refute it at one input. -/
def gateStaleWrong : ChangeSpec := { name := "gateStale", fn := fun _ => fun
  | [d1, d2, d3] => { results := [.lit (.bool false)], args := [d1, d2, d3] }
  | _ => none }
def GateStaleWrongFalsely : Prop := gateStaleRow.holds Try.pinned (OpenSpec.ofChange gateStaleWrong)

/-- 'capstanlaw25.GateBinds': WHATEVER THE INPUT: true; the input reads as it did. -/
def gateBindsSpec : ChangeSpec := { name := "gateBinds", fn := fun _ => fun
  | [d1, d2, d3] => { results := [.lit (.bool true)], args := [d1, d2, d3] }
  | _ => none }
def gateBindsRow : OpenClaim := { program := "ytalefchapckcoaa", sum := "ae8fdba33467ece2a1aba6c275029a39a830e1d9cc64a52001b88264e8677b43", func := "capstan/capstanlaw25.GateBinds", spec := "gateBinds", apart := false }
def GateBindsSaid : Prop := gateBindsRow.holds Try.pinned (OpenSpec.ofChange gateBindsSpec)

/-- ITS FALSE NEIGHBOUR: 'it returns false'. Refute it at one input. -/
def gateBindsWrong : ChangeSpec := { name := "gateBinds", fn := fun _ => fun
  | [d1, d2, d3] => { results := [.lit (.bool false)], args := [d1, d2, d3] }
  | _ => none }
def GateBindsWrongFalsely : Prop := gateBindsRow.holds Try.pinned (OpenSpec.ofChange gateBindsWrong)

/-- 'capstanlaw25.GateNil': WHATEVER THE INPUT: true; the input reads as it did. -/
def gateNilSpec : ChangeSpec := { name := "gateNil", fn := fun _ => fun
  | [d] => { results := [.lit (.bool true)], args := [d] }
  | _ => none }
def gateNilRow : OpenClaim := { program := "ytalefchapckcoaa", sum := "ae8fdba33467ece2a1aba6c275029a39a830e1d9cc64a52001b88264e8677b43", func := "capstan/capstanlaw25.GateNil", spec := "gateNil", apart := false }
def GateNilSaid : Prop := gateNilRow.holds Try.pinned (OpenSpec.ofChange gateNilSpec)

/-- ITS FALSE NEIGHBOUR: 'it returns false'. Refute it at one input. -/
def gateNilWrong : ChangeSpec := { name := "gateNil", fn := fun _ => fun
  | [d] => { results := [.lit (.bool false)], args := [d] }
  | _ => none }
def GateNilWrongFalsely : Prop := gateNilRow.holds Try.pinned (OpenSpec.ofChange gateNilWrong)

/- THE SECOND FORM. 'bulk': how many values and letters a reading holds, each counted each time it is reached (what is shared counts as often as it is met; a slice's spare places count too). A statement '..UptoSaid' is the law's where the arguments, and the package variables that the reading takes, are together of bulk at most 1048576: NARROWER than '..Said'. Prove '..Said' where nothing that the law and all that it calls make is longer than what came in: it says more and counts as full. Else prove '..UptoSaid'. A law counts once. -/
mutual
def uptoBulk {H : Type} : DataW H → Nat
  | .lit (.string bytes) => bytes.length + 1
  | .lit _ => 1
  | .nil => 1
  | .ptr d => uptoBulk d + 1
  | .slice elems spare => uptoBulkAll elems + uptoBulkAll spare + 1
  | .agg parts => uptoBulkAll parts + 1
  | .iface _ d => uptoBulk d + 1
  | .map entries => uptoBulkEntries entries + 1
  | .held _ => 1
def uptoBulkAll {H : Type} : List (DataW H) → Nat
  | [] => 0
  | d :: r => uptoBulk d + uptoBulkAll r
def uptoBulkEntries {H : Type} : List (Lit × DataW H) → Nat
  | [] => 0
  | x :: r => uptoBulkEntry x + uptoBulkEntries r
def uptoBulkEntry {H : Type} : Lit × DataW H → Nat
  | (.string bytes, d) => bytes.length + uptoBulk d + 1
  | (_, d) => uptoBulk d + 1
 end
def uptoSmall : (H : Type) → List (DataW H) → Bool := fun _ ds => decide (uptoBulkAll ds ≤ 1048576)
def OpenSpec.upto (s : _root_.Go.ChangeSpec) : _root_.Go.OpenSpec := { _root_.Go.OpenSpec.ofChange s with cond := some uptoSmall }

/-- 'capstanlaw25.GateKeeps', WHERE WHAT IT READS IS OF BULK AT MOST 1048576: true; the input reads as it did. -/
def gateKeepsUptoRow : OpenClaim := { program := "ytalefchapckcoaa", sum := "ae8fdba33467ece2a1aba6c275029a39a830e1d9cc64a52001b88264e8677b43", func := "capstan/capstanlaw25.GateKeeps", spec := "gateKeeps", apart := false, narrowed := true }
def GateKeepsUptoSaid : Prop := gateKeepsUptoRow.holds Try.pinned (OpenSpec.upto gateKeepsSpec)

/-- 'capstanlaw25.GateReaches', WHERE WHAT IT READS IS OF BULK AT MOST 1048576: true; the input reads as it did. -/
def gateReachesUptoRow : OpenClaim := { program := "ytalefchapckcoaa", sum := "ae8fdba33467ece2a1aba6c275029a39a830e1d9cc64a52001b88264e8677b43", func := "capstan/capstanlaw25.GateReaches", spec := "gateReaches", apart := false, narrowed := true }
def GateReachesUptoSaid : Prop := gateReachesUptoRow.holds Try.pinned (OpenSpec.upto gateReachesSpec)

/-- 'capstanlaw25.GateStale', WHERE WHAT IT READS IS OF BULK AT MOST 1048576: true; the input reads as it did. -/
def gateStaleUptoRow : OpenClaim := { program := "ytalefchapckcoaa", sum := "ae8fdba33467ece2a1aba6c275029a39a830e1d9cc64a52001b88264e8677b43", func := "capstan/capstanlaw25.GateStale", spec := "gateStale", apart := false, narrowed := true }
def GateStaleUptoSaid : Prop := gateStaleUptoRow.holds Try.pinned (OpenSpec.upto gateStaleSpec)

/-- 'capstanlaw25.GateBinds', WHERE WHAT IT READS IS OF BULK AT MOST 1048576: true; the input reads as it did. -/
def gateBindsUptoRow : OpenClaim := { program := "ytalefchapckcoaa", sum := "ae8fdba33467ece2a1aba6c275029a39a830e1d9cc64a52001b88264e8677b43", func := "capstan/capstanlaw25.GateBinds", spec := "gateBinds", apart := false, narrowed := true }
def GateBindsUptoSaid : Prop := gateBindsUptoRow.holds Try.pinned (OpenSpec.upto gateBindsSpec)

/-- 'capstanlaw25.GateNil', WHERE WHAT IT READS IS OF BULK AT MOST 1048576: true; the input reads as it did. -/
def gateNilUptoRow : OpenClaim := { program := "ytalefchapckcoaa", sum := "ae8fdba33467ece2a1aba6c275029a39a830e1d9cc64a52001b88264e8677b43", func := "capstan/capstanlaw25.GateNil", spec := "gateNil", apart := false, narrowed := true }
def GateNilUptoSaid : Prop := gateNilUptoRow.holds Try.pinned (OpenSpec.upto gateNilSpec)

end Rows
end Go.Proofs.Ytalefchapckcoaa
