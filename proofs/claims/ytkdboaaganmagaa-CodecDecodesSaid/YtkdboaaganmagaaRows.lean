/-
  No cell of these rows narrows 'for every input' (looked for: loops, veiled, ifaces, maps, wideKeys, modest, calm, conditions, laid).
  DERIVED. THE GIVEN ROWS OF THIS SEAT. 6 by the template 'for every input the law returns true; each argument reads behind the call as it read before'; 0 by the template 'total and deterministic' (their statements: YtkdboaaganmagaaTotals.lean).
  GIVEN WITH THE SEED: the statements are not yours to turn. If you find one false, say at which input.
  Laid BY PROGRAM, IN A SANDBOX (cutbox-rows.mjs): the forced cells as the released guide's own fill.sh prints them over the translation 6ac0598609a29c9a… (all of the seat's roots in one cut). By AI agents, Wed Nov 11 2026. No macro, syntax, notation, axiom, sorry.
-/
import Derived.Test.YtkdboaaganmagaaChecked
import GoSem.Claim
import GoSem.ClaimJoined
import GoSem.ClaimMapViews
import Derived.JoinedTies
import Derived.KernelRfl
namespace Go.Proofs.Ytkdboaaganmagaa
/- THE CELL 'sum', in the pinned program and in every row, IS THE sha256 OF THE DUMP (.gsa) THAT YtkdboaaganmagaaProg.lean LOADS. Nothing in Lean hashes anything: it is a label: what it is worth is what the hold of that sum in a sandbox is worth. -/
noncomputable def Try.pinned : Pinned := { name := "ytkdboaaganmagaa", sum := "6ac0598609a29c9a9bb7167175309b01a910cea9b4c469ef5850ff4e0560fd94", checked := Try.checked }
namespace Rows
def none {H : Type} : Left H := { results := [], args := [] }

/-- 'capstanlaw22.CodecEncodes': WHATEVER THE INPUT: true; the input reads as it did. -/
def codecEncodesSpec : ChangeSpec := { name := "codecEncodes", fn := fun _ => fun
  | [d] => { results := [.lit (.bool true)], args := [d] }
  | _ => none }
def codecEncodesRow : OpenClaim := { program := "ytkdboaaganmagaa", sum := "6ac0598609a29c9a9bb7167175309b01a910cea9b4c469ef5850ff4e0560fd94", func := "capstan/capstanlaw22.CodecEncodes", spec := "codecEncodes", unfollowed := true, recurses := true, apart := false }
def CodecEncodesSaid : Prop := codecEncodesRow.holds Try.pinned (OpenSpec.ofChange codecEncodesSpec)

/-- ITS FALSE NEIGHBOUR: 'it returns false'. Refute it at one input. -/
def codecEncodesWrong : ChangeSpec := { name := "codecEncodes", fn := fun _ => fun
  | [d] => { results := [.lit (.bool false)], args := [d] }
  | _ => none }
def CodecEncodesWrongFalsely : Prop := codecEncodesRow.holds Try.pinned (OpenSpec.ofChange codecEncodesWrong)

/-- 'capstanlaw22.CodecDecodes': WHATEVER THE INPUT: true; the input reads as it did. -/
def codecDecodesSpec : ChangeSpec := { name := "codecDecodes", fn := fun _ => fun
  | [d] => { results := [.lit (.bool true)], args := [d] }
  | _ => none }
def codecDecodesRow : OpenClaim := { program := "ytkdboaaganmagaa", sum := "6ac0598609a29c9a9bb7167175309b01a910cea9b4c469ef5850ff4e0560fd94", func := "capstan/capstanlaw22.CodecDecodes", spec := "codecDecodes", unfollowed := true, recurses := true, apart := false }
def CodecDecodesSaid : Prop := codecDecodesRow.holds Try.pinned (OpenSpec.ofChange codecDecodesSpec)

/-- ITS FALSE NEIGHBOUR: 'it returns false'. Refute it at one input. -/
def codecDecodesWrong : ChangeSpec := { name := "codecDecodes", fn := fun _ => fun
  | [d] => { results := [.lit (.bool false)], args := [d] }
  | _ => none }
def CodecDecodesWrongFalsely : Prop := codecDecodesRow.holds Try.pinned (OpenSpec.ofChange codecDecodesWrong)

/-- 'capstanlaw22.CodecBack': WHATEVER THE INPUT: true; the input reads as it did. -/
def codecBackSpec : ChangeSpec := { name := "codecBack", fn := fun _ => fun
  | [d1, d2] => { results := [.lit (.bool true)], args := [d1, d2] }
  | _ => none }
def codecBackRow : OpenClaim := { program := "ytkdboaaganmagaa", sum := "6ac0598609a29c9a9bb7167175309b01a910cea9b4c469ef5850ff4e0560fd94", func := "capstan/capstanlaw22.CodecBack", spec := "codecBack", unfollowed := true, recurses := true, apart := false }
def CodecBackSaid : Prop := codecBackRow.holds Try.pinned (OpenSpec.ofChange codecBackSpec)

/-- ITS FALSE NEIGHBOUR: 'it returns false'. Refute it at one input. -/
def codecBackWrong : ChangeSpec := { name := "codecBack", fn := fun _ => fun
  | [d1, d2] => { results := [.lit (.bool false)], args := [d1, d2] }
  | _ => none }
def CodecBackWrongFalsely : Prop := codecBackRow.holds Try.pinned (OpenSpec.ofChange codecBackWrong)

/-- 'capstanlaw22.CodecCut': WHATEVER THE INPUT: true; the input reads as it did. -/
def codecCutSpec : ChangeSpec := { name := "codecCut", fn := fun _ => fun
  | [d1, d2, d3] => { results := [.lit (.bool true)], args := [d1, d2, d3] }
  | _ => none }
def codecCutRow : OpenClaim := { program := "ytkdboaaganmagaa", sum := "6ac0598609a29c9a9bb7167175309b01a910cea9b4c469ef5850ff4e0560fd94", func := "capstan/capstanlaw22.CodecCut", spec := "codecCut", unfollowed := true, recurses := true, apart := false }
def CodecCutSaid : Prop := codecCutRow.holds Try.pinned (OpenSpec.ofChange codecCutSpec)

/-- ITS FALSE NEIGHBOUR: 'it returns false'. Refute it at one input. -/
def codecCutWrong : ChangeSpec := { name := "codecCut", fn := fun _ => fun
  | [d1, d2, d3] => { results := [.lit (.bool false)], args := [d1, d2, d3] }
  | _ => none }
def CodecCutWrongFalsely : Prop := codecCutRow.holds Try.pinned (OpenSpec.ofChange codecCutWrong)

/-- 'capstanlaw22.CodecTurns': WHATEVER THE INPUT: true; the input reads as it did. -/
def codecTurnsSpec : ChangeSpec := { name := "codecTurns", fn := fun _ => fun
  | [d1, d2] => { results := [.lit (.bool true)], args := [d1, d2] }
  | _ => none }
def codecTurnsRow : OpenClaim := { program := "ytkdboaaganmagaa", sum := "6ac0598609a29c9a9bb7167175309b01a910cea9b4c469ef5850ff4e0560fd94", func := "capstan/capstanlaw22.CodecTurns", spec := "codecTurns", unfollowed := true, recurses := true, apart := false }
def CodecTurnsSaid : Prop := codecTurnsRow.holds Try.pinned (OpenSpec.ofChange codecTurnsSpec)

/-- ITS FALSE NEIGHBOUR: 'it returns false'. Refute it at one input. -/
def codecTurnsWrong : ChangeSpec := { name := "codecTurns", fn := fun _ => fun
  | [d1, d2] => { results := [.lit (.bool false)], args := [d1, d2] }
  | _ => none }
def CodecTurnsWrongFalsely : Prop := codecTurnsRow.holds Try.pinned (OpenSpec.ofChange codecTurnsWrong)

/-- 'capstanlaw22.CodecKeeps': WHATEVER THE INPUT: true; the input reads as it did. -/
def codecKeepsSpec : ChangeSpec := { name := "codecKeeps", fn := fun _ => fun
  | [d] => { results := [.lit (.bool true)], args := [d] }
  | _ => none }
def codecKeepsRow : OpenClaim := { program := "ytkdboaaganmagaa", sum := "6ac0598609a29c9a9bb7167175309b01a910cea9b4c469ef5850ff4e0560fd94", func := "capstan/capstanlaw22.CodecKeeps", spec := "codecKeeps", unfollowed := true, recurses := true, apart := false }
def CodecKeepsSaid : Prop := codecKeepsRow.holds Try.pinned (OpenSpec.ofChange codecKeepsSpec)

/-- ITS FALSE NEIGHBOUR: 'it returns false'. Refute it at one input. -/
def codecKeepsWrong : ChangeSpec := { name := "codecKeeps", fn := fun _ => fun
  | [d] => { results := [.lit (.bool false)], args := [d] }
  | _ => none }
def CodecKeepsWrongFalsely : Prop := codecKeepsRow.holds Try.pinned (OpenSpec.ofChange codecKeepsWrong)

/- THE SECOND FORM. 'bulk': how many values and letters a reading holds, each counted each time it is reached (what is shared counts as often as it is met; a slice's spare places count too). A statement '..UptoSaid' is the law's where the arguments, and the package variables that the reading takes, are together of bulk at most 1048576: NARROWER than '..Said'. Prove '..Said' where nothing that the law and all that it calls make is longer than what came in: it says more and counts as full. Else prove '..UptoSaid'. A law counts once. -/
mutual
def uptoBulk {H : Type} : DataW H → Nat
  | .lit (.string bytes) => bytes.length + 1
  | .lit _ => 1
  | .nil => 1
  | .ptr d => uptoBulk d + 1
  | .slice elems spare => uptoBulkAll elems + uptoBulkAll spare + 1
  | .agg parts => uptoBulkAll parts + 1
  | .iface _ d => uptoBulk d + 1
  | .map entries => uptoBulkEntries entries + 1
  | .held _ => 1
def uptoBulkAll {H : Type} : List (DataW H) → Nat
  | [] => 0
  | d :: r => uptoBulk d + uptoBulkAll r
def uptoBulkEntries {H : Type} : List (Lit × DataW H) → Nat
  | [] => 0
  | x :: r => uptoBulkEntry x + uptoBulkEntries r
def uptoBulkEntry {H : Type} : Lit × DataW H → Nat
  | (.string bytes, d) => bytes.length + uptoBulk d + 1
  | (_, d) => uptoBulk d + 1
 end
def uptoSmall : (H : Type) → List (DataW H) → Bool := fun _ ds => decide (uptoBulkAll ds ≤ 1048576)
def OpenSpec.upto (s : _root_.Go.ChangeSpec) : _root_.Go.OpenSpec := { _root_.Go.OpenSpec.ofChange s with cond := some uptoSmall }

/-- 'capstanlaw22.CodecEncodes', WHERE WHAT IT READS IS OF BULK AT MOST 1048576: true; the input reads as it did. -/
def codecEncodesUptoRow : OpenClaim := { program := "ytkdboaaganmagaa", sum := "6ac0598609a29c9a9bb7167175309b01a910cea9b4c469ef5850ff4e0560fd94", func := "capstan/capstanlaw22.CodecEncodes", spec := "codecEncodes", unfollowed := true, recurses := true, apart := false, narrowed := true }
def CodecEncodesUptoSaid : Prop := codecEncodesUptoRow.holds Try.pinned (OpenSpec.upto codecEncodesSpec)

/-- 'capstanlaw22.CodecDecodes', WHERE WHAT IT READS IS OF BULK AT MOST 1048576: true; the input reads as it did. -/
def codecDecodesUptoRow : OpenClaim := { program := "ytkdboaaganmagaa", sum := "6ac0598609a29c9a9bb7167175309b01a910cea9b4c469ef5850ff4e0560fd94", func := "capstan/capstanlaw22.CodecDecodes", spec := "codecDecodes", unfollowed := true, recurses := true, apart := false, narrowed := true }
def CodecDecodesUptoSaid : Prop := codecDecodesUptoRow.holds Try.pinned (OpenSpec.upto codecDecodesSpec)

/-- 'capstanlaw22.CodecBack', WHERE WHAT IT READS IS OF BULK AT MOST 1048576: true; the input reads as it did. -/
def codecBackUptoRow : OpenClaim := { program := "ytkdboaaganmagaa", sum := "6ac0598609a29c9a9bb7167175309b01a910cea9b4c469ef5850ff4e0560fd94", func := "capstan/capstanlaw22.CodecBack", spec := "codecBack", unfollowed := true, recurses := true, apart := false, narrowed := true }
def CodecBackUptoSaid : Prop := codecBackUptoRow.holds Try.pinned (OpenSpec.upto codecBackSpec)

/-- 'capstanlaw22.CodecCut', WHERE WHAT IT READS IS OF BULK AT MOST 1048576: true; the input reads as it did. -/
def codecCutUptoRow : OpenClaim := { program := "ytkdboaaganmagaa", sum := "6ac0598609a29c9a9bb7167175309b01a910cea9b4c469ef5850ff4e0560fd94", func := "capstan/capstanlaw22.CodecCut", spec := "codecCut", unfollowed := true, recurses := true, apart := false, narrowed := true }
def CodecCutUptoSaid : Prop := codecCutUptoRow.holds Try.pinned (OpenSpec.upto codecCutSpec)

/-- 'capstanlaw22.CodecTurns', WHERE WHAT IT READS IS OF BULK AT MOST 1048576: true; the input reads as it did. -/
def codecTurnsUptoRow : OpenClaim := { program := "ytkdboaaganmagaa", sum := "6ac0598609a29c9a9bb7167175309b01a910cea9b4c469ef5850ff4e0560fd94", func := "capstan/capstanlaw22.CodecTurns", spec := "codecTurns", unfollowed := true, recurses := true, apart := false, narrowed := true }
def CodecTurnsUptoSaid : Prop := codecTurnsUptoRow.holds Try.pinned (OpenSpec.upto codecTurnsSpec)

/-- 'capstanlaw22.CodecKeeps', WHERE WHAT IT READS IS OF BULK AT MOST 1048576: true; the input reads as it did. -/
def codecKeepsUptoRow : OpenClaim := { program := "ytkdboaaganmagaa", sum := "6ac0598609a29c9a9bb7167175309b01a910cea9b4c469ef5850ff4e0560fd94", func := "capstan/capstanlaw22.CodecKeeps", spec := "codecKeeps", unfollowed := true, recurses := true, apart := false, narrowed := true }
def CodecKeepsUptoSaid : Prop := codecKeepsUptoRow.holds Try.pinned (OpenSpec.upto codecKeepsSpec)

end Rows
end Go.Proofs.Ytkdboaaganmagaa
