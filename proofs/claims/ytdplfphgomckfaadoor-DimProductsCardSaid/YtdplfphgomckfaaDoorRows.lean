/-
  NARROWER THAN 'FOR EVERY INPUT', by the rows' own cells (each row's printed sentence says how): DimReads: laid · DimJoins: laid · DimTexts: laid · DimGroup: laid · DimValues: laid · DimProducts: laid.
  DERIVED. THE GIVEN ROWS OF THIS SEAT. 6 by the template 'for every input the law returns true; each argument reads behind the call as it read before'; 0 by the template 'total and deterministic' (their statements: YtdplfphgomckfaaDoorTotals.lean).
  GIVEN WITH THE SEED: the statements are not yours to turn. If you find one false, say at which input.
  Laid BY PROGRAM, IN A SANDBOX (cutbox-rows.mjs): the forced cells as the released guide's own fill.sh prints them over the translation 88153b6c7897ed4a… (all of the seat's roots in one cut). By AI agents, Wed Nov 11 2026. No macro, syntax, notation, axiom, sorry.
-/
import Derived.Test.YtdplfphgomckfaaDoorChecked
import GoSem.Claim
import GoSem.ClaimJoined
import GoSem.ClaimMapViews
import Derived.JoinedTies
import Derived.KernelRfl
namespace Go.Proofs.YtdplfphgomckfaaDoor
/- THE CELL 'sum', in the pinned program and in every row, IS THE sha256 OF THE DUMP (.gsa) THAT YtdplfphgomckfaaDoorProg.lean LOADS. Nothing in Lean hashes anything: it is a label: what it is worth is what the hold of that sum in a sandbox is worth. -/
noncomputable def Tryd.pinned : Pinned := { name := "ytdplfphgomckfaadoor", sum := "88153b6c7897ed4a2059b26f180a17338afcfa9568b29b3b18d910119990a7d4", checked := Tryd.checked }
namespace Rows
def none {H : Type} : Left H := { results := [], args := [] }

/- WHAT THE LISTED PACKAGE-LEVEL VARIABLES READ AS WHEN THE CALL BEGINS. Each datum BY PROGRAM (the guide's laid-datum.mjs) off the statement by which the dump's own 'gosem.cut.vars' lays the variable. In a bare row this is a premise. The card (YtdplfphgomckfaaDoorCards.lean) ties it to the program's text. -/
def laid_math_bits_deBruijn32tab {H : Type} : DataW H := .agg [.lit (.int .u8 0), .lit (.int .u8 1), .lit (.int .u8 28), .lit (.int .u8 2), .lit (.int .u8 29), .lit (.int .u8 14), .lit (.int .u8 24), .lit (.int .u8 3), .lit (.int .u8 30), .lit (.int .u8 22), .lit (.int .u8 20), .lit (.int .u8 15), .lit (.int .u8 25), .lit (.int .u8 17), .lit (.int .u8 4), .lit (.int .u8 8), .lit (.int .u8 31), .lit (.int .u8 27), .lit (.int .u8 13), .lit (.int .u8 23), .lit (.int .u8 21), .lit (.int .u8 19), .lit (.int .u8 16), .lit (.int .u8 7), .lit (.int .u8 26), .lit (.int .u8 12), .lit (.int .u8 18), .lit (.int .u8 6), .lit (.int .u8 11), .lit (.int .u8 5), .lit (.int .u8 10), .lit (.int .u8 9)]
def laid_math_bits_deBruijn64tab {H : Type} : DataW H := .agg [.lit (.int .u8 0), .lit (.int .u8 1), .lit (.int .u8 56), .lit (.int .u8 2), .lit (.int .u8 57), .lit (.int .u8 49), .lit (.int .u8 28), .lit (.int .u8 3), .lit (.int .u8 61), .lit (.int .u8 58), .lit (.int .u8 42), .lit (.int .u8 50), .lit (.int .u8 38), .lit (.int .u8 29), .lit (.int .u8 17), .lit (.int .u8 4), .lit (.int .u8 62), .lit (.int .u8 47), .lit (.int .u8 59), .lit (.int .u8 36), .lit (.int .u8 45), .lit (.int .u8 43), .lit (.int .u8 51), .lit (.int .u8 22), .lit (.int .u8 53), .lit (.int .u8 39), .lit (.int .u8 33), .lit (.int .u8 30), .lit (.int .u8 24), .lit (.int .u8 18), .lit (.int .u8 12), .lit (.int .u8 5), .lit (.int .u8 63), .lit (.int .u8 55), .lit (.int .u8 48), .lit (.int .u8 27), .lit (.int .u8 60), .lit (.int .u8 41), .lit (.int .u8 37), .lit (.int .u8 16), .lit (.int .u8 46), .lit (.int .u8 35), .lit (.int .u8 44), .lit (.int .u8 21), .lit (.int .u8 52), .lit (.int .u8 32), .lit (.int .u8 23), .lit (.int .u8 11), .lit (.int .u8 54), .lit (.int .u8 26), .lit (.int .u8 40), .lit (.int .u8 15), .lit (.int .u8 34), .lit (.int .u8 20), .lit (.int .u8 31), .lit (.int .u8 10), .lit (.int .u8 25), .lit (.int .u8 14), .lit (.int .u8 19), .lit (.int .u8 9), .lit (.int .u8 13), .lit (.int .u8 8), .lit (.int .u8 7), .lit (.int .u8 6)]
def laid_internal_strconv_uint64pow10 {H : Type} : DataW H := .agg [.lit (.int .u64 1), .lit (.int .u64 10), .lit (.int .u64 100), .lit (.int .u64 1000), .lit (.int .u64 10000), .lit (.int .u64 100000), .lit (.int .u64 1000000), .lit (.int .u64 10000000), .lit (.int .u64 100000000), .lit (.int .u64 1000000000), .lit (.int .u64 10000000000), .lit (.int .u64 100000000000), .lit (.int .u64 1000000000000), .lit (.int .u64 10000000000000), .lit (.int .u64 100000000000000), .lit (.int .u64 1000000000000000), .lit (.int .u64 10000000000000000), .lit (.int .u64 100000000000000000), .lit (.int .u64 1000000000000000000), .lit (.int .u64 10000000000000000000)]
def laid_strconv_ErrRange {H : Type} : DataW H := .iface "*errors.errorString" (.ptr (.agg [.lit (.string [118, 97, 108, 117, 101, 32, 111, 117, 116, 32, 111, 102, 32, 114, 97, 110, 103, 101])]))
def laid_strconv_ErrSyntax {H : Type} : DataW H := .iface "*errors.errorString" (.ptr (.agg [.lit (.string [105, 110, 118, 97, 108, 105, 100, 32, 115, 121, 110, 116, 97, 120])]))
def laid_capstan_dim_table {H : Type} : DataW H := .agg [.agg [.lit (.string [111, 110, 101]), .lit (.int .i64 1), .lit (.int .i64 1), .lit (.int .i64 (-1))], .agg [.lit (.string [112, 99, 116]), .lit (.int .i64 1), .lit (.int .i64 100), .lit (.int .i64 (-1))], .agg [.lit (.string [115]), .lit (.int .i64 1), .lit (.int .i64 1), .lit (.int .i64 0)], .agg [.lit (.string [109, 115]), .lit (.int .i64 1), .lit (.int .i64 1000), .lit (.int .i64 0)], .agg [.lit (.string [109, 105, 110]), .lit (.int .i64 60), .lit (.int .i64 1), .lit (.int .i64 0)], .agg [.lit (.string [104]), .lit (.int .i64 3600), .lit (.int .i64 1), .lit (.int .i64 0)], .agg [.lit (.string [100]), .lit (.int .i64 86400), .lit (.int .i64 1), .lit (.int .i64 0)], .agg [.lit (.string [114, 101, 113]), .lit (.int .i64 1), .lit (.int .i64 1), .lit (.int .i64 1)], .agg [.lit (.string [107, 114, 101, 113]), .lit (.int .i64 1000), .lit (.int .i64 1), .lit (.int .i64 1)], .agg [.lit (.string [66]), .lit (.int .i64 1), .lit (.int .i64 1), .lit (.int .i64 2)], .agg [.lit (.string [107, 66]), .lit (.int .i64 1000), .lit (.int .i64 1), .lit (.int .i64 2)], .agg [.lit (.string [77, 66]), .lit (.int .i64 1000000), .lit (.int .i64 1), .lit (.int .i64 2)], .agg [.lit (.string [75, 105, 66]), .lit (.int .i64 1024), .lit (.int .i64 1), .lit (.int .i64 2)], .agg [.lit (.string [77, 105, 66]), .lit (.int .i64 1048576), .lit (.int .i64 1), .lit (.int .i64 2)], .agg [.lit (.string [71, 105, 66]), .lit (.int .i64 1073741824), .lit (.int .i64 1), .lit (.int .i64 2)], .agg [.lit (.string [114, 101, 112]), .lit (.int .i64 1), .lit (.int .i64 1), .lit (.int .i64 3)], .agg [.lit (.string [99, 111, 114, 101]), .lit (.int .i64 1), .lit (.int .i64 1), .lit (.int .i64 4)], .agg [.lit (.string [109, 99, 111, 114, 101]), .lit (.int .i64 1), .lit (.int .i64 1000), .lit (.int .i64 4)]]
def laid_capstan_dim_bases {H : Type} : DataW H := .agg [.lit (.string [115]), .lit (.string [114, 101, 113]), .lit (.string [66]), .lit (.string [114, 101, 112]), .lit (.string [99, 111, 114, 101])]

/-- 'capstanlaw02.DimReads': WHATEVER THE INPUT: true; the input reads as it did. -/
def dimReadsSpec : ChangeSpec := { name := "dimReads", fn := fun _ => fun
  | [d] => { results := [.lit (.bool true)], args := [d] }
  | _ => none }
def dimReadsRow : OpenClaim := { program := "ytdplfphgomckfaadoor", sum := "88153b6c7897ed4a2059b26f180a17338afcfa9568b29b3b18d910119990a7d4", func := "capstan/capstanlaw02.DimReads", spec := "dimReads", unfollowed := true, recurses := true, named := ["capstan/dim.table", "strconv.ErrSyntax", "strconv.ErrRange", "internal/strconv.uint64pow10", "math/bits.deBruijn32tab", "math/bits.deBruijn64tab"], apart := false, laid := [("math/bits.deBruijn32tab", laid_math_bits_deBruijn32tab), ("math/bits.deBruijn64tab", laid_math_bits_deBruijn64tab), ("internal/strconv.uint64pow10", laid_internal_strconv_uint64pow10), ("strconv.ErrRange", laid_strconv_ErrRange), ("strconv.ErrSyntax", laid_strconv_ErrSyntax), ("capstan/dim.table", laid_capstan_dim_table)] }
def DimReadsSaid : Prop := dimReadsRow.holds Tryd.pinned (OpenSpec.ofChange dimReadsSpec)

/-- ITS FALSE NEIGHBOUR: 'it returns false'. Refute it at one input. -/
def dimReadsWrong : ChangeSpec := { name := "dimReads", fn := fun _ => fun
  | [d] => { results := [.lit (.bool false)], args := [d] }
  | _ => none }
def DimReadsWrongFalsely : Prop := dimReadsRow.holds Tryd.pinned (OpenSpec.ofChange dimReadsWrong)

/-- 'capstanlaw02.DimJoins': WHATEVER THE INPUT: true; the input reads as it did. -/
def dimJoinsSpec : ChangeSpec := { name := "dimJoins", fn := fun _ => fun
  | [d1, d2] => { results := [.lit (.bool true)], args := [d1, d2] }
  | _ => none }
def dimJoinsRow : OpenClaim := { program := "ytdplfphgomckfaadoor", sum := "88153b6c7897ed4a2059b26f180a17338afcfa9568b29b3b18d910119990a7d4", func := "capstan/capstanlaw02.DimJoins", spec := "dimJoins", inPlace := ["math/bits.Add64", "math/bits.Sub64"], unfollowed := true, recurses := true, named := ["capstan/dim.table", "strconv.ErrSyntax", "strconv.ErrRange", "internal/strconv.uint64pow10", "math/bits.deBruijn32tab", "math/bits.deBruijn64tab"], apart := false, laid := [("math/bits.deBruijn32tab", laid_math_bits_deBruijn32tab), ("math/bits.deBruijn64tab", laid_math_bits_deBruijn64tab), ("internal/strconv.uint64pow10", laid_internal_strconv_uint64pow10), ("strconv.ErrRange", laid_strconv_ErrRange), ("strconv.ErrSyntax", laid_strconv_ErrSyntax), ("capstan/dim.table", laid_capstan_dim_table)] }
def DimJoinsSaid : Prop := dimJoinsRow.holds Tryd.pinned (OpenSpec.ofChange dimJoinsSpec)

/-- ITS FALSE NEIGHBOUR: 'it returns false'. Refute it at one input. -/
def dimJoinsWrong : ChangeSpec := { name := "dimJoins", fn := fun _ => fun
  | [d1, d2] => { results := [.lit (.bool false)], args := [d1, d2] }
  | _ => none }
def DimJoinsWrongFalsely : Prop := dimJoinsRow.holds Tryd.pinned (OpenSpec.ofChange dimJoinsWrong)

/-- 'capstanlaw02.DimTexts': WHATEVER THE INPUT: true; the input reads as it did. -/
def dimTextsSpec : ChangeSpec := { name := "dimTexts", fn := fun _ => fun
  | [d] => { results := [.lit (.bool true)], args := [d] }
  | _ => none }
def dimTextsRow : OpenClaim := { program := "ytdplfphgomckfaadoor", sum := "88153b6c7897ed4a2059b26f180a17338afcfa9568b29b3b18d910119990a7d4", func := "capstan/capstanlaw02.DimTexts", spec := "dimTexts", inPlace := ["internal/abi.NoEscape", "internal/bytealg.MakeNoZero"], unfollowed := true, recurses := true, named := ["capstan/dim.table", "strconv.ErrSyntax", "strconv.ErrRange", "internal/strconv.uint64pow10", "math/bits.deBruijn32tab", "math/bits.deBruijn64tab", "capstan/dim.bases"], apart := false, laid := [("math/bits.deBruijn32tab", laid_math_bits_deBruijn32tab), ("math/bits.deBruijn64tab", laid_math_bits_deBruijn64tab), ("internal/strconv.uint64pow10", laid_internal_strconv_uint64pow10), ("strconv.ErrRange", laid_strconv_ErrRange), ("strconv.ErrSyntax", laid_strconv_ErrSyntax), ("capstan/dim.table", laid_capstan_dim_table), ("capstan/dim.bases", laid_capstan_dim_bases)] }
def DimTextsSaid : Prop := dimTextsRow.holds Tryd.pinned (OpenSpec.ofChange dimTextsSpec)

/-- ITS FALSE NEIGHBOUR: 'it returns false'. Refute it at one input. -/
def dimTextsWrong : ChangeSpec := { name := "dimTexts", fn := fun _ => fun
  | [d] => { results := [.lit (.bool false)], args := [d] }
  | _ => none }
def DimTextsWrongFalsely : Prop := dimTextsRow.holds Tryd.pinned (OpenSpec.ofChange dimTextsWrong)

/-- 'capstanlaw02.DimGroup': WHATEVER THE INPUT: true; the input reads as it did. -/
def dimGroupSpec : ChangeSpec := { name := "dimGroup", fn := fun _ => fun
  | [d1, d2] => { results := [.lit (.bool true)], args := [d1, d2] }
  | _ => none }
def dimGroupRow : OpenClaim := { program := "ytdplfphgomckfaadoor", sum := "88153b6c7897ed4a2059b26f180a17338afcfa9568b29b3b18d910119990a7d4", func := "capstan/capstanlaw02.DimGroup", spec := "dimGroup", inPlace := ["math/bits.Add64", "math/bits.Sub64", "internal/abi.NoEscape", "internal/bytealg.MakeNoZero"], unfollowed := true, recurses := true, named := ["capstan/dim.table", "strconv.ErrSyntax", "strconv.ErrRange", "internal/strconv.uint64pow10", "math/bits.deBruijn32tab", "math/bits.deBruijn64tab", "capstan/dim.bases"], apart := false, laid := [("math/bits.deBruijn32tab", laid_math_bits_deBruijn32tab), ("math/bits.deBruijn64tab", laid_math_bits_deBruijn64tab), ("internal/strconv.uint64pow10", laid_internal_strconv_uint64pow10), ("strconv.ErrRange", laid_strconv_ErrRange), ("strconv.ErrSyntax", laid_strconv_ErrSyntax), ("capstan/dim.table", laid_capstan_dim_table), ("capstan/dim.bases", laid_capstan_dim_bases)] }
def DimGroupSaid : Prop := dimGroupRow.holds Tryd.pinned (OpenSpec.ofChange dimGroupSpec)

/-- ITS FALSE NEIGHBOUR: 'it returns false'. Refute it at one input. -/
def dimGroupWrong : ChangeSpec := { name := "dimGroup", fn := fun _ => fun
  | [d1, d2] => { results := [.lit (.bool false)], args := [d1, d2] }
  | _ => none }
def DimGroupWrongFalsely : Prop := dimGroupRow.holds Tryd.pinned (OpenSpec.ofChange dimGroupWrong)

/-- 'capstanlaw02.DimValues': WHATEVER THE INPUT: true; the input reads as it did. -/
def dimValuesSpec : ChangeSpec := { name := "dimValues", fn := fun _ => fun
  | [d1, d2] => { results := [.lit (.bool true)], args := [d1, d2] }
  | _ => none }
def dimValuesRow : OpenClaim := { program := "ytdplfphgomckfaadoor", sum := "88153b6c7897ed4a2059b26f180a17338afcfa9568b29b3b18d910119990a7d4", func := "capstan/capstanlaw02.DimValues", spec := "dimValues", inPlace := ["math/bits.Sub64", "math/bits.Add64"], unfollowed := true, recurses := true, named := ["capstan/dim.table", "strconv.ErrSyntax", "strconv.ErrRange", "internal/strconv.uint64pow10", "math/bits.deBruijn32tab", "math/bits.deBruijn64tab", "math/bits.divideError", "math/bits.overflowError"], apart := false, laid := [("math/bits.deBruijn32tab", laid_math_bits_deBruijn32tab), ("math/bits.deBruijn64tab", laid_math_bits_deBruijn64tab), ("internal/strconv.uint64pow10", laid_internal_strconv_uint64pow10), ("strconv.ErrRange", laid_strconv_ErrRange), ("strconv.ErrSyntax", laid_strconv_ErrSyntax), ("capstan/dim.table", laid_capstan_dim_table)] }
def DimValuesSaid : Prop := dimValuesRow.holds Tryd.pinned (OpenSpec.ofChange dimValuesSpec)

/-- ITS FALSE NEIGHBOUR: 'it returns false'. Refute it at one input. -/
def dimValuesWrong : ChangeSpec := { name := "dimValues", fn := fun _ => fun
  | [d1, d2] => { results := [.lit (.bool false)], args := [d1, d2] }
  | _ => none }
def DimValuesWrongFalsely : Prop := dimValuesRow.holds Tryd.pinned (OpenSpec.ofChange dimValuesWrong)

/-- 'capstanlaw02.DimProducts': WHATEVER THE INPUT: true; the input reads as it did. -/
def dimProductsSpec : ChangeSpec := { name := "dimProducts", fn := fun _ => fun
  | [d1, d2] => { results := [.lit (.bool true)], args := [d1, d2] }
  | _ => none }
def dimProductsRow : OpenClaim := { program := "ytdplfphgomckfaadoor", sum := "88153b6c7897ed4a2059b26f180a17338afcfa9568b29b3b18d910119990a7d4", func := "capstan/capstanlaw02.DimProducts", spec := "dimProducts", inPlace := ["math/bits.Add64", "math/bits.Sub64"], unfollowed := true, recurses := true, named := ["capstan/dim.table", "strconv.ErrSyntax", "strconv.ErrRange", "internal/strconv.uint64pow10", "math/bits.deBruijn32tab", "math/bits.deBruijn64tab", "math/bits.divideError", "math/bits.overflowError"], apart := false, laid := [("math/bits.deBruijn32tab", laid_math_bits_deBruijn32tab), ("math/bits.deBruijn64tab", laid_math_bits_deBruijn64tab), ("internal/strconv.uint64pow10", laid_internal_strconv_uint64pow10), ("strconv.ErrRange", laid_strconv_ErrRange), ("strconv.ErrSyntax", laid_strconv_ErrSyntax), ("capstan/dim.table", laid_capstan_dim_table)] }
def DimProductsSaid : Prop := dimProductsRow.holds Tryd.pinned (OpenSpec.ofChange dimProductsSpec)

/-- ITS FALSE NEIGHBOUR: 'it returns false'. Refute it at one input. -/
def dimProductsWrong : ChangeSpec := { name := "dimProducts", fn := fun _ => fun
  | [d1, d2] => { results := [.lit (.bool false)], args := [d1, d2] }
  | _ => none }
def DimProductsWrongFalsely : Prop := dimProductsRow.holds Tryd.pinned (OpenSpec.ofChange dimProductsWrong)

/- THE SECOND FORM. 'bulk': how many values and letters a reading holds, each counted each time it is reached (what is shared counts as often as it is met; a slice's spare places count too). A statement '..UptoSaid' is the law's where the arguments, and the package variables that the reading takes, are together of bulk at most 1048576: NARROWER than '..Said'. Prove '..Said' where nothing that the law and all that it calls make is longer than what came in: it says more and counts as full. Else prove '..UptoSaid'. A law counts once. -/
mutual
def uptoBulk {H : Type} : DataW H → Nat
  | .lit (.string bytes) => bytes.length + 1
  | .lit _ => 1
  | .nil => 1
  | .ptr d => uptoBulk d + 1
  | .slice elems spare => uptoBulkAll elems + uptoBulkAll spare + 1
  | .agg parts => uptoBulkAll parts + 1
  | .iface _ d => uptoBulk d + 1
  | .map entries => uptoBulkEntries entries + 1
  | .held _ => 1
def uptoBulkAll {H : Type} : List (DataW H) → Nat
  | [] => 0
  | d :: r => uptoBulk d + uptoBulkAll r
def uptoBulkEntries {H : Type} : List (Lit × DataW H) → Nat
  | [] => 0
  | x :: r => uptoBulkEntry x + uptoBulkEntries r
def uptoBulkEntry {H : Type} : Lit × DataW H → Nat
  | (.string bytes, d) => bytes.length + uptoBulk d + 1
  | (_, d) => uptoBulk d + 1
 end
def uptoSmall : (H : Type) → List (DataW H) → Bool := fun _ ds => decide (uptoBulkAll ds ≤ 1048576)
def OpenSpec.upto (s : _root_.Go.ChangeSpec) : _root_.Go.OpenSpec := { _root_.Go.OpenSpec.ofChange s with cond := some uptoSmall }

/-- 'capstanlaw02.DimReads', WHERE WHAT IT READS IS OF BULK AT MOST 1048576: true; the input reads as it did. -/
def dimReadsUptoRow : OpenClaim := { program := "ytdplfphgomckfaadoor", sum := "88153b6c7897ed4a2059b26f180a17338afcfa9568b29b3b18d910119990a7d4", func := "capstan/capstanlaw02.DimReads", spec := "dimReads", unfollowed := true, recurses := true, named := ["capstan/dim.table", "strconv.ErrSyntax", "strconv.ErrRange", "internal/strconv.uint64pow10", "math/bits.deBruijn32tab", "math/bits.deBruijn64tab"], apart := false, laid := [("math/bits.deBruijn32tab", laid_math_bits_deBruijn32tab), ("math/bits.deBruijn64tab", laid_math_bits_deBruijn64tab), ("internal/strconv.uint64pow10", laid_internal_strconv_uint64pow10), ("strconv.ErrRange", laid_strconv_ErrRange), ("strconv.ErrSyntax", laid_strconv_ErrSyntax), ("capstan/dim.table", laid_capstan_dim_table)], narrowed := true }
def DimReadsUptoSaid : Prop := dimReadsUptoRow.holds Tryd.pinned (OpenSpec.upto dimReadsSpec)

/-- 'capstanlaw02.DimJoins', WHERE WHAT IT READS IS OF BULK AT MOST 1048576: true; the input reads as it did. -/
def dimJoinsUptoRow : OpenClaim := { program := "ytdplfphgomckfaadoor", sum := "88153b6c7897ed4a2059b26f180a17338afcfa9568b29b3b18d910119990a7d4", func := "capstan/capstanlaw02.DimJoins", spec := "dimJoins", inPlace := ["math/bits.Add64", "math/bits.Sub64"], unfollowed := true, recurses := true, named := ["capstan/dim.table", "strconv.ErrSyntax", "strconv.ErrRange", "internal/strconv.uint64pow10", "math/bits.deBruijn32tab", "math/bits.deBruijn64tab"], apart := false, laid := [("math/bits.deBruijn32tab", laid_math_bits_deBruijn32tab), ("math/bits.deBruijn64tab", laid_math_bits_deBruijn64tab), ("internal/strconv.uint64pow10", laid_internal_strconv_uint64pow10), ("strconv.ErrRange", laid_strconv_ErrRange), ("strconv.ErrSyntax", laid_strconv_ErrSyntax), ("capstan/dim.table", laid_capstan_dim_table)], narrowed := true }
def DimJoinsUptoSaid : Prop := dimJoinsUptoRow.holds Tryd.pinned (OpenSpec.upto dimJoinsSpec)

/-- 'capstanlaw02.DimTexts', WHERE WHAT IT READS IS OF BULK AT MOST 1048576: true; the input reads as it did. -/
def dimTextsUptoRow : OpenClaim := { program := "ytdplfphgomckfaadoor", sum := "88153b6c7897ed4a2059b26f180a17338afcfa9568b29b3b18d910119990a7d4", func := "capstan/capstanlaw02.DimTexts", spec := "dimTexts", inPlace := ["internal/abi.NoEscape", "internal/bytealg.MakeNoZero"], unfollowed := true, recurses := true, named := ["capstan/dim.table", "strconv.ErrSyntax", "strconv.ErrRange", "internal/strconv.uint64pow10", "math/bits.deBruijn32tab", "math/bits.deBruijn64tab", "capstan/dim.bases"], apart := false, laid := [("math/bits.deBruijn32tab", laid_math_bits_deBruijn32tab), ("math/bits.deBruijn64tab", laid_math_bits_deBruijn64tab), ("internal/strconv.uint64pow10", laid_internal_strconv_uint64pow10), ("strconv.ErrRange", laid_strconv_ErrRange), ("strconv.ErrSyntax", laid_strconv_ErrSyntax), ("capstan/dim.table", laid_capstan_dim_table), ("capstan/dim.bases", laid_capstan_dim_bases)], narrowed := true }
def DimTextsUptoSaid : Prop := dimTextsUptoRow.holds Tryd.pinned (OpenSpec.upto dimTextsSpec)

/-- 'capstanlaw02.DimGroup', WHERE WHAT IT READS IS OF BULK AT MOST 1048576: true; the input reads as it did. -/
def dimGroupUptoRow : OpenClaim := { program := "ytdplfphgomckfaadoor", sum := "88153b6c7897ed4a2059b26f180a17338afcfa9568b29b3b18d910119990a7d4", func := "capstan/capstanlaw02.DimGroup", spec := "dimGroup", inPlace := ["math/bits.Add64", "math/bits.Sub64", "internal/abi.NoEscape", "internal/bytealg.MakeNoZero"], unfollowed := true, recurses := true, named := ["capstan/dim.table", "strconv.ErrSyntax", "strconv.ErrRange", "internal/strconv.uint64pow10", "math/bits.deBruijn32tab", "math/bits.deBruijn64tab", "capstan/dim.bases"], apart := false, laid := [("math/bits.deBruijn32tab", laid_math_bits_deBruijn32tab), ("math/bits.deBruijn64tab", laid_math_bits_deBruijn64tab), ("internal/strconv.uint64pow10", laid_internal_strconv_uint64pow10), ("strconv.ErrRange", laid_strconv_ErrRange), ("strconv.ErrSyntax", laid_strconv_ErrSyntax), ("capstan/dim.table", laid_capstan_dim_table), ("capstan/dim.bases", laid_capstan_dim_bases)], narrowed := true }
def DimGroupUptoSaid : Prop := dimGroupUptoRow.holds Tryd.pinned (OpenSpec.upto dimGroupSpec)

/-- 'capstanlaw02.DimValues', WHERE WHAT IT READS IS OF BULK AT MOST 1048576: true; the input reads as it did. -/
def dimValuesUptoRow : OpenClaim := { program := "ytdplfphgomckfaadoor", sum := "88153b6c7897ed4a2059b26f180a17338afcfa9568b29b3b18d910119990a7d4", func := "capstan/capstanlaw02.DimValues", spec := "dimValues", inPlace := ["math/bits.Sub64", "math/bits.Add64"], unfollowed := true, recurses := true, named := ["capstan/dim.table", "strconv.ErrSyntax", "strconv.ErrRange", "internal/strconv.uint64pow10", "math/bits.deBruijn32tab", "math/bits.deBruijn64tab", "math/bits.divideError", "math/bits.overflowError"], apart := false, laid := [("math/bits.deBruijn32tab", laid_math_bits_deBruijn32tab), ("math/bits.deBruijn64tab", laid_math_bits_deBruijn64tab), ("internal/strconv.uint64pow10", laid_internal_strconv_uint64pow10), ("strconv.ErrRange", laid_strconv_ErrRange), ("strconv.ErrSyntax", laid_strconv_ErrSyntax), ("capstan/dim.table", laid_capstan_dim_table)], narrowed := true }
def DimValuesUptoSaid : Prop := dimValuesUptoRow.holds Tryd.pinned (OpenSpec.upto dimValuesSpec)

/-- 'capstanlaw02.DimProducts', WHERE WHAT IT READS IS OF BULK AT MOST 1048576: true; the input reads as it did. -/
def dimProductsUptoRow : OpenClaim := { program := "ytdplfphgomckfaadoor", sum := "88153b6c7897ed4a2059b26f180a17338afcfa9568b29b3b18d910119990a7d4", func := "capstan/capstanlaw02.DimProducts", spec := "dimProducts", inPlace := ["math/bits.Add64", "math/bits.Sub64"], unfollowed := true, recurses := true, named := ["capstan/dim.table", "strconv.ErrSyntax", "strconv.ErrRange", "internal/strconv.uint64pow10", "math/bits.deBruijn32tab", "math/bits.deBruijn64tab", "math/bits.divideError", "math/bits.overflowError"], apart := false, laid := [("math/bits.deBruijn32tab", laid_math_bits_deBruijn32tab), ("math/bits.deBruijn64tab", laid_math_bits_deBruijn64tab), ("internal/strconv.uint64pow10", laid_internal_strconv_uint64pow10), ("strconv.ErrRange", laid_strconv_ErrRange), ("strconv.ErrSyntax", laid_strconv_ErrSyntax), ("capstan/dim.table", laid_capstan_dim_table)], narrowed := true }
def DimProductsUptoSaid : Prop := dimProductsUptoRow.holds Tryd.pinned (OpenSpec.upto dimProductsSpec)

end Rows
end Go.Proofs.YtdplfphgomckfaaDoor
