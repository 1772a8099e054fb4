/-
  NARROWER THAN 'FOR EVERY INPUT', by the rows' own cells (each row's printed sentence says how): CronReads: laid · CronTexts: laid · CronBack: laid · CronNames: laid · CronCycle: laid · CronNext: laid · CronLeast: laid.
  DERIVED. THE GIVEN ROWS OF THIS SEAT. 7 by the template 'for every input the law returns true; each argument reads behind the call as it read before'; 0 by the template 'total and deterministic' (their statements: YtkmcmgfmahildaaDoorTotals.lean).
  GIVEN WITH THE SEED: the statements are not yours to turn. If you find one false, say at which input.
  Laid BY PROGRAM, IN A SANDBOX (cutbox-rows.mjs): the forced cells as the released guide's own fill.sh prints them over the translation ffaa5968ce8182e4… (all of the seat's roots in one cut). By AI agents, Wed Nov 11 2026. No macro, syntax, notation, axiom, sorry.
-/
import Derived.Test.YtkmcmgfmahildaaDoorChecked
import GoSem.Claim
import GoSem.ClaimJoined
import GoSem.ClaimMapViews
import Derived.JoinedTies
import Derived.KernelRfl
namespace Go.Proofs.YtkmcmgfmahildaaDoor
/- THE CELL 'sum', in the pinned program and in every row, IS THE sha256 OF THE DUMP (.gsa) THAT YtkmcmgfmahildaaDoorProg.lean LOADS. Nothing in Lean hashes anything: it is a label: what it is worth is what the hold of that sum in a sandbox is worth. -/
noncomputable def Tryd.pinned : Pinned := { name := "ytkmcmgfmahildaadoor", sum := "ffaa5968ce8182e41d957fa8de54d7c79a6268ef9e8e914fd1a36604755c47ff", checked := Tryd.checked }
namespace Rows
def none {H : Type} : Left H := { results := [], args := [] }

/- WHAT THE LISTED PACKAGE-LEVEL VARIABLES READ AS WHEN THE CALL BEGINS. Each datum BY PROGRAM (the guide's laid-datum.mjs) off the statement by which the dump's own 'gosem.cut.vars' lays the variable. In a bare row this is a premise. The card (YtkmcmgfmahildaaDoorCards.lean) ties it to the program's text. -/
def laid_math_bits_deBruijn32tab {H : Type} : DataW H := .agg [.lit (.int .u8 0), .lit (.int .u8 1), .lit (.int .u8 28), .lit (.int .u8 2), .lit (.int .u8 29), .lit (.int .u8 14), .lit (.int .u8 24), .lit (.int .u8 3), .lit (.int .u8 30), .lit (.int .u8 22), .lit (.int .u8 20), .lit (.int .u8 15), .lit (.int .u8 25), .lit (.int .u8 17), .lit (.int .u8 4), .lit (.int .u8 8), .lit (.int .u8 31), .lit (.int .u8 27), .lit (.int .u8 13), .lit (.int .u8 23), .lit (.int .u8 21), .lit (.int .u8 19), .lit (.int .u8 16), .lit (.int .u8 7), .lit (.int .u8 26), .lit (.int .u8 12), .lit (.int .u8 18), .lit (.int .u8 6), .lit (.int .u8 11), .lit (.int .u8 5), .lit (.int .u8 10), .lit (.int .u8 9)]
def laid_math_bits_deBruijn64tab {H : Type} : DataW H := .agg [.lit (.int .u8 0), .lit (.int .u8 1), .lit (.int .u8 56), .lit (.int .u8 2), .lit (.int .u8 57), .lit (.int .u8 49), .lit (.int .u8 28), .lit (.int .u8 3), .lit (.int .u8 61), .lit (.int .u8 58), .lit (.int .u8 42), .lit (.int .u8 50), .lit (.int .u8 38), .lit (.int .u8 29), .lit (.int .u8 17), .lit (.int .u8 4), .lit (.int .u8 62), .lit (.int .u8 47), .lit (.int .u8 59), .lit (.int .u8 36), .lit (.int .u8 45), .lit (.int .u8 43), .lit (.int .u8 51), .lit (.int .u8 22), .lit (.int .u8 53), .lit (.int .u8 39), .lit (.int .u8 33), .lit (.int .u8 30), .lit (.int .u8 24), .lit (.int .u8 18), .lit (.int .u8 12), .lit (.int .u8 5), .lit (.int .u8 63), .lit (.int .u8 55), .lit (.int .u8 48), .lit (.int .u8 27), .lit (.int .u8 60), .lit (.int .u8 41), .lit (.int .u8 37), .lit (.int .u8 16), .lit (.int .u8 46), .lit (.int .u8 35), .lit (.int .u8 44), .lit (.int .u8 21), .lit (.int .u8 52), .lit (.int .u8 32), .lit (.int .u8 23), .lit (.int .u8 11), .lit (.int .u8 54), .lit (.int .u8 26), .lit (.int .u8 40), .lit (.int .u8 15), .lit (.int .u8 34), .lit (.int .u8 20), .lit (.int .u8 31), .lit (.int .u8 10), .lit (.int .u8 25), .lit (.int .u8 14), .lit (.int .u8 19), .lit (.int .u8 9), .lit (.int .u8 13), .lit (.int .u8 8), .lit (.int .u8 7), .lit (.int .u8 6)]
def laid_internal_strconv_uint64pow10 {H : Type} : DataW H := .agg [.lit (.int .u64 1), .lit (.int .u64 10), .lit (.int .u64 100), .lit (.int .u64 1000), .lit (.int .u64 10000), .lit (.int .u64 100000), .lit (.int .u64 1000000), .lit (.int .u64 10000000), .lit (.int .u64 100000000), .lit (.int .u64 1000000000), .lit (.int .u64 10000000000), .lit (.int .u64 100000000000), .lit (.int .u64 1000000000000), .lit (.int .u64 10000000000000), .lit (.int .u64 100000000000000), .lit (.int .u64 1000000000000000), .lit (.int .u64 10000000000000000), .lit (.int .u64 100000000000000000), .lit (.int .u64 1000000000000000000), .lit (.int .u64 10000000000000000000)]
def laid_strconv_ErrRange {H : Type} : DataW H := .iface "*errors.errorString" (.ptr (.agg [.lit (.string [118, 97, 108, 117, 101, 32, 111, 117, 116, 32, 111, 102, 32, 114, 97, 110, 103, 101])]))
def laid_strconv_ErrSyntax {H : Type} : DataW H := .iface "*errors.errorString" (.ptr (.agg [.lit (.string [105, 110, 118, 97, 108, 105, 100, 32, 115, 121, 110, 116, 97, 120])]))
def laid_capstan_cron_fields {H : Type} : DataW H := .agg [.agg [.lit (.int .i64 0), .lit (.int .i64 59)], .agg [.lit (.int .i64 0), .lit (.int .i64 23)], .agg [.lit (.int .i64 1), .lit (.int .i64 31)], .agg [.lit (.int .i64 1), .lit (.int .i64 12)], .agg [.lit (.int .i64 0), .lit (.int .i64 6)]]

/-- 'capstanlaw04.CronReads': WHATEVER THE INPUT: true; the input reads as it did. -/
def cronReadsSpec : ChangeSpec := { name := "cronReads", fn := fun _ => fun
  | [d] => { results := [.lit (.bool true)], args := [d] }
  | _ => none }
def cronReadsRow : OpenClaim := { program := "ytkmcmgfmahildaadoor", sum := "ffaa5968ce8182e41d957fa8de54d7c79a6268ef9e8e914fd1a36604755c47ff", func := "capstan/capstanlaw04.CronReads", spec := "cronReads", named := ["capstan/cron.fields", "strconv.ErrSyntax", "strconv.ErrRange", "internal/strconv.uint64pow10", "math/bits.deBruijn32tab", "math/bits.deBruijn64tab"], apart := false, laid := [("math/bits.deBruijn32tab", laid_math_bits_deBruijn32tab), ("math/bits.deBruijn64tab", laid_math_bits_deBruijn64tab), ("internal/strconv.uint64pow10", laid_internal_strconv_uint64pow10), ("strconv.ErrRange", laid_strconv_ErrRange), ("strconv.ErrSyntax", laid_strconv_ErrSyntax), ("capstan/cron.fields", laid_capstan_cron_fields)] }
def CronReadsSaid : Prop := cronReadsRow.holds Tryd.pinned (OpenSpec.ofChange cronReadsSpec)

/-- ITS FALSE NEIGHBOUR: 'it returns false'. Refute it at one input. -/
def cronReadsWrong : ChangeSpec := { name := "cronReads", fn := fun _ => fun
  | [d] => { results := [.lit (.bool false)], args := [d] }
  | _ => none }
def CronReadsWrongFalsely : Prop := cronReadsRow.holds Tryd.pinned (OpenSpec.ofChange cronReadsWrong)

/-- 'capstanlaw04.CronTexts': WHATEVER THE INPUT: true; the input reads as it did. -/
def cronTextsSpec : ChangeSpec := { name := "cronTexts", fn := fun _ => fun
  | [d] => { results := [.lit (.bool true)], args := [d] }
  | _ => none }
def cronTextsRow : OpenClaim := { program := "ytkmcmgfmahildaadoor", sum := "ffaa5968ce8182e41d957fa8de54d7c79a6268ef9e8e914fd1a36604755c47ff", func := "capstan/capstanlaw04.CronTexts", spec := "cronTexts", named := ["capstan/cron.fields", "strconv.ErrSyntax", "strconv.ErrRange", "internal/strconv.uint64pow10", "math/bits.deBruijn32tab", "math/bits.deBruijn64tab"], apart := false, laid := [("math/bits.deBruijn32tab", laid_math_bits_deBruijn32tab), ("math/bits.deBruijn64tab", laid_math_bits_deBruijn64tab), ("internal/strconv.uint64pow10", laid_internal_strconv_uint64pow10), ("strconv.ErrRange", laid_strconv_ErrRange), ("strconv.ErrSyntax", laid_strconv_ErrSyntax), ("capstan/cron.fields", laid_capstan_cron_fields)] }
def CronTextsSaid : Prop := cronTextsRow.holds Tryd.pinned (OpenSpec.ofChange cronTextsSpec)

/-- ITS FALSE NEIGHBOUR: 'it returns false'. Refute it at one input. -/
def cronTextsWrong : ChangeSpec := { name := "cronTexts", fn := fun _ => fun
  | [d] => { results := [.lit (.bool false)], args := [d] }
  | _ => none }
def CronTextsWrongFalsely : Prop := cronTextsRow.holds Tryd.pinned (OpenSpec.ofChange cronTextsWrong)

/-- 'capstanlaw04.CronBack': WHATEVER THE INPUT: true; the input reads as it did. -/
def cronBackSpec : ChangeSpec := { name := "cronBack", fn := fun _ => fun
  | [d1, d2] => { results := [.lit (.bool true)], args := [d1, d2] }
  | _ => none }
def cronBackRow : OpenClaim := { program := "ytkmcmgfmahildaadoor", sum := "ffaa5968ce8182e41d957fa8de54d7c79a6268ef9e8e914fd1a36604755c47ff", func := "capstan/capstanlaw04.CronBack", spec := "cronBack", named := ["capstan/cron.fields", "strconv.ErrSyntax", "strconv.ErrRange", "internal/strconv.uint64pow10", "math/bits.deBruijn32tab", "math/bits.deBruijn64tab"], apart := false, laid := [("math/bits.deBruijn32tab", laid_math_bits_deBruijn32tab), ("math/bits.deBruijn64tab", laid_math_bits_deBruijn64tab), ("internal/strconv.uint64pow10", laid_internal_strconv_uint64pow10), ("strconv.ErrRange", laid_strconv_ErrRange), ("strconv.ErrSyntax", laid_strconv_ErrSyntax), ("capstan/cron.fields", laid_capstan_cron_fields)] }
def CronBackSaid : Prop := cronBackRow.holds Tryd.pinned (OpenSpec.ofChange cronBackSpec)

/-- ITS FALSE NEIGHBOUR: 'it returns false'. Refute it at one input. -/
def cronBackWrong : ChangeSpec := { name := "cronBack", fn := fun _ => fun
  | [d1, d2] => { results := [.lit (.bool false)], args := [d1, d2] }
  | _ => none }
def CronBackWrongFalsely : Prop := cronBackRow.holds Tryd.pinned (OpenSpec.ofChange cronBackWrong)

/-- 'capstanlaw04.CronNames': WHATEVER THE INPUT: true; the input reads as it did. -/
def cronNamesSpec : ChangeSpec := { name := "cronNames", fn := fun _ => fun
  | [d1, d2] => { results := [.lit (.bool true)], args := [d1, d2] }
  | _ => none }
def cronNamesRow : OpenClaim := { program := "ytkmcmgfmahildaadoor", sum := "ffaa5968ce8182e41d957fa8de54d7c79a6268ef9e8e914fd1a36604755c47ff", func := "capstan/capstanlaw04.CronNames", spec := "cronNames", named := ["capstan/cron.fields", "strconv.ErrSyntax", "strconv.ErrRange", "internal/strconv.uint64pow10", "math/bits.deBruijn32tab", "math/bits.deBruijn64tab"], apart := false, laid := [("math/bits.deBruijn32tab", laid_math_bits_deBruijn32tab), ("math/bits.deBruijn64tab", laid_math_bits_deBruijn64tab), ("internal/strconv.uint64pow10", laid_internal_strconv_uint64pow10), ("strconv.ErrRange", laid_strconv_ErrRange), ("strconv.ErrSyntax", laid_strconv_ErrSyntax), ("capstan/cron.fields", laid_capstan_cron_fields)] }
def CronNamesSaid : Prop := cronNamesRow.holds Tryd.pinned (OpenSpec.ofChange cronNamesSpec)

/-- ITS FALSE NEIGHBOUR: 'it returns false'. Refute it at one input. -/
def cronNamesWrong : ChangeSpec := { name := "cronNames", fn := fun _ => fun
  | [d1, d2] => { results := [.lit (.bool false)], args := [d1, d2] }
  | _ => none }
def CronNamesWrongFalsely : Prop := cronNamesRow.holds Tryd.pinned (OpenSpec.ofChange cronNamesWrong)

/-- 'capstanlaw04.CronCycle': WHATEVER THE INPUT: true; the input reads as it did. -/
def cronCycleSpec : ChangeSpec := { name := "cronCycle", fn := fun _ => fun
  | [d1, d2] => { results := [.lit (.bool true)], args := [d1, d2] }
  | _ => none }
def cronCycleRow : OpenClaim := { program := "ytkmcmgfmahildaadoor", sum := "ffaa5968ce8182e41d957fa8de54d7c79a6268ef9e8e914fd1a36604755c47ff", func := "capstan/capstanlaw04.CronCycle", spec := "cronCycle", named := ["capstan/cron.fields", "strconv.ErrSyntax", "strconv.ErrRange", "internal/strconv.uint64pow10", "math/bits.deBruijn32tab", "math/bits.deBruijn64tab"], apart := false, laid := [("math/bits.deBruijn32tab", laid_math_bits_deBruijn32tab), ("math/bits.deBruijn64tab", laid_math_bits_deBruijn64tab), ("internal/strconv.uint64pow10", laid_internal_strconv_uint64pow10), ("strconv.ErrRange", laid_strconv_ErrRange), ("strconv.ErrSyntax", laid_strconv_ErrSyntax), ("capstan/cron.fields", laid_capstan_cron_fields)] }
def CronCycleSaid : Prop := cronCycleRow.holds Tryd.pinned (OpenSpec.ofChange cronCycleSpec)

/-- ITS FALSE NEIGHBOUR: 'it returns false'. Refute it at one input. -/
def cronCycleWrong : ChangeSpec := { name := "cronCycle", fn := fun _ => fun
  | [d1, d2] => { results := [.lit (.bool false)], args := [d1, d2] }
  | _ => none }
def CronCycleWrongFalsely : Prop := cronCycleRow.holds Tryd.pinned (OpenSpec.ofChange cronCycleWrong)

/-- 'capstanlaw04.CronNext': WHATEVER THE INPUT: true; the input reads as it did. -/
def cronNextSpec : ChangeSpec := { name := "cronNext", fn := fun _ => fun
  | [d1, d2] => { results := [.lit (.bool true)], args := [d1, d2] }
  | _ => none }
def cronNextRow : OpenClaim := { program := "ytkmcmgfmahildaadoor", sum := "ffaa5968ce8182e41d957fa8de54d7c79a6268ef9e8e914fd1a36604755c47ff", func := "capstan/capstanlaw04.CronNext", spec := "cronNext", named := ["capstan/cron.fields", "strconv.ErrSyntax", "strconv.ErrRange", "internal/strconv.uint64pow10", "math/bits.deBruijn32tab", "math/bits.deBruijn64tab"], apart := false, laid := [("math/bits.deBruijn32tab", laid_math_bits_deBruijn32tab), ("math/bits.deBruijn64tab", laid_math_bits_deBruijn64tab), ("internal/strconv.uint64pow10", laid_internal_strconv_uint64pow10), ("strconv.ErrRange", laid_strconv_ErrRange), ("strconv.ErrSyntax", laid_strconv_ErrSyntax), ("capstan/cron.fields", laid_capstan_cron_fields)] }
def CronNextSaid : Prop := cronNextRow.holds Tryd.pinned (OpenSpec.ofChange cronNextSpec)

/-- ITS FALSE NEIGHBOUR: 'it returns false'. Refute it at one input. -/
def cronNextWrong : ChangeSpec := { name := "cronNext", fn := fun _ => fun
  | [d1, d2] => { results := [.lit (.bool false)], args := [d1, d2] }
  | _ => none }
def CronNextWrongFalsely : Prop := cronNextRow.holds Tryd.pinned (OpenSpec.ofChange cronNextWrong)

/-- 'capstanlaw04.CronLeast': WHATEVER THE INPUT: true; the input reads as it did. -/
def cronLeastSpec : ChangeSpec := { name := "cronLeast", fn := fun _ => fun
  | [d1, d2] => { results := [.lit (.bool true)], args := [d1, d2] }
  | _ => none }
def cronLeastRow : OpenClaim := { program := "ytkmcmgfmahildaadoor", sum := "ffaa5968ce8182e41d957fa8de54d7c79a6268ef9e8e914fd1a36604755c47ff", func := "capstan/capstanlaw04.CronLeast", spec := "cronLeast", named := ["capstan/cron.fields", "strconv.ErrSyntax", "strconv.ErrRange", "internal/strconv.uint64pow10", "math/bits.deBruijn32tab", "math/bits.deBruijn64tab"], apart := false, laid := [("math/bits.deBruijn32tab", laid_math_bits_deBruijn32tab), ("math/bits.deBruijn64tab", laid_math_bits_deBruijn64tab), ("internal/strconv.uint64pow10", laid_internal_strconv_uint64pow10), ("strconv.ErrRange", laid_strconv_ErrRange), ("strconv.ErrSyntax", laid_strconv_ErrSyntax), ("capstan/cron.fields", laid_capstan_cron_fields)] }
def CronLeastSaid : Prop := cronLeastRow.holds Tryd.pinned (OpenSpec.ofChange cronLeastSpec)

/-- ITS FALSE NEIGHBOUR: 'it returns false'. Refute it at one input. -/
def cronLeastWrong : ChangeSpec := { name := "cronLeast", fn := fun _ => fun
  | [d1, d2] => { results := [.lit (.bool false)], args := [d1, d2] }
  | _ => none }
def CronLeastWrongFalsely : Prop := cronLeastRow.holds Tryd.pinned (OpenSpec.ofChange cronLeastWrong)

/- THE SECOND FORM. 'bulk': how many values and letters a reading holds, each counted each time it is reached (what is shared counts as often as it is met; a slice's spare places count too). A statement '..UptoSaid' is the law's where the arguments, and the package variables that the reading takes, are together of bulk at most 1048576: NARROWER than '..Said'. Prove '..Said' where nothing that the law and all that it calls make is longer than what came in: it says more and counts as full. Else prove '..UptoSaid'. A law counts once. -/
mutual
def uptoBulk {H : Type} : DataW H → Nat
  | .lit (.string bytes) => bytes.length + 1
  | .lit _ => 1
  | .nil => 1
  | .ptr d => uptoBulk d + 1
  | .slice elems spare => uptoBulkAll elems + uptoBulkAll spare + 1
  | .agg parts => uptoBulkAll parts + 1
  | .iface _ d => uptoBulk d + 1
  | .map entries => uptoBulkEntries entries + 1
  | .held _ => 1
def uptoBulkAll {H : Type} : List (DataW H) → Nat
  | [] => 0
  | d :: r => uptoBulk d + uptoBulkAll r
def uptoBulkEntries {H : Type} : List (Lit × DataW H) → Nat
  | [] => 0
  | x :: r => uptoBulkEntry x + uptoBulkEntries r
def uptoBulkEntry {H : Type} : Lit × DataW H → Nat
  | (.string bytes, d) => bytes.length + uptoBulk d + 1
  | (_, d) => uptoBulk d + 1
 end
def uptoSmall : (H : Type) → List (DataW H) → Bool := fun _ ds => decide (uptoBulkAll ds ≤ 1048576)
def OpenSpec.upto (s : _root_.Go.ChangeSpec) : _root_.Go.OpenSpec := { _root_.Go.OpenSpec.ofChange s with cond := some uptoSmall }

/-- 'capstanlaw04.CronReads', WHERE WHAT IT READS IS OF BULK AT MOST 1048576: true; the input reads as it did. -/
def cronReadsUptoRow : OpenClaim := { program := "ytkmcmgfmahildaadoor", sum := "ffaa5968ce8182e41d957fa8de54d7c79a6268ef9e8e914fd1a36604755c47ff", func := "capstan/capstanlaw04.CronReads", spec := "cronReads", named := ["capstan/cron.fields", "strconv.ErrSyntax", "strconv.ErrRange", "internal/strconv.uint64pow10", "math/bits.deBruijn32tab", "math/bits.deBruijn64tab"], apart := false, laid := [("math/bits.deBruijn32tab", laid_math_bits_deBruijn32tab), ("math/bits.deBruijn64tab", laid_math_bits_deBruijn64tab), ("internal/strconv.uint64pow10", laid_internal_strconv_uint64pow10), ("strconv.ErrRange", laid_strconv_ErrRange), ("strconv.ErrSyntax", laid_strconv_ErrSyntax), ("capstan/cron.fields", laid_capstan_cron_fields)], narrowed := true }
def CronReadsUptoSaid : Prop := cronReadsUptoRow.holds Tryd.pinned (OpenSpec.upto cronReadsSpec)

/-- 'capstanlaw04.CronTexts', WHERE WHAT IT READS IS OF BULK AT MOST 1048576: true; the input reads as it did. -/
def cronTextsUptoRow : OpenClaim := { program := "ytkmcmgfmahildaadoor", sum := "ffaa5968ce8182e41d957fa8de54d7c79a6268ef9e8e914fd1a36604755c47ff", func := "capstan/capstanlaw04.CronTexts", spec := "cronTexts", named := ["capstan/cron.fields", "strconv.ErrSyntax", "strconv.ErrRange", "internal/strconv.uint64pow10", "math/bits.deBruijn32tab", "math/bits.deBruijn64tab"], apart := false, laid := [("math/bits.deBruijn32tab", laid_math_bits_deBruijn32tab), ("math/bits.deBruijn64tab", laid_math_bits_deBruijn64tab), ("internal/strconv.uint64pow10", laid_internal_strconv_uint64pow10), ("strconv.ErrRange", laid_strconv_ErrRange), ("strconv.ErrSyntax", laid_strconv_ErrSyntax), ("capstan/cron.fields", laid_capstan_cron_fields)], narrowed := true }
def CronTextsUptoSaid : Prop := cronTextsUptoRow.holds Tryd.pinned (OpenSpec.upto cronTextsSpec)

/-- 'capstanlaw04.CronBack', WHERE WHAT IT READS IS OF BULK AT MOST 1048576: true; the input reads as it did. -/
def cronBackUptoRow : OpenClaim := { program := "ytkmcmgfmahildaadoor", sum := "ffaa5968ce8182e41d957fa8de54d7c79a6268ef9e8e914fd1a36604755c47ff", func := "capstan/capstanlaw04.CronBack", spec := "cronBack", named := ["capstan/cron.fields", "strconv.ErrSyntax", "strconv.ErrRange", "internal/strconv.uint64pow10", "math/bits.deBruijn32tab", "math/bits.deBruijn64tab"], apart := false, laid := [("math/bits.deBruijn32tab", laid_math_bits_deBruijn32tab), ("math/bits.deBruijn64tab", laid_math_bits_deBruijn64tab), ("internal/strconv.uint64pow10", laid_internal_strconv_uint64pow10), ("strconv.ErrRange", laid_strconv_ErrRange), ("strconv.ErrSyntax", laid_strconv_ErrSyntax), ("capstan/cron.fields", laid_capstan_cron_fields)], narrowed := true }
def CronBackUptoSaid : Prop := cronBackUptoRow.holds Tryd.pinned (OpenSpec.upto cronBackSpec)

/-- 'capstanlaw04.CronNames', WHERE WHAT IT READS IS OF BULK AT MOST 1048576: true; the input reads as it did. -/
def cronNamesUptoRow : OpenClaim := { program := "ytkmcmgfmahildaadoor", sum := "ffaa5968ce8182e41d957fa8de54d7c79a6268ef9e8e914fd1a36604755c47ff", func := "capstan/capstanlaw04.CronNames", spec := "cronNames", named := ["capstan/cron.fields", "strconv.ErrSyntax", "strconv.ErrRange", "internal/strconv.uint64pow10", "math/bits.deBruijn32tab", "math/bits.deBruijn64tab"], apart := false, laid := [("math/bits.deBruijn32tab", laid_math_bits_deBruijn32tab), ("math/bits.deBruijn64tab", laid_math_bits_deBruijn64tab), ("internal/strconv.uint64pow10", laid_internal_strconv_uint64pow10), ("strconv.ErrRange", laid_strconv_ErrRange), ("strconv.ErrSyntax", laid_strconv_ErrSyntax), ("capstan/cron.fields", laid_capstan_cron_fields)], narrowed := true }
def CronNamesUptoSaid : Prop := cronNamesUptoRow.holds Tryd.pinned (OpenSpec.upto cronNamesSpec)

/-- 'capstanlaw04.CronCycle', WHERE WHAT IT READS IS OF BULK AT MOST 1048576: true; the input reads as it did. -/
def cronCycleUptoRow : OpenClaim := { program := "ytkmcmgfmahildaadoor", sum := "ffaa5968ce8182e41d957fa8de54d7c79a6268ef9e8e914fd1a36604755c47ff", func := "capstan/capstanlaw04.CronCycle", spec := "cronCycle", named := ["capstan/cron.fields", "strconv.ErrSyntax", "strconv.ErrRange", "internal/strconv.uint64pow10", "math/bits.deBruijn32tab", "math/bits.deBruijn64tab"], apart := false, laid := [("math/bits.deBruijn32tab", laid_math_bits_deBruijn32tab), ("math/bits.deBruijn64tab", laid_math_bits_deBruijn64tab), ("internal/strconv.uint64pow10", laid_internal_strconv_uint64pow10), ("strconv.ErrRange", laid_strconv_ErrRange), ("strconv.ErrSyntax", laid_strconv_ErrSyntax), ("capstan/cron.fields", laid_capstan_cron_fields)], narrowed := true }
def CronCycleUptoSaid : Prop := cronCycleUptoRow.holds Tryd.pinned (OpenSpec.upto cronCycleSpec)

/-- 'capstanlaw04.CronNext', WHERE WHAT IT READS IS OF BULK AT MOST 1048576: true; the input reads as it did. -/
def cronNextUptoRow : OpenClaim := { program := "ytkmcmgfmahildaadoor", sum := "ffaa5968ce8182e41d957fa8de54d7c79a6268ef9e8e914fd1a36604755c47ff", func := "capstan/capstanlaw04.CronNext", spec := "cronNext", named := ["capstan/cron.fields", "strconv.ErrSyntax", "strconv.ErrRange", "internal/strconv.uint64pow10", "math/bits.deBruijn32tab", "math/bits.deBruijn64tab"], apart := false, laid := [("math/bits.deBruijn32tab", laid_math_bits_deBruijn32tab), ("math/bits.deBruijn64tab", laid_math_bits_deBruijn64tab), ("internal/strconv.uint64pow10", laid_internal_strconv_uint64pow10), ("strconv.ErrRange", laid_strconv_ErrRange), ("strconv.ErrSyntax", laid_strconv_ErrSyntax), ("capstan/cron.fields", laid_capstan_cron_fields)], narrowed := true }
def CronNextUptoSaid : Prop := cronNextUptoRow.holds Tryd.pinned (OpenSpec.upto cronNextSpec)

/-- 'capstanlaw04.CronLeast', WHERE WHAT IT READS IS OF BULK AT MOST 1048576: true; the input reads as it did. -/
def cronLeastUptoRow : OpenClaim := { program := "ytkmcmgfmahildaadoor", sum := "ffaa5968ce8182e41d957fa8de54d7c79a6268ef9e8e914fd1a36604755c47ff", func := "capstan/capstanlaw04.CronLeast", spec := "cronLeast", named := ["capstan/cron.fields", "strconv.ErrSyntax", "strconv.ErrRange", "internal/strconv.uint64pow10", "math/bits.deBruijn32tab", "math/bits.deBruijn64tab"], apart := false, laid := [("math/bits.deBruijn32tab", laid_math_bits_deBruijn32tab), ("math/bits.deBruijn64tab", laid_math_bits_deBruijn64tab), ("internal/strconv.uint64pow10", laid_internal_strconv_uint64pow10), ("strconv.ErrRange", laid_strconv_ErrRange), ("strconv.ErrSyntax", laid_strconv_ErrSyntax), ("capstan/cron.fields", laid_capstan_cron_fields)], narrowed := true }
def CronLeastUptoSaid : Prop := cronLeastUptoRow.holds Tryd.pinned (OpenSpec.upto cronLeastSpec)

end Rows
end Go.Proofs.YtkmcmgfmahildaaDoor
