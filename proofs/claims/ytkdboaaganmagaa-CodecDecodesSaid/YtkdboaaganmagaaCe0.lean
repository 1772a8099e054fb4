/- What reader.program reads: the plain words (namespace Ce; the walk is XCe). -/
import Derived.Test.YtkdboaaganmagaaCd
namespace Go.Proofs.Ytkdboaaganmagaa.Ce
set_option linter.unusedVariables false
set_option linter.unusedSimpArgs false
open Go.RowKit Go.Proofs.YtkdboaaganmagaaW.PrintWords Go.Proofs.Ytkdboaaganmagaa.OP Go.Proofs.Ytkdboaaganmagaa.Ca Go.Proofs.Ytkdboaaganmagaa.Cd

/-- So many things read, one behind the other. -/
def qA {α : Type} (f : List Int → Option (α × List Int)) : Nat → List α → List Int → Option (List α × List Int)
  | 0, acc, l => some (acc, l)
  | n + 1, acc, l => (f l).bind fun t => qA f n (acc ++ [t.1]) t.2
def fW (l : List Int) : Option (S51 × List Int) := (q4 l).bind fun a => (q4 a.2).bind fun b => (q8 b.2).bind fun c => (q8 c.2).bind fun d => some (⟨a.1, b.1, c.1, d.1⟩, d.2)
def fC (l : List Int) : Option (S54 × List Int) := (q8 l).bind fun a => (q8 a.2).bind fun b => (q8 b.2).bind fun c => (q8 c.2).bind fun d => (q8 d.2).bind fun e => some (⟨IntKind.u64.wrap a.1, IntKind.u64.wrap b.1, IntKind.u64.wrap c.1, IntKind.u64.wrap d.1, IntKind.u64.wrap e.1⟩, e.2)
def fI : List Int → Option (S45 × List Int)
  | [] => none
  | a :: r => (q8 r).bind fun b => some (⟨a, b.1⟩, b.2)
/-- A program as its parts. -/
structure Pg where
  a0 : Int
  a1 : Int
  a2 : Int
  a3 : Int
  a4 : Int
  a5 : Int
  l6 : List Int
  l7 : List S51
  l8 : List S54
  a9 : Int
  a10 : Int
  l11 : List S45
def c5 (p : Pg) (l : List Int) : Option Pg := if l.length = 0 then some p else none
def c4 (p : Pg) (l : List Int) : Option Pg := (qc 16384 l).bind fun t => (qA fI t.1.toNat [] t.2).bind fun u => c5 { p with l11 := u.1 } u.2
def c3 (p : Pg) (l : List Int) : Option Pg := (qc 256 l).bind fun t => (qA fC t.1.toNat [] t.2).bind fun u => c4 { p with l8 := u.1 } u.2
def c2 (p : Pg) (l : List Int) : Option Pg := (qc 256 l).bind fun t => (qA fW t.1.toNat [] t.2).bind fun u => c3 { p with l7 := u.1 } u.2
def c1 (p : Pg) (l : List Int) : Option Pg := (qc 16384 l).bind fun t => (qA q8 t.1.toNat [] t.2).bind fun u => c2 { p with l6 := u.1 } u.2
def c0 (l : List Int) : Option Pg := (q4 l).bind fun a => (q4 a.2).bind fun b => (q4 b.2).bind fun c => (q8 c.2).bind fun d => (q8 d.2).bind fun e => (q8 e.2).bind fun f => (q8 f.2).bind fun g => (q8 g.2).bind fun h =>
  c1 ⟨a.1, d.1, e.1, f.1, g.1, h.1, [], [], [], b.1, c.1, []⟩ h.2
def prog (l : List Int) : Option Pg := if l.length < 4 then none else if (strOfNums (l.take 4)).toList = ([99, 112, 115, 49] : List UInt8) then c0 (l.drop 4) else none
end Go.Proofs.Ytkdboaaganmagaa.Ce
