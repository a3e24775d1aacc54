import Derived.Test.YtpmamacjepcdmaaCPicked
import Derived.Test.YtpmamacjepcdmaaCWorldLocks
import Derived.Test.YtpmamacjepcdmaaCTouch
import Derived.Test.YtpmamacjepcdmaaCChainLaws3
namespace Go.Proofs.Ytpmamacjepcdmaa
open Go Go.Sy Go.RowKit
set_option linter.unusedSimpArgs false
set_option linter.unusedVariables false
def Pst.of (l : List CD) : Pst:=⟨(l.getD 0 .u).int,Cal.of (l.drop 1),(l.getD 7 .u).int,(l.getD 8 .u).int,(l.getD 9 .u).int,(l.getD 10 .u).int,(l.getD 11 .u).int,(l.getD 12 .u).keys⟩
def _root_.Go.Sy.CD.pasts (d : CD) : List Pst:=d.rows.map Pst.of
end Go.Proofs.Ytpmamacjepcdmaa

namespace Go.Proofs.Ytpmamacjepcdmaa
open Go Go.Sy Go.RowKit
set_option linter.unusedSimpArgs false
set_option linter.unusedVariables false
def findF : List dV→Key→Option dV
 | [],_=>none
 | f :: l,k=>if f.k=k then some f else findF l k
def xC (t : Int) : Option dV→Bool
 | some f=>decide (t < f.till)
 | none=>false
def EK (s : Int) : Option dV→Bool
 | some f=>decide (f.slot=s)
 | none=>false
def FE : Option dV→Option dV→Bool
 | some f,some g=>decide (f.slot≠g.slot)
 | some _,none=>true
 | none,_=>false
def ER (p : Pst) (a b : Option dV) (t u : Int) : Bool :=
 if p.c.kind=1 then (if p.e=0 then xC t a && EK p.slot a || xC u b && EK p.slot b else !xC t a || !xC u b)
 else if p.c.kind=2 then (if p.e=0 then a.isNone && EK p.slot b else if p.e=6 then a.isSome || b.isSome else true)
 else if p.c.kind=3 then (if p.e=0 then FE a b else a.isNone || b.isNone)
 else true
end Go.Proofs.Ytpmamacjepcdmaa

namespace Go.Proofs.Ytpmamacjepcdmaa
open Go Go.Sy Go.RowKit
set_option linter.unusedSimpArgs false
set_option linter.unusedVariables false
end Go.Proofs.Ytpmamacjepcdmaa
