import Derived.Test.YtpmamacjepcdmaaCHist2
import Derived.Test.YtpmamacjepcdmaaCAcy
namespace Go.Proofs.Ytpmamacjepcdmaa
open Go Go.Sy Go.RowKit
set_option linter.unusedSimpArgs false
set_option linter.unusedVariables false
end Go.Proofs.Ytpmamacjepcdmaa

namespace Go.Proofs.Ytpmamacjepcdmaa
open Go Go.Sy Go.RowKit
set_option linter.unusedSimpArgs false
set_option linter.unusedVariables false
end Go.Proofs.Ytpmamacjepcdmaa

namespace Go.Proofs.Ytpmamacjepcdmaa
open Go Go.Sy Go.RowKit
set_option linter.unusedSimpArgs false
set_option linter.unusedVariables false
structure Alike (m y : Mem) : Prop where
 len : y.slots.length=m.slots.length
 heads : y.heads=m.heads
 now : y.now=m.now
 sl : ∀ j,(msl y j).next=(msl m j).next∧(msl y j).k=(msl m j).k∧(msl y j).inn=(msl m j).inn∧(msl y j).till=(msl m j).till
theorem Alike.same (m : Mem) : Alike m m:=⟨rfl,rfl,rfl,fun _=>⟨rfl,rfl,rfl,rfl⟩⟩
theorem Alike.trans {m y z : Mem} (h : Alike m y) (g : Alike y z) : Alike m z :=
 ⟨g.len.trans h.len,g.heads.trans h.heads,g.now.trans h.now,fun j=>⟨(g.sl j).1.trans (h.sl j).1,(g.sl j).2.1.trans (h.sl j).2.1,(g.sl j).2.2.1.trans (h.sl j).2.2.1,(g.sl j).2.2.2.trans (h.sl j).2.2.2⟩⟩
theorem Alike.refs {m y : Mem} {a d : Int} (a0 : 0≤a) (a1 : a < m.slots.length) (hs : y.slots=m.slots.modify a.toNat (cB d)) (hh : y.heads=m.heads) (hn : y.now=m.now) : Alike m y :=
 ⟨by rw [hs];simp,hh,hn,fun j=>by
  have:=fV hs (by omega) j
  rw [show msl y j=_ from this]
  split
  ·rename_i e;rw [← e];exact ⟨rfl,rfl,rfl,rfl⟩
  ·exact ⟨rfl,rfl,rfl,rfl⟩⟩
theorem Alike.put {m : Mem} {a : Int} (a0 : 0≤a) (a1 : a < m.slots.length) : Alike m (put m a):=by
 by_cases h : (msl m a.toNat).refs=0
 ·have : Go.Proofs.Ytpmamacjepcdmaa.put m a=m:=by unfold Go.Proofs.Ytpmamacjepcdmaa.put;rw [if_pos h]
  rw [this];exact Alike.same m
 ·obtain ⟨u1,u2,u3,u4⟩:=eK h
  exact Alike.refs a0 a1 u1 u2 u4
structure Good (m y : Mem) : Prop where
 al : Alike m y
 ch : aK y
 few : ∀ j,j < y.slots.length→(msl y j).refs < 1000
def Fin (m : Mem) : Nat→Frm→Prop
 | 0,_=>False
 | n + 1,f=>∀ y,Good m y→(au y f).1.done=true∨Fin m n (au y f).1
theorem Fin.more {m : Mem} : ∀ {n k : Nat} {f : Frm},n≤k→Fin m n f→Fin m k f
 | 0,_,_,_,h=>h.elim
 | n + 1,0,_,hk,_=>by omega
 | n + 1,k + 1,f,hk,h=>fun y hy=>(h y hy).imp id fun h=>Fin.more (by omega) h
theorem Fin.step {m : Mem} {n : Nat} {f g : Frm} (he : ∀ y,Good m y→(au y f).1=g) (h : Fin m n g) : Fin m (n + 1) f:=fun y hy=>by
 rw [he y hy];exact .inr h
section
variable {m : Mem} {B : Nat} {f : Frm}
end
end Go.Proofs.Ytpmamacjepcdmaa
