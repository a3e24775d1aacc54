import Derived.Test.YtpmamacjepcdmaaCEnds2
import Derived.Test.YtpmamacjepcdmaaCAlone
namespace Go.Proofs.Ytpmamacjepcdmaa
open Go Go.Sy Go.RowKit
set_option linter.unusedSimpArgs false
set_option linter.unusedVariables false
def gT (m : Mem) (f : Frm) (x : Int) : Frm:=if f.c.kind=1 then (au m f).1 else if f.c.kind=2 then (bx m f x).1 else if f.c.kind=3 then (aQ m f x).1 else if f.c.kind=4∨f.c.kind=5 then (aU m f x).1 else aD f 0
theorem rX {w : Wrd} {x : Int} (hx0 : 0≤x) (hx : x < w.ts.length) (hb : (tsk w x).busy=true) :
  (∀ u : Int,0≤u→u≠x→tsk (cG w x).1 u=tsk w u)∧(tsk (cG w x).1 x).f=gT w.m (tsk w x).f x∧(tsk (cG w x).1 x).busy=!(gT w.m (tsk w x).f x).done∧(cG w x).2=0∧(cG w x).1.ts.length=w.ts.length:=by
 have key : ∀ (y : Mem) (F : Tsk→Tsk) (g : Frm),(F (tsk w x)).f=g→(F (tsk w x)).busy=!g.done→(∀ u : Int,0≤u→u≠x→tsk ⟨y,w.ts.modify x.toNat F⟩ u=tsk w u)∧(tsk ⟨y,w.ts.modify x.toNat F⟩ x).f=g∧(tsk ⟨y,w.ts.modify x.toNat F⟩ x).busy=!g.done∧(0 : Int)=0∧(Wrd.mk y (w.ts.modify x.toNat F)).ts.length=w.ts.length:=fun y F g h1 h2 =>
  ⟨fun u u0 hne=>by rw [eI hx0 hx u0,if_neg hne],by rw [eI hx0 hx hx0,if_pos rfl];exact h1,by rw [eI hx0 hx hx0,if_pos rfl];exact h2,rfl,by simp⟩
 unfold cG gT
 rw [if_neg (by rw [hb];simp)]
 by_cases k1 : (tsk w x).f.c.kind=1
 ·rw [if_pos k1,if_pos k1]
  split
  ·exact key _ _ _ rfl rfl
  ·exact key _ _ _ rfl rfl
 rw [if_neg k1,if_neg k1]
 by_cases k2 : (tsk w x).f.c.kind=2
 ·rw [if_pos k2,if_pos k2];exact key _ _ _ rfl rfl
 rw [if_neg k2,if_neg k2]
 by_cases k3 : (tsk w x).f.c.kind=3
 ·rw [if_pos k3,if_pos k3];exact key _ _ _ rfl rfl
 rw [if_neg k3,if_neg k3]
 by_cases k4 : (tsk w x).f.c.kind=4∨(tsk w x).f.c.kind=5
 ·rw [if_pos k4,if_pos k4];exact key _ _ _ rfl rfl
 rw [if_neg k4,if_neg k4]
 split
 ·exact key _ _ _ rfl rfl
 ·exact key _ _ _ rfl rfl
structure SwOk (w v : Wrd) (k : Nat) : Prop where
 m : v.m=(cG w k).1.m
 len : v.ts.length=w.ts.length
 other : ∀ u : Int,0≤u→u < w.ts.length→u≠k→(tsk v u).busy=(tsk w u).busy∧(tsk v u).f=(tsk w u).f∧(tsk v u).held=(tsk w u).held
 f : (tsk v k).f=gT w.m (tsk w k).f k
 busy : (tsk v k).busy=!(gT w.m (tsk w k).f k).done
theorem vU {w : Wrd} {x : Int} (hb : (tsk w x).busy=true) :
  ((tsk w x).f.c.kind=1→(cG w x).1.m=(au w.m (tsk w x).f).2)∧((tsk w x).f.c.kind=2→(cG w x).1.m=(bx w.m (tsk w x).f x).2)∧((tsk w x).f.c.kind=3→(cG w x).1.m=(aQ w.m (tsk w x).f x).2)∧((tsk w x).f.c.kind=4∨(tsk w x).f.c.kind=5→(cG w x).1.m=(aU w.m (tsk w x).f x).2):=by
 unfold cG
 rw [if_neg (by rw [hb];simp)]
 refine ⟨fun k=>?_,fun k=>?_,fun k=>?_,fun k=>?_⟩
 ·rw [if_pos k]
  split <;> rfl
 ·rw [if_neg (by omega),if_pos k];rfl
 ·rw [if_neg (by omega),if_neg (by omega),if_pos k];rfl
 ·rw [if_neg (by omega),if_neg (by omega),if_neg (by omega),if_pos k];rfl
structure Calm (w v : Wrd) : Prop where
 af : v.m.af=w.m.af
 heads : v.m.heads.length=w.m.heads.length
 len : v.ts.length=w.ts.length
 tk : ∀ u : Int,0≤u→u < w.ts.length→(tsk v u).busy=true→(tsk v u).f.c.kind≠1→(tsk w u).busy=true∧(tsk w u).f=(tsk v u).f
 kt : ∀ u : Int,0≤u→u < w.ts.length→(tsk w u).busy=true→(tsk w u).f.c.kind≠1→(tsk v u).busy=true∧(tsk v u).f=(tsk w u).f
end Go.Proofs.Ytpmamacjepcdmaa

namespace Go.Proofs.Ytpmamacjepcdmaa
open Go Go.Sy Go.RowKit
set_option linter.unusedSimpArgs false
set_option linter.unusedVariables false
end Go.Proofs.Ytpmamacjepcdmaa

namespace Go.Proofs.Ytpmamacjepcdmaa
open Go Go.Sy Go.RowKit
set_option linter.unusedSimpArgs false
set_option linter.unusedVariables false
end Go.Proofs.Ytpmamacjepcdmaa
