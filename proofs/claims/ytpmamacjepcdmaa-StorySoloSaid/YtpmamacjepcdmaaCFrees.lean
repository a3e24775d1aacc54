import Derived.Test.YtpmamacjepcdmaaCEndC
import Derived.Test.YtpmamacjepcdmaaCSolo1
namespace Go.Proofs.Ytpmamacjepcdmaa
open Go Go.Sy Go.RowKit
set_option linter.unusedSimpArgs false
set_option linter.unusedVariables false
def iO (w : Wrd) (k : Nat) : Prop:=∀ u : Int,0≤u→u < w.ts.length→u≠k→(tsk w u).busy=false
theorem wc {w : Wrd} (h : eQ w=false) {u : Int} (u0 : 0≤u) (u1 : u < w.ts.length) : (tsk w u).busy=false:=by
 cases e : (tsk w u).busy with
 | false=>rfl
 | true =>
  have:=mK.2 ⟨u,u0,u1,e⟩
  rw [h] at this;cases this
theorem rZ {w : Wrd} (h : ∀ u : Int,0≤u→u < w.ts.length→(tsk w u).busy=false) : eQ w=false:=by
 cases e : eQ w with
 | false=>rfl
 | true =>
  obtain ⟨u,u0,u1,ub⟩:=mK.1 e
  rw [h u u0 u1] at ub;cases ub
theorem tO {w : Wrd} (h : eQ w=false) : ∀ R,dB R w=w
 | 0=>rfl
 | R + 1=>by rw [dB,if_neg (by rw [h];simp)]
theorem CH {w : Wrd} {k : Nat} (h : iO w k) {j : Nat} (hj : j < w.ts.length) (hne : j≠k) : sw w j=w:=by
 unfold sw
 rw [if_neg (by rw [h j (by omega) (by omega) (by omega)];simp)]
theorem yZ {w : Wrd} {k : Nat} (h : iO w k) (hk : k < w.ts.length) : iO (sw w k) k:=by
 by_cases hb : (tsk w k).busy=true
 ·obtain ⟨s1,s2,s3,_,_⟩:=Ka hk hb
  intro u u0 u1 hne
  rw [(s3 u u0 (by omega) hne).1]
  exact h u u0 (by omega) hne
 ·unfold sw;rw [if_neg hb];exact h
theorem qJ {w : Wrd} {k : Nat} (h : iO w k) : ∀ {n j : Nat},k < j→j + n≤w.ts.length→eg n j w=w
 | 0,_,_,_=>rfl
 | n + 1,j,hj,hl=>by
  show eg n (j + 1) (sw w j)=w
  rw [CH h (by omega) (by omega)]
  exact qJ h (by omega) (by omega)
theorem sD {w : Wrd} {k : Nat} (h : iO w k) (hk : k < w.ts.length) : ∀ {n j : Nat},j≤k→j + n=w.ts.length→eg n j w=sw w k
 | 0,_,_,_=>by omega
 | n + 1,j,hj,hl=>by
  show eg n (j + 1) (sw w j)=sw w k
  by_cases e : j=k
  ·subst e
   exact qJ (yZ h hk) (by omega) (by rw [CJ];omega)
  ·rw [CH h (by omega) e]
   exact sD h hk (by omega) (by omega)
theorem tg {α β : Type} {f : α→β} {F : α→α} {G : β→β} (h : ∀ t,f (F t)=G (f t)) : ∀ (l : List α) (i : Nat),(l.modify i F).map f=(l.map f).modify i G
 | [],i=>by simp
 | a :: l,0=>by simp [h]
 | a :: l,i + 1=>by simpa using tg h l i
theorem mc {w : Wrd} (hm : w.bm=w) {F : Tsk→Tsk} (hF : ∀ t,(F t).bm=F t.bm) (y : Mem) (i : Nat) : (Wrd.mk y (w.ts.modify i F)).bm=⟨y,w.ts.modify i F⟩:=by
 have e : w.ts.map Tsk.bm=w.ts:=congrArg Wrd.ts hm
 unfold Wrd.bm
 rw [tg (G:=F) hF,e]
theorem wx {w : Wrd} {k : Nat} (h : iO w k) (hk : k < w.ts.length) (hb : (tsk w k).busy=true) (R : Nat) : dB (R + 1) w=dB R (sw w k):=by
 rw [dB,if_pos (mK.2 ⟨k,by omega,by omega,hb⟩),sD h hk (by omega) (by omega)]
theorem Ao {w : Wrd} {k : Nat} (hm : w.bm=w) (hk : k < w.ts.length) (hb : (tsk w k).busy=true) {r : Frm × Mem} (hr : (cN w k).1=w.gone k r) : sw w k=w.gone k r:=by
 unfold sw
 rw [if_pos hb,rU hk,hr,ln]
 exact mc hm (F:=stepT r.1) (fun _=>rfl) _ _
theorem mX {w : Wrd} {k : Int} (hb : (tsk w k).busy=true) :
  ((tsk w k).f.c.kind=2→(cN w k).1=w.gone k (G3 w.m (tsk w k).f k))∧((tsk w k).f.c.kind=3→(cN w k).1=w.gone k (aL w.m (tsk w k).f k))∧((tsk w k).f.c.kind=4∨(tsk w k).f.c.kind=5→(cN w k).1=w.gone k (aB w.m (tsk w k).f k)):=by
 unfold cN
 rw [if_neg (by rw [hb];simp)]
 refine ⟨fun h=>?_,fun h=>?_,fun h=>?_⟩
 ·rw [if_neg (by omega),if_pos h]
 ·rw [if_neg (by omega),if_neg (by omega),if_pos h]
 ·rw [if_neg (by omega),if_neg (by omega),if_neg (by omega),if_pos h]
def EK (g : Frm) (t : Tsk) : Tsk:={ t with busy:=false,f:=g}
theorem jR {K : Int} {k : Nat} {st : Mem→Frm→Frm × Mem} (hs : ∀ (w : Wrd),(tsk w k).busy=true→(tsk w k).f.c.kind=K→(cN w k).1=w.gone k (st w.m (tsk w k).f)) (hc : ∀ m f,f.done=false→f.c.kind=K→(st m f).1.c=f.c) :
  ∀ {n R : Nat} {w : Wrd} {g : Frm} {y : Mem},n≤R→w.bm=w→iO w k→k < w.ts.length→(tsk w k).busy=true→(tsk w k).f.done=false→(tsk w k).f.c.kind=K→bZ st n (tsk w k).f w.m=(g,y,true)→dB R w=⟨y,w.ts.modify k (EK g)⟩
 | 0,_,_,_,_,_,_,_,_,_,_,_,h=>by cases h
 | n + 1,0,_,_,_,hn,_,_,_,_,_,_,_=>by omega
 | n + 1,R + 1,w,g,y,hn,hm,ho,hk,hb,hd,hK,ha=>by
  rw [wx ho hk hb R,Ao hm hk hb (hs w hb hK)]
  obtain ⟨f1,m1,hst⟩ : ∃ f1 m1,st w.m (tsk w k).f=(f1,m1):=⟨_,_,rfl⟩
  have h1:=yZ ho hk
  rw [Ao hm hk hb (hs w hb hK),hst] at h1
  have hx : (0 : Int)≤k:=by omega
  have hxl : (k : Int) < w.ts.length:=by omega
  have hg : ∀ r : Frm × Mem,w.gone k r=⟨r.2,w.ts.modify k (stepT r.1)⟩:=fun r=>by rw [ln];rfl
  rw [hg] at h1
  rw [hst,hg]
  have ht : tsk ⟨m1,w.ts.modify k (stepT f1)⟩ k=stepT f1 (tsk w k):=by
   have:=eT (w:=w) (y:=m1) (F:=stepT f1) hx hxl hx
   rw [if_pos rfl] at this
   exact this
  cases e : f1.done with
  | true =>
   rw [dm hst e] at ha
   have hfg : f1=g∧m1=y:=by cases ha;exact ⟨rfl,rfl⟩
   rw [← hfg.1,← hfg.2]
   clear ha hfg
   have hi : eQ ⟨m1,w.ts.modify k (stepT f1)⟩=false:=rZ fun u u0 u1=>by
    by_cases hne : u=k
    ·rw [hne,ht];show (!f1.done)=false;rw [e];rfl
    ·exact h1 u u0 u1 hne
   rw [tO hi]
   have : stepT f1=EK f1:=funext fun t=>by unfold stepT EK;rw [e];rfl
   rw [this]
  | false =>
   rw [bd hst e] at ha
   have hcf:=hc w.m (tsk w k).f hd hK
   rw [hst] at hcf
   have:=jR (K:=K) (k:=k) hs hc (n:=n) (R:=R) (w:=⟨m1,w.ts.modify k (stepT f1)⟩) (g:=g) (y:=y) (by omega) (mc hm (F:=stepT f1) (fun _=>rfl) _ _) h1 (by simpa using hk) (by rw [ht];show (!f1.done)=true;rw [e];rfl) (by rw [ht];exact e) (by rw [ht];show f1.c.kind=K;rw [hcf];exact hK) (by rw [ht];exact ha)
   rw [this]
   show (Wrd.mk y ((w.ts.modify k (stepT f1)).modify k (EK g)))=_
   rw [aC];rfl
def begun (c : Cal) (t : Tsk) : Tsk:={ t with busy:=true,f:=aX c}
theorem Cp {w : Wrd} {k : Nat} {c : Cal} (hk : k < w.ts.length) (hi : eQ w=false) : iO ⟨w.m,w.ts.modify k (begun c)⟩ k:=fun u u0 u1 hne=>by
 have hl : u < w.ts.length:=by simpa using u1
 have : tsk ⟨w.m,w.ts.modify k (begun c)⟩ u=tsk w u:=by
  have:=eT (w:=w) (y:=w.m) (x:=(k : Int)) (F:=begun c) (by omega) (by omega) u0
  rw [if_neg hne] at this
  exact this
 rw [this]
 exact wc hi u0 hl
end Go.Proofs.Ytpmamacjepcdmaa

namespace Go.Proofs.Ytpmamacjepcdmaa
open Go Go.Sy Go.RowKit
set_option linter.unusedSimpArgs false
set_option linter.unusedVariables false
end Go.Proofs.Ytpmamacjepcdmaa

namespace Go.Proofs.Ytpmamacjepcdmaa
open Go Go.Sy Go.RowKit
set_option linter.unusedSimpArgs false
set_option linter.unusedVariables false
theorem sk {w : Wrd} {y : Mem} {k : Nat} {F : Tsk→Tsk} (hk : k < w.ts.length) {u : Int} (u0 : 0≤u) : tsk ⟨y,w.ts.modify k F⟩ u=if u=k then F (tsk w k) else tsk w u :=
 eT (w:=w) (y:=y) (x:=(k : Int)) (F:=F) (by omega) (by omega) u0
theorem vj : ∀ (R : Nat) {v : Wrd},v.bm=v→(dB R v).bm=dB R v
 | 0,_,h=>h
 | R + 1,v,h=>by
  unfold dB
  split
  ·refine vj R ?_
   have : ∀ n j (v : Wrd),v.bm=v→(eg n j v).bm=eg n j v:=fun n=>by
    induction n with
    | zero=>intro j v hv;exact hv
    | succ n ih=>intro j v hv;exact ih (j + 1) _ (Am hv j)
   exact this _ _ v h
  ·exact h
end Go.Proofs.Ytpmamacjepcdmaa
