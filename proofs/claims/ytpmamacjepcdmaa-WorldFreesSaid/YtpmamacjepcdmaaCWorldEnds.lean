import Derived.Test.YtpmamacjepcdmaaCAlone
import Derived.Test.YtpmamacjepcdmaaCAloneDrop
namespace Go.Proofs.Ytpmamacjepcdmaa
open Go Go.Sy Go.RowKit
set_option linter.unusedSimpArgs false
set_option linter.unusedVariables false
def iG (w : Wrd) (k : Nat) : Prop:=∀ u : Int,0≤u→u < w.ts.length→u≠k→(tsk w u).busy=false
theorem vn {w : Wrd} (h : dB w=false) {u : Int} (u0 : 0≤u) (u1 : u < w.ts.length) : (tsk w u).busy=false:=by
 cases e : (tsk w u).busy with
 | false=>rfl
 | true =>
  have:=kb.2 ⟨u,u0,u1,e⟩
  rw [h] at this;cases this
theorem zQ {w : Wrd} (h : ∀ u : Int,0≤u→u < w.ts.length→(tsk w u).busy=false) : dB w=false:=by
 cases e : dB w with
 | false=>rfl
 | true =>
  obtain ⟨u,u0,u1,ub⟩:=kb.1 e
  rw [h u u0 u1] at ub;cases ub
theorem wR {w : Wrd} (h : dB w=false) : ∀ R,dg R w=w
 | 0=>rfl
 | R + 1=>by rw [dg,if_neg (by rw [h];simp)]
theorem BE {w : Wrd} {k : Nat} (h : iG w k) {j : Nat} (hj : j < w.ts.length) (hne : j≠k) : sw w j=w:=by
 unfold sw
 rw [if_neg (by rw [h j (by omega) (by omega) (by omega)];simp)]
theorem xY {w : Wrd} {k : Nat} (h : iG w k) (hk : k < w.ts.length) : iG (sw w k) k:=by
 by_cases hb : (tsk w k).busy=true
 ·obtain ⟨s1,s2,s3,_,_⟩:=rU hk hb
  intro u u0 u1 hne
  rw [(s3 u u0 (by omega) hne).1]
  exact h u u0 (by omega) hne
 ·unfold sw;rw [if_neg hb];exact h
theorem qq {w : Wrd} {k : Nat} (h : iG w k) : ∀ {n j : Nat},k < j→j + n≤w.ts.length→cf n j w=w
 | 0,_,_,_=>rfl
 | n + 1,j,hj,hl=>by
  show cf n (j + 1) (sw w j)=w
  rw [BE h (by omega) (by omega)]
  exact qq h (by omega) (by omega)
theorem rV {w : Wrd} {k : Nat} (h : iG w k) (hk : k < w.ts.length) : ∀ {n j : Nat},j≤k→j + n=w.ts.length→cf n j w=sw w k
 | 0,_,_,_=>by omega
 | n + 1,j,hj,hl=>by
  show cf n (j + 1) (sw w j)=sw w k
  by_cases e : j=k
  ·subst e
   exact qq (xY h hk) (by omega) (by rw [nE];omega)
  ·rw [BE h (by omega) e]
   exact rV h hk (by omega) (by omega)
theorem sF {α β : Type} {f : α→β} {F : α→α} {G : β→β} (h : ∀ t,f (F t)=G (f t)) : ∀ (l : List α) (i : Nat),(l.modify i F).map f=(l.map f).modify i G
 | [],i=>by simp
 | a :: l,0=>by simp [h]
 | a :: l,i + 1=>by simpa using sF h l i
theorem sD {w : Wrd} (hm : w.aS=w) {F : Tsk→Tsk} (hF : ∀ t,(F t).aS=F t.aS) (y : Mem) (i : Nat) : (Wrd.mk y (w.ts.modify i F)).aS=⟨y,w.ts.modify i F⟩:=by
 have e : w.ts.map Tsk.aS=w.ts:=congrArg Wrd.ts hm
 unfold Wrd.aS
 rw [sF (G:=F) hF,e]
theorem zZ {w : Wrd} {k : Nat} (h : iG w k) (hk : k < w.ts.length) (hb : (tsk w k).busy=true) (R : Nat) : dg (R + 1) w=dg R (sw w k):=by
 rw [dg,if_pos (kb.2 ⟨k,by omega,by omega,hb⟩),rV h hk (by omega) (by omega)]
theorem zf {w : Wrd} {k : Nat} (hm : w.aS=w) (hk : k < w.ts.length) (hb : (tsk w k).busy=true) {r : Frm × Mem} (hr : (cG w k).1=w.gone k r) : sw w k=w.gone k r:=by
 unfold sw
 rw [if_pos hb,rC hk,hr,kR]
 exact sD hm (F:=stepT r.1) (fun _=>rfl) _ _
theorem Aw {w : Wrd} {k : Int} (hb : (tsk w k).busy=true) :
  ((tsk w k).f.c.kind=2→(cG w k).1=w.gone k (bx w.m (tsk w k).f k))∧((tsk w k).f.c.kind=3→(cG w k).1=w.gone k (aQ w.m (tsk w k).f k))∧((tsk w k).f.c.kind=4∨(tsk w k).f.c.kind=5→(cG w k).1=w.gone k (aU w.m (tsk w k).f k)):=by
 unfold cG
 rw [if_neg (by rw [hb];simp)]
 refine ⟨fun h=>?_,fun h=>?_,fun h=>?_⟩
 ·rw [if_neg (by omega),if_pos h]
 ·rw [if_neg (by omega),if_neg (by omega),if_pos h]
 ·rw [if_neg (by omega),if_neg (by omega),if_neg (by omega),if_pos h]
def xV (g : Frm) (t : Tsk) : Tsk:={ t with busy:=false,f:=g}
theorem tV {K : Int} {k : Nat} {st : Mem→Frm→Frm × Mem} (hs : ∀ (w : Wrd),(tsk w k).busy=true→(tsk w k).f.c.kind=K→(cG w k).1=w.gone k (st w.m (tsk w k).f)) (hc : ∀ m f,f.done=false→f.c.kind=K→(st m f).1.c=f.c) :
  ∀ {n R : Nat} {w : Wrd} {g : Frm} {y : Mem},n≤R→w.aS=w→iG w k→k < w.ts.length→(tsk w k).busy=true→(tsk w k).f.done=false→(tsk w k).f.c.kind=K→jF st n (tsk w k).f w.m=(g,y,true)→dg R w=⟨y,w.ts.modify k (xV g)⟩
 | 0,_,_,_,_,_,_,_,_,_,_,_,h=>by cases h
 | n + 1,0,_,_,_,hn,_,_,_,_,_,_,_=>by omega
 | n + 1,R + 1,w,g,y,hn,hm,ho,hk,hb,hd,hK,ha=>by
  rw [zZ ho hk hb R,zf hm hk hb (hs w hb hK)]
  obtain ⟨f1,m1,hst⟩ : ∃ f1 m1,st w.m (tsk w k).f=(f1,m1):=⟨_,_,rfl⟩
  have h1:=xY ho hk
  rw [zf hm hk hb (hs w hb hK),hst] at h1
  have hx : (0 : Int)≤k:=by omega
  have hxl : (k : Int) < w.ts.length:=by omega
  have hg : ∀ r : Frm × Mem,w.gone k r=⟨r.2,w.ts.modify k (stepT r.1)⟩:=fun r=>by rw [kR];rfl
  rw [hg] at h1
  rw [hst,hg]
  have ht : tsk ⟨m1,w.ts.modify k (stepT f1)⟩ k=stepT f1 (tsk w k):=by
   have:=eI (w:=w) (y:=m1) (F:=stepT f1) hx hxl hx
   rw [if_pos rfl] at this
   exact this
  cases e : f1.done with
  | true =>
   rw [qk hst e] at ha
   have hfg : f1=g∧m1=y:=by cases ha;exact ⟨rfl,rfl⟩
   rw [← hfg.1,← hfg.2]
   clear ha hfg
   have hi : dB ⟨m1,w.ts.modify k (stepT f1)⟩=false:=zQ fun u u0 u1=>by
    by_cases hne : u=k
    ·rw [hne,ht];show (!f1.done)=false;rw [e];rfl
    ·exact h1 u u0 u1 hne
   rw [wR hi]
   have : stepT f1=xV f1:=funext fun t=>by unfold stepT xV;rw [e];rfl
   rw [this]
  | false =>
   rw [fg hst e] at ha
   have hcf:=hc w.m (tsk w k).f hd hK
   rw [hst] at hcf
   have:=tV (K:=K) (k:=k) hs hc (n:=n) (R:=R) (w:=⟨m1,w.ts.modify k (stepT f1)⟩) (g:=g) (y:=y) (by omega) (sD hm (F:=stepT f1) (fun _=>rfl) _ _) h1 (by simpa using hk) (by rw [ht];show (!f1.done)=true;rw [e];rfl) (by rw [ht];exact e) (by rw [ht];show f1.c.kind=K;rw [hcf];exact hK) (by rw [ht];exact ha)
   rw [this]
   show (Wrd.mk y ((w.ts.modify k (stepT f1)).modify k (xV g)))=_
   rw [az];rfl
def begun (c : Cal) (t : Tsk) : Tsk:={ t with busy:=true,f:=ck c}
theorem C3 {w : Wrd} {k : Nat} {c : Cal} (hk : k < w.ts.length) (hb : (tsk w k).busy=false) (hc : aV w.m c=0) (h1 : c.kind=1→(tsk w k).held.length≠100) (h6 : c.kind=6→c.slot∈(tsk w k).held) : b7 w ⟨k,false,false,c⟩=(⟨w.m,w.ts.modify k (begun c)⟩,0):=by
 unfold b7
 rw [if_neg (by simp),if_neg (by show ¬ ((k : Int) < 0∨(w.ts.length : Int)≤(k : Int));omega),if_neg (by simp)]
 unfold gp
 show (if (tsk w k).busy=true then _ else _)=_
 rw [if_neg (by rw [hb];simp),if_neg (fun y=>y hc),if_neg (fun y=>h1 y.2 y.1),if_neg (fun y=>y.2 (h6 y.1))]
 rfl
theorem qi {w : Wrd} {k : Nat} {c : Cal} (hk : k < w.ts.length) (hi : dB w=false) : iG ⟨w.m,w.ts.modify k (begun c)⟩ k:=fun u u0 u1 hne=>by
 have hl : u < w.ts.length:=by simpa using u1
 have : tsk ⟨w.m,w.ts.modify k (begun c)⟩ u=tsk w u:=by
  have:=eI (w:=w) (y:=w.m) (x:=(k : Int)) (F:=begun c) (by omega) (by omega) u0
  rw [if_neg hne] at this
  exact this
 rw [this]
 exact vn hi u0 hl
end Go.Proofs.Ytpmamacjepcdmaa

namespace Go.Proofs.Ytpmamacjepcdmaa
open Go Go.Sy Go.RowKit
set_option linter.unusedSimpArgs false
set_option linter.unusedVariables false
theorem vY : ∀ {l : List Pik} {i : Nat} {s : pv},Inv s.w.aS→Acy s.w.m→Inv (rh l i s).w.aS∧Acy (rh l i s).w.m
 | [],_,_,h,ha=>⟨h,ha⟩
 | x :: l,i,s,h,ha=>by
  have h1:=(lP h x).aS
  have h2 : Acy (b7 s.w.aS x).1.m:=Acy.pick h ha x
  show Inv (rh l (i + 1) (fT i x s)).w.aS∧Acy (rh l (i + 1) (fT i x s)).w.m
  refine vY ?_ ?_
  ·unfold fT
   repeat' split
   all_goals first
    | exact h
    | exact h1
  ·unfold fT
   repeat' split
   all_goals first
    | exact ha
    | exact h2
theorem run_ok {w : Wrd} (h : Inv w.aS) (ha : Acy w.m) {l : List Pik} (hl : l.length≤300) : (r9 w.bH l).2=0∧Inv (r9 w.bH l).1.w.aS∧Acy (r9 w.bH l).1.w.m:=by
 have hc : bz w.bH=0:=by
  have:=h.bH.check.1
  rwa [show w.aS.bH=w.bH by simp only [Wrd.bH,Wrd.aS,List.map_map];rfl] at this
 unfold r9
 rw [if_neg (fun y=>y hc),if_neg (by omega)]
 refine ⟨rfl,vY ?_ ?_⟩
 ·show Inv w.bH.aS.aS
  rw [di];exact h.aS
 ·exact ha
end Go.Proofs.Ytpmamacjepcdmaa
