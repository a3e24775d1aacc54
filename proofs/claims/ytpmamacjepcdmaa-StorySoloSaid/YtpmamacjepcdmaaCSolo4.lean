import Derived.Test.YtpmamacjepcdmaaCSolo1
import Derived.Test.YtpmamacjepcdmaaCFrees
import Derived.Test.YtpmamacjepcdmaaCDelete
namespace Go.Proofs.Ytpmamacjepcdmaa
open Go Go.Sy Go.RowKit
set_option linter.unusedSimpArgs false
set_option linter.unusedVariables false
structure Fz (w : Wrd) : Prop where
 inv : Inv w
 bm : w.bm=w
 idle : eQ w=false
theorem FA : ∀ (n k : Nat) {w : Wrd},Inv w→Inv (eg n k w)∧(eg n k w).ts.length=w.ts.length
 | 0,_,_,h=>⟨h,rfl⟩
 | n + 1,k,w,h=>by
  obtain ⟨h1,h3⟩:=FA n (k + 1) (CK h k)
  exact ⟨h1,h3.trans (CJ w k)⟩
theorem FC : ∀ (R : Nat) {w : Wrd},Inv w→Inv (dB R w)∧(dB R w).ts.length=w.ts.length
 | 0,_,h=>⟨h,rfl⟩
 | R + 1,w,h=>by
  unfold dB
  split
  ·obtain ⟨h1,h3⟩:=FA w.ts.length 0 h
   obtain ⟨g1,g3⟩:=FC R h1
   exact ⟨g1,g3.trans h3⟩
  ·exact ⟨h,rfl⟩
def AF (g : Frm) (t : Tsk) : Tsk:={ t with busy:=false,f:=g,held:=if g.e=0 then t.held ++ [g.slot] else t.held}
theorem CI {w : Wrd} {k : Nat} {y : Mem} {F : Tsk→Tsk} (hm : w.bm=w) (hk : k < w.ts.length) (hb : (tsk w k).busy=true) (hF : ∀ t,(F t).bm=F t.bm) (hr : (cN w k).1=⟨y,w.ts.modify k F⟩) : sw w k=⟨y,w.ts.modify k F⟩:=by
 unfold sw
 rw [if_pos hb,rU hk,hr]
 exact mc hm hF _ _
theorem uL {k : Nat} : ∀ {n R : Nat} {w : Wrd} {g : Frm} {y : Mem},n≤R→w.bm=w→iO w k→k < w.ts.length→(tsk w k).busy=true→(tsk w k).f.c.kind=1→bZ ar n (tsk w k).f w.m=(g,y,true)→dB R w=⟨y,w.ts.modify k (AF g)⟩
 | 0,_,_,_,_,_,_,_,_,_,_,h=>by cases h
 | n + 1,0,_,_,_,hn,_,_,_,_,_,_=>by omega
 | n + 1,R + 1,w,g,y,hn,hm,ho,hk,hb,hK,ha=>by
  rw [wx ho hk hb R]
  obtain ⟨f1,m1,hst⟩ : ∃ f1 m1,ar w.m (tsk w k).f=(f1,m1):=⟨_,_,rfl⟩
  have h1:=yZ ho hk
  have hc1 : f1.c=(tsk w k).f.c:=by have:=Dz w.m (tsk w k).f;rw [hst] at this;exact this
  cases e : f1.done with
  | true =>
   rw [dm hst e] at ha
   have hfg : f1=g∧m1=y:=by cases ha;exact ⟨rfl,rfl⟩
   rw [← hfg.1,← hfg.2]
   clear ha hfg
   have hr : (cN w k).1=⟨m1,w.ts.modify k (AF f1)⟩:=by
    unfold cN
    rw [if_neg (by rw [hb];simp),if_pos hK,hst]
    by_cases e0 : f1.e=0
    ·rw [if_pos ⟨e,e0⟩]
     show (⟨m1,w.ts.modify k _⟩ : Wrd)=_
     congr 1
     refine Hw _ _ _ _ ?_
     show (⟨!f1.done,f1,(tsk w k).held ++ [f1.slot],_⟩ : Tsk)=⟨false,f1,if f1.e=0 then (tsk w k).held ++ [f1.slot] else (tsk w k).held,_⟩
     rw [if_pos e0,e];rfl
    ·rw [if_neg (fun h=>e0 h.2)]
     show (⟨m1,w.ts.modify k _⟩ : Wrd)=_
     congr 1
     refine Hw _ _ _ _ ?_
     show (⟨!f1.done,f1,(tsk w k).held,_⟩ : Tsk)=⟨false,f1,if f1.e=0 then (tsk w k).held ++ [f1.slot] else (tsk w k).held,_⟩
     rw [if_neg e0,e];rfl
   have hs:=CI (F:=AF f1) hm hk hb (fun _=>rfl) hr
   rw [hs] at h1 ⊢
   refine tO (rZ fun u u0 u1=>?_) R
   by_cases hne : u=k
   ·rw [hne,sk hk (by omega),if_pos rfl];rfl
   ·exact h1 u u0 u1 hne
  | false =>
   rw [bd hst e] at ha
   have hr : (cN w k).1=⟨m1,w.ts.modify k (stepT f1)⟩:=by
    unfold cN
    rw [if_neg (by rw [hb];simp),if_pos hK,hst,if_neg (fun h=>by rw [e] at h;cases h.1)]
    rfl
   have hs:=CI (F:=stepT f1) hm hk hb (fun _=>rfl) hr
   rw [hs] at h1 ⊢
   have ht : tsk ⟨m1,w.ts.modify k (stepT f1)⟩ k=stepT f1 (tsk w k):=by rw [sk hk (by omega),if_pos rfl]
   have:=uL (k:=k) (n:=n) (R:=R) (w:=⟨m1,w.ts.modify k (stepT f1)⟩) (g:=g) (y:=y) (by omega) (mc hm (F:=stepT f1) (fun _=>rfl) _ _) h1 (by simpa using hk) (by rw [ht];show (!f1.done)=true;rw [e];rfl) (by rw [ht];show f1.c.kind=1;rw [hc1];exact hK) (by rw [ht];exact ha)
   rw [this]
   show (Wrd.mk y ((w.ts.modify k (stepT f1)).modify k (AF g)))=_
   rw [aC];rfl
theorem rC {m y : Mem} (h : Alike m y) : aq y=aq m:=by
 rw [gN,gN,h.heads]
 refine pO fun i _ _=>?_
 rw [Ef h]
 refine List.map_congr_left fun a _=>?_
 unfold bu
 rw [(h.sl _).2.1,(h.sl _).2.2.2]
theorem LM {w : Wrd} (h : Fz w) (hl : w.ts.length=1) {c : Cal} (hd : (doW w.G4 ⟨0,false,false,c⟩).2=0) :
  doW w.G4 ⟨0,false,false,c⟩=(⟨w.m,w.ts.modify 0 (begun c)⟩,0)∧bN w ⟨0,false,false,c⟩=(⟨w.m,w.ts.modify 0 (begun c)⟩,0)∧bf w.m c=0∧(c.kind=6→c.slot∈(tsk w ((0 : Nat) : Int)).held):=by
 have hdo : doW w.G4 ⟨0,false,false,c⟩=if (bN w ⟨0,false,false,c⟩).2≠0 then (Wrd.none,(bN w ⟨0,false,false,c⟩).2) else ((bN w ⟨0,false,false,c⟩).1,0):=by
  unfold doW
  rw [if_neg (fun y=>y h.inv.G4.check.1),iQ,h.bm]
 rw [hdo] at hd ⊢
 have hb:=wc h.idle (u:=((0 : Nat) : Int)) (by omega) (by omega)
 have hp : bN w ⟨0,false,false,c⟩=eR w ((0 : Nat) : Int) c:=by
  unfold bN
  rw [if_neg (by simp),if_neg (by show ¬ ((0 : Int) < 0∨(w.ts.length : Int)≤(0 : Int));omega),if_neg (by simp)]
  rfl
 rw [hp] at hd
 rw [show bN w ⟨0,false,false,c⟩=eR w ((0 : Nat) : Int) c from hp]
 have hr2 : (eR w ((0 : Nat) : Int) c).2=0:=Classical.byContradiction fun hn=>by rw [if_pos hn] at hd;exact hn hd
 rw [if_neg (fun y=>y hr2)]
 clear hd hdo hp
 revert hr2
 unfold eR
 rw [if_neg (by rw [hb];simp)]
 by_cases h1 : bf w.m c≠0
 ·rw [if_pos h1]
  intro e
  exact absurd e h1
 ·rw [if_neg h1]
  by_cases h2 : (tsk w ((0 : Nat) : Int)).held.length=100∧c.kind=1
  ·rw [if_pos h2];intro e;cases e
  ·rw [if_neg h2]
   by_cases h3 : c.kind=6∧c.slot ∉ (tsk w ((0 : Nat) : Int)).held
   ·rw [if_pos h3];intro e;cases e
   ·rw [if_neg h3]
    intro _
    exact ⟨rfl,rfl,Classical.not_not.1 h1,fun e=>Classical.not_not.1 fun hn=>h3 ⟨e,hn⟩⟩
end Go.Proofs.Ytpmamacjepcdmaa

namespace Go.Proofs.Ytpmamacjepcdmaa
open Go Go.Sy Go.RowKit
set_option linter.unusedSimpArgs false
set_option linter.unusedVariables false
theorem sm {w : Wrd} {y : Mem} {F : Tsk→Tsk} (hl : w.ts.length=1) : tsk ⟨y,w.ts.modify 0 F⟩ 0=F (tsk w 0):=by
 have:=sk (w:=w) (y:=y) (k:=0) (F:=F) (by omega) (u:=((0 : Nat) : Int)) (by omega)
 rw [if_pos rfl] at this
 exact this
theorem ko {u : Wrd} {y : Mem} {F : Tsk→Tsk} (hu : Inv u) (hm : u.bm=u) (hl : u.ts.length=1) (he : dB 80 u=⟨y,u.ts.modify 0 F⟩) (hF : ∀ t,(F t).busy=false) :
  Fz (dB 80 u)∧(dB 80 u).ts.length=1∧tsk (dB 80 u) 0=F (tsk u 0)∧(dB 80 u).m=y:=by
 obtain ⟨e1,e3⟩:=FC 80 hu
 have ht : tsk (dB 80 u) 0=F (tsk u 0):=by
  rw [he]
  exact sm hl
 refine ⟨⟨e1,vj 80 hm,rZ fun v v0 v1=>?_⟩,e3.trans hl,ht,by rw [he]⟩
 have : v=0:=by omega
 subst this
 rw [ht];exact hF _
theorem LN {m : Mem} {a : Int} (a0 : 0≤a) (a1 : a < m.slots.length) : Alike m (hold m a).1:=by
 rcases oD m a with ⟨_,e⟩ | ⟨_,e⟩
 ·rw [e];exact Alike.same m
 ·rw [e];exact Alike.refs a0 a1 rfl rfl rfl
structure Solo (w V : Wrd) (c : Cal) : Prop where
 calm : Fz V
 len : V.ts.length=1
 nh : NH w.m V.m
 kind : 1≤c.kind∧c.kind≤6
 look : c.kind=1→aq V.m=aq w.m∧(((tsk V 0).f.e≠0∧(tsk V 0).held=(tsk w 0).held∧∀ x∈aq w.m,x.k=c.k→x.till≤w.m.now) ∨
  ((tsk V 0).f.e=0∧(tsk V 0).held=(tsk w 0).held ++ [(tsk V 0).f.slot]∧∃ x∈aq w.m,x.k=c.k∧w.m.now < x.till))
 add : c.kind=2→(tsk V 0).held=(tsk w 0).held∧((w.m.free.length=0∧(tsk V 0).f.e=7∧aq V.m=aq w.m)∨(w.m.free.length≠0∧(∃ x∈aq w.m,x.k=c.k)∧(tsk V 0).f.e=6∧aq V.m=aq w.m) ∨
  (w.m.free.length≠0∧(∀ x∈aq w.m,x.k≠c.k)∧(tsk V 0).f.e=0∧(aq V.m).length=(aq w.m).length + 1∧(∃ s,⟨c.k,s,da w.m c.time⟩∈aq V.m)∧∀ x∈aq w.m,x∈aq V.m))
 time : c.kind=2→1≤c.time∧c.time≤1000000
 drop : c.kind=3→(tsk V 0).held=(tsk w 0).held∧(((∀ x∈aq w.m,x.k≠c.k)∧(tsk V 0).f.e=5∧aq V.m=aq w.m)∨((∃ x∈aq w.m,x.k=c.k)∧(tsk V 0).f.e=0∧aq V.m=(aq w.m).filter fun x=>decide (x.k≠c.k)))
 sweep : c.kind=4→(tsk V 0).held=(tsk w 0).held∧aq V.m=(aq w.m).filter (fun x=>!(decide (x.till≤w.m.now) && decide (bk w.m x.k=c.bucket)))∧(tsk V 0).f.n=(aq w.m).length - (aq V.m).length
 list : c.kind=5→(tsk V 0).held=(tsk w 0).held∧aq V.m=aq w.m
 leave : c.kind=6→aq V.m=aq w.m∧∀ x : Int,(tsk w 0).held.count x=(tsk V 0).held.count x + if x=c.slot then 1 else 0
theorem E6 {m : Mem} {c : Cal} (h : bf m c=0) : 1≤c.kind∧c.kind≤6:=by
 unfold bf at h
 split at h
 ·omega
 ·split at h
  ·omega
  ·split at h
   ·omega
   ·split at h
    ·omega
    ·cases h
theorem Cj {w : Wrd} (h : Fz w) (hl : w.ts.length=1) {c : Cal} (hd : (doW w.G4 ⟨0,false,false,c⟩).2=0) :
  ∃ u V : Wrd,doW w.G4 ⟨0,false,false,c⟩=(u,0)∧u.bm=u∧Inv u∧dB 80 u=V∧Solo w V c:=by
 obtain ⟨d1,hp,d2,d6⟩:=LM h hl hd
 have hm : (⟨w.m,w.ts.modify 0 (begun c)⟩ : Wrd).bm=⟨w.m,w.ts.modify 0 (begun c)⟩:=mc h.bm (F:=begun c) (fun _=>rfl) _ _
 have hi : Inv ⟨w.m,w.ts.modify 0 (begun c)⟩:=by have:=xg h.inv ⟨0,false,false,c⟩;rwa [hp] at this
 have ho:=Cp (k:=0) (c:=c) (by omega) h.idle
 have ht : tsk ⟨w.m,w.ts.modify 0 (begun c)⟩ 0=begun c (tsk w 0):=sm hl
 have hum : (⟨w.m,w.ts.modify 0 (begun c)⟩ : Wrd).m=w.m:=rfl
 obtain ⟨u,hu⟩ : ∃ u : Wrd,u=⟨w.m,w.ts.modify 0 (begun c)⟩:=⟨_,rfl⟩
 have hul : u.ts.length=1:=by rw [hu];simpa using hl
 rw [← hu] at d1 hm hi ho ht hum
 have hb : (tsk u ((0 : Nat) : Int)).busy=true:=by show (tsk u 0).busy=true;rw [ht];rfl
 have hf : (tsk u ((0 : Nat) : Int)).f=aX c:=by show (tsk u 0).f=_;rw [ht];rfl
 have hC:=h.inv.ch
 have hns:=hC.mem.ns
 have hlk:=zL h.inv h.idle
 have hlk2 : ∀ i,i < w.m.heads.length→w.m.ae.getD i 0=-1:=fun i hi=>hlk i (by rw [hC.mem.nl];exact hi)
 have hkd:=E6 d2
 refine ⟨u,dB 80 u,d1,hm,hi,rfl,?_⟩
 rcases (by omega : c.kind=1∨c.kind=2∨c.kind=3∨c.kind=4∨c.kind=5∨c.kind=6) with hk | hk | hk | hk | hk | hk
 ·have hK:=mH d2 (by omega)
  obtain ⟨f,x,e1,e2⟩:=zu hC hK fun i hi=>by have:=C3 h.inv i hi;omega
  have e3 : bZ ar (2 * w.m.slots.length + 6) (aX c) w.m=(cM c f,x,true):=by
   have:=jV (st:=ar) (c:=c) (c0:=⟨1,c.k,0,0,0⟩) (fun m f hf=>⟨EG (by rw [hf];exact hk) (by rw [hf]) (by rw [hf]),by rw [Dz,hf]⟩) (2 * w.m.slots.length + 6) (aX ⟨1,c.k,0,0,0⟩) w.m rfl
   rw [e1] at this
   exact this
  have hx:=mb EN (2 * w.m.slots.length + 6) (aX c) w.m
  rw [e3] at hx
  have he:=uL (k:=0) (n:=2 * w.m.slots.length + 6) (R:=80) (w:=u) (g:=cM c f) (y:=x) (by omega) hm ho (by omega) hb (by rw [hf];exact hk) (by rw [hf,hum];exact e3)
  obtain ⟨f1,f2,f3,f4⟩:=ko hi hm hul he fun _=>rfl
  have hfe : (tsk (dB 80 u) 0).f.e=f.e∧(tsk (dB 80 u) 0).f.slot=f.slot:=by rw [f3];exact ⟨rfl,rfl⟩
  have hhd : (tsk (dB 80 u) 0).held=if f.e=0 then (tsk w 0).held ++ [f.slot] else (tsk w 0).held:=by rw [f3,ht];rfl
  refine ⟨f1,f2,by rw [f4];exact hx,hkd,fun _=>?_,fun e=>by omega,fun e=>by omega,fun e=>by omega,fun e=>by omega,fun e=>by omega,fun e=>by omega⟩
  rw [f4,hfe.1,hfe.2,hhd]
  rcases e2 with ⟨g1,g2,g3⟩ | ⟨g1,g2,g3,g4,g5⟩
  ·refine ⟨by rw [g2],.inl ⟨by omega,if_neg (by omega),fun z hz e=>?_⟩⟩
   obtain ⟨_,_,q3,q4,_,_,q7⟩:=jj hC hz
   rw [e] at q7 q3
   have:=g3 _ q7 q3
   rw [q4];exact this
  ·have hbr:=jq hC.mem hK
   have hin:=cW hC g2
   refine ⟨by rw [g5];exact rC (LN hin.1 hin.2),.inr ⟨g1,if_pos g1,bu w.m f.slot,mw (by omega) g2,g3,g4⟩⟩
 ·have hK:=mH d2 (by omega)
  have htm : 1≤c.time∧c.time≤1000000:=by
   unfold bf at d2
   rw [if_neg (by omega),if_pos hk] at d2
   split at d2
   ·cases d2
   ·omega
  obtain ⟨f,x,e1,_,_,e2⟩:=Cy hC hK htm.1 htm.2 hlk2
  have e3 : bZ ad (2 * w.m.slots.length + 7) (aX c) w.m=(cM c f,x,true):=by
   have:=jV (st:=ad) (c:=c) (c0:=⟨2,c.k,c.time,0,0⟩) (fun m f hf=>⟨re_add (by rw [hf];exact hk) (by rw [hf]) (by rw [hf]) (by rw [hf]),by unfold ad;rw [add_c,hf]⟩) (2 * w.m.slots.length + 7) (aX ⟨2,c.k,c.time,0,0⟩) w.m rfl
   rw [e1] at this
   exact this
  have hx:=mb (st:=ad) (fun m f=>nh_add m f 0) (2 * w.m.slots.length + 7) (aX c) w.m
  rw [e3] at hx
  have he:=jR (K:=2) (k:=0) (st:=ad) (fun w' hb' hk'=>(mX (w:=w') (k:=((0 : Nat) : Int)) hb').1 hk') (fun m f _ _=>add_c m f 0) (n:=2 * w.m.slots.length + 7) (R:=80) (w:=u) (g:=cM c f) (y:=x) (by omega) hm ho (by omega) hb (by rw [hf];rfl) (by rw [hf];exact hk) (by rw [hf,hum];exact e3)
  obtain ⟨f1,f2,f3,f4⟩:=ko hi hm hul he fun _=>rfl
  have hfe : (tsk (dB 80 u) 0).f.e=f.e:=by rw [f3];rfl
  have hhd : (tsk (dB 80 u) 0).held=(tsk w 0).held:=by rw [f3,ht];rfl
  refine ⟨f1,f2,by rw [f4];exact hx,hkd,fun e=>by omega,fun _=>⟨hhd,?_⟩,fun _=>htm,fun e=>by omega,fun e=>by omega,fun e=>by omega,fun e=>by omega⟩
  rw [f4,hfe]
  rcases e2 with ⟨g1,g2,g3⟩ | ⟨g1,g2,g3,g4,g5⟩ | ⟨g1,g2,g3,g4,g5,g6⟩
  ·exact .inl ⟨g1,g2,by rw [g3]⟩
  ·exact .inr (.inl ⟨g1,g2,g3,g5⟩)
  ·exact .inr (.inr ⟨g1,g2,g3,g4,⟨_,g5⟩,g6⟩)
 ·have hK:=mH d2 (by omega)
  obtain ⟨f,x,e1,_,_,_,e2⟩:=zT hC hK hlk2
  have e3 : bZ dp (2 * w.m.slots.length + 6) (aX c) w.m=(cM c f,x,true):=by
   have:=jV (st:=dp) (c:=c) (c0:=⟨3,c.k,0,0,0⟩) (fun m f hf=>⟨EH (by rw [hf];exact hk) (by rw [hf]) (by rw [hf]),by unfold dp;rw [DZ,hf]⟩) (2 * w.m.slots.length + 6) (aX ⟨3,c.k,0,0,0⟩) w.m rfl
   rw [e1] at this
   exact this
  have hx:=mb (st:=dp) (fun m f=>ER m f 0) (2 * w.m.slots.length + 6) (aX c) w.m
  rw [e3] at hx
  have he:=jR (K:=3) (k:=0) (st:=dp) (fun w' hb' hk'=>(mX (w:=w') (k:=((0 : Nat) : Int)) hb').2.1 hk') (fun m f _ _=>DZ m f 0) (n:=2 * w.m.slots.length + 6) (R:=80) (w:=u) (g:=cM c f) (y:=x) (by omega) hm ho (by omega) hb (by rw [hf];rfl) (by rw [hf];exact hk) (by rw [hf,hum];exact e3)
  obtain ⟨f1,f2,f3,f4⟩:=ko hi hm hul he fun _=>rfl
  have hfe : (tsk (dB 80 u) 0).f.e=f.e:=by rw [f3];rfl
  have hhd : (tsk (dB 80 u) 0).held=(tsk w 0).held:=by rw [f3,ht];rfl
  refine ⟨f1,f2,by rw [f4];exact hx,hkd,fun e=>by omega,fun e=>by omega,fun e=>by omega,fun _=>⟨hhd,?_⟩,fun e=>by omega,fun e=>by omega,fun e=>by omega⟩
  rw [f4,hfe]
  rcases e2 with ⟨g1,g2,g3⟩ | ⟨g1,g2,g3,_⟩
  ·exact .inl ⟨g1,g2,by rw [g3]⟩
  ·exact .inr ⟨g1,g2,g3⟩
 ·have hB:=mI d2 (.inl hk)
  obtain ⟨b,hbb⟩ : ∃ b : Nat,c.bucket=b:=⟨c.bucket.toNat,by omega⟩
  obtain ⟨f,x,e1,_,_,e2,e4⟩:=wU hC (b:=b) (by omega) hlk2
  have e3 : bZ swS (3 * w.m.slots.length + 5) (aX c) w.m=(cM c f,x,true):=by
   have:=jV (st:=swS) (c:=c) (c0:=⟨4,⟨0,0⟩,0,b,0⟩) (fun m f hf=>⟨xa (by rw [hf];exact hk) (by rw [hf];exact .inl rfl) (by rw [hf];exact hbb),by unfold swS;rw [rR,hf]⟩) (3 * w.m.slots.length + 5) (aX ⟨4,⟨0,0⟩,0,b,0⟩) w.m rfl
   rw [e1] at this
   exact this
  have hx:=mb (st:=swS) (fun m f=>Dk m f 0) (3 * w.m.slots.length + 5) (aX c) w.m
  rw [e3] at hx
  have he:=jR (K:=4) (k:=0) (st:=swS) (fun w' hb' hk'=>(mX (w:=w') (k:=((0 : Nat) : Int)) hb').2.2 (.inl hk')) (fun m f _ _=>rR m f 0) (n:=3 * w.m.slots.length + 5) (R:=80) (w:=u) (g:=cM c f) (y:=x) (by omega) hm ho (by omega) hb (by rw [hf];rfl) (by rw [hf];exact hk) (by rw [hf,hum];exact e3)
  obtain ⟨f1,f2,f3,f4⟩:=ko hi hm hul he fun _=>rfl
  have hfe : (tsk (dB 80 u) 0).f.n=f.n:=by rw [f3];rfl
  have hhd : (tsk (dB 80 u) 0).held=(tsk w 0).held:=by rw [f3,ht];rfl
  refine ⟨f1,f2,by rw [f4];exact hx,hkd,fun e=>by omega,fun e=>by omega,fun e=>by omega,fun e=>by omega,fun _=>⟨hhd,?_,by rw [hfe,f4];exact e4⟩,fun e=>by omega,fun e=>by omega⟩
  rw [f4,e2]
  refine List.filter_congr fun z hz=>?_
  obtain ⟨q1,q2,q3,q4,q5,q6,q7⟩:=jj hC hz
  have : decide (z.slot∈chL w.m b)=decide (bk w.m z.k=c.bucket):=by
   rw [decide_eq_decide,hbb]
   constructor
   ·intro hz2
    have:=((hC.ch (b:=b) (by omega)).ok _ hz2).bk
    rw [q3] at this
    exact this
   ·intro e
    rw [e] at q7
    exact q7
  rw [this]
 ·have hB:=mI d2 (.inr hk)
  obtain ⟨b,hbb⟩ : ∃ b : Nat,c.bucket=b:=⟨c.bucket.toNat,by omega⟩
  obtain ⟨f,e1,_,_⟩:=zw hC (b:=b) (by omega) hlk2
  have e3 : bZ swS (2 * w.m.slots.length + 5) (aX c) w.m=(cM c f,w.m,true):=by
   have:=jV (st:=swS) (c:=c) (c0:=⟨5,⟨0,0⟩,0,b,0⟩) (fun m f hf=>⟨xa (by rw [hf];exact hk) (by rw [hf];exact .inr rfl) (by rw [hf];exact hbb),by unfold swS;rw [rR,hf]⟩) (2 * w.m.slots.length + 5) (aX ⟨5,⟨0,0⟩,0,b,0⟩) w.m rfl
   rw [e1] at this
   exact this
  have he:=jR (K:=5) (k:=0) (st:=swS) (fun w' hb' hk'=>(mX (w:=w') (k:=((0 : Nat) : Int)) hb').2.2 (.inr hk')) (fun m f _ _=>rR m f 0) (n:=2 * w.m.slots.length + 5) (R:=80) (w:=u) (g:=cM c f) (y:=w.m) (by omega) hm ho (by omega) hb (by rw [hf];rfl) (by rw [hf];exact hk) (by rw [hf,hum];exact e3)
  obtain ⟨f1,f2,f3,f4⟩:=ko hi hm hul he fun _=>rfl
  have hhd : (tsk (dB 80 u) 0).held=(tsk w 0).held:=by rw [f3,ht];rfl
  exact ⟨f1,f2,by rw [f4];exact NH.id _,hkd,fun e=>by omega,fun e=>by omega,fun e=>by omega,fun e=>by omega,fun e=>by omega,fun _=>⟨hhd,by rw [f4]⟩,fun e=>by omega⟩
 ·have hin:=d6 hk
  have hin : c.slot∈(tsk w 0).held:=hin
  obtain ⟨a0,a1⟩:=(h.inv.hd _ (Hf (t:=0) (by omega) (by omega))).2.2 _ hin
  have hcs : (tsk u 0).f.c=c:=by rw [ht];rfl
  have hh : (tsk u 0).held=(tsk w 0).held:=by rw [ht];rfl
  have hix : 0≤indexOf c.slot (tsk w 0).held 0:=by
   have:=oC c.slot (tsk w 0).held 0
   rcases Int.lt_or_le (indexOf c.slot (tsk w 0).held 0) 0 with hlt | hge
   ·exact absurd hin (this.1 hlt)
   ·exact hge
  obtain ⟨j,i1,l1,l2,i2,i3⟩:=lf hix
  have i1 : indexOf c.slot (tsk w 0).held 0=j:=by rw [i1];omega
  have hr : (cN u ((0 : Nat) : Int)).1=⟨put u.m c.slot,u.ts.modify 0 fun t=>{ t with busy:=false,f:=ay (aX c) 0,held:=l1 ++ l2}⟩:=by
   show (cN u 0).1=_
   have hb : (tsk u 0).busy=true:=hb
   have hf : (tsk u 0).f=aX c:=hf
   unfold cN
   rw [if_neg (by rw [hb];simp),if_neg (by rw [hcs];omega),if_neg (by rw [hcs];omega),if_neg (by rw [hcs];omega),if_neg (by rw [hcs];omega),if_pos (by rw [hcs,hh];exact hix),hcs,hh,hf,i1,i2]
   have e1 : (l1 ++ c.slot :: l2).take (j : Int).toNat=l1:=by rw [Int.toNat_natCast,← i3];simp
   have e2 : (l1 ++ c.slot :: l2).drop ((j : Int) + 1).toNat=l2:=by
    rw [show ((j : Int) + 1).toNat=l1.length + 1 from by omega]
    simp
   rw [e1,e2]
   rfl
  have hs:=CI (w:=u) (k:=0) (y:=put u.m c.slot) (F:=fun t=>{ t with busy:=false,f:=ay (aX c) 0,held:=l1 ++ l2}) hm (by omega) hb (fun _=>rfl) hr
  have he : dB 80 u=⟨put u.m c.slot,u.ts.modify 0 fun t=>{ t with busy:=false,f:=ay (aX c) 0,held:=l1 ++ l2}⟩:=by
   rw [show (80 : Nat)=79 + 1 from rfl,wx ho (by omega) hb 79,hs]
   refine tO (rZ fun v v0 v1=>?_) 79
   have : v=0:=by simp at v1;omega
   subst this
   rw [sm hul]
  obtain ⟨f1,f2,f3,f4⟩:=ko hi hm hul he fun _=>rfl
  refine ⟨f1,f2,by rw [f4,hum];exact sU _ _,hkd,fun e=>by omega,fun e=>by omega,fun e=>by omega,fun e=>by omega,fun e=>by omega,fun e=>by omega,fun _=>⟨by rw [f4,hum];exact rC (Alike.put a0 a1),fun x=>?_⟩⟩
  rw [f3,i2]
  show (l1 ++ c.slot :: l2).count x=(l1 ++ l2).count x + _
  rw [List.count_append,List.count_append,List.count_cons]
  by_cases e : x=c.slot
  ·rw [if_pos e,e];simp;omega
  ·rw [if_neg e,if_neg (by simpa using fun y=>e y.symm)];omega
end Go.Proofs.Ytpmamacjepcdmaa

namespace Go.Proofs.Ytpmamacjepcdmaa
open Go Go.Sy Go.RowKit
set_option linter.unusedSimpArgs false
set_option linter.unusedVariables false
def kC : SK:=⟨48,[.int .i64,.int .i64,.int .i64,.int .i64,.int .i64,.int .i64]⟩
def kL : SK:=⟨24,[.int .i64,.int .i64,.int .i64]⟩
structure SF where
 k : Key
 till : Int
 deriving DecidableEq,Inhabited
def SF.row (p : SF) : List CD:=[.i p.k.a,.i p.k.b,.i p.till]
def SF.of (r : List CD) : SF:=⟨⟨(r.getD 0 .u).int,(r.getD 1 .u).int⟩,(r.getD 2 .u).int⟩
def dP (l : List SF) : CD:=.l (l.map SF.row)
end Go.Proofs.Ytpmamacjepcdmaa
def Go.Sy.CD.sfs (d : Go.Sy.CD) : List Go.Proofs.Ytpmamacjepcdmaa.SF:=d.rows.map Go.Proofs.Ytpmamacjepcdmaa.SF.of
namespace Go.Proofs.Ytpmamacjepcdmaa
open Go Go.Sy Go.RowKit
set_option linter.unusedSimpArgs false
set_option linter.unusedVariables false
theorem sI (l : List SF) : (dP l).sfs=l:=by
 simp only [dP,CD.sfs,CD.ax,List.map_map]
 rw [show (SF.of ∘ SF.row)=id from rfl,List.map_id]
theorem cw (l : List SF) : (dP l).rows.length=l.length:=by simp [dP]
theorem ok_sfs {b : Nat} {d : CD} (h : CD.ok (.sl b kL.kd) d) : ∃ l,d=dP l∧l.length * b≤140737488355328:=by
 obtain ⟨⟨rows,rfl,h1,h2⟩,_⟩:=h
 obtain ⟨l,rfl⟩:=jv (f:=SF.row) (fun row hr=>by
  obtain ⟨d0,row,rfl,g0,hr⟩:=bG hr
  obtain ⟨d1,row,rfl,g1,hr⟩:=bG hr
  obtain ⟨d2,row,rfl,g2,hr⟩:=bG hr
  have hr:=vT hr
  subst hr
  obtain ⟨k,rfl,rfl⟩:=vM (d0:=d0) (d1:=d1) g0 g1
  obtain ⟨n,rfl⟩:=ok_int (k:=.i64) (d:=d2) g2
  exact ⟨⟨k,n⟩,rfl⟩) h2
 exact ⟨l,rfl,by simpa using h1⟩
def eP (l : List Cal) : CD:=.l (l.map Cal.cds)
theorem bF (l : List Cal) : (eP l).rows.length=l.length:=by simp [eP]
theorem Dd {b : Nat} {d : CD} (h : CD.ok (.sl b kC.kd) d) : ∃ l,d=eP l∧l.length * b≤140737488355328:=by
 obtain ⟨⟨rows,rfl,h1,h2⟩,_⟩:=h
 obtain ⟨l,rfl⟩:=jv (f:=Cal.cds) (fun row hr=>by
  obtain ⟨d0,row,rfl,g0,hr⟩:=bG hr
  obtain ⟨d1,row,rfl,g1,hr⟩:=bG hr
  obtain ⟨d2,row,rfl,g2,hr⟩:=bG hr
  obtain ⟨d3,row,rfl,g3,hr⟩:=bG hr
  obtain ⟨d4,row,rfl,g4,hr⟩:=bG hr
  obtain ⟨d5,row,rfl,g5,hr⟩:=bG hr
  have hr:=vT hr
  subst hr
  obtain ⟨c,rfl,rfl,rfl,rfl,rfl,rfl⟩:=kR (d0:=d0) (d1:=d1) (d2:=d2) (d3:=d3) (d4:=d4) (d5:=d5) g0 g1 g2 g3 g4 g5
  exact ⟨c,rfl⟩) h2
 exact ⟨l,rfl,by simpa using h1⟩
theorem iu {l : List SF} {i : Nat} (o : Nat) (h : i < l.length) : ((dP l).rows.getD i []).getD o .u=(l.getD i default).row.getD o .u:=dh SF.row l i o h
theorem EI {l : List Cal} {i : Nat} (o : Nat) (h : i < l.length) : ((eP l).rows.getD i []).getD o .u=(l.getD i default).cds.getD o .u:=dh Cal.cds l i o h
def s149 : Sig:=⟨[.one (.own 148 kL),.one (.int .i64),.one (.int .i64)],[.one (.own 148 kL)]⟩
def d149 : DC:=⟨s149,fun l=>0≤(l.getD 1 .u).int∧(l.getD 1 .u).int≤(l.getD 2 .u).int∧(l.getD 2 .u).int≤(l.getD 0 .u).sfs.length,fun l=>[dP ((l.getD 0 .u).sfs.take (l.getD 1 .u).int.toNat ++ (l.getD 0 .u).sfs.drop (l.getD 2 .u).int.toNat)]⟩
theorem fs149 (l : List SF) (i j : Int) : d149.fn [dP l,.i i,.i j]=[dP (l.take i.toNat ++ l.drop j.toNat)]:=by
 simp only [d149,List.getD_cons_zero,List.getD_cons_succ,CD.aR,sI]
def l149 : List (Nat × Ct):=[]
def z149 : Cx:={ T:=ttA,C:=sigs l149,F:=[],hints:=[],sig:=s149}
def t149 : Tree :=
 (.need (.le (.int 0) (.var 1))
 (.need (.le (.var 1) (.var 2))
 (.need (.le (.var 2) (.len (.var 0)))
 (.ite (.eq (.var 1) (.var 2))
 (.ret [.var 0])
 (.need (.le (.var 1) (.len (.var 0)))
 (.need (.le (.int 0) (.var 2))
 (.need (.le (.add (.var 1) (.sub (.len (.var 0)) (.var 2))) (.len (.var 0)))
 (.need (.le (.add (.var 2) (.sub (.len (.var 0)) (.var 2))) (.len (.var 0)))
 (.need (.le (.int 0) (.add (.var 1) (.sub (.len (.var 0)) (.var 2))))
 (.need (.le (.len (.var 0)) (.add (.len (.take (.var 1) (.var 0))) (.add (.len (.take (.sub (.len (.var 0)) (.var 2)) (.drop (.var 2) (.var 0)))) (.len (.drop (.add (.var 1) (.sub (.len (.var 0)) (.var 2))) (.var 0))))))
 (.need (.le (.add (.add (.var 1) (.sub (.len (.var 0)) (.var 2))) (.sub (.len (.var 0)) (.add (.var 1) (.sub (.len (.var 0)) (.var 2))))) (.add (.len (.take (.var 1) (.var 0))) (.add (.len (.take (.sub (.len (.var 0)) (.var 2)) (.drop (.var 2) (.var 0)))) (.len (.drop (.add (.var 1) (.sub (.len (.var 0)) (.var 2))) (.var 0))))))
 (.need (.le (.add (.var 1) (.sub (.len (.var 0)) (.var 2))) (.add (.len (.take (.add (.var 1) (.sub (.len (.var 0)) (.var 2))) (.app (.take (.var 1) (.var 0)) (.app (.take (.sub (.len (.var 0)) (.var 2)) (.drop (.var 2) (.var 0))) (.drop (.add (.var 1) (.sub (.len (.var 0)) (.var 2))) (.var 0)))))) (.add (.len (.rep (.sub (.len (.var 0)) (.add (.var 1) (.sub (.len (.var 0)) (.var 2)))) (.cons (.int 0) (.cons (.int 0) (.cons (.int 0) .row0))))) (.len (.drop (.add (.add (.var 1) (.sub (.len (.var 0)) (.var 2))) (.sub (.len (.var 0)) (.add (.var 1) (.sub (.len (.var 0)) (.var 2))))) (.app (.take (.var 1) (.var 0)) (.app (.take (.sub (.len (.var 0)) (.var 2)) (.drop (.var 2) (.var 0))) (.drop (.add (.var 1) (.sub (.len (.var 0)) (.var 2))) (.var 0)))))))))
 (.ret [.take (.add (.var 1) (.sub (.len (.var 0)) (.var 2))) (.app (.take (.add (.var 1) (.sub (.len (.var 0)) (.var 2))) (.app (.take (.var 1) (.var 0)) (.app (.take (.sub (.len (.var 0)) (.var 2)) (.drop (.var 2) (.var 0))) (.drop (.add (.var 1) (.sub (.len (.var 0)) (.var 2))) (.var 0))))) (.app (.rep (.sub (.len (.var 0)) (.add (.var 1) (.sub (.len (.var 0)) (.var 2)))) (.cons (.int 0) (.cons (.int 0) (.cons (.int 0) .row0)))) (.drop (.add (.add (.var 1) (.sub (.len (.var 0)) (.var 2))) (.sub (.len (.var 0)) (.add (.var 1) (.sub (.len (.var 0)) (.var 2))))) (.app (.take (.var 1) (.var 0)) (.app (.take (.sub (.len (.var 0)) (.var 2)) (.drop (.var 2) (.var 0))) (.drop (.add (.var 1) (.sub (.len (.var 0)) (.var 2))) (.var 0)))))))])))))))))))))
theorem run149 : run z149 6000 [.code (Try.f149.body.getD .skip),.fin (bt z149 Try.f149.results.toList 50)] { fn:=149,tmps:=z149.sig.aM ++ List.replicate (Try.f149.ntmps - z149.sig.aM.length) (.v (.one .undef)),stk:=[],h:=z149.sig.h0,nx:=z149.sig.ins.length,known:=[]}=t149:=by kernel_rfl
theorem ok149 : cB Try.prog 149 d149.ct:=by
 refine aD (d:=d149) (Z:=z149) (Γ:=gam l149) (fn:=Try.f149) (c:=Try.f149.body.getD .skip) (bg tok mixed all_nil bh) Try.func149 (by kernel_rfl) (by kernel_rfl) rfl run149 fun E hk hp=>?_
 obtain ⟨hk0,hk1,hk2,_⟩:=hk
 obtain ⟨l,e0,b0⟩:=ok_sfs (d:=E 0) hk0
 have b0 : l.length * 24≤140737488355328:=b0
 obtain ⟨x,e1⟩:=ok_int (d:=E 1) hk1
 obtain ⟨x2,e2⟩:=ok_int (d:=E 2) hk2
 have el : aH E d149.sig.ins.length=[dP l,.i x,.i x2]:=by
  show [E 0,E 1,E 2]=_
  rw [e0,e1,e2]
 rw [el] at hp
 rw [el]
 rw [Env.bJ el]
 clear el e0 e1 e2
 simp only [d149,List.getD_cons_zero,List.getD_cons_succ,CD.aR,sI] at hp ⊢
 obtain ⟨p0,p1,p2⟩:=hp
 obtain ⟨i,rfl⟩ : ∃ i : Nat,x=i:=⟨x.toNat,by omega⟩
 obtain ⟨j,rfl⟩ : ∃ j : Nat,x2=j:=⟨x2.toNat,by omega⟩
 simp only [Int.toNat_natCast]
 unfold t149
 have hf : ∀ l : List SF,(dP l).rows=l.map SF.row:=fun _=>rfl
 refine ag (by simp only [nrm,xdn,reduceIte,Nat.reduceLT,Nat.reduceSub,Nat.reduceAdd];omega) (ag (by simp only [nrm,xdn,reduceIte,Nat.reduceLT,Nat.reduceSub,Nat.reduceAdd];omega) (ag (by simp only [nrm,xdn,reduceIte,Nat.reduceLT,Nat.reduceSub,Nat.reduceAdd,cw];omega) (G0 (fun h=>aj ?_) (fun h=>?_))))
 ·simp only [nrm,xdn,reduceIte,Nat.reduceLT,Nat.reduceSub,Nat.reduceAdd] at h ⊢
  have : i=j:=by omega
  subst this
  rw [List.take_append_drop]
 simp only [nrm,xdn,reduceIte,Nat.reduceLT,Nat.reduceSub,Nat.reduceAdd] at h
 have hij : ¬ (i : Int)=j:=by simpa using h
 repeat refine ag (by simp only [nrm,xdn,reduceIte,Nat.reduceLT,Nat.reduceSub,Nat.reduceAdd,hf,List.length_take,List.length_drop,List.length_append,List.length_replicate,List.length_map];omega) ?_
 refine aj ?_
 simp only [nrm,xdn,reduceIte,Nat.reduceLT,Nat.reduceSub,Nat.reduceAdd,hf,List.length_map,Int.toNat_natCast]
 have en : ((i : Int) + ((l.length : Int) - (j : Int))).toNat=i + ((l.map SF.row).length - j):=by rw [List.length_map];omega
 have em : ((l.length : Int) - (j : Int)).toNat=(l.map SF.row).length - j:=by rw [List.length_map];omega
 rw [en,em,x8 (by omega) (by rw [List.length_map];omega)]
 simp only [dP,List.map_append,List.map_take,List.map_drop]
def Dv (l : List (Int × Int)) : CD:=.l (l.map fun p=>[.i p.1,.i p.2])
def iD : List (Int × Int)→Int→Int
 | [],_=>0
 | (a,v) :: l,x=>if a=x then v else iD l x
theorem eX (x : Int) : ∀ l : List (Int × Int),((CD.find (Dv l).rows [.i x] 1).getD []).getD 1 (.i 0)=.i (iD l x)
 | []=>rfl
 | (a,v) :: l=>by
  have ih:=eX x l
  simp only [Dv,CD.ax,CD.find,List.map_cons,List.find?_cons,List.take_succ_cons,List.take_zero,kJ,CD.eqs,Bool.and_true,iD] at ih ⊢
  by_cases e : a=x
  ·rw [if_pos e,show (a ==x)=true from by simpa using e];rfl
  ·rw [if_neg e,show (a ==x)=false from by simpa using e];exact ih
structure Sol (fl : List cI) (L : List SF) : Prop where
 n1 : (fl.map cI.k).Nodup
 n2 : (L.map SF.k).Nodup
 mem : ∀ x∈fl,(⟨x.k,x.till⟩ : SF)∈L
 back : ∀ p∈L,∃ x∈fl,x.k=p.k∧x.till=p.till
theorem vQ {α β : Type} {f : α→β} {l : List α} (h : (l.map f).Nodup) : l.Nodup:=(List.pairwise_map.1 h).imp fun hne e=>hne (by rw [e])
theorem Sol.len {fl : List cI} {L : List SF} (h : Sol fl L) : L.length=fl.length:=by
 have e1 : (fl.map fun x=>(⟨x.k,x.till⟩ : SF)).Nodup:=by
  have : ((fl.map fun x=>(⟨x.k,x.till⟩ : SF)).map SF.k).Nodup:=by rw [List.map_map];exact h.n1
  exact vQ this
 have e2 : L.Nodup:=vQ h.n2
 have k1:=e1.length_le_of_subset (fun p hp=>by
  obtain ⟨x,hx,rfl⟩:=List.mem_map.1 hp
  exact h.mem x hx : _ ⊆ L)
 have k2:=e2.length_le_of_subset (fun p hp=>by
  obtain ⟨x,hx,e3,e4⟩:=h.back p hp
  exact List.mem_map.2 ⟨x,hx,by rw [e3,e4]⟩ : L ⊆ fl.map fun x=>(⟨x.k,x.till⟩ : SF))
 rw [List.length_map] at k1 k2
 omega
theorem uJ {α β : Type} {f : α→β} {P : α→Bool} {l : List α} (h : (l.map f).Nodup) : ((l.filter P).map f).Nodup:=h.sublist (List.filter_sublist.map f)
theorem Sol.filter {fl : List cI} {L : List SF} (h : Sol fl L) {P : cI→Bool} {R : SF→Bool} (hP : ∀ x∈fl,P x=R ⟨x.k,x.till⟩) : Sol (fl.filter P) (L.filter R) :=
 ⟨uJ h.n1,uJ h.n2,fun x hx=>by
  obtain ⟨h1,h2⟩:=List.mem_filter.1 hx
  exact List.mem_filter.2 ⟨h.mem x h1,by rw [← hP x h1];exact h2⟩,fun p hp=>by
  obtain ⟨h1,h2⟩:=List.mem_filter.1 hp
  obtain ⟨x,hx,e1,e2⟩:=h.back p h1
  exact ⟨x,List.mem_filter.2 ⟨hx,by rw [hP x hx,e1,e2];exact h2⟩,e1,e2⟩⟩
theorem Sol.add {fl fl' : List cI} {L : List SF} (h : Sol fl L) {k : Key} {s t : Int} (hn : ∀ x∈fl,x.k≠k) (hl : fl'.length=fl.length + 1) (hm : (⟨k,s,t⟩ : cI)∈fl') (ho : ∀ x∈fl,x∈fl') (hd : (fl'.map cI.k).Nodup) : Sol fl' (L ++ [⟨k,t⟩]):=by
 have hin : ∀ x∈fl',x=⟨k,s,t⟩∨x∈fl:=fun x hx=>by
  by_cases e : x=⟨k,s,t⟩∨x∈fl
  ·exact e
  ·exfalso
   have e1 : x≠⟨k,s,t⟩:=fun y=>e (.inl y)
   have e2 : x ∉ fl:=fun y=>e (.inr y)
   have hf : fl.Nodup:=vQ h.n1
   have h3 : (x :: ⟨k,s,t⟩ :: fl).Nodup:=by
    rw [List.nodup_cons,List.nodup_cons]
    exact ⟨by simp only [List.mem_cons,not_or];exact ⟨e1,e2⟩,fun y=>hn _ y rfl,hf⟩
   have:=h3.length_le_of_subset (fun z hz=>by
    rcases List.mem_cons.1 hz with rfl | hz
    ·exact hx
    ·rcases List.mem_cons.1 hz with rfl | hz
     ·exact hm
     ·exact ho z hz : _ ⊆ fl')
   simp only [List.length_cons] at this
   omega
 refine ⟨hd,?_,fun x hx=>?_,fun p hp=>?_⟩
 ·rw [List.map_append,List.nodup_append]
  refine ⟨h.n2,by simp,fun a ha b hb e=>?_⟩
  obtain ⟨p,hp,rfl⟩:=List.mem_map.1 ha
  obtain ⟨x,hx,e1,_⟩:=h.back p hp
  have hb : b=k:=by simpa using hb
  exact hn x hx (by rw [e1,e,hb])
 ·rcases hin x hx with rfl | hx
  ·simp
  ·exact List.mem_append_left _ (h.mem x hx)
 ·rcases List.mem_append.1 hp with hp | hp
  ·obtain ⟨x,hx,e⟩:=h.back p hp
   exact ⟨x,ho x hx,e⟩
  ·have : p=⟨k,t⟩:=by simpa using hp
   subst this
   exact ⟨_,hm,rfl,rfl⟩
def Fnd (L : List SF) (k : Key) (n : Int) : Prop:=(n=-1∧∀ p∈L,p.k≠k)∨(0≤n∧n < L.length∧(L.getD n.toNat default).k=k)
theorem nq {L : List SF} {i : Nat} (h : i < L.length) : L.getD i default∈L:=by
 rw [List.getD_eq_getElem?_getD,List.getElem?_eq_getElem h]
 exact List.getElem_mem h
theorem Sol.no {fl : List cI} {L : List SF} (h : Sol fl L) {k : Key} {n : Int} (hf : Fnd L k n) : (0≤n↔∃ x∈fl,x.k=k):=by
 rcases hf with ⟨e,hn⟩ | ⟨n0,n1,e⟩
 ·constructor
  ·intro;omega
  ·rintro ⟨x,hx,hk⟩
   exact absurd hk (hn _ (h.mem x hx))
 ·refine ⟨fun _=>?_,fun _=>n0⟩
  obtain ⟨x,hx,e1,_⟩:=h.back _ (nq (L:=L) (i:=n.toNat) (by omega))
  exact ⟨x,hx,e1.trans e⟩
theorem Sol.till {fl : List cI} {L : List SF} (h : Sol fl L) {k : Key} {n : Int} (hf : Fnd L k n) (n0 : 0≤n) {x : cI} (hx : x∈fl) (hk : x.k=k) : (L.getD n.toNat default).till=x.till:=by
 rcases hf with ⟨e,hn⟩ | ⟨_,n1,e⟩
 ·omega
 ·have h1:=nq (L:=L) (i:=n.toNat) (by omega)
  have h2:=h.mem x hx
  have:=fw h.n2 h1 h2 (by rw [e];exact hk.symm)
  rw [this]
theorem As {k : Key} : ∀ {l : List SF} {j : Nat},(l.map SF.k).Nodup→j < l.length→(l.getD j default).k=k→l.take j ++ l.drop (j + 1)=l.filter fun w=>decide (w.k≠k)
 | [],j,_,h,_=>absurd h (by simp)
 | w :: l,0,hn,_,h1=>by
  rw [List.map_cons,List.nodup_cons] at hn
  have h1 : w.k=k:=h1
  have hall : l.filter (fun w=>decide (w.k≠k))=l:=List.filter_eq_self.2 fun v hv=>decide_eq_true fun e=>hn.1 (List.mem_map.2 ⟨v,hv,by rw [e,h1]⟩)
  rw [List.take_zero,List.nil_append,List.drop_one,List.tail_cons,List.filter_cons_of_neg (by simp [h1]),hall]
 | w :: l,j + 1,hn,h,h1=>by
  rw [List.map_cons,List.nodup_cons] at hn
  have h1 : (l.getD j default).k=k:=by simpa using h1
  have h : j < l.length:=by simpa using h
  have h0 : w.k≠k:=fun e=>hn.1 (List.mem_map.2 ⟨_,nq h,by rw [h1,e]⟩)
  rw [List.take_succ_cons,List.drop_succ_cons,List.cons_append,List.filter_cons_of_pos (by simpa using h0),As hn.2 h h1]
theorem lr {P : SF→Bool} {l : List SF} {j : Nat} (hj : j < l.length) : (l.take (j + 1)).filter P=(l.take j).filter P ++ (if P (l.getD j default)=true then [l.getD j default] else []):=by
 have e : l.getD j default=l[j]:=by rw [List.getD_eq_getElem?_getD,List.getElem?_eq_getElem hj];rfl
 rw [List.take_succ_eq_append_getElem hj,List.filter_append,e]
 congr 1
 split
 ·rename_i h;exact List.filter_cons_of_pos h
 ·rename_i h;exact List.filter_cons_of_neg h
theorem sx {A : List SF} {i : Nat} (hi : i < A.length) (v : SF) : (A.set i v).take (i + 1)=A.take i ++ [v]:=by
 rw [List.take_succ_eq_append_getElem (by simpa using hi),List.getElem_set_self,List.take_set_of_le (Nat.le_refl _)]
theorem nN {A l : List SF} {j : Nat} (h : A.drop j=l.drop j) : A.getD j default=l.getD j default:=by
 have:=congrArg (fun x : List SF=>x[0]?) h
 simp only [List.getElem?_drop,Nat.add_zero] at this
 rw [List.getD_eq_getElem?_getD,List.getD_eq_getElem?_getD,this]
structure lD (P : SF→Bool) (l A : List SF) (i j : Nat) : Prop where
 len : A.length=l.length
 ij : i≤j
 jl : j≤l.length
 tk : A.take i=(l.take j).filter P
 dr : A.drop j=l.drop j
theorem lD.fa {P : SF→Bool} {l A : List SF} {i j : Nat} (S : lD P l A i j) (hj : j < l.length) (hp : P (l.getD j default)=true) : lD P l (A.set i (A.getD j default)) (i + 1) (j + 1):=by
 obtain ⟨h1,h2,h3,h4,h5⟩:=S
 refine ⟨by simp [h1],by omega,by omega,?_,?_⟩
 ·rw [sx (by omega),lr hj,if_pos hp,h4,nN h5]
 ·rw [List.drop_set_of_lt (by omega),← List.drop_drop,← List.drop_drop,h5]
theorem lD.Gl {P : SF→Bool} {l A : List SF} {i j : Nat} (S : lD P l A i j) (hj : j < l.length) (hp : P (l.getD j default)=false) : lD P l A i (j + 1):=by
 obtain ⟨h1,h2,h3,h4,h5⟩:=S
 refine ⟨h1,by omega,by omega,?_,?_⟩
 ·rw [lr hj,if_neg (by rw [hp];exact Bool.false_ne_true),List.append_nil,h4]
 ·rw [← List.drop_drop,← List.drop_drop,h5]
theorem pY {l : List SF} {i j : Nat} (hi : i < l.length) (hj : j < l.length) {a0 a1 a2 : CD} (h0 : a0=(((dP l).rows.getD j []).getD 0 .u)) (h1 : a1=(((dP l).rows.getD j []).getD 1 .u)) (h2 : a2=(((dP l).rows.getD j []).getD 2 .u)) :
  CD.l ((((dP l).rows.modify i fun r=>r.set 0 a0).modify i fun r=>r.set 1 a1).modify i fun r=>r.set 2 a2)=dP (l.set i (l.getD j default)):=by
 have e : (dP l).rows=l.map SF.row:=rfl
 have er : (l.map SF.row).getD j []=SF.row (l.getD j default):=by
  rw [List.getD_eq_getElem?_getD,List.getElem?_map,List.getD_eq_getElem?_getD,List.getElem?_eq_getElem hj];rfl
 rw [e,er] at h0 h1 h2
 subst h0;subst h1;subst h2
 rw [e]
 unfold dP
 congr 1
 refine List.ext_getElem? fun t=>?_
 simp only [List.getElem?_modify,List.getElem?_map,List.getElem?_set]
 by_cases e : i=t
 ·subst e
  simp only [if_true,hi,List.getElem?_eq_getElem hi]
  rfl
 ·simp only [if_neg e]
  cases l[t]? <;> rfl
end Go.Proofs.Ytpmamacjepcdmaa
