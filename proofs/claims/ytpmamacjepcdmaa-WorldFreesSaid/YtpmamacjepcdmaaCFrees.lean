import Derived.Test.YtpmamacjepcdmaaCEndC
import Derived.Test.YtpmamacjepcdmaaCAloneDrop
import Derived.Test.YtpmamacjepcdmaaCWorldEnds
namespace Go.Proofs.Ytpmamacjepcdmaa
open Go Go.Sy Go.RowKit
set_option linter.unusedSimpArgs false
set_option linter.unusedVariables false
def iO (w : Wrd) (k : Nat) : Prop:=∀ u : Int,0≤u→u < w.ts.length→u≠k→(tsk w u).busy=false
theorem wc {w : Wrd} (h : eQ w=false) {u : Int} (u0 : 0≤u) (u1 : u < w.ts.length) : (tsk w u).busy=false:=by
 cases e : (tsk w u).busy with
 | false=>rfl
 | true =>
  have:=mK.2 ⟨u,u0,u1,e⟩
  rw [h] at this;cases this
theorem rZ {w : Wrd} (h : ∀ u : Int,0≤u→u < w.ts.length→(tsk w u).busy=false) : eQ w=false:=by
 cases e : eQ w with
 | false=>rfl
 | true =>
  obtain ⟨u,u0,u1,ub⟩:=mK.1 e
  rw [h u u0 u1] at ub;cases ub
theorem tO {w : Wrd} (h : eQ w=false) : ∀ R,dB R w=w
 | 0=>rfl
 | R + 1=>by rw [dB,if_neg (by rw [h];simp)]
theorem CH {w : Wrd} {k : Nat} (h : iO w k) {j : Nat} (hj : j < w.ts.length) (hne : j≠k) : sw w j=w:=by
 unfold sw
 rw [if_neg (by rw [h j (by omega) (by omega) (by omega)];simp)]
theorem yZ {w : Wrd} {k : Nat} (h : iO w k) (hk : k < w.ts.length) : iO (sw w k) k:=by
 by_cases hb : (tsk w k).busy=true
 ·obtain ⟨s1,s2,s3,_,_⟩:=Ka hk hb
  intro u u0 u1 hne
  rw [(s3 u u0 (by omega) hne).1]
  exact h u u0 (by omega) hne
 ·unfold sw;rw [if_neg hb];exact h
theorem qJ {w : Wrd} {k : Nat} (h : iO w k) : ∀ {n j : Nat},k < j→j + n≤w.ts.length→eg n j w=w
 | 0,_,_,_=>rfl
 | n + 1,j,hj,hl=>by
  show eg n (j + 1) (sw w j)=w
  rw [CH h (by omega) (by omega)]
  exact qJ h (by omega) (by omega)
theorem sD {w : Wrd} {k : Nat} (h : iO w k) (hk : k < w.ts.length) : ∀ {n j : Nat},j≤k→j + n=w.ts.length→eg n j w=sw w k
 | 0,_,_,_=>by omega
 | n + 1,j,hj,hl=>by
  show eg n (j + 1) (sw w j)=sw w k
  by_cases e : j=k
  ·subst e
   exact qJ (yZ h hk) (by omega) (by rw [CJ];omega)
  ·rw [CH h (by omega) e]
   exact sD h hk (by omega) (by omega)
theorem tg {α β : Type} {f : α→β} {F : α→α} {G : β→β} (h : ∀ t,f (F t)=G (f t)) : ∀ (l : List α) (i : Nat),(l.modify i F).map f=(l.map f).modify i G
 | [],i=>by simp
 | a :: l,0=>by simp [h]
 | a :: l,i + 1=>by simpa using tg h l i
theorem mc {w : Wrd} (hm : w.bm=w) {F : Tsk→Tsk} (hF : ∀ t,(F t).bm=F t.bm) (y : Mem) (i : Nat) : (Wrd.mk y (w.ts.modify i F)).bm=⟨y,w.ts.modify i F⟩:=by
 have e : w.ts.map Tsk.bm=w.ts:=congrArg Wrd.ts hm
 unfold Wrd.bm
 rw [tg (G:=F) hF,e]
theorem wx {w : Wrd} {k : Nat} (h : iO w k) (hk : k < w.ts.length) (hb : (tsk w k).busy=true) (R : Nat) : dB (R + 1) w=dB R (sw w k):=by
 rw [dB,if_pos (mK.2 ⟨k,by omega,by omega,hb⟩),sD h hk (by omega) (by omega)]
theorem Ao {w : Wrd} {k : Nat} (hm : w.bm=w) (hk : k < w.ts.length) (hb : (tsk w k).busy=true) {r : Frm × Mem} (hr : (cN w k).1=w.gone k r) : sw w k=w.gone k r:=by
 unfold sw
 rw [if_pos hb,rU hk,hr,ln]
 exact mc hm (F:=stepT r.1) (fun _=>rfl) _ _
theorem mX {w : Wrd} {k : Int} (hb : (tsk w k).busy=true) :
  ((tsk w k).f.c.kind=2→(cN w k).1=w.gone k (G3 w.m (tsk w k).f k))∧((tsk w k).f.c.kind=3→(cN w k).1=w.gone k (aL w.m (tsk w k).f k))∧((tsk w k).f.c.kind=4∨(tsk w k).f.c.kind=5→(cN w k).1=w.gone k (aB w.m (tsk w k).f k)):=by
 unfold cN
 rw [if_neg (by rw [hb];simp)]
 refine ⟨fun h=>?_,fun h=>?_,fun h=>?_⟩
 ·rw [if_neg (by omega),if_pos h]
 ·rw [if_neg (by omega),if_neg (by omega),if_pos h]
 ·rw [if_neg (by omega),if_neg (by omega),if_neg (by omega),if_pos h]
def EK (g : Frm) (t : Tsk) : Tsk:={ t with busy:=false,f:=g}
theorem jR {K : Int} {k : Nat} {st : Mem→Frm→Frm × Mem} (hs : ∀ (w : Wrd),(tsk w k).busy=true→(tsk w k).f.c.kind=K→(cN w k).1=w.gone k (st w.m (tsk w k).f)) (hc : ∀ m f,f.done=false→f.c.kind=K→(st m f).1.c=f.c) :
  ∀ {n R : Nat} {w : Wrd} {g : Frm} {y : Mem},n≤R→w.bm=w→iO w k→k < w.ts.length→(tsk w k).busy=true→(tsk w k).f.done=false→(tsk w k).f.c.kind=K→bZ st n (tsk w k).f w.m=(g,y,true)→dB R w=⟨y,w.ts.modify k (EK g)⟩
 | 0,_,_,_,_,_,_,_,_,_,_,_,h=>by cases h
 | n + 1,0,_,_,_,hn,_,_,_,_,_,_,_=>by omega
 | n + 1,R + 1,w,g,y,hn,hm,ho,hk,hb,hd,hK,ha=>by
  rw [wx ho hk hb R,Ao hm hk hb (hs w hb hK)]
  obtain ⟨f1,m1,hst⟩ : ∃ f1 m1,st w.m (tsk w k).f=(f1,m1):=⟨_,_,rfl⟩
  have h1:=yZ ho hk
  rw [Ao hm hk hb (hs w hb hK),hst] at h1
  have hx : (0 : Int)≤k:=by omega
  have hxl : (k : Int) < w.ts.length:=by omega
  have hg : ∀ r : Frm × Mem,w.gone k r=⟨r.2,w.ts.modify k (stepT r.1)⟩:=fun r=>by rw [ln];rfl
  rw [hg] at h1
  rw [hst,hg]
  have ht : tsk ⟨m1,w.ts.modify k (stepT f1)⟩ k=stepT f1 (tsk w k):=by
   have:=eT (w:=w) (y:=m1) (F:=stepT f1) hx hxl hx
   rw [if_pos rfl] at this
   exact this
  cases e : f1.done with
  | true =>
   rw [dm hst e] at ha
   have hfg : f1=g∧m1=y:=by cases ha;exact ⟨rfl,rfl⟩
   rw [← hfg.1,← hfg.2]
   clear ha hfg
   have hi : eQ ⟨m1,w.ts.modify k (stepT f1)⟩=false:=rZ fun u u0 u1=>by
    by_cases hne : u=k
    ·rw [hne,ht];show (!f1.done)=false;rw [e];rfl
    ·exact h1 u u0 u1 hne
   rw [tO hi]
   have : stepT f1=EK f1:=funext fun t=>by unfold stepT EK;rw [e];rfl
   rw [this]
  | false =>
   rw [bd hst e] at ha
   have hcf:=hc w.m (tsk w k).f hd hK
   rw [hst] at hcf
   have:=jR (K:=K) (k:=k) hs hc (n:=n) (R:=R) (w:=⟨m1,w.ts.modify k (stepT f1)⟩) (g:=g) (y:=y) (by omega) (mc hm (F:=stepT f1) (fun _=>rfl) _ _) h1 (by simpa using hk) (by rw [ht];show (!f1.done)=true;rw [e];rfl) (by rw [ht];exact e) (by rw [ht];show f1.c.kind=K;rw [hcf];exact hK) (by rw [ht];exact ha)
   rw [this]
   show (Wrd.mk y ((w.ts.modify k (stepT f1)).modify k (EK g)))=_
   rw [aC];rfl
def begun (c : Cal) (t : Tsk) : Tsk:={ t with busy:=true,f:=aX c}
theorem MY {w : Wrd} {k : Nat} {c : Cal} (hk : k < w.ts.length) (hb : (tsk w k).busy=false) (hc : bf w.m c=0) (h1 : c.kind=1→(tsk w k).held.length≠100) (h6 : c.kind=6→c.slot∈(tsk w k).held) : bN w ⟨k,false,false,c⟩=(⟨w.m,w.ts.modify k (begun c)⟩,0):=by
 unfold bN
 rw [if_neg (by simp),if_neg (by show ¬ ((k : Int) < 0∨(w.ts.length : Int)≤(k : Int));omega),if_neg (by simp)]
 unfold eR
 show (if (tsk w k).busy=true then _ else _)=_
 rw [if_neg (by rw [hb];simp),if_neg (fun y=>y hc),if_neg (fun y=>h1 y.2 y.1),if_neg (fun y=>y.2 (h6 y.1))]
 rfl
theorem Cp {w : Wrd} {k : Nat} {c : Cal} (hk : k < w.ts.length) (hi : eQ w=false) : iO ⟨w.m,w.ts.modify k (begun c)⟩ k:=fun u u0 u1 hne=>by
 have hl : u < w.ts.length:=by simpa using u1
 have : tsk ⟨w.m,w.ts.modify k (begun c)⟩ u=tsk w u:=by
  have:=eT (w:=w) (y:=w.m) (x:=(k : Int)) (F:=begun c) (by omega) (by omega) u0
  rw [if_neg hne] at this
  exact this
 rw [this]
 exact wc hi u0 hl
end Go.Proofs.Ytpmamacjepcdmaa

namespace Go.Proofs.Ytpmamacjepcdmaa
open Go Go.Sy Go.RowKit
set_option linter.unusedSimpArgs false
set_option linter.unusedVariables false
theorem MH {w : Wrd} {k : Nat} (h : iO w k) : HA w≤aT w.m (tsk w k):=by
 have : ∀ n b,(∀ i : Nat,b≤i→i < b + n→i≠k→aT w.m (tsk w i)=0)→iX (fun i=>aT w.m (tsk w i)) n b≤aT w.m (tsk w k)∧(k < b→iX (fun i=>aT w.m (tsk w i)) n b=0):=fun n=>by
  induction n with
  | zero=>intro b _;exact ⟨Nat.zero_le _,fun _=>rfl⟩
  | succ n ih =>
   intro b hb
   obtain ⟨i1,i2⟩:=ih (b + 1) fun i p q=>hb i (by omega) (by omega)
   simp only [iX]
   by_cases e : b=k
   ·subst e
    rw [i2 (by omega)]
    exact ⟨by omega,fun p=>by omega⟩
   ·rw [hb b (Nat.le_refl _) (by omega) e]
    exact ⟨by omega,fun p=>by rw [i2 (by omega)]⟩
 refine (this w.ts.length 0 fun i _ hi hne=>?_).1
 unfold aT
 rw [if_neg (by rw [h i (by omega) (by omega) (by omega)];simp)]
structure mV (w : Wrd) : Prop where
 inv : Inv w
 acy : Acy w.m
 bm : w.bm=w
 idle : eQ w=false
theorem sk {w : Wrd} {y : Mem} {k : Nat} {F : Tsk→Tsk} (hk : k < w.ts.length) {u : Int} (u0 : 0≤u) : tsk ⟨y,w.ts.modify k F⟩ u=if u=k then F (tsk w k) else tsk w u :=
 eT (w:=w) (y:=y) (x:=(k : Int)) (F:=F) (by omega) (by omega) u0
theorem vj : ∀ (R : Nat) {v : Wrd},v.bm=v→(dB R v).bm=dB R v
 | 0,_,h=>h
 | R + 1,v,h=>by
  unfold dB
  split
  ·refine vj R ?_
   have : ∀ n j (v : Wrd),v.bm=v→(eg n j v).bm=eg n j v:=fun n=>by
    induction n with
    | zero=>intro j v hv;exact hv
    | succ n ih=>intro j v hv;exact ih (j + 1) _ (Am hv j)
   exact this _ _ v h
  ·exact h
theorem Lu {w : Wrd} (h : mV w) {k : Nat} {c : Cal} (hk : k < w.ts.length) (hc : bf w.m c=0) (h1 : c.kind≠1) (h4 : c.kind≠4∧c.kind≠5) (h6 : c.kind=6→c.slot∈(tsk w k).held) :
  doW w.G4 ⟨k,false,false,c⟩=(⟨w.m,w.ts.modify k (begun c)⟩,0)∧(⟨w.m,w.ts.modify k (begun c)⟩ : Wrd).bm=⟨w.m,w.ts.modify k (begun c)⟩∧mV (dB 100 ⟨w.m,w.ts.modify k (begun c)⟩):=by
 have hb:=wc h.idle (u:=(k : Int)) (by omega) (by omega)
 have hp:=MY hk hb hc (fun e=>absurd e h1) h6
 have hm : (⟨w.m,w.ts.modify k (begun c)⟩ : Wrd).bm=⟨w.m,w.ts.modify k (begun c)⟩:=mc h.bm (F:=begun c) (fun _=>rfl) _ _
 have hi : Inv ⟨w.m,w.ts.modify k (begun c)⟩:=by have:=xg h.inv ⟨k,false,false,c⟩;rwa [hp] at this
 have ho:=Cp (c:=c) hk h.idle
 obtain ⟨e1,e2,e3⟩:=vl 100 hi h.acy
 refine ⟨?_,hm,e1,e2,?_,?_⟩
 ·unfold doW
  rw [if_neg (fun y=>y h.inv.G4.check.1),iQ,h.bm,hp,if_neg (by simp)]
 ·exact vj 100 hm
 ·refine Jy ?_ hi h.acy
  have:=MH ho
  have hle : aT w.m (tsk ⟨w.m,w.ts.modify k (begun c)⟩ k)≤40:=by
   rw [sk hk (by omega),if_pos rfl]
   show aF w.m (aX c)≤40
   unfold aF
   show (if c.kind=1 then 0 else if c.kind=2 then H5 w.m (aX c) else if c.kind=3 then HB w.m (aX c) else if c.kind=4∨c.kind=5 then Ho w.m (aX c) else 1)≤40
   rw [if_neg h1]
   split
   ·exact Nat.le_of_eq rfl
   ·split
    ·exact Nat.le_of_eq rfl
    ·rw [if_neg (by omega)];omega
  have : HA ⟨w.m,w.ts.modify k (begun c)⟩≤aT w.m (tsk ⟨w.m,w.ts.modify k (begun c)⟩ k):=this
  omega
theorem Mw {w : Wrd} (h : mV w) {k : Nat} (hk : k < w.ts.length) {a : Int} {l : List Int} (hl : (tsk w k).held=a :: l) :
  let c : Cal:=⟨6,⟨0,0⟩,0,0,a⟩
  (doW w.G4 ⟨k,false,false,c⟩=(⟨w.m,w.ts.modify k (begun c)⟩,0))∧(⟨w.m,w.ts.modify k (begun c)⟩ : Wrd).bm=⟨w.m,w.ts.modify k (begun c)⟩∧mV (dB 100 ⟨w.m,w.ts.modify k (begun c)⟩) ∧
   (dB 100 ⟨w.m,w.ts.modify k (begun c)⟩).ts.length=w.ts.length∧∀ u : Int,0≤u→u < w.ts.length→(tsk (dB 100 ⟨w.m,w.ts.modify k (begun c)⟩) u).held=if u=k then l else (tsk w u).held:=by
 intro c
 have hin : a∈(tsk w k).held:=by rw [hl];simp
 obtain ⟨a0,a1⟩:=(h.inv.hd _ (Hf (t:=(k : Int)) (by omega) (by omega))).2.2 a hin
 have hc : bf w.m c=0:=by
  show bf w.m ⟨6,⟨0,0⟩,0,0,a⟩=0
  unfold bf
  rw [if_neg (by simp),if_neg (by simp),if_neg (by simp),if_pos rfl]
  show (if a < 0∨(w.m.slots.length : Int)≤a then (5 : Int) else 0)=0
  rw [if_neg (by omega)]
 obtain ⟨r1,r2,r3⟩:=Lu h (c:=c) hk hc (by show (6 : Int)≠1;omega) (by show (6 : Int)≠4∧(6 : Int)≠5;omega) fun _=>hin
 have ho:=Cp (c:=c) hk h.idle
 have ht : ∀ u : Int,0≤u→tsk ⟨w.m,w.ts.modify k (begun c)⟩ u=if u=k then begun c (tsk w k) else tsk w u:=fun u u0=>sk hk u0
 obtain ⟨V,hV⟩ : ∃ V : Wrd,V=⟨w.m,w.ts.modify k (begun c)⟩:=⟨_,rfl⟩
 rw [← hV] at r1 r2 r3 ho ht ⊢
 have hVl : V.ts.length=w.ts.length:=by rw [hV];simp
 have hkt : tsk V k=begun c (tsk w k):=by rw [ht k (by omega),if_pos rfl]
 have hb : (tsk V k).busy=true:=by rw [hkt];rfl
 have hkV : k < V.ts.length:=by omega
 obtain ⟨s1,s2,s3,s4,s5⟩:=Ka hkV hb
 have hn : xz V.m (tsk V k).f k=ay (aX c) 0:=by
  rw [hkt];rfl
 have hi2 : eQ (sw V k)=false:=rZ fun u u0 u1=>by
  by_cases e : u=k
  ·rw [e,s5,hn];rfl
  ·exact yZ ho hkV u u0 u1 e
 have he : dB 100 V=sw V k:=by
  rw [show (100 : Nat)=99 + 1 from rfl,wx ho hkV hb 99]
  exact tO hi2 99
 rw [he] at r3 ⊢
 refine ⟨r1,r2,r3,s2.trans hVl,fun u u0 u1=>?_⟩
 by_cases e : u=k
 ·subst e
  rw [if_pos rfl]
  have hheld : (tsk V k).held=a :: l:=by rw [hkt];exact hl
  have hcs : (tsk V k).f.c=c:=by rw [hkt];rfl
  have hix : indexOf (tsk V k).f.c.slot (tsk V k).held 0=0:=by
   rw [hcs,hheld]
   show indexOf a (a :: l) 0=0
   unfold indexOf
   rw [if_pos rfl];rfl
  have hst : ((cN V k).1.ts.getD k default).held=l:=by
   have hk6 : (tsk V k).f.c.kind=6:=by rw [hcs]
   unfold cN
   rw [if_neg (by rw [hb];simp),if_neg (by omega),if_neg (by omega),if_neg (by omega),if_neg (by omega),hix,if_pos (by omega)]
   have:=sk (w:=V) (y:=put V.m (tsk V k).f.c.slot) (F:=fun t=>{ t with busy:=!(ay (tsk V k).f 0).done,f:=ay (tsk V k).f 0,held:=(tsk V k).held.take (0 : Int).toNat ++ (tsk V k).held.drop ((0 : Int) + 1).toNat}) hkV (u:=(k : Int)) (by omega)
   rw [if_pos rfl] at this
   show (tsk ⟨_,_⟩ (k : Int)).held=l
   refine (congrArg Tsk.held this).trans ?_
   rw [hheld];rfl
  unfold sw
  rw [if_pos hb,rU hkV,Ia (by omega) (by have:=(wY (w:=V) (x:=k) (by omega) (by omega) hb).2.2.2.2;omega)]
  show (tsk (cN V k).1 k).held=l
  unfold tsk
  rw [Int.toNat_natCast]
  exact hst
 ·rw [if_neg e,(s3 u u0 (by omega) e).2.2,ht u u0,if_neg e]
theorem MU {w : Wrd} (h : mV w) {fl : cI} {rest : List cI} (hf : aq w.m=fl :: rest) :
  let c : Cal:=⟨3,fl.k,0,0,0⟩
  (doW w.G4 ⟨0,false,false,c⟩=(⟨w.m,w.ts.modify 0 (begun c)⟩,0))∧(⟨w.m,w.ts.modify 0 (begun c)⟩ : Wrd).bm=⟨w.m,w.ts.modify 0 (begun c)⟩∧mV (dB 100 ⟨w.m,w.ts.modify 0 (begun c)⟩) ∧
   (dB 100 ⟨w.m,w.ts.modify 0 (begun c)⟩).ts.length=w.ts.length∧(∀ u : Int,0≤u→u < w.ts.length→(tsk (dB 100 ⟨w.m,w.ts.modify 0 (begun c)⟩) u).held=(tsk w u).held)∧aq (dB 100 ⟨w.m,w.ts.modify 0 (begun c)⟩).m=rest:=by
 intro c
 have hC:=h.inv.ch
 have hl1:=h.inv.lo.1
 obtain ⟨q1,q2,q3,q4,q5,q6,q7⟩:=jj hC (show fl∈aq w.m by rw [hf];simp)
 have hkey : Key.Ok fl.k:=by
  have:=(hC.mem.sl (i:=fl.slot.toNat) (by omega)).k
  rw [← q3];exact this
 have hc : bf w.m c=0:=by
  show bf w.m ⟨3,fl.k,0,0,0⟩=0
  unfold bf
  rw [if_pos (.inr rfl)]
  exact (gA _).2 hkey
 obtain ⟨r1,r2,r3⟩:=Lu h (k:=0) (c:=c) (by omega) hc (by show (3 : Int)≠1;omega) (by show (3 : Int)≠4∧(3 : Int)≠5;omega) fun e=>by have e : (3 : Int)=6:=e;omega
 have ho:=Cp (k:=0) (c:=c) (by omega) h.idle
 have hlk:=zL h.inv h.idle
 have hns:=hC.mem.ns
 obtain ⟨g,x,ha,hx,_,_,hout⟩:=zT hC hkey (fun i hi=>hlk i (by rw [hC.mem.nl];exact hi))
 have ht:=sk (w:=w) (y:=w.m) (k:=0) (F:=begun c) (by omega) (u:=((0 : Nat) : Int)) (by omega)
 rw [if_pos rfl] at ht
 have hs:=jR (K:=3) (k:=0) (st:=dp) (fun w' hb' hk'=>(mX (w:=w') (k:=((0 : Nat) : Int)) hb').2.1 hk') (fun m f hd hk'=>(pI 0 hk' hd).1) (n:=2 * w.m.slots.length + 6) (R:=100) (w:=⟨w.m,w.ts.modify 0 (begun c)⟩) (g:=g) (y:=x) (by omega) r2 ho (by simp;omega) (by rw [ht];rfl) (by rw [ht];rfl) (by rw [ht];rfl) (by rw [ht];exact ha)
 refine ⟨r1,r2,r3,?_,fun u u0 u1=>?_,?_⟩
 ·rw [hs];simp
 ·rw [hs]
  show (tsk ⟨x,(w.ts.modify 0 (begun c)).modify 0 (EK g)⟩ u).held=_
  rw [aC]
  have:=sk (w:=w) (y:=x) (k:=0) (F:=fun t=>EK g (begun c t)) (by omega) u0
  rw [this]
  split
  ·rename_i e;rw [e];rfl
  ·rfl
 ·rw [hs]
  show aq x=rest
  rcases hout with ⟨hn,_⟩ | ⟨_,_,he,_⟩
  ·exact absurd rfl (hn fl (by rw [hf];simp))
  ·rw [he,hf]
   have hnd:=DS hC
   rw [hf,List.map_cons,List.nodup_cons] at hnd
   rw [List.filter_cons,if_neg (by simp)]
   exact List.filter_eq_self.2 fun z hz=>by
    have : z.k≠fl.k:=fun e=>hnd.1 (by rw [← e];exact List.mem_map.2 ⟨z,hz,rfl⟩)
    simpa using this
theorem M4 {w : Wrd} (h : mV w) (hh : ∀ u : Int,0≤u→u < w.ts.length→(tsk w u).held=[]) (hf : aq w.m=[]) : w.m.free.length=w.m.slots.length:=by
 have hm:=h.inv.ch.mem
 have hch : ∀ b,b < w.m.heads.length→chL w.m b=[]:=fun b hb=>by
  have hk : ∀ n j,cat w.m n j=[]→∀ i,j≤i→i < j + n→chL w.m i=[]:=fun n=>by
   induction n with
   | zero=>intro j _ i h1 h2;omega
   | succ n ih =>
    intro j hj i h1 h2
    simp only [cat,List.append_eq_nil_iff,List.map_eq_nil_iff] at hj
    by_cases e : j=i
    ·rw [← e];exact hj.1
    ·exact ih (j + 1) hj.2 i (by omega) (by omega)
  rw [gN] at hf
  exact hk _ 0 hf b (by omega) (by omega)
 have hr : ∀ k : Nat,k < w.m.slots.length→(msl w.m k).refs=0:=fun k hk=>by
  have h1:=h.inv.rf k hk
  have h2 : fK w.m k=0:=by
   have : fK w.m k≤w.m.heads.length * 0:=sF fun i _ hi=>by
    show (chL w.m i).count (k : Int)≤0
    rw [hch i (by omega)];simp
   omega
  have h3 : ∀ l : List Tsk,(∀ t∈l,t∈w.ts)→iF k l=0:=fun l=>by
   induction l with
   | nil=>intro _;rfl
   | cons t l ih =>
    intro hl
    obtain ⟨u,u0,u1,rfl⟩:=pf (hl t (by simp))
    have hb:=wc h.idle u0 u1
    have e1 : cr (tsk w u)=-1:=if_neg fun p=>by rw [hb] at p;cases p.1
    simp only [iF]
    rw [ih fun v hv=>hl v (by simp [hv]),cu e1,hh u u0 u1,if_neg (by omega)];rfl
  rw [h1,h2,h3 w.ts fun t ht=>ht];rfl
 have h1:=pa hm.nodup fun a ha=>⟨(hm.free a ha).1,(hm.free a ha).2.1⟩
 have h2 : ((List.range w.m.slots.length).map fun i : Nat=>(i : Int)) ⊆ w.m.free:=fun a ha=>by
  obtain ⟨i,hi,rfl⟩:=List.mem_map.1 ha
  have hi:=List.mem_range.1 hi
  exact hm.leak i hi (hr i hi)
 have h3 : ((List.range w.m.slots.length).map fun i : Nat=>(i : Int)).Nodup:=List.pairwise_map.2 (List.Pairwise.imp (fun h e=>h (by omega)) List.nodup_range)
 have h4:=h3.length_le_of_subset h2
 simp at h4
 omega
end Go.Proofs.Ytpmamacjepcdmaa
