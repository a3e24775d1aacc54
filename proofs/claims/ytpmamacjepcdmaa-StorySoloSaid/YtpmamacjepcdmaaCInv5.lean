import Derived.Test.YtpmamacjepcdmaaCInv2
namespace Go.Proofs.Ytpmamacjepcdmaa
open Go Go.Sy Go.RowKit
set_option linter.unusedSimpArgs false
set_option linter.unusedVariables false
theorem rD {m : Mem} {f : Frm} (x : Int) (hk : f.c.kind=2) (hd : f.done=false) : J5 m f x (G3 m f x):=by
 unfold G3
 by_cases h1 : f.pc=1
 ·rw [if_neg (by omega),if_pos h1]
  rcases dA m (aa m f.c) x with ⟨h,hl⟩ | h
  ·rw [h]
   exact ⟨rfl,fun _ _=>.inr rfl,.inr (.inl ⟨hl,rfl⟩)⟩
  ·rw [h]
   refine ⟨rfl,fun y _=>?_,.inl rfl⟩
   simp only [bI,Bool.false_eq_true,if_false] at y
   omega
 by_cases h7 : f.pc=7
 ·rw [if_neg (by omega),if_neg (by omega),if_neg (by omega),if_neg (by omega),if_neg (by omega),if_neg (by omega),if_neg (by omega),if_pos h7]
  exact ⟨rfl,fun _ hdn=>(by cases hdn),.inr (.inr rfl)⟩
 rw [if_neg h1]
 by_cases h0 : f.pc=0
 ·rw [if_pos h0]
  split
  ·exact ⟨rfl,fun _ hdn=>(by cases hdn),.inl rfl⟩
  ·refine ⟨rfl,fun y _=>?_,.inl (sy _ _ _)⟩
   simp only [bI] at y
   omega
 rw [if_neg h0]
 have hh : bI f:=.inl ⟨hk,h0,h1⟩
 repeat' split
 all_goals first
  | exact absurd (by assumption) h7
  | exact ⟨rfl,fun _ _=>.inl ⟨hh,rfl⟩,.inl rfl⟩
  | exact ⟨rfl,fun _ _=>.inl ⟨hh,fP _ _⟩,.inl (fP _ _)⟩
theorem pI {m : Mem} {f : Frm} (x : Int) (hk : f.c.kind=3) (hd : f.done=false) : J5 m f x (aL m f x):=by
 unfold aL
 by_cases h1 : f.pc=0
 ·rw [if_pos h1]
  rcases dA m (aa m f.c) x with ⟨h,hl⟩ | h
  ·rw [h]
   exact ⟨rfl,fun _ _=>.inr rfl,.inr (.inl ⟨hl,rfl⟩)⟩
  ·rw [h]
   refine ⟨rfl,fun y _=>?_,.inl rfl⟩
   simp only [bI,Bool.false_eq_true,if_false] at y
   omega
 rw [if_neg h1]
 by_cases h7 : f.pc=5
 ·rw [if_neg (by omega),if_neg (by omega),if_neg (by omega),if_neg (by omega),if_pos h7]
  refine ⟨rfl,fun y _=>?_,.inr (.inr rfl)⟩
  simp only [bI] at y
  omega
 by_cases h6 : f.pc=6
 ·rw [if_neg (by omega),if_neg (by omega),if_neg (by omega),if_neg (by omega),if_neg h7,if_pos h6]
  refine ⟨rfl,fun _ hdn=>(by cases hdn),.inl ?_⟩
  show (if 0≤f.slot then put m f.slot else m).ae=m.ae
  split
  ·exact fP _ _
  ·rfl
 have hh : bI f:=.inr (.inl ⟨hk,h1,h6⟩)
 repeat' split
 all_goals first
  | exact absurd (by assumption) h7
  | exact absurd (by assumption) h6
  | exact ⟨rfl,fun _ _=>.inl ⟨hh,rfl⟩,.inl rfl⟩
  | exact ⟨rfl,fun _ _=>.inl ⟨hh,iV _ _ _ _⟩,.inl (iV _ _ _ _)⟩
theorem nE {m : Mem} {f : Frm} (x : Int) (hk : f.c.kind=4∨f.c.kind=5) (hd : f.done=false) : J5 m f x (aB m f x):=by
 unfold aB
 by_cases h1 : f.pc=0
 ·rw [if_pos h1]
  rcases dA m (aa m f.c) x with ⟨h,hl⟩ | h
  ·rw [h]
   exact ⟨rfl,fun _ _=>.inr rfl,.inr (.inl ⟨hl,rfl⟩)⟩
  ·rw [h]
   refine ⟨rfl,fun y _=>?_,.inl rfl⟩
   simp only [bI,Bool.false_eq_true,if_false] at y
   omega
 rw [if_neg h1]
 by_cases h7 : f.pc=6
 ·rw [if_neg (by omega),if_neg (by omega),if_neg (by omega),if_neg (by omega),if_neg (by omega),if_neg (by omega),if_neg (by omega),if_pos h7]
  exact ⟨rfl,fun _ hdn=>(by cases hdn),.inr (.inr rfl)⟩
 have hh : bI f:=.inr (.inr ⟨hk,h1⟩)
 repeat' split
 all_goals first
  | exact absurd (by assumption) h7
  | exact ⟨rfl,fun _ _=>.inl ⟨hh,rfl⟩,.inl rfl⟩
  | exact ⟨rfl,fun _ _=>.inl ⟨hh,iV _ _ _ _⟩,.inl (iV _ _ _ _)⟩
  | exact ⟨rfl,fun _ _=>.inl ⟨hh,fP _ _⟩,.inl (fP _ _)⟩
theorem HF {w : Wrd} (h : Inv w) {u : Int} (u0 : 0≤u) (u1 : u < w.ts.length) (ub : (tsk w u).busy=true) (uh : bI (tsk w u).f) : (aa w.m (tsk w u).f.c).toNat < w.m.heads.length:=by
 have hf:=h.fo _ (Hf u0 u1) ub
 have:=aQ h.ch.mem.rJ hf.call (by unfold bI at uh;omega)
 omega
theorem Inv.quiet {w : Wrd} {y : Mem} {x : Int} {F : Tsk→Tsk} (h : Inv w) (hx0 : 0≤x) (hx : x < w.ts.length) {l : List Int} (hy : y={ w.m with ae:=l}) (hl : l.length=w.m.ae.length)
  (hk : dW ⟨y,w.ts.modify x.toNat F⟩) (hk2 : HE ⟨y,w.ts.modify x.toNat F⟩) (hm : (F (tsk w x)).busy=true→bV y (F (tsk w x)).f∧FI y (F (tsk w x)).f)
  (hu : ft (F (tsk w x))→ft (tsk w x)∧(F (tsk w x)).f.slot=(tsk w x).f.slot) (hd : gP w.m.slots.length (F (tsk w x))) (hr : ∀ k : Nat,fv k (F (tsk w x))=fv k (tsk w x)) : Inv ⟨y,w.ts.modify x.toNat F⟩:=by
 have hlr : ∀ i,i < w.m.heads.length→-1≤l.getD i 0∧l.getD i 0 < 5:=fun i hi=>by
  have e : y.ae=l:=by rw [hy]
  have:=hk i (by show i < y.ae.length;rw [e,hl,h.ch.mem.nl];exact hi)
  have this : y.ae.getD i 0=-1∨lE ⟨y,w.ts.modify x.toNat F⟩ i (y.ae.getD i 0):=this
  rw [e] at this
  rcases this with h1 | ⟨h1,h2,_⟩
  ·omega
  ·have h2 : l.getD i 0 < (w.ts.modify x.toNat F).length:=h2
   rw [List.length_modify] at h2
   have:=h.lo.2
   omega
 obtain ⟨c1,c2⟩:=xF h.ch hy hl hlr
 have hms : ∀ j,msl y j=msl w.m j:=fun j=>by rw [hy];rfl
 refine h.cU hx0 hx c1 (by rw [hy]) (by rw [hy]) hk hk2 (fun u u0 u1 hne ub=>⟨fun uh=>⟨?_,fun a _=>by unfold kys;rw [hms]⟩,fun _=>⟨by unfold kys;rw [hms],by rw [hms]⟩⟩) hm (fun ha u u0 u1 hne ua=>?_) hd fun k hk=>?_
 ·unfold chF
  rw [show aa y (tsk w u).f.c=aa w.m (tsk w u).f.c from ck _ (by rw [hy])]
  exact c2 _ (HF h u0 u1 ub uh)
 ·obtain ⟨a1,a2⟩:=hu ha
  rw [a2]
  exact h.un x u hx0 hx u0 u1 (fun e=>hne e.symm) a1 ua
 ·rw [hms,hr,nb (by rw [hy]) c2]
  omega
theorem Inv.refs {w : Wrd} {y : Mem} {x a d : Int} {F : Tsk→Tsk} (h : Inv w) (hx0 : 0≤x) (hx : x < w.ts.length) (a0 : 0≤a) (a1 : a < w.m.slots.length) (hy : bB y)
  (hs : y.slots=w.m.slots.modify a.toNat (bx d)) (hh : y.heads=w.m.heads) (hlk : y.ae=w.m.ae) (hnz : (∃ b,b < w.m.heads.length∧a∈chL w.m b)→(msl w.m a.toNat).refs + d≠0)
  (hk : dW ⟨y,w.ts.modify x.toNat F⟩) (hk2 : HE ⟨y,w.ts.modify x.toNat F⟩) (hm : (F (tsk w x)).busy=true→bV y (F (tsk w x)).f∧FI y (F (tsk w x)).f)
  (hu : ¬ ft (F (tsk w x))) (hd : gP w.m.slots.length (F (tsk w x))) (hr : ∀ k : Nat,fv k (F (tsk w x))=fv k (tsk w x) + if (k : Int)=a then d else 0) : Inv ⟨y,w.ts.modify x.toNat F⟩:=by
 obtain ⟨c1,c2⟩:=gX h.ch hy a0 a1 hs hh hnz
 have hms : ∀ j,msl y j=if a.toNat=j then bx d (msl w.m a.toNat) else msl w.m j:=fun j=>gn hs (by omega) j
 have hk' : ∀ c,kys y c=kys w.m c:=fun c=>by
  unfold kys
  rw [hms];split
  ·rename_i e;rw [← e];rfl
  ·rfl
 have hi : ∀ j,(msl y j).inn=(msl w.m j).inn:=fun j=>by
  rw [hms];split
  ·rename_i e;rw [← e];rfl
  ·rfl
 refine h.cU hx0 hx c1 (by rw [hs];simp) (by rw [hh]) hk hk2 (fun u u0 u1 hne ub=>⟨fun uh=>⟨?_,fun c _=>hk' c⟩,fun _=>⟨hk' _,hi _⟩⟩) hm (fun ha=>absurd ha hu) hd fun k hk=>?_
 ·unfold chF
  rw [show aa y (tsk w u).f.c=aa w.m (tsk w u).f.c from ck _ (by rw [hh])]
  exact c2 _ (HF h u0 u1 ub uh)
 ·rw [hms,hr,nb (by rw [hh]) c2]
  by_cases e : a.toNat=k
  ·rw [if_pos e,if_pos (by omega),← e]
   show (msl w.m a.toNat).refs + d - _=_
   omega
  ·rw [if_neg e,if_neg (by omega)]
   omega
end Go.Proofs.Ytpmamacjepcdmaa

namespace Go.Proofs.Ytpmamacjepcdmaa
open Go Go.Sy Go.RowKit
set_option linter.unusedSimpArgs false
set_option linter.unusedVariables false
theorem FI.o9 {m : Mem} {f : Frm} (hk : f.c.kind=2) (h0 : f.pc≤7∧(f.pc=0→f.slot=-1)) (h1 : 1≤f.pc→f.pc≤6→0≤f.slot∧kys m f.slot=f.c.k∧(msl m f.slot.toNat).inn=false) (h3 : f.pc=3∨f.pc=4→Bn m f)
  (h4 : f.pc=4→0 < f.cur∧f.cur - 1∈chF m f∧kys m (f.cur - 1)≠f.c.k) (h5 : f.pc=5→∀ a∈chF m f,kys m a≠f.c.k) : FI m f :=
 ⟨fun k=>by omega,fun _=>h0,fun _=>h1,fun _=>h3,fun _=>h4,fun _=>h5,fun k=>by omega,fun k=>by omega,fun k=>by omega,fun k=>by omega,fun k=>by omega⟩
theorem FI.seven {m : Mem} {f : Frm} (hk : f.c.kind=2) (hp : f.pc=7) : FI m f :=
 FI.o9 hk ⟨by omega,by omega⟩ (by omega) (by omega) (by omega) (by omega)
def stepT (g : Frm) (t : Tsk) : Tsk:={ t with busy:=!g.done,f:=g}
theorem ln (w : Wrd) (x : Int) (r : Frm × Mem) : w.gone x r=⟨r.2,w.ts.modify x.toNat (stepT r.1)⟩:=rfl
theorem dj {t : Tsk} (hb : t.busy=true) (hn : ¬ (t.f.c.kind=2∧t.f.pc=7)) : cr t=t.f.slot:=if_pos ⟨hb,hn⟩
theorem fU {g : Frm} (t : Tsk) (h : g.done=true) : cr (stepT g t)=-1:=if_neg fun y=>by
 have:=y.1
 simp only [stepT,h] at this
 cases this
theorem dI {g : Frm} (t : Tsk) (h : g.done=false) (hn : ¬ (g.c.kind=2∧g.pc=7)) : cr (stepT g t)=g.slot:=if_pos ⟨by simp [stepT,h],hn⟩
theorem xq {g : Frm} {t : Tsk} (k : Int) (h : cr (stepT g t)=cr t) : fv k (stepT g t)=fv k t:=by
 unfold fv
 rw [h];rfl
theorem kg {n : Nat} {g : Frm} {t : Tsk} (h : gP n t) (hk : g.done=false→g.c.kind=1→t.busy=true∧t.f.c.kind=1) : gP n (stepT g t) :=
 ⟨h.1,fun hb hg=>by
  obtain ⟨k1,k2⟩:=hk (by simpa [stepT] using hb) hg
  exact h.2.1 k1 k2,h.2.2⟩
theorem fe {w : Wrd} (h : Inv w) {x : Int} (hx0 : 0≤x) (hx : x < w.ts.length) (hb : (tsk w x).busy=true) : bV w.m (tsk w x).f∧FI w.m (tsk w x).f∧(tsk w x).f.done=false:=by
 have hf:=h.fo _ (Hf hx0 hx) hb
 exact ⟨hf,h.fi _ (Hf hx0 hx) hb,hf.nd⟩
theorem Hg {w : Wrd} (h : Inv w) {x : Int} (hx0 : 0≤x) (hx : x < w.ts.length) {a : Int} (ha : cr (tsk w x)=a) (a0 : 0≤a) (a1 : a < w.m.slots.length) : (fK w.m a : Int) + 1≤(msl w.m a.toNat).refs:=by
 have h1:=h.rf a.toNat (by omega)
 have h2:=vD (k:=a) (Hf hx0 hx)
 have h3 : 1≤fv a (tsk w x):=by
  unfold fv
  rw [if_pos ha]
  omega
 rw [show ((a.toNat : Nat) : Int)=a by omega] at h1
 omega
theorem cu {t : Tsk} {a k : Int} (h : cr t=a) : fv k t=(t.held.count k : Int) + if a=k then 1 else 0:=by
 unfold fv
 rw [h]
theorem si {m : Mem} {l : List Int} : ∀ (f : Nat) (n : Int),walk { m with ae:=l} f n=walk m f n
 | 0,_=>rfl
 | f + 1,n=>by
  simp only [walk]
  split
  ·rfl
  ·rw [si f];rfl
theorem qA (m : Mem) (l : List Int) (b : Nat) : chL { m with ae:=l} b=chL m b:=by
 unfold chL bP cQ walked
 rw [si];rfl
theorem FI.ae {m : Mem} {f : Frm} (h : FI m f) (l : List Int) : FI { m with ae:=l} f :=
 h.other rfl (fun _=>⟨qA m l _,fun _ _=>rfl⟩) fun _ _ _=>⟨rfl,rfl⟩
theorem aP {w : Wrd} {x : Int} {g : Frm} {y : Mem} {l : List Int} (h : Inv w) (hx0 : 0≤x) (hx : x < w.ts.length) (hb : (tsk w x).busy=true) (hy : y={ w.m with ae:=l}) (hl : l.length=w.m.ae.length)
  (hlk : dW ⟨y,w.ts.modify x.toNat (stepT g)⟩) (hlk2 : HE ⟨y,w.ts.modify x.toNat (stepT g)⟩) (hfo : g.done=false→bV y g) (hho : gP w.m.slots.length (stepT g (tsk w x)))
  (hs : cr (stepT g (tsk w x))=cr (tsk w x)) (ha : ft (stepT g (tsk w x))→ft (tsk w x)∧g.slot=(tsk w x).f.slot) (hF : g.done=false→FI w.m g) : Inv ⟨y,w.ts.modify x.toNat (stepT g)⟩ :=
 h.quiet hx0 hx hy hl hlk hlk2 (fun hb'=>by
  have hd : g.done=false:=by simpa [stepT] using hb'
  exact ⟨hfo hd,by rw [hy];exact (hF hd).ae l⟩) ha hho fun k=>xq k hs
theorem Fp {w : Wrd} (h : Inv w) {x : Int} (hx0 : 0≤x) (hx : x < w.ts.length) (hb : (tsk w x).busy=true) (hk : (tsk w x).f.c.kind=2) : Inv (w.gone x (G3 w.m (tsk w x).f x)):=by
 obtain ⟨hf,hF,hd⟩:=fe h hx0 hx hb
 have hm:=h.ch.mem.rJ
 have hbr:=aQ hm hf.call (by omega)
 have hlk : dW (w.gone x (G3 w.m (tsk w x).f x)):=H3 h.lk hx0 hx hb (uC x hk hd) (gW x hm hf hk).hl hbr fun t=>⟨rfl,rfl⟩
 have hlk2 : HE (w.gone x (G3 w.m (tsk w x).f x)):=tE h.lk2 hx0 hx hb (rD x hk hd) (gW x hm hf hk).hl (fun _=>by rw [hm.nl];omega) ⟨rfl,rfl⟩
 have hfo : (G3 w.m (tsk w x).f x).1.done=false→bV (G3 w.m (tsk w x).f x).2 (G3 w.m (tsk w x).f x).1:=fun hd'=>(ud x hm hf hk).ok hf (gW x hm hf hk) hd'
 have hho:=h.hd _ (Hf hx0 hx)
 rw [ln] at hlk hlk2 ⊢
 have p0:=hf.pc0
 obtain ⟨A1,A2⟩:=hF.add hk
 have ek : aa w.m (tsk w x).f.c=bk w.m (tsk w x).f.c.k:=by unfold aa bk;rw [if_neg (by omega)]
 obtain ⟨B,hB⟩ : ∃ B : Nat,aa w.m (tsk w x).f.c=B:=⟨(aa w.m (tsk w x).f.c).toNat,by omega⟩
 have hBl : B < w.m.heads.length:=by omega
 have hch : chF w.m (tsk w x).f=chL w.m B:=by unfold chF;rw [hB];rfl
 generalize hr : G3 w.m (tsk w x).f x=r at *
 obtain ⟨f,hfe⟩ : ∃ f,(tsk w x).f=f:=⟨_,rfl⟩
 rw [hfe] at hf hF hd hk hbr hr p0 A1 A2 ek hB hch
 have hnm : r.1.done=false→r.1.c.kind=1→(tsk w x).busy=true∧(tsk w x).f.c.kind=1:=fun _ hk1=>by
  have : r.1.c=f.c:=by rw [← hr];exact (rD x hk hd).1
  rw [this,hk] at hk1;cases hk1
 have hho2 : gP w.m.slots.length (stepT r.1 (tsk w x)):=kg hho hnm
 have busy' : (stepT r.1 (tsk w x)).busy=true→r.1.done=false:=fun hb'=>by simpa [stepT] using hb'
 have lrfl : w.m={ w.m with ae:=w.m.ae}:=rfl
 unfold G3 at hr
 by_cases e0 : f.pc=0
 ·rw [if_pos e0] at hr
  split at hr
  ·subst hr
   refine h.quiet hx0 hx lrfl rfl hlk hlk2 (fun hb'=>by cases busy' hb') (fun ha=>?_) hho2 fun k=>xq k ?_
   ·have:=ha.1
    cases busy' this
   ·rw [fU _ rfl,dj hb (by rw [hfe];omega),hfe,A2 e0]
  ·rename_i ht
   have ht : (take w.m f.c.k (bE w.m f)).2.2=0:=Classical.not_not.1 ht
   have hct:=nv hf.call hk
   have hkk : Key.Ok f.c.k:=by
    have:=hf.call
    unfold bf at this
    rw [if_neg (by omega),if_pos hk] at this
    split at this
    ·cases this
    ·exact (gA _).1 this
   have n0:=h.ch.mem.ma
   have n1:=h.ch.mem.Ik
   obtain ⟨t1,t2,t3,t4,t5,t6,t7,t8,t9,t10⟩:=qI h.ch (k:=f.c.k) (t:=bE w.m f) hkk (by unfold bE;split <;> omega) (by unfold bE;split <;> omega) ht
   subst hr
   rw [t4] at *
   generalize hy : (take w.m f.c.k (bE w.m f)).1=y at *
   generalize ha : bc w.m=a at *
   have hms : ∀ j,msl y j=if a.toNat=j then cp f.c.k (bE w.m f) (msl w.m a.toNat) else msl w.m j:=fun j=>gn t5 (by omega) j
   have hnot : ∀ c : Int,0≤c→c≠a→msl y c.toNat=msl w.m c.toNat:=fun c c0 hne=>by rw [hms,if_neg (by omega)]
   have hne : ∀ u : Int,0≤u→u < w.ts.length→ft (tsk w u)→(tsk w u).f.slot≠a:=fun u u0 u1 ua e=>by
    obtain ⟨b1,b2,b3,b4⟩:=ua
    obtain ⟨q1,q2,q3⟩:=(h.fi _ (Hf u0 u1) b1).add1 b2 b3 b4
    have hfu:=h.fo _ (Hf u0 u1) b1
    have:=Hg h u0 u1 (a:=a) (by rw [dj b1 (by omega),e]) t1 t2
    omega
   refine h.cU hx0 hx t8 (by rw [t5];simp) (by rw [t6]) hlk hlk2 (fun u u0 u1 hux ub=>⟨fun uh=>⟨?_,fun c hc=>?_⟩,fun ua=>?_⟩) (fun hb'=>⟨hfo (busy' hb'),FI.o9 hk ⟨by show (1 : Int)≤7;omega,fun e=>by cases e⟩ (fun _ _=>⟨t1,?_,?_⟩) (fun e=>by rcases e with e | e <;> cases e) (fun e=>by cases e) (fun e=>by cases e)⟩) (fun _ u u0 u1 hux ua=>fun e=>hne u u0 u1 ua e.symm) hho2 fun k hk=>?_
   ·unfold chF
    rw [show aa y (tsk w u).f.c=aa w.m (tsk w u).f.c from ck _ (by rw [t6])]
    exact t9 _ (HF h u0 u1 ub uh)
   ·unfold kys
    rw [hnot c (cW h.ch hc).1 (fun e=>t10 _ (HF h u0 u1 ub uh) (by rw [← e];exact hc))]
   ·have hs:=((h.fi _ (Hf u0 u1) ub).add1 ua.2.1 ua.2.2.1 ua.2.2.2).1
    have:=hnot (tsk w u).f.slot hs (hne u u0 u1 ua)
    exact ⟨by unfold kys;rw [this],by rw [this]⟩
   ·show (msl y a.toNat).k=f.c.k
    rw [hms,if_pos rfl];rfl
   ·show (msl y a.toNat).inn=false
    rw [hms,if_pos rfl];rfl
   ·rw [hms,nb (by rw [t6]) t9]
    have e1 : fv k (stepT { f with slot:=a,pc:=1} (tsk w x))=((tsk w x).held.count (k : Int) : Int) + if a=k then 1 else 0:=by
     rw [cu (dI (g:={ f with slot:=a,pc:=1}) (tsk w x) hd (by simp))];rfl
    have e2 : fv k (tsk w x)=((tsk w x).held.count (k : Int) : Int) + 0:=by
     rw [cu (dj hb (by rw [hfe];omega)),hfe,A2 e0,if_neg (by omega)]
    rw [e1,e2]
    by_cases ek2 : a.toNat=k
    ·rw [if_pos ek2,if_pos (by omega),← ek2,t3]
     show (1 : Int) - 0=_
     omega
    ·rw [if_neg ek2,if_neg (by omega)]
     omega
 rw [if_neg e0] at hr
 have n7 : f.pc≠7→cr (tsk w x)=f.slot:=fun e=>by rw [dj hb (by rw [hfe];omega),hfe]
 by_cases e1 : f.pc=1
 ·rw [if_pos e1] at hr
  obtain ⟨q1,q2,q3⟩:=hF.add1 hk (by omega) (by omega)
  rcases dA w.m (aa w.m f.c) x with ⟨hl,_⟩ | hl
  ·rw [hl] at hr
   subst hr
   exact aP h hx0 hx hb rfl (by simp) hlk hlk2 hfo hho2 (by rw [n7 (by omega)];exact dI _ hd (by simp)) (fun _=>⟨⟨hb,by rw [hfe];exact hk,by rw [hfe];omega,by rw [hfe];omega⟩,by rw [hfe]⟩) fun _=>FI.o9 hk ⟨by simp,by simp⟩ (fun _ _=>⟨q1,q2,q3⟩) (by simp) (by simp) (by simp)
  ·rw [hl] at hr
   subst hr
   exact aP h hx0 hx hb lrfl rfl hlk hlk2 hfo hho2 (by rw [n7 (by omega)];exact dI _ hd (by simp;omega)) (fun _=>⟨⟨hb,by rw [hfe];exact hk,by rw [hfe];omega,by rw [hfe];omega⟩,by rw [hfe]⟩) fun _=>FI.o9 hk ⟨by simp;omega,by simp;omega⟩ (fun _ _=>⟨q1,q2,q3⟩) (by simp;omega) (by simp;omega) (by simp;omega)
 rw [if_neg e1] at hr
 by_cases e2 : f.pc=2
 ·rw [if_pos e2] at hr
  obtain ⟨q1,q2,q3⟩:=hF.add1 hk (by omega) (by omega)
  subst hr
  refine aP h hx0 hx hb lrfl rfl hlk hlk2 hfo hho2 (by rw [n7 (by omega)];exact dI _ hd (by simp)) (fun _=>⟨⟨hb,by rw [hfe];exact hk,by rw [hfe];omega,by rw [hfe];omega⟩,by rw [hfe]⟩) fun _=>FI.o9 hk ⟨by simp,by simp⟩ (fun _ _=>⟨q1,q2,q3⟩) (fun _=>⟨[],chL w.m B,hch,?_,fun a ha=>by cases ha⟩) (by simp) (by simp)
  show aO w.m (aa w.m f.c)=ig (aa w.m f.c) (chL w.m B)
  rw [hB];exact tA h.ch hBl
 rw [if_neg e2] at hr
 by_cases e3 : f.pc=3
 ·rw [if_pos e3] at hr
  obtain ⟨q1,q2,q3⟩:=hF.add1 hk (by omega) (by omega)
  obtain ⟨l1,l2,s1,s2,s3⟩:=hF.add3 hk (.inl e3)
  rw [hB] at s2
  rw [hch] at s1
  by_cases hc : f.cur≤0
  ·rw [if_pos hc] at hr
   subst hr
   refine aP h hx0 hx hb lrfl rfl hlk hlk2 hfo hho2 (by rw [n7 (by omega)];exact dI _ hd (by simp)) (fun _=>⟨⟨hb,by rw [hfe];exact hk,by rw [hfe];omega,by rw [hfe];omega⟩,by rw [hfe]⟩) fun _=>FI.o9 hk ⟨by simp,by simp⟩ (fun _ _=>⟨q1,q2,q3⟩) (by simp) (by simp) (fun _ a ha=>s3 a ?_)
   have ha : a∈chL w.m B:=by rw [← hch];exact ha
   cases l2 with
   | nil=>rw [s1,List.append_nil] at ha;exact ha
   | cons c l3 =>
    have h0:=(cW h.ch (show c∈chL w.m B by rw [s1];simp)).1
    have s2 : f.cur=c + 1:=s2
    omega
  ·rw [if_neg hc] at hr
   obtain ⟨a,l3,c1,c2,c3,c4,c5⟩:=jA h.ch hBl s1 (by rw [← s2];omega)
   have hca : f.cur - 1=a:=by omega
   by_cases hk2 : (at1 w.m f).k=f.c.k
   ·rw [if_pos hk2] at hr
    subst hr
    exact aP h hx0 hx hb lrfl rfl hlk hlk2 hfo hho2 (by rw [n7 (by omega)];exact dI _ hd (by simp)) (fun _=>⟨⟨hb,by rw [hfe];exact hk,by rw [hfe];omega,by rw [hfe];omega⟩,by rw [hfe]⟩) fun _=>FI.o9 hk ⟨by simp,by simp⟩ (fun _ _=>⟨q1,q2,q3⟩) (by simp) (by simp) (by simp)
   ·rw [if_neg hk2] at hr
    subst hr
    exact aP h hx0 hx hb lrfl rfl hlk hlk2 hfo hho2 (by rw [n7 (by omega)];exact dI _ hd (by simp)) (fun _=>⟨⟨hb,by rw [hfe];exact hk,by rw [hfe];omega,by rw [hfe];omega⟩,by rw [hfe]⟩) fun _=>FI.o9 hk ⟨by simp,by simp⟩ (fun _ _=>⟨q1,q2,q3⟩) (fun _=>⟨l1,l2,by rw [← s1];exact hch,by show f.cur=ig (aa w.m f.c) l2;rw [hB];exact s2,s3⟩) (fun _=>⟨by show 0 < f.cur;omega,by show f.cur - 1∈chF w.m f;rw [hch,hca];exact c3,hk2⟩) (by simp)
 rw [if_neg e3] at hr
 by_cases e4 : f.pc=4
 ·obtain ⟨q1,q2,q3⟩:=hF.add1 hk (by omega) (by omega)
  obtain ⟨l1,l2,s1,s2,s3⟩:=hF.add3 hk (.inr e4)
  obtain ⟨r1,r2,r3⟩:=hF.add4 hk e4
  rw [hB] at s2
  rw [hch] at s1
  rw [if_pos ⟨e4,r1⟩] at hr
  obtain ⟨a,l3,c1,c2,c3,c4,c5⟩:=jA h.ch hBl s1 (by rw [← s2];omega)
  have hca : f.cur - 1=a:=by omega
  subst hr
  refine aP h hx0 hx hb lrfl rfl hlk hlk2 hfo hho2 (by rw [n7 (by omega)];exact dI _ hd (by simp)) (fun _=>⟨⟨hb,by rw [hfe];exact hk,by rw [hfe];omega,by rw [hfe];omega⟩,by rw [hfe]⟩) fun _=>FI.o9 hk ⟨by simp,by simp⟩ (fun _ _=>⟨q1,q2,q3⟩) (fun _=>⟨l1 ++ [a],l3,?_,?_,fun c hc=>?_⟩) (by simp) (by simp)
  ·show chF w.m f=_
   rw [hch,s1,c1,List.append_assoc];rfl
  ·show (at1 w.m f).next=ig (aa w.m f.c) l3
   rw [hB,← rV h.ch hBl (show chL w.m B=l1 ++ a :: l3 by rw [s1,c1])]
   unfold at1 nxt
   rw [hca]
  ·rcases List.mem_append.1 hc with hc | hc
   ·exact s3 c hc
   ·rw [List.mem_singleton.1 hc,← hca];exact r3
 rw [if_neg (fun y=>e4 y.1)] at hr
 by_cases e5 : f.pc=5
 ·obtain ⟨q1,q2,q3⟩:=hF.add1 hk (by omega) (by omega)
  have r5:=hF.add5 hk e5
  rw [if_pos ⟨e5,q1⟩] at hr
  have hs1:=hf.slot1
  have ha1 : f.slot < w.m.slots.length:=by omega
  have hre:=Hg h hx0 hx (a:=f.slot) (n7 (by omega)) q1 ha1
  have hbk : aa w.m f.c=bk w.m (kys w.m f.slot):=by rw [ek,q2]
  have hbn : (bk w.m (kys w.m f.slot)).toNat=B:=by rw [← hbk,hB];rfl
  obtain ⟨c1,c2,c3⟩:=vZ h.ch q1 ha1 (by omega) (fun c hc=>by rw [hbn] at hc;rw [q2];exact r5 c (by rw [hch];exact hc))
  rw [hbk] at hr
  subst hr
  generalize hy : link w.m f.slot (bk w.m (kys w.m f.slot))=y at *
  have yl : y.slots.length=w.m.slots.length:=by rw [← hy];simp [link]
  have yh : y.heads.length=w.m.heads.length:=by rw [← hy];simp [link]
  have hky : ∀ c,kys y c=kys w.m c:=fun c=>by
   unfold kys
   rw [c3];split <;> rfl
  have hcB : chL y B=f.slot :: chL w.m B:=by
   have:=c2 B hBl
   rwa [if_pos (by rw [← hbk,hB])] at this
  have hco : ∀ i,i < w.m.heads.length→i≠B→chL y i=chL w.m i:=fun i hi hne=>by
   have:=c2 i hi
   rwa [if_neg (by rw [← hbk,hB];omega)] at this
  have hh : bI f:=.inl ⟨hk,e0,e1⟩
  refine h.cU hx0 hx c1 yl yh hlk hlk2 (fun u u0 u1 hux ub=>⟨fun uh=>⟨?_,fun c _=>hky c⟩,fun ua=>⟨hky _,?_⟩⟩) (fun hb'=>⟨hfo (busy' hb'),FI.seven hk rfl⟩) (fun ha=>by have p : (7 : Int)≤6:=ha.2.2.2;omega) hho2 fun k hk'=>?_
  ·unfold chF
   rw [show aa y (tsk w u).f.c=aa w.m (tsk w u).f.c from ck _ yh]
   refine hco _ (HF h u0 u1 ub uh) fun e=>?_
   have:=h.apart u0 u1 hx0 hx hux ub hb uh (by rw [hfe];exact hh)
   rw [hfe,hB] at this
   have:=aQ h.ch.mem.rJ (h.fo _ (Hf u0 u1) ub).call (by unfold bI at uh;omega)
   omega
  ·have hne:=h.un x u hx0 hx u0 u1 (fun e=>hux e.symm) ⟨hb,by rw [hfe];exact hk,by rw [hfe];omega,by rw [hfe];omega⟩ ua
   rw [hfe] at hne
   have hs:=((h.fi _ (Hf u0 u1) ub).add1 ua.2.1 ua.2.2.1 ua.2.2.2).1
   rw [c3,if_neg (by omega)]
  ·have hn : cr (stepT { f with e:=0,pc:=7} (tsk w x))=-1:=if_neg fun p=>p.2 ⟨hk,rfl⟩
   rw [cu hn,cu (n7 (by omega)),c3]
   have hr0 : (if f.slot.toNat=k then jc (aO w.m (bk w.m (kys w.m f.slot))) (msl w.m k) else msl w.m k).refs=(msl w.m k).refs:=by split <;> rfl
   rw [hr0,show (stepT { f with e:=0,pc:=7} (tsk w x)).held=(tsk w x).held from rfl,if_neg (show ¬ (-1 : Int)=k by omega)]
   by_cases ek2 : f.slot=k
   ·rw [if_pos ek2,uV yh hBl (by rw [hcB,ek2];simp) hco]
    omega
   ·rw [if_neg ek2,uW yh (b:=B) (by rw [hcB,List.count_cons_of_ne (by simpa using ek2)]) hco]
    omega
 rw [if_neg (fun y=>e5 y.1)] at hr
 by_cases e6 : f.pc=6
 ·obtain ⟨q1,q2,q3⟩:=hF.add1 hk (by omega) (by omega)
  rw [if_pos ⟨e6,q1⟩] at hr
  have hs1:=hf.slot1
  have ha1 : f.slot < w.m.slots.length:=by omega
  have hre:=Hg h hx0 hx (a:=f.slot) (n7 (by omega)) q1 ha1
  obtain ⟨u1,u2,u3,_⟩:=fQ (m:=w.m) (a:=f.slot) (by omega)
  subst hr
  refine h.refs hx0 hx q1 ha1 (iY h.ch.mem q1 ha1) u1 u2 u3 (fun ⟨b,hb1,hb2⟩=>by have:=HU hb1 hb2;omega) hlk hlk2 (fun hb'=>⟨hfo (busy' hb'),FI.seven hk rfl⟩) (fun ha=>by have p : (7 : Int)≤6:=ha.2.2.2;omega) hho2 fun k=>?_
  have hn : cr (stepT { f with slot:=-1,e:=6,pc:=7} (tsk w x))=-1:=if_neg fun p=>p.2 ⟨hk,rfl⟩
  rw [cu hn,cu (n7 (by omega)),show (stepT { f with slot:=-1,e:=6,pc:=7} (tsk w x)).held=(tsk w x).held from rfl,if_neg (show ¬ (-1 : Int)=k by omega)]
  by_cases ek2 : f.slot=k
  ·rw [if_pos ek2,if_pos ek2.symm];omega
  ·rw [if_neg ek2,if_neg (fun e=>ek2 e.symm)];omega
 rw [if_neg (fun y=>e6 y.1)] at hr
 have e7 : f.pc=7:=by omega
 rw [if_pos e7] at hr
 subst hr
 have hn : cr (tsk w x)=-1:=if_neg fun p=>p.2 (by rw [hfe];exact ⟨hk,e7⟩)
 have hul : ∃ l,unlock w.m (aa w.m f.c) x={ w.m with ae:=l}∧l.length=w.m.ae.length:=by
  unfold unlock
  split
  ·exact ⟨_,rfl,by simp⟩
  ·exact ⟨w.m.ae,rfl,rfl⟩
 obtain ⟨l,hl1,hl2⟩:=hul
 exact aP h hx0 hx hb hl1 hl2 hlk hlk2 hfo hho2 (by rw [hn];exact fU _ rfl) (fun ha=>by cases busy' ha.1) fun hd'=>by cases hd'
end Go.Proofs.Ytpmamacjepcdmaa

namespace Go.Proofs.Ytpmamacjepcdmaa
open Go Go.Sy Go.RowKit
set_option linter.unusedSimpArgs false
set_option linter.unusedVariables false
theorem kp {m y : Mem} (hC : aK m) {B : Nat} (hB : B < m.heads.length) {l1 l3 : List Int} {a p : Int} (e : chL m B=l1 ++ a :: l3) (hp : p=jJ l1) (hy : y=cut m p a B) :
  aK y∧chL y B=l1 ++ l3∧(∀ i,i < m.heads.length→i≠B→chL y i=chL m i)∧(∀ j,Fx (msl y j) (msl m j))∧y.slots.length=m.slots.length∧y.heads.length=m.heads.length:=by
 have ha : a∈chL m B:=by rw [e];simp
 have hpv:=xH hC hB e
 obtain ⟨c1,c2,c3,c4,c5⟩:=zW hC hB ha
 rw [← hpv,← hp,← hy] at c1 c2 c3 c4 c5
 have hnd:=(hC.ch hB).ndl
 rw [e] at hnd
 have ha1 : a ∉ l1:=fun hx=>(List.nodup_append.1 hnd).2.2 a hx a (by simp) rfl
 refine ⟨c1,?_,fun i hi hne=>?_,c3,c4,c5⟩
 ·rw [c2 B hB,if_pos rfl,e,List.erase_append_right _ ha1,List.erase_cons_head]
 ·rw [c2 i hi,if_neg hne]
theorem Inv.cutx {w : Wrd} {y : Mem} {x a : Int} {B : Nat} {l1 l3 : List Int} {F : Tsk→Tsk} (h : Inv w) (hx0 : 0≤x) (hx : x < w.ts.length) (hb : (tsk w x).busy=true) (hB : aa w.m (tsk w x).f.c=B) (hBl : B < w.m.heads.length) (hh : bI (tsk w x).f)
  (e : chL w.m B=l1 ++ a :: l3) (hC : aK y) (hcB : chL y B=l1 ++ l3) (hco : ∀ i,i < w.m.heads.length→i≠B→chL y i=chL w.m i) (hlk : ∀ j,Fx (msl y j) (msl w.m j)) (yl : y.slots.length=w.m.slots.length) (yh : y.heads.length=w.m.heads.length)
  (hk : dW ⟨y,w.ts.modify x.toNat F⟩) (hk2 : HE ⟨y,w.ts.modify x.toNat F⟩) (hm : (F (tsk w x)).busy=true→bV y (F (tsk w x)).f∧FI y (F (tsk w x)).f)
  (hu : ¬ ft (F (tsk w x))) (hd : gP w.m.slots.length (F (tsk w x))) (hr : ∀ k : Nat,fv k (F (tsk w x))=fv k (tsk w x) + if (k : Int)=a then 1 else 0) : Inv ⟨y,w.ts.modify x.toNat F⟩:=by
 refine h.cU hx0 hx hC yl yh hk hk2 (fun u u0 u1 hux ub=>⟨fun uh=>⟨?_,fun c _=>(hlk c.toNat).2.1⟩,fun _=>⟨(hlk _).2.1,(hlk _).2.2.2⟩⟩) hm (fun ha=>absurd ha hu) hd fun k hk'=>?_
 ·unfold chF
  rw [show aa y (tsk w u).f.c=aa w.m (tsk w u).f.c from ck _ yh]
  refine hco _ (HF h u0 u1 ub uh) fun e=>?_
  have:=h.apart u0 u1 hx0 hx hux ub hb uh hh
  rw [hB] at this
  have:=aQ h.ch.mem.rJ (h.fo _ (Hf u0 u1) ub).call (by unfold bI at uh;omega)
  omega
 ·rw [hr,(hlk k).1]
  by_cases ek : (k : Int)=a
  ·have h1 : fK w.m k=fK y k + 1:=uV (m:=y) (y:=w.m) yh.symm (b:=B) (by omega) (by rw [e,hcB,ek];simp [List.count_append];omega) fun i hi hne=>(hco i (by omega) hne).symm
   rw [if_pos ek]
   omega
  ·have h1 : fK w.m k=fK y k:=uW (m:=y) (y:=w.m) yh.symm (b:=B) (by rw [e,hcB];simp [List.count_append,List.count_cons];exact fun p=>ek p.symm) fun i hi hne=>(hco i (by omega) hne).symm
   rw [if_neg ek]
   omega
theorem pU (m : Mem) (b x : Int) : ∃ l,unlock m b x={ m with ae:=l}∧l.length=m.ae.length:=by
 unfold unlock
 split
 ·exact ⟨_,rfl,by simp⟩
 ·exact ⟨m.ae,rfl,rfl⟩
theorem FI.IG {m : Mem} {f : Frm} (hk : f.c.kind=3) (h0 : f.pc≤6∧(f.pc≤4→f.slot=-1)) (h1 : 2≤f.pc→f.pc≤4→qD m f∧(3≤f.pc→0 < f.cur)) : FI m f :=
 ⟨fun k=>by omega,fun k=>by omega,fun k=>by omega,fun k=>by omega,fun k=>by omega,fun k=>by omega,fun _=>h0,fun _=>h1,fun k=>by omega,fun k=>by omega,fun k=>by omega⟩
theorem FI.gS {m : Mem} {f : Frm} (hk : f.c.kind=4∨f.c.kind=5) (h0 : f.pc≤6∧(f.pc≠5→f.slot=-1)∧(f.pc=5→0≤f.slot)) (h1 : 2≤f.pc→f.pc≤5→qD m f∧(f.pc=3∨f.pc=4→0 < f.cur)) : FI m f :=
 ⟨fun k=>by omega,fun k=>by omega,fun k=>by omega,fun k=>by omega,fun k=>by omega,fun k=>by omega,fun k=>by omega,fun k=>by omega,fun _=>h0,fun _=>h1,fun k=>by omega⟩
theorem qY (l : List Int) (a : Int) : jJ (l ++ [a])=a + 1:=by unfold jJ;simp
theorem cf {g : Frm} {t : Tsk} (hk : g.c.kind≠2) : ¬ ft (stepT g t):=fun h=>hk h.2.1
theorem DY {w : Wrd} (h : Inv w) {x : Int} (hx0 : 0≤x) (hx : x < w.ts.length) (hb : (tsk w x).busy=true) (hk : (tsk w x).f.c.kind=3) : Inv (w.gone x (aL w.m (tsk w x).f x)):=by
 obtain ⟨hf,hF,hd⟩:=fe h hx0 hx hb
 have hm:=h.ch.mem.rJ
 have hbr:=aQ hm hf.call (by omega)
 have hlk : dW (w.gone x (aL w.m (tsk w x).f x)):=H3 h.lk hx0 hx hb (tP x hk hd) (gz x hm hf hk).hl hbr fun t=>⟨rfl,rfl⟩
 have hlk2 : HE (w.gone x (aL w.m (tsk w x).f x)):=tE h.lk2 hx0 hx hb (pI x hk hd) (gz x hm hf hk).hl (fun _=>by rw [hm.nl];omega) ⟨rfl,rfl⟩
 have hfo : (aL w.m (tsk w x).f x).1.done=false→bV (aL w.m (tsk w x).f x).2 (aL w.m (tsk w x).f x).1:=fun hd'=>(rk x hm hf hk).ok hf (gz x hm hf hk) hd'
 have hho:=h.hd _ (Hf hx0 hx)
 rw [ln] at hlk hlk2 ⊢
 have p0:=hf.pc0
 obtain ⟨A1,A2⟩:=hF.drop hk
 obtain ⟨B,hB⟩ : ∃ B : Nat,aa w.m (tsk w x).f.c=B:=⟨(aa w.m (tsk w x).f.c).toNat,by omega⟩
 have hBl : B < w.m.heads.length:=by omega
 have hch : chF w.m (tsk w x).f=chL w.m B:=by unfold chF;rw [hB];rfl
 generalize hr : aL w.m (tsk w x).f x=r at *
 have hB0:=hB
 obtain ⟨f,hfe⟩ : ∃ f,(tsk w x).f=f:=⟨_,rfl⟩
 rw [hfe] at hf hF hd hk hbr hr p0 A1 A2 hB hch
 have hc1 : r.1.c=f.c:=by rw [← hr];exact (pI x hk hd).1
 have hnk : r.1.c.kind≠2:=by rw [hc1,hk];decide
 have hho2 : gP w.m.slots.length (stepT r.1 (tsk w x)):=kg hho fun _ hk1=>by rw [hc1,hk] at hk1;cases hk1
 have busy' : (stepT r.1 (tsk w x)).busy=true→r.1.done=false:=fun hb'=>by simpa [stepT] using hb'
 have lrfl : w.m={ w.m with ae:=w.m.ae}:=rfl
 have n7 : cr (tsk w x)=f.slot:=by rw [dj hb (by rw [hfe];omega),hfe]
 have hs : r.1.done=false→cr (stepT r.1 (tsk w x))=r.1.slot:=fun hd'=>dI _ hd' fun p=>hnk p.1
 unfold aL at hr
 by_cases e0 : f.pc=0
 ·rw [if_pos e0] at hr
  rcases dA w.m (aa w.m f.c) x with ⟨hl,_⟩ | hl
  ·rw [hl] at hr
   subst hr
   exact aP h hx0 hx hb rfl (by simp) hlk hlk2 hfo hho2 ((hs hd).trans n7.symm) (fun ha=>absurd ha (cf hnk)) fun _=>FI.IG hk ⟨by simp,fun _=>A2 (by omega)⟩ (by simp)
  ·rw [hl] at hr
   subst hr
   exact aP h hx0 hx hb lrfl rfl hlk hlk2 hfo hho2 ((hs hd).trans n7.symm) (fun ha=>absurd ha (cf hnk)) fun _=>FI.IG hk ⟨by simp;omega,fun _=>A2 (by omega)⟩ (by simp;omega)
 rw [if_neg e0] at hr
 by_cases e1 : f.pc=1
 ·rw [if_pos e1] at hr
  subst hr
  refine aP h hx0 hx hb lrfl rfl hlk hlk2 hfo hho2 ((hs hd).trans n7.symm) (fun ha=>absurd ha (cf hnk)) fun _=>FI.IG hk ⟨by simp,fun _=>A2 (by omega)⟩ fun _ _=>⟨⟨[],chL w.m B,hch,?_,rfl⟩,by simp⟩
  show aO w.m (aa w.m f.c)=ig (aa w.m f.c) (chL w.m B)
  rw [hB];exact tA h.ch hBl
 rw [if_neg e1] at hr
 by_cases e2 : f.pc=2
 ·rw [if_pos e2] at hr
  obtain ⟨st,_⟩:=hF.drop2 hk (by omega) (by omega)
  split at hr
  ·subst hr
   exact aP h hx0 hx hb lrfl rfl hlk hlk2 hfo hho2 ((hs hd).trans n7.symm) (fun ha=>absurd ha (cf hnk)) fun _=>FI.IG hk ⟨by simp,by simp⟩ (by simp)
  ·rename_i hc
   by_cases hq : (at1 w.m f).k=f.c.k
   ·rw [if_pos hq] at hr
    subst hr
    exact aP h hx0 hx hb lrfl rfl hlk hlk2 hfo hho2 ((hs hd).trans n7.symm) (fun ha=>absurd ha (cf hnk)) fun _=>FI.IG hk ⟨by simp,fun _=>A2 (by omega)⟩ fun _ _=>⟨st,fun _=>by show 0 < f.cur;omega⟩
   ·rw [if_neg hq] at hr
    subst hr
    exact aP h hx0 hx hb lrfl rfl hlk hlk2 hfo hho2 ((hs hd).trans n7.symm) (fun ha=>absurd ha (cf hnk)) fun _=>FI.IG hk ⟨by simp,fun _=>A2 (by omega)⟩ fun _ _=>⟨st,fun _=>by show 0 < f.cur;omega⟩
 rw [if_neg e2] at hr
 by_cases e3 : f.pc=3
 ·obtain ⟨⟨l1,l2,s1,s2,s3⟩,hcu⟩:=hF.drop2 hk (by omega) (by omega)
  have hcu:=hcu (by omega)
  rw [hB] at s2
  rw [hch] at s1
  rw [if_pos ⟨e3,hcu⟩] at hr
  obtain ⟨a,l3,c1,c2,c3,c4,c5⟩:=jA h.ch hBl s1 (by rw [← s2];omega)
  have hca : f.cur - 1=a:=by omega
  subst hr
  refine aP h hx0 hx hb lrfl rfl hlk hlk2 hfo hho2 ((hs hd).trans n7.symm) (fun ha=>absurd ha (cf hnk)) fun _=>FI.IG hk ⟨by simp,fun _=>A2 (by omega)⟩ fun _ _=>⟨⟨l1 ++ [a],l3,?_,?_,?_⟩,by simp⟩
  ·show chF w.m f=_
   rw [hch,s1,c1,List.append_assoc];rfl
  ·show (at1 w.m f).next=ig (aa w.m f.c) l3
   rw [hB,← rV h.ch hBl (show chL w.m B=l1 ++ a :: l3 by rw [s1,c1])]
   unfold at1 nxt
   rw [hca]
  ·rw [qY];show f.cur=a + 1;omega
 rw [if_neg (fun y=>e3 y.1)] at hr
 by_cases e4 : f.pc=4
 ·obtain ⟨⟨l1,l2,s1,s2,s3⟩,hcu⟩:=hF.drop2 hk (by omega) (by omega)
  have hcu:=hcu (by omega)
  rw [hB] at s2
  rw [hch] at s1
  rw [if_pos ⟨e4,hcu⟩] at hr
  obtain ⟨a,l3,c1,c2,c3,c4,c5⟩:=jA h.ch hBl s1 (by rw [← s2];omega)
  have hca : f.cur - 1=a:=by omega
  have e : chL w.m B=l1 ++ a :: l3:=by rw [s1,c1]
  rw [hca,hB] at hr
  obtain ⟨y,hy⟩ : ∃ y,cut w.m f.prev a B=y:=⟨_,rfl⟩
  obtain ⟨d1,d2,d3,d4,d5,d6⟩:=kp h.ch hBl e s3 hy.symm
  rw [hy] at hr
  subst hr
  refine h.cutx hx0 hx hb hB0 hBl (by rw [hfe];exact .inr (.inl ⟨hk,e0,by omega⟩)) e d1 d2 d3 d4 d5 d6 hlk hlk2 (fun hb'=>⟨hfo (busy' hb'),FI.IG hk ⟨by show (5 : Int)≤6;omega,fun p=>by have p : (5 : Int)≤4:=p;omega⟩ fun _ p=>by have p : (5 : Int)≤4:=p;omega⟩) (cf hnk) hho2 fun k=>?_
  rw [cu (hs hd),cu n7,A2 (by omega),if_neg (show ¬ (-1 : Int)=k by omega)]
  show ((tsk w x).held.count (k : Int) : Int) + (if a=k then 1 else 0)=_
  by_cases ek : a=k
  ·rw [if_pos ek,if_pos ek.symm];omega
  ·rw [if_neg ek,if_neg (fun p=>ek p.symm)];omega
 rw [if_neg (fun y=>e4 y.1)] at hr
 by_cases e5 : f.pc=5
 ·rw [if_pos e5] at hr
  obtain ⟨l,hl1,hl2⟩:=pU w.m (aa w.m f.c) x
  subst hr
  exact aP h hx0 hx hb hl1 hl2 hlk hlk2 hfo hho2 ((hs hd).trans n7.symm) (fun ha=>absurd ha (cf hnk)) fun _=>FI.IG hk ⟨by simp,by simp⟩ (by simp)
 rw [if_neg e5,if_pos (show f.pc=6 by omega)] at hr
 by_cases hsl : 0≤f.slot
 ·rw [if_pos hsl,if_pos hsl] at hr
  have hs1:=hf.slot1
  have ha1 : f.slot < w.m.slots.length:=by omega
  have hre:=Hg h hx0 hx (a:=f.slot) n7 hsl ha1
  obtain ⟨u1,u2,u3,_⟩:=fQ (m:=w.m) (a:=f.slot) (by omega)
  subst hr
  refine h.refs hx0 hx hsl ha1 (iY h.ch.mem hsl ha1) u1 u2 u3 (fun ⟨b,hb1,hb2⟩=>by have:=HU hb1 hb2;omega) hlk hlk2 (fun hb'=>by cases busy' hb') (cf hnk) hho2 fun k=>?_
  rw [cu (fU _ rfl),cu n7,if_neg (show ¬ (-1 : Int)=k by omega)]
  show ((tsk w x).held.count (k : Int) : Int) + 0=_
  by_cases ek2 : f.slot=k
  ·rw [if_pos ek2,if_pos ek2.symm];omega
  ·rw [if_neg ek2,if_neg (fun e=>ek2 e.symm)];omega
 ·rw [if_neg hsl,if_neg hsl] at hr
  have hs0:=hf.slot0
  subst hr
  exact aP h hx0 hx hb lrfl rfl hlk hlk2 hfo hho2 (by rw [n7,fU _ rfl];omega) (fun ha=>absurd ha (cf hnk)) fun hd'=>by cases hd'
theorem BA {w : Wrd} (h : Inv w) {x : Int} (hx0 : 0≤x) (hx : x < w.ts.length) (hb : (tsk w x).busy=true) (hk : (tsk w x).f.c.kind=4∨(tsk w x).f.c.kind=5) : Inv (w.gone x (aB w.m (tsk w x).f x)):=by
 obtain ⟨hf,hF,hd⟩:=fe h hx0 hx hb
 have hm:=h.ch.mem.rJ
 have hbr:=aQ hm hf.call (by omega)
 have hlk : dW (w.gone x (aB w.m (tsk w x).f x)):=H3 h.lk hx0 hx hb (rG x hk hd) (fF x hm hf hk).hl hbr fun t=>⟨rfl,rfl⟩
 have hlk2 : HE (w.gone x (aB w.m (tsk w x).f x)):=tE h.lk2 hx0 hx hb (nE x hk hd) (fF x hm hf hk).hl (fun _=>by rw [hm.nl];omega) ⟨rfl,rfl⟩
 have hfo : (aB w.m (tsk w x).f x).1.done=false→bV (aB w.m (tsk w x).f x).2 (aB w.m (tsk w x).f x).1:=fun hd'=>(oT x hm hf hk).ok hf (fF x hm hf hk) hd'
 have hho:=h.hd _ (Hf hx0 hx)
 rw [ln] at hlk hlk2 ⊢
 have p0:=hf.pc0
 obtain ⟨A1,A2,A3⟩:=hF.sweep hk
 obtain ⟨B,hB⟩ : ∃ B : Nat,aa w.m (tsk w x).f.c=B:=⟨(aa w.m (tsk w x).f.c).toNat,by omega⟩
 have hBl : B < w.m.heads.length:=by omega
 have hch : chF w.m (tsk w x).f=chL w.m B:=by unfold chF;rw [hB];rfl
 generalize hr : aB w.m (tsk w x).f x=r at *
 have hB0:=hB
 obtain ⟨f,hfe⟩ : ∃ f,(tsk w x).f=f:=⟨_,rfl⟩
 rw [hfe] at hf hF hd hk hbr hr p0 A1 A2 A3 hB hch
 have hc1 : r.1.c=f.c:=by rw [← hr];exact (nE x hk hd).1
 have hnk : r.1.c.kind≠2:=by rw [hc1];omega
 have hho2 : gP w.m.slots.length (stepT r.1 (tsk w x)):=kg hho fun _ hk1=>by rw [hc1] at hk1;omega
 have busy' : (stepT r.1 (tsk w x)).busy=true→r.1.done=false:=fun hb'=>by simpa [stepT] using hb'
 have lrfl : w.m={ w.m with ae:=w.m.ae}:=rfl
 have n7 : cr (tsk w x)=f.slot:=by rw [dj hb (by rw [hfe];omega),hfe]
 have hs : r.1.done=false→cr (stepT r.1 (tsk w x))=r.1.slot:=fun hd'=>dI _ hd' fun p=>hnk p.1
 unfold aB at hr
 by_cases e0 : f.pc=0
 ·rw [if_pos e0] at hr
  rcases dA w.m (aa w.m f.c) x with ⟨hl,_⟩ | hl
  ·rw [hl] at hr
   subst hr
   exact aP h hx0 hx hb rfl (by simp) hlk hlk2 hfo hho2 ((hs hd).trans n7.symm) (fun ha=>absurd ha (cf hnk)) fun _=>FI.gS hk ⟨by simp,fun _=>A2 (by omega),by simp⟩ (by simp)
  ·rw [hl] at hr
   subst hr
   exact aP h hx0 hx hb lrfl rfl hlk hlk2 hfo hho2 ((hs hd).trans n7.symm) (fun ha=>absurd ha (cf hnk)) fun _=>FI.gS hk ⟨by simp;omega,fun _=>A2 (by omega),by simp;omega⟩ (by simp;omega)
 rw [if_neg e0] at hr
 by_cases e1 : f.pc=1
 ·rw [if_pos e1] at hr
  subst hr
  refine aP h hx0 hx hb lrfl rfl hlk hlk2 hfo hho2 ((hs hd).trans n7.symm) (fun ha=>absurd ha (cf hnk)) fun _=>FI.gS hk ⟨by simp,fun _=>A2 (by omega),by simp⟩ fun _ _=>⟨⟨[],chL w.m B,hch,?_,rfl⟩,by simp⟩
  show aO w.m (aa w.m f.c)=ig (aa w.m f.c) (chL w.m B)
  rw [hB];exact tA h.ch hBl
 rw [if_neg e1] at hr
 by_cases e2 : f.pc=2
 ·obtain ⟨st,_⟩:=hF.sweep2 hk (by omega) (by omega)
  by_cases hc : f.cur≤0
  ·rw [if_pos ⟨e2,hc⟩] at hr
   subst hr
   exact aP h hx0 hx hb lrfl rfl hlk hlk2 hfo hho2 ((hs hd).trans n7.symm) (fun ha=>absurd ha (cf hnk)) fun _=>FI.gS hk ⟨by simp,fun _=>A2 (by omega),by simp⟩ (by simp)
  rw [if_neg (fun p=>hc p.2)] at hr
  by_cases hk5 : f.c.kind=5
  ·rw [if_pos ⟨e2,hk5⟩] at hr
   subst hr
   exact aP h hx0 hx hb lrfl rfl hlk hlk2 hfo hho2 ((hs hd).trans n7.symm) (fun ha=>absurd ha (cf hnk)) fun _=>FI.gS hk ⟨by simp,fun _=>A2 (by omega),by simp⟩ fun _ _=>⟨st,fun _=>by show 0 < f.cur;omega⟩
  rw [if_neg (fun p=>hk5 p.2),if_pos e2] at hr
  by_cases hq : (at1 w.m f).till≤w.m.now
  ·rw [if_pos hq] at hr
   subst hr
   exact aP h hx0 hx hb lrfl rfl hlk hlk2 hfo hho2 ((hs hd).trans n7.symm) (fun ha=>absurd ha (cf hnk)) fun _=>FI.gS hk ⟨by simp,fun _=>A2 (by omega),by simp⟩ fun _ _=>⟨st,fun _=>by show 0 < f.cur;omega⟩
  ·rw [if_neg hq] at hr
   subst hr
   exact aP h hx0 hx hb lrfl rfl hlk hlk2 hfo hho2 ((hs hd).trans n7.symm) (fun ha=>absurd ha (cf hnk)) fun _=>FI.gS hk ⟨by simp,fun _=>A2 (by omega),by simp⟩ fun _ _=>⟨st,fun _=>by show 0 < f.cur;omega⟩
 rw [if_neg (fun p=>e2 p.1),if_neg (fun p=>e2 p.1),if_neg e2] at hr
 by_cases e3 : f.pc=3
 ·obtain ⟨⟨l1,l2,s1,s2,s3⟩,hcu⟩:=hF.sweep2 hk (by omega) (by omega)
  have hcu:=hcu (by omega)
  rw [hB] at s2
  rw [hch] at s1
  rw [if_pos ⟨e3,hcu⟩] at hr
  obtain ⟨a,l3,c1,c2,c3,c4,c5⟩:=jA h.ch hBl s1 (by rw [← s2];omega)
  have hca : f.cur - 1=a:=by omega
  subst hr
  refine aP h hx0 hx hb lrfl rfl hlk hlk2 hfo hho2 ((hs hd).trans n7.symm) (fun ha=>absurd ha (cf hnk)) fun _=>FI.gS hk ⟨by simp,fun _=>A2 (by omega),by simp⟩ fun _ _=>⟨⟨l1 ++ [a],l3,?_,?_,?_⟩,by simp⟩
  ·show chF w.m f=_
   rw [hch,s1,c1,List.append_assoc];rfl
  ·show (at1 w.m f).next=ig (aa w.m f.c) l3
   rw [hB,← rV h.ch hBl (show chL w.m B=l1 ++ a :: l3 by rw [s1,c1])]
   unfold at1 nxt
   rw [hca]
  ·rw [qY];show f.cur=a + 1;omega
 rw [if_neg (fun y=>e3 y.1)] at hr
 by_cases e4 : f.pc=4
 ·obtain ⟨⟨l1,l2,s1,s2,s3⟩,hcu⟩:=hF.sweep2 hk (by omega) (by omega)
  have hcu:=hcu (by omega)
  rw [hB] at s2
  rw [hch] at s1
  rw [if_pos ⟨e4,hcu⟩] at hr
  obtain ⟨a,l3,c1,c2,c3,c4,c5⟩:=jA h.ch hBl s1 (by rw [← s2];omega)
  have hca : f.cur - 1=a:=by omega
  have e : chL w.m B=l1 ++ a :: l3:=by rw [s1,c1]
  have hnx:=rV h.ch hBl e
  have hnx2 : (at1 w.m f).next=ig B l3:=by rw [← hnx];unfold at1 nxt;rw [hca]
  rw [hca,hB] at hr
  obtain ⟨y,hy⟩ : ∃ y,cut w.m f.prev a B=y:=⟨_,rfl⟩
  obtain ⟨d1,d2,d3,d4,d5,d6⟩:=kp h.ch hBl e s3 hy.symm
  rw [hy] at hr
  subst hr
  have hby : aa y f.c=B:=by rw [ck _ d6,hB]
  refine h.cutx hx0 hx hb hB0 hBl (by rw [hfe];exact .inr (.inr ⟨hk,e0⟩)) e d1 d2 d3 d4 d5 d6 hlk hlk2 (fun hb'=>⟨hfo (busy' hb'),FI.gS hk ⟨by show (5 : Int)≤6;omega,fun p=>absurd rfl p,fun _=>c4⟩ fun _ _=>⟨⟨l1,l3,?_,?_,s3⟩,fun p=>by have p : (5 : Int)=3∨(5 : Int)=4:=p;omega⟩⟩) (cf hnk) hho2 fun k=>?_
  ·show chL y (aa y f.c).toNat=_
   rw [hby];exact d2
  ·show (at1 w.m f).next=ig (aa y f.c) l3
   rw [hby];exact hnx2
  rw [cu (hs hd),cu n7,A2 (by omega),if_neg (show ¬ (-1 : Int)=k by omega)]
  show ((tsk w x).held.count (k : Int) : Int) + (if a=k then 1 else 0)=_
  by_cases ek : a=k
  ·rw [if_pos ek,if_pos ek.symm];omega
  ·rw [if_neg ek,if_neg (fun p=>ek p.symm)];omega
 rw [if_neg (fun y=>e4 y.1)] at hr
 by_cases e5 : f.pc=5
 ·have hsl:=A3 e5
  obtain ⟨⟨l1,l2,s1,s2,s3⟩,_⟩:=hF.sweep2 hk (by omega) (by omega)
  rw [if_pos ⟨e5,hsl⟩] at hr
  have hs1:=hf.slot1
  have ha1 : f.slot < w.m.slots.length:=by omega
  have hre:=Hg h hx0 hx (a:=f.slot) n7 hsl ha1
  obtain ⟨u1,u2,u3,_⟩:=fQ (m:=w.m) (a:=f.slot) (by omega)
  have hnz : (∃ b,b < w.m.heads.length∧f.slot∈chL w.m b)→(msl w.m f.slot.toNat).refs + -1≠0:=fun ⟨b,hb1,hb2⟩=>by have:=HU hb1 hb2;omega
  obtain ⟨c1,c2⟩:=gX h.ch (iY h.ch.mem hsl ha1) hsl ha1 u1 u2 hnz
  have hbp : aa (put w.m f.slot) f.c=aa w.m f.c:=ck _ (by rw [u2])
  subst hr
  refine h.refs hx0 hx hsl ha1 (iY h.ch.mem hsl ha1) u1 u2 u3 hnz hlk hlk2 (fun hb'=>⟨hfo (busy' hb'),FI.gS hk ⟨by show (2 : Int)≤6;omega,fun _=>rfl,fun p=>by have p : (2 : Int)=5:=p;omega⟩ fun _ _=>⟨⟨l1,l2,?_,?_,s3⟩,fun p=>by have p : (2 : Int)=3∨(2 : Int)=4:=p;omega⟩⟩) (cf hnk) hho2 fun k=>?_
  ·show chL (put w.m f.slot) (aa (put w.m f.slot) f.c).toNat=_
   rw [hbp,← s1,hch,hB,Int.toNat_natCast]
   exact c2 B hBl
  ·show f.cur=ig (aa (put w.m f.slot) f.c) l2
   rw [hbp];exact s2
  rw [cu (hs hd),cu n7]
  show ((tsk w x).held.count (k : Int) : Int) + (if (-1 : Int)=k then 1 else 0)=_
  rw [if_neg (show ¬ (-1 : Int)=k by omega)]
  by_cases ek2 : f.slot=k
  ·rw [if_pos ek2,if_pos ek2.symm];omega
  ·rw [if_neg ek2,if_neg (fun e=>ek2 e.symm)];omega
 rw [if_neg (fun y=>e5 y.1),if_pos (show f.pc=6 by omega)] at hr
 obtain ⟨l,hl1,hl2⟩:=pU w.m (aa w.m f.c) x
 subst hr
 exact aP h hx0 hx hb hl1 hl2 hlk hlk2 hfo hho2 (by rw [n7,fU _ rfl,A2 e5]) (fun ha=>absurd ha (cf hnk)) fun hd'=>by cases hd'
end Go.Proofs.Ytpmamacjepcdmaa
