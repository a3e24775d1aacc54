import Derived.Test.YtpmamacjepcdmaaCEnds2
import Derived.Test.YtpmamacjepcdmaaCStory3
namespace Go.Proofs.Ytpmamacjepcdmaa
open Go Go.Sy Go.RowKit
set_option linter.unusedSimpArgs false
set_option linter.unusedVariables false
theorem Nk {m y : Mem} (hC : aK m) (hy : aK y) (h : Kin m y) {b : Nat} (hb : b < m.heads.length) (hl : y.heads.length=m.heads.length) (e : chL y b=chL m b) {a : Int} (ha : a∈chL m b) : kys y a=kys m a:=by
 have a0:=(cW hC ha).1
 have hin:=((hy.ch (show b < y.heads.length by omega)).ok a (by rw [e];exact ha)).inn
 cases h with
 | same _ _ hk=>exact HN (hk a a0 hin).2
 | lnk c B _ _ _ _ _ _ _ _ hj hk _ =>
  by_cases ec : a=c
  ·subst ec;exact HN hk
  ·unfold kys;rw [hj a a0 ec]
 | cutt c B l1 l3 _ _ _ _ hk _=>exact HN (hk a).2
theorem LJ {v : Wrd} (h : Inv v) {u : Int} (u0 : 0≤u) (u1 : u < v.ts.length) (ub : (tsk v u).busy=true) {s : List Mem} (hi : HZ s v.m (tsk v u).f) {P : Nat→Prop} {y : Mem} (hy : aK y) (hD : cZ v.m P y)
  (hP : bI (tsk v u).f→∀ B : Nat,aa v.m (tsk v u).f.c=B→¬ P B) : HZ (v.m :: s) y (tsk v u).f:=by
 obtain ⟨hf,hF,hd⟩:=fe h u0 u1 ub
 obtain ⟨l1,l2,l3⟩:=hD.lens h.ch
 have hK:=hD.kin h.ch
 have hbk : (tsk v u).f.c.kind=3→∃ B : Nat,aa v.m (tsk v u).f.c=B∧B < v.m.heads.length:=fun k=>by
  have hbr:=aQ h.ch.mem.rJ hf.call (by omega)
  exact ⟨(aa v.m (tsk v u).f.c).toNat,by omega,by omega⟩
 refine hi.more hy l2 l3 hK (fun k p q=>?_) (fun k p q=>?_)
 ·obtain ⟨B,hB,hBl⟩:=hbk k
  have e:=hD.Ij hBl (hP (.inr (.inl ⟨k,by omega,by omega⟩)) B hB)
  have e1 : chF v.m (tsk v u).f=chL v.m B:=by unfold chF;rw [hB];rfl
  have e2 : chF y (tsk v u).f=chL y B:=by unfold chF;rw [ck (m:=v.m) _ l2,hB];rfl
  rw [e1,e2]
  exact ⟨e,fun a ha=>Nk h.ch hy hK hBl l2 e ha⟩
 ·obtain ⟨B,hB,hBl⟩:=hbk k
  have e1 : chF v.m (tsk v u).f=chL v.m B:=by unfold chF;rw [hB];rfl
  obtain ⟨⟨q1,q2,s1,s2,_⟩,_⟩:=hF.drop2 k (by omega) (by omega)
  rw [e1] at s1 ⊢
  rw [hB] at s2
  obtain ⟨a,l3',c1,c2,c3,c4,c5⟩:=jA h.ch hBl s1 (by rw [← s2];omega)
  rw [show (tsk v u).f.cur - 1=a by omega]
  exact c3
theorem KX {v : Wrd} (h : Inv v) {x : Int} (hx0 : 0≤x) (hx : x < v.ts.length) (hb : (tsk v x).busy=true) : (xz v.m (tsk v x).f x).c=(tsk v x).f.c:=by
 obtain ⟨_,_,hd⟩:=fe h hx0 hx hb
 unfold xz
 by_cases k1 : (tsk v x).f.c.kind=1
 ·rw [if_pos k1];exact zv
 rw [if_neg k1]
 by_cases k2 : (tsk v x).f.c.kind=2
 ·rw [if_pos k2];exact (rD x k2 hd).1
 rw [if_neg k2]
 by_cases k3 : (tsk v x).f.c.kind=3
 ·rw [if_pos k3];exact (pI x k3 hd).1
 rw [if_neg k3]
 by_cases k4 : (tsk v x).f.c.kind=4∨(tsk v x).f.c.kind=5
 ·rw [if_pos k4];exact (nE x k4 hd).1
 rw [if_neg k4];rfl
theorem KU {v : Wrd} (h : Inv v) {x : Int} (hx0 : 0≤x) (hx : x < v.ts.length) : aK (cN v x).1.m:=by
 have:=(xg h ⟨x,true,false,⟨0,⟨0,0⟩,0,0,0⟩⟩).ch
 unfold bN at this
 rw [if_neg (by simp),if_neg (by show ¬ (x < 0∨(v.ts.length : Int)≤x);omega),if_pos rfl] at this
 exact this
theorem Lf {v : Wrd} (h : Inv v) {x : Int} (hx0 : 0≤x) (hx : x < v.ts.length) (hb : (tsk v x).busy=true) {s : List Mem} (hi : HZ s v.m (tsk v x).f) : Own s v.m (tsk v x).f (xz v.m (tsk v x).f x,(cN v x).1.m):=by
 have hy:=KU h hx0 hx
 have hc:=KX h hx0 hx hb
 have hD:=BE h hx0 hx
 obtain ⟨l1,l2,l3⟩:=hD.lens h.ch
 obtain ⟨m1,m2,m3,_⟩:=Jm hb
 by_cases k1 : (tsk v x).f.c.kind=1
 ·rw [m1 k1] at hy ⊢
  unfold xz;rw [if_pos k1]
  exact MP h hx0 hx hb k1 hi hy
 by_cases k2 : (tsk v x).f.c.kind=2
 ·rw [m2 k2] at hy ⊢
  unfold xz;rw [if_neg k1,if_pos k2]
  exact Np h hx0 hx hb k2 hi hy
 by_cases k3 : (tsk v x).f.c.kind=3
 ·rw [m3 k3] at hy ⊢
  unfold xz;rw [if_neg k1,if_neg k2,if_pos k3]
  exact MV h hx0 hx hb k3 hi hy
 exact ⟨fun _=>Km hi hy l2 l3 (by rw [hc];exact k1) (fun k=>absurd (by rw [← hc];exact k) k2) (fun k=>absurd (by rw [← hc];exact k) k3),fun _ p c _ _=>⟨[],_,v.m,s,rfl,M6 (by rw [c];exact ⟨k1,k2,k3⟩) _ _⟩⟩
def JL (W : Nat→Wrd) (fr : Nat) : Nat→List Mem
 | 0=>[(W fr).m]
 | n + 1=>(W (fr + n + 1)).m :: JL W fr n
theorem KM {W : Nat→Wrd} {fr : Nat} {Q : Mem→Mem→Prop} : ∀ {n : Nat},(∃ p1 b a s,JL W fr n=p1 ++ b :: a :: s∧Q a b)→∃ j,j < n∧Q (W (fr + j)).m (W (fr + j + 1)).m
 | 0,⟨p1,b,a,s,e,_⟩=>by
  have:=congrArg List.length e
  simp [JL] at this
  omega
 | n + 1,⟨[],b,a,s,e,hq⟩=>by
  obtain ⟨e1,e2⟩:=List.cons.inj e
  refine ⟨n,by omega,?_⟩
  rw [e1]
  have : (W (fr + n)).m=a:=by
   cases n with
   | zero=>exact (List.cons.inj e2).1
   | succ n=>exact (List.cons.inj e2).1
  rw [this];exact hq
 | n + 1,⟨c :: p1,b,a,s,e,hq⟩=>by
  obtain ⟨j,h1,h2⟩:=KM (n:=n) ⟨p1,b,a,s,(List.cons.inj e).2,hq⟩
  exact ⟨j,by omega,h2⟩
def Iq (v : Wrd) (x : Pik) : Wrd:=if (bN v x).2≠0 then v else (bN v x).1.bm
structure Law (G : Mem→List Mem→Mem→Frm→Prop) (R : Mem→List Mem→Pst→Prop) : Prop where
 fa : ∀ {v : Wrd},Inv v→∀ {u : Int},0≤u→u < v.ts.length→(tsk v u).busy=true→∀ {o : Mem} {s : List Mem},G o s v.m (tsk v u).f→∀ {P : Nat→Prop} {y : Mem},aK y→cZ v.m P y→(bI (tsk v u).f→∀ B : Nat,aa v.m (tsk v u).f.c=B→¬ P B)→G o (v.m :: s) y (tsk v u).f
 own : ∀ {v : Wrd},Inv v→∀ {x : Int},0≤x→x < v.ts.length→(tsk v x).busy=true→∀ {o : Mem} {s : List Mem},G o s v.m (tsk v x).f →
  ((xz v.m (tsk v x).f x).done=false→G o (v.m :: s) (cN v x).1.m (xz v.m (tsk v x).f x))∧((xz v.m (tsk v x).f x).done=true→∀ p : Pst,p.c=(tsk v x).f.c→p.e=(xz v.m (tsk v x).f x).e→p.slot=(xz v.m (tsk v x).f x).slot→p.keys=(xz v.m (tsk v x).f x).keys→R o ((cN v x).1.m :: v.m :: s) p)
 new : ∀ {m : Mem} {c : Cal},aK m→bf m c=0→G m [m] m (aX c)
structure HI (G : Mem→List Mem→Mem→Frm→Prop) (R : Mem→List Mem→Pst→Prop) (W : Nat→Wrd) (i : Nat) (s : qE) : Prop where
 w : s.w.bm=W i
 inv : Inv (W i)
 len : s.began.length=(W i).ts.length
 busy : ∀ u : Int,0≤u→u < (W i).ts.length→(tsk (W i) u).busy=true→∃ fr n : Nat,s.began.getD u.toNat 0=fr∧fr + n + 1=i∧G (W fr).m (JL W fr n) (W i).m (tsk (W i) u).f
 past : ∀ p∈s.past,∃ fr n : Nat,p.fr=fr∧p.to=fr + n∧fr + n < i∧R (W fr).m (JL W fr (n + 1)) p
theorem getD_set_ne {l : List Int} {i j : Nat} {a : Int} (h : i≠j) : (l.set i a).getD j 0=l.getD j 0:=by
 rw [List.getD_eq_getElem?_getD,List.getD_eq_getElem?_getD,List.getElem?_set_ne h]
theorem Lr {l : List Int} {i : Nat} {a : Int} (h : i < l.length) : (l.set i a).getD i 0=a:=by
 rw [List.getD_eq_getElem?_getD,List.getElem?_set_self h];rfl
theorem Nl {G : Mem→List Mem→Mem→Frm→Prop} {R : Mem→List Mem→Pst→Prop} (K : Law G R) {W : Nat→Wrd} {i : Nat} {s : qE} {x : Pik} (h : HI G R W i s) (hW : W (i + 1)=Iq (W i) x) : HI G R W (i + 1) (kH i x s):=by
 obtain ⟨h1,h2,h3,h4,h5⟩:=h
 have past' : ∀ p∈s.past,∃ fr n : Nat,p.fr=fr∧p.to=fr + n∧fr + n < i + 1∧R (W fr).m (JL W fr (n + 1)) p:=fun p hp=>by
  obtain ⟨fr,n,a,b,c,d⟩:=h5 p hp
  exact ⟨fr,n,a,b,by omega,d⟩
 have up : ∀ {f : Frm} {fr n : Nat},fr + n + 1=i→G (W fr).m ((W i).m :: JL W fr n) (W (i + 1)).m f→G (W fr).m (JL W fr (n + 1)) (W (i + 1)).m f:=by
  rintro f fr n rfl g;exact g
 have hp:=xg h2 x
 unfold kH
 rw [h1]
 unfold Iq at hW
 by_cases e : (bN (W i) x).2≠0
 ·rw [if_pos e] at hW ⊢
  refine ⟨by rw [hW];exact h1,by rw [hW];exact h2,by rw [hW];exact h3,fun u u0 u1 ub=>?_,past'⟩
  rw [hW] at u1 ub
  obtain ⟨fr,n,a,b,c⟩:=h4 u u0 u1 ub
  refine ⟨fr,n + 1,a,by omega,up b ?_⟩
  rw [hW]
  exact K.fa h2 u0 u1 ub c h2.ch (cZ.same (P:=fun _=>False)) fun _ _ _=>id
 rw [if_neg e] at hW ⊢
 have hm : (W (i + 1)).m=(bN (W i) x).1.m:=by rw [hW];rfl
 have hl : (W (i + 1)).ts.length=(W i).ts.length:=by rw [hW,kb,sN]
 have hbf : ∀ u : Int,0≤u→u < (W i).ts.length→(tsk (W (i + 1)) u).busy=(tsk (bN (W i) x).1 u).busy∧(tsk (W (i + 1)) u).f=(tsk (bN (W i) x).1 u).f:=fun u u0 u1=>by
  rw [hW,Ia u0 (by rw [sN];exact u1)];exact ⟨rfl,rfl⟩
 have e0 : (bN (W i) x).2=0:=Classical.not_not.1 e
 have hwi : Inv (W (i + 1)):=by rw [hW];exact hp.bm
 by_cases t : x.tick=true
 ·rw [if_pos t]
  have hq : (bN (W i) x).1=⟨{ (W i).m with now:=(W i).m.now + 1},(W i).ts⟩:=by
   unfold bN at e0 ⊢
   rw [if_pos t] at e0 ⊢
   split at e0
   ·cases e0
   ·rename_i z;rw [if_neg z]
  refine ⟨hW.symm,hwi,by rw [hl];exact h3,fun u u0 u1 ub=>?_,past'⟩
  rw [hl] at u1
  obtain ⟨b1,b2⟩:=hbf u u0 u1
  rw [b1,hq] at ub
  obtain ⟨fr,n,a,b,c⟩:=h4 u u0 u1 ub
  refine ⟨fr,n + 1,a,by omega,up b ?_⟩
  have hch:=hp.ch
  rw [b2,hm]
  rw [hq] at hch ⊢
  exact K.fa h2 u0 u1 ub c hch (cZ.tick (P:=fun _=>False)) fun _ _ _=>id
 rw [if_neg t]
 obtain ⟨x0,x1⟩:=BP e0 (by simpa using t)
 by_cases st : x.step=false
 ·rw [if_pos st]
  have hq : bf (W i).m x.c=0∧(bN (W i) x).1=⟨(W i).m,(W i).ts.modify x.task.toNat fun t=>{ t with busy:=true,f:=aX x.c}⟩:=by
   unfold bN at e0 ⊢
   rw [if_neg t,if_neg (by omega),if_neg (by rw [st];simp)] at e0 ⊢
   unfold eR at e0 ⊢
   split at e0
   ·cases e0
   rename_i q1
   split at e0
   ·rename_i q;exact absurd e0 q
   rename_i q2
   split at e0
   ·cases e0
   rename_i q3
   split at e0
   ·cases e0
   rename_i q4
   rw [if_neg q1,if_neg q2,if_neg q3,if_neg q4]
   exact ⟨Classical.not_not.1 q2,rfl⟩
  obtain ⟨q2,hq⟩:=hq
  have hmm : (W (i + 1)).m=(W i).m:=by rw [hm,hq]
  refine ⟨hW.symm,hwi,by rw [hl];simpa using h3,fun u u0 u1 ub=>?_,past'⟩
  rw [hl] at u1
  obtain ⟨b1,b2⟩:=hbf u u0 u1
  rw [hq,eT x0 x1 u0] at b1 b2
  by_cases eu : u=x.task
  ·rw [if_pos eu] at b1 b2
   refine ⟨i,0,?_,by omega,?_⟩
   ·show (s.began.set x.task.toNat i).getD u.toNat 0=i
    rw [eu,Lr (by omega)]
   ·rw [b2,hmm]
    exact K.new h2.ch q2
  ·rw [if_neg eu] at b1 b2
   rw [b1] at ub
   obtain ⟨fr,n,a,b,c⟩:=h4 u u0 u1 ub
   refine ⟨fr,n + 1,?_,by omega,up b ?_⟩
   ·show (s.began.set x.task.toNat i).getD u.toNat 0=fr
    rw [getD_set_ne (by omega)];exact a
   ·rw [b2,hmm]
    exact K.fa h2 u0 u1 ub c h2.ch (cZ.same (P:=fun _=>False)) fun _ _ _=>id
 rw [if_neg st]
 have hq : bN (W i) x=cN (W i) x.task:=by
  unfold bN
  rw [if_neg t,if_neg (by omega),if_pos (by simpa using st)]
 rw [hq] at e0 hm hbf ⊢
 have xb : (tsk (W i) x.task).busy=true:=by
  cases eb : (tsk (W i) x.task).busy with
  | true=>rfl
  | false =>
   unfold cN at e0
   rw [if_pos eb] at e0
   cases e0
 obtain ⟨s1,s2,s3,s4,s5⟩:=wY x0 x1 xb
 obtain ⟨fr,n,a,b,c⟩:=h4 x.task x0 x1 xb
 obtain ⟨o1,o2⟩:=K.own h2 x0 x1 xb c
 have hnc:=KX h2 x0 x1 xb
 have others : ∀ u : Int,0≤u→u < (W i).ts.length→u≠x.task→(tsk (W (i + 1)) u).busy=true→∃ fr n : Nat,s.began.getD u.toNat 0=fr∧fr + n + 1=i + 1∧G (W fr).m (JL W fr n) (W (i + 1)).m (tsk (W (i + 1)) u).f:=fun u u0 u1 hne ub=>by
  obtain ⟨b1,b2⟩:=hbf u u0 u1
  rw [s1 u u0 hne] at b1 b2
  rw [b1] at ub
  obtain ⟨fr,n,a,b,c⟩:=h4 u u0 u1 ub
  refine ⟨fr,n + 1,a,by omega,up b ?_⟩
  rw [b2,hm]
  refine K.fa h2 u0 u1 ub c (KU h2 x0 x1) (BE h2 x0 x1) fun uh B hB ⟨a1,a2,a3⟩=>?_
  exact h2.apart u0 u1 x0 x1 hne ub a1 uh a2 (by omega)
 obtain ⟨b1,b2⟩:=hbf x.task x0 x1
 rw [s3] at b1
 rw [s2] at b2
 by_cases dn : (tsk (cN (W i) x.task).1 x.task).busy=false
 ·rw [if_pos dn]
  rw [s3] at dn
  have dn : (xz (W i).m (tsk (W i) x.task).f x.task).done=true:=by
   cases ed : (xz (W i).m (tsk (W i) x.task).f x.task).done with
   | true=>rfl
   | false=>rw [ed] at dn;cases dn
  refine ⟨by rw [hW,← hq],hwi,by rw [hl];exact h3,fun u u0 u1 ub=>?_,fun p hp=>?_⟩
  ·rw [hl] at u1
   by_cases eu : u=x.task
   ·rw [eu,b1,dn] at ub;cases ub
   ·exact others u u0 u1 eu ub
  ·rcases List.mem_append.1 hp with hp | hp
   ·exact past' p hp
   ·have hpe : p=sO (cN (W i) x.task).1 x.task (s.began.getD x.task.toNat 0) i:=by simpa using hp
    refine ⟨fr,n + 1,by rw [hpe];exact a,by rw [hpe];show (i : Int)=_;omega,by omega,?_⟩
    have:=o2 dn p (by rw [hpe];show (tsk (cN (W i) x.task).1 x.task).f.c=_;rw [s2,hnc]) (by rw [hpe];show (tsk (cN (W i) x.task).1 x.task).f.e=_;rw [s2]) (by rw [hpe];show (tsk (cN (W i) x.task).1 x.task).f.slot=_;rw [s2]) (by rw [hpe];show (tsk (cN (W i) x.task).1 x.task).f.keys=_;rw [s2])
    subst b
    rw [← hm] at this
    exact this
 ·rw [if_neg dn]
  rw [s3] at dn
  have dn : (xz (W i).m (tsk (W i) x.task).f x.task).done=false:=by
   cases ed : (xz (W i).m (tsk (W i) x.task).f x.task).done with
   | false=>rfl
   | true=>rw [ed] at dn;exact absurd rfl dn
  refine ⟨by rw [hW,← hq],hwi,by rw [hl];exact h3,fun u u0 u1 ub=>?_,past'⟩
  rw [hl] at u1
  by_cases eu : u=x.task
  ·refine ⟨fr,n + 1,by rw [eu];exact a,by omega,up b ?_⟩
   rw [eu,b2,hm]
   exact o1 dn
  ·exact others u u0 u1 eu ub
theorem MQ {G : Mem→List Mem→Mem→Frm→Prop} {R : Mem→List Mem→Pst→Prop} (K : Law G R) {W : Nat→Wrd} : ∀ {l : List Pik} {i : Nat} {s : qE},HI G R W i s→(∀ j,j < l.length→W (i + j + 1)=Iq (W (i + j)) (l.getD j default))→HI G R W (i + l.length) (w6 l i s)
 | [],_,_,h,_=>h
 | x :: l,i,s,h,hW=>by
  have:=MQ K (l:=l) (Nl K h (hW 0 (by simp))) fun j hj=>by
   have:=hW (j + 1) (by simp;omega)
   rw [show i + 1 + j=i + (j + 1) by omega]
   exact this
  rw [show i + (x :: l).length=i + 1 + l.length by simp;omega]
  exact this
def wAt (v : Wrd) (l : List Pik) : Nat→Wrd
 | 0=>v
 | i + 1=>Iq (wAt v l i) (l.getD i default)
theorem Ji {v : Wrd} (h : Inv v) (hm : v.bm=v) (l : List Pik) : ∀ i,Inv (wAt v l i)∧(wAt v l i).bm=wAt v l i
 | 0=>⟨h,hm⟩
 | i + 1=>by
  obtain ⟨h1,h2⟩:=Ji h hm l i
  show Inv (Iq (wAt v l i) _)∧(Iq (wAt v l i) _).bm=Iq (wAt v l i) _
  unfold Iq
  split
  ·exact ⟨h1,h2⟩
  ·exact ⟨(xg h1 _).bm,by simp only [Wrd.bm,List.map_map];rfl⟩
theorem Nj {v : Wrd} (h : Inv v) (hm : v.bm=v) (x : Pik) : Hc v.G4 x=(Iq v x).G4:=by
 have hc:=h.G4.check.1
 have hd : doW v.G4 x=if (bN v x).2≠0 then (Wrd.none,(bN v x).2) else ((bN v x).1,0):=by
  unfold doW
  rw [if_neg (fun y=>y hc),iQ,hm]
 unfold Hc Iq
 rw [hd]
 by_cases e : (bN v x).2≠0
 ·rw [if_pos e,if_pos e,if_neg e]
 ·rw [if_neg e,if_neg e,if_pos rfl]
  simp only [Wrd.G4,Wrd.bm,List.map_map];rfl
theorem MO {v : Wrd} (h : Inv v) : Hj v.G4=0∧Hl v.G4=(aq v.m,v.m.now):=by
 obtain ⟨j1,j2⟩:=h.G4.check
 have he : Hj v.G4=0:=by rw [Ih,if_neg (fun y=>y j1)];exact j2
 exact ⟨he,Jt he⟩
theorem L3 {v : Wrd} (h : Inv v) (hm : v.bm=v) (l : List Pik) : ∀ (k : List Pik) (i : Nat) (acc : List Mom),(∀ j,j < k.length→k.getD j default=l.getD (i + j) default)→acc.length=i + 1→(∀ j,j < acc.length→acc.getD j default=(aq (wAt v l j).m,(wAt v l j).m.now)) →
  (Il k (wAt v l i).G4 acc).2=0∧∀ j,j≤i + k.length→(Il k (wAt v l i).G4 acc).1.getD j default=(aq (wAt v l j).m,(wAt v l j).m.now)
 | [],i,acc,_,ha,hg=>⟨rfl,fun j hj=>hg j (by simp at hj;omega)⟩
 | x :: k,i,acc,hk,ha,hg=>by
  obtain ⟨w1,w2⟩:=Ji h hm l i
  obtain ⟨w3,w4⟩:=Ji h hm l (i + 1)
  have hx : x=l.getD i default:=hk 0 (by simp)
  have hn : Hc (wAt v l i).G4 x=(wAt v l (i + 1)).G4:=by rw [Nj w1 w2,hx];rfl
  obtain ⟨m1,m2⟩:=MO w3
  have:=L3 h hm l k (i + 1) (acc ++ [Hl (wAt v l (i + 1)).G4]) (fun j hj=>by
   have:=hk (j + 1) (by simp;omega)
   rw [show i + 1 + j=i + (j + 1) by omega]
   exact this) (by simp [ha]) (fun j hj=>by
   rw [List.length_append,List.length_singleton] at hj
   by_cases e : j < acc.length
   ·rw [List.getD_eq_getElem?_getD,List.getElem?_append_left e,← List.getD_eq_getElem?_getD];exact hg j e
   ·have : j=acc.length:=by omega
    rw [List.getD_eq_getElem?_getD,List.getElem?_append_right (by omega),this,Nat.sub_self,m2,ha];rfl)
  show (if Hj (Hc (wAt v l i).G4 x)≠0 then ([],Hj (Hc (wAt v l i).G4 x)) else Il k (Hc (wAt v l i).G4 x) (acc ++ [Hl (Hc (wAt v l i).G4 x)])).2=0∧∀ j,j≤i + (x :: k).length→(if Hj (Hc (wAt v l i).G4 x)≠0 then ([],Hj (Hc (wAt v l i).G4 x)) else Il k (Hc (wAt v l i).G4 x) (acc ++ [Hl (Hc (wAt v l i).G4 x)])).1.getD j default=_
  rw [hn,if_neg (fun y=>y m1)]
  refine ⟨this.1,fun j hj=>this.2 j ?_⟩
  rw [List.length_cons] at hj
  omega
theorem JU {p : Pst} {M : List Mom} : ∀ {n a : Nat},(∃ j,j < n∧JD p M (a + j)=true)→∃ k,Iu p M a n=some k∧a≤k∧k < a + n
 | 0,_,⟨j,hj,_⟩=>by omega
 | n + 1,a,⟨j,hj,h⟩=>by
  unfold Iu
  by_cases e : JD p M a=true
  ·rw [if_pos e];exact ⟨a,rfl,by omega,by omega⟩
  ·rw [if_neg e]
   cases j with
   | zero=>exact absurd h e
   | succ j =>
    obtain ⟨k,k1,k2,k3⟩:=JU (p:=p) (M:=M) (n:=n) (a:=a + 1) ⟨j,by omega,by rw [show a + 1 + j=a + (j + 1) by omega];exact h⟩
    exact ⟨k,k1,by omega,by omega⟩
theorem wit_ok {v : Wrd} (h : Inv v) (hm : v.bm=v) {l : List Pik} (hl : l.length≤300) {p : Pst} {fr n : Nat} (hf : p.fr=fr) (ht : p.to=fr + n) (hn : fr + n < l.length) (hw : JY p (JL (wAt v l) fr (n + 1))) :
  ∃ k : Nat,Jh v.G4 l p=((k : Int),0)∧p.fr≤k∧(k : Int)≤p.to:=by
 obtain ⟨j,j1,j2⟩:=KM hw
 have hc:=h.G4.check.1
 have htk : (p.to + 1).toNat=fr + n + 1:=by omega
 have m0:=MO h
 have hM:=L3 h hm l (l.take (fr + n + 1)) 0 [Hl v.G4] (fun j hj=>by
  rw [List.length_take] at hj
  rw [List.getD_eq_getElem?_getD,List.getElem?_take_of_lt (by omega),Nat.zero_add,← List.getD_eq_getElem?_getD]) rfl (fun j hj=>by
  have : j=0:=by simp at hj;omega
  subst this
  exact m0.2)
 have hms : Hu v.G4 (l.take (fr + n + 1))=Il (l.take (fr + n + 1)) (wAt v l 0).G4 [Hl v.G4]:=by
  unfold Hu
  rw [if_neg (fun y=>y m0.1)];rfl
 unfold Jh MG
 rw [if_neg (fun y=>y hc),if_neg (by omega),if_neg (by omega),htk,hms]
 rw [if_neg (fun y=>y hM.1),show p.fr.toNat=fr by omega,show (p.to + 1 - p.fr).toNat=n + 1 by omega]
 have hlen : (l.take (fr + n + 1)).length=fr + n + 1:=by rw [List.length_take];omega
 obtain ⟨k,k1,k2,k3⟩:=JU (p:=p) (M:=(Il (l.take (fr + n + 1)) (wAt v l 0).G4 [Hl v.G4]).1) (a:=fr) (n:=n + 1) ⟨j,j1,by
  unfold JD
  rw [hM.2 _ (by omega),hM.2 _ (by omega)]
  exact j2⟩
 rw [k1]
 exact ⟨k,rfl,by omega,by omega⟩
theorem Li {a b n : Int} (h : (iw a b n).2=0) (u : Int) (hu : u < (iw a b n).1.ts.length) : (tsk (iw a b n).1 u).busy=false:=by
 unfold iw at h hu ⊢
 split at h
 ·rename_i h1;exact absurd h h1
 rename_i h1
 rw [if_neg h1] at hu ⊢
 split at h
 ·cases h
 rename_i h2
 rw [if_neg h2] at hu ⊢
 unfold tsk
 show ((List.replicate n.toNat idle).getD u.toNat default).busy=false
 rw [List.getD_eq_getElem?_getD,List.getElem?_replicate]
 split <;> rfl
theorem LW {G : Mem→List Mem→Mem→Frm→Prop} {R : Mem→List Mem→Pst→Prop} (K : Law G R) {N : Wrd} (hi : Inv N) (hid : ∀ u : Int,u < N.ts.length→(tsk N u).busy=false) {l : List Pik} (hl : l.length≤300) :
  (BK N.G4 l).2=0∧∀ p∈(BK N.G4 l).1.past,∃ fr n : Nat,p.fr=fr∧p.to=fr + n∧fr + n < l.length∧R (wAt N.bm l fr).m (JL (wAt N.bm l) fr (n + 1)) p:=by
 have hmm : N.bm.bm=N.bm:=by simp only [Wrd.bm,List.map_map];rfl
 have hc:=hi.G4.check.1
 unfold BK
 rw [if_neg (fun y=>y hc),if_neg (by omega)]
 refine ⟨rfl,?_⟩
 have h0 : HI G R (wAt N.bm l) 0 ⟨N.G4.bm,[],[],List.replicate N.G4.ts.length 0⟩:=by
  refine ⟨?_,hi.bm,?_,fun u u0 u1 ub=>?_,fun p hp=>by cases hp⟩
  ·show N.G4.bm.bm=N.bm
   rw [iQ];exact hmm
  ·show (List.replicate N.G4.ts.length (0 : Int)).length=N.bm.ts.length
   simp [Wrd.G4,Wrd.bm]
  ·have u1 : u < N.bm.ts.length:=u1
   rw [kb] at u1
   have ub : (tsk N.bm u).busy=true:=ub
   rw [Ia u0 u1] at ub
   have:=hid u u1
   have ub : (tsk N u).busy=true:=ub
   rw [this] at ub;cases ub
 have hr:=MQ K (l:=l) h0 fun j hj=>by
  rw [Nat.zero_add];rfl
 rw [Nat.zero_add] at hr
 exact hr.past
theorem MA : Law (fun _ s m f=>HZ s m f) (fun _ hs p=>JY p hs) where
 fa h _ u0 u1 ub _ _ hi _ _ hy hD hP:=LJ h u0 u1 ub hi hy hD hP
 own h _ x0 x1 hb _ _ hi:=⟨(Lf h x0 x1 hb hi).1,fun d p c e s _=>(Lf h x0 x1 hb hi).2 d p c e s⟩
 new hC hc:=MX hC fun k=>mH hc (.inl k)
theorem Nh {a b n : Int} (h : (iw a b n).2=0) {l : List Pik} (hl : l.length≤300) : (BK (iw a b n).1.G4 l).2=0∧∀ p∈(BK (iw a b n).1.G4 l).1.past,∃ k : Nat,Jh (iw a b n).1.G4 l p=((k : Int),0)∧p.fr≤k∧(k : Int)≤p.to:=by
 have hi:=ES h
 obtain ⟨h1,h2⟩:=LW MA hi (Li h) hl
 generalize (iw a b n).1=N at *
 have hmm : N.bm.bm=N.bm:=by simp only [Wrd.bm,List.map_map];rfl
 have hlt : N.bm.G4=N.G4:=by simp only [Wrd.G4,Wrd.bm,List.map_map];rfl
 refine ⟨h1,fun p hp=>?_⟩
 obtain ⟨fr,m,q1,q2,q3,q4⟩:=h2 p hp
 have:=wit_ok hi.bm hmm hl q1 q2 q3 q4
 rw [hlt] at this
 exact this
end Go.Proofs.Ytpmamacjepcdmaa
