import Derived.Test.YtpmamacjepcdmaaCEnds2
import Derived.Test.YtpmamacjepcdmaaCStory3
import Derived.Test.YtpmamacjepcdmaaCWorldLocks
namespace Go.Proofs.Ytpmamacjepcdmaa
open Go Go.Sy Go.RowKit
set_option linter.unusedSimpArgs false
set_option linter.unusedVariables false
theorem FZ {m y : Mem} (hC : aK m) (hy : aK y) (h : Kin m y) {b : Nat} (hb : b < m.heads.length) (hl : y.heads.length=m.heads.length) (e : chL y b=chL m b) {a : Int} (ha : a∈chL m b) : kys y a=kys m a:=by
 have a0:=(df hC ha).1
 have hin:=((hy.ch (show b < y.heads.length by omega)).ok a (by rw [e];exact ha)).inn
 cases h with
 | same _ _ hk=>exact l6 (hk a a0 hin).2
 | lnk c B _ _ _ _ _ _ _ _ hj hk _ =>
  by_cases ec : a=c
  ·subst ec;exact l6 hk
  ·unfold kys;rw [hj a a0 ec]
 | cutt c B l1 l3 _ _ _ _ hk _=>exact l6 (hk a).2
theorem E9 {v : Wrd} (h : Inv v) {u : Int} (u0 : 0≤u) (u1 : u < v.ts.length) (ub : (tsk v u).busy=true) {s : List Mem} (hi : q6 s v.m (tsk v u).f) {P : Nat→Prop} {y : Mem} (hy : aK y) (hD : cZ v.m P y)
  (hP : bq (tsk v u).f→∀ B : Nat,aa v.m (tsk v u).f.c=B→¬ P B) : q6 (v.m :: s) y (tsk v u).f:=by
 obtain ⟨hf,hF,hd⟩:=cL h u0 u1 ub
 obtain ⟨l1,l2,l3⟩:=hD.lens h.ch
 have hK:=hD.kin h.ch
 have hbk : (tsk v u).f.c.kind=3→∃ B : Nat,aa v.m (tsk v u).f.c=B∧B < v.m.heads.length:=fun k=>by
  have hbr:=aC h.ch.mem.lu hf.call (by omega)
  exact ⟨(aa v.m (tsk v u).f.c).toNat,by omega,by omega⟩
 refine hi.more hy l2 l3 hK (fun k p q=>?_) (fun k p q=>?_)
 ·obtain ⟨B,hB,hBl⟩:=hbk k
  have e:=hD.FO hBl (hP (.inr (.inl ⟨k,by omega,by omega⟩)) B hB)
  have e1 : chF v.m (tsk v u).f=chL v.m B:=by unfold chF;rw [hB];rfl
  have e2 : chF y (tsk v u).f=chL y B:=by unfold chF;rw [bw (m:=v.m) _ l2,hB];rfl
  rw [e1,e2]
  exact ⟨e,fun a ha=>FZ h.ch hy hK hBl l2 e ha⟩
 ·obtain ⟨B,hB,hBl⟩:=hbk k
  have e1 : chF v.m (tsk v u).f=chL v.m B:=by unfold chF;rw [hB];rfl
  obtain ⟨⟨q1,q2,s1,s2,_⟩,_⟩:=hF.drop2 k (by omega) (by omega)
  rw [e1] at s1 ⊢
  rw [hB] at s2
  obtain ⟨a,l3',c1,c2,c3,c4,c5⟩:=fm h.ch hBl s1 (by rw [← s2];omega)
  rw [show (tsk v u).f.cur - 1=a by omega]
  exact c3
theorem Fh {v : Wrd} (h : Inv v) {x : Int} (hx0 : 0≤x) (hx : x < v.ts.length) (hb : (tsk v x).busy=true) : (gT v.m (tsk v x).f x).c=(tsk v x).f.c:=by
 obtain ⟨_,_,hd⟩:=cL h hx0 hx hb
 unfold gT
 by_cases k1 : (tsk v x).f.c.kind=1
 ·rw [if_pos k1];exact nV
 rw [if_neg k1]
 by_cases k2 : (tsk v x).f.c.kind=2
 ·rw [if_pos k2];exact (qZ x k2 hd).1
 rw [if_neg k2]
 by_cases k3 : (tsk v x).f.c.kind=3
 ·rw [if_pos k3];exact (kY x k3 hd).1
 rw [if_neg k3]
 by_cases k4 : (tsk v x).f.c.kind=4∨(tsk v x).f.c.kind=5
 ·rw [if_pos k4];exact (nb x k4 hd).1
 rw [if_neg k4];rfl
theorem Fe {v : Wrd} (h : Inv v) {x : Int} (hx0 : 0≤x) (hx : x < v.ts.length) : aK (cG v x).1.m:=by
 have:=(lP h ⟨x,true,false,⟨0,⟨0,0⟩,0,0,0⟩⟩).ch
 unfold b7 at this
 rw [if_neg (by simp),if_neg (by show ¬ (x < 0∨(v.ts.length : Int)≤x);omega),if_pos rfl] at this
 exact this
theorem ES {v : Wrd} (h : Inv v) {x : Int} (hx0 : 0≤x) (hx : x < v.ts.length) (hb : (tsk v x).busy=true) {s : List Mem} (hi : q6 s v.m (tsk v x).f) : Own s v.m (tsk v x).f (gT v.m (tsk v x).f x,(cG v x).1.m):=by
 have hy:=Fe h hx0 hx
 have hc:=Fh h hx0 hx hb
 have hD:=pz h hx0 hx
 obtain ⟨l1,l2,l3⟩:=hD.lens h.ch
 obtain ⟨m1,m2,m3,_⟩:=vU hb
 by_cases k1 : (tsk v x).f.c.kind=1
 ·rw [m1 k1] at hy ⊢
  unfold gT;rw [if_pos k1]
  exact FK h hx0 hx hb k1 hi hy
 by_cases k2 : (tsk v x).f.c.kind=2
 ·rw [m2 k2] at hy ⊢
  unfold gT;rw [if_neg k1,if_pos k2]
  exact F1 h hx0 hx hb k2 hi hy
 by_cases k3 : (tsk v x).f.c.kind=3
 ·rw [m3 k3] at hy ⊢
  unfold gT;rw [if_neg k1,if_neg k2,if_pos k3]
  exact FN h hx0 hx hb k3 hi hy
 exact ⟨fun _=>ED hi hy l2 l3 (by rw [hc];exact k1) (fun k=>absurd (by rw [← hc];exact k) k2) (fun k=>absurd (by rw [← hc];exact k) k3),fun _ p c _ _=>⟨[],_,v.m,s,rfl,FQ (by rw [c];exact ⟨k1,k2,k3⟩) _ _⟩⟩
def EE (W : Nat→Wrd) (fr : Nat) : Nat→List Mem
 | 0=>[(W fr).m]
 | n + 1=>(W (fr + n + 1)).m :: EE W fr n
theorem EL {W : Nat→Wrd} {fr : Nat} {Q : Mem→Mem→Prop} : ∀ {n : Nat},(∃ p1 b a s,EE W fr n=p1 ++ b :: a :: s∧Q a b)→∃ j,j < n∧Q (W (fr + j)).m (W (fr + j + 1)).m
 | 0,⟨p1,b,a,s,e,_⟩=>by
  have:=congrArg List.length e
  simp [EE] at this
  omega
 | n + 1,⟨[],b,a,s,e,hq⟩=>by
  obtain ⟨e1,e2⟩:=List.cons.inj e
  refine ⟨n,by omega,?_⟩
  rw [e1]
  have : (W (fr + n)).m=a:=by
   cases n with
   | zero=>exact (List.cons.inj e2).1
   | succ n=>exact (List.cons.inj e2).1
  rw [this];exact hq
 | n + 1,⟨c :: p1,b,a,s,e,hq⟩=>by
  obtain ⟨j,h1,h2⟩:=EL (n:=n) ⟨p1,b,a,s,(List.cons.inj e).2,hq⟩
  exact ⟨j,by omega,h2⟩
def Ee (v : Wrd) (x : Pik) : Wrd:=if (b7 v x).2≠0 then v else (b7 v x).1.aS
structure Law (G : Mem→List Mem→Mem→Frm→Prop) (R : Mem→List Mem→Pst→Prop) : Prop where
 gD : ∀ {v : Wrd},Inv v→∀ {u : Int},0≤u→u < v.ts.length→(tsk v u).busy=true→∀ {o : Mem} {s : List Mem},G o s v.m (tsk v u).f→∀ {P : Nat→Prop} {y : Mem},aK y→cZ v.m P y→(bq (tsk v u).f→∀ B : Nat,aa v.m (tsk v u).f.c=B→¬ P B)→G o (v.m :: s) y (tsk v u).f
 own : ∀ {v : Wrd},Inv v→∀ {x : Int},0≤x→x < v.ts.length→(tsk v x).busy=true→∀ {o : Mem} {s : List Mem},G o s v.m (tsk v x).f →
  ((gT v.m (tsk v x).f x).done=false→G o (v.m :: s) (cG v x).1.m (gT v.m (tsk v x).f x))∧((gT v.m (tsk v x).f x).done=true→∀ p : Pst,p.c=(tsk v x).f.c→p.e=(gT v.m (tsk v x).f x).e→p.slot=(gT v.m (tsk v x).f x).slot→p.keys=(gT v.m (tsk v x).f x).keys→R o ((cG v x).1.m :: v.m :: s) p)
 new : ∀ {m : Mem} {c : Cal},aK m→aV m c=0→G m [m] m (ck c)
structure HI (G : Mem→List Mem→Mem→Frm→Prop) (R : Mem→List Mem→Pst→Prop) (W : Nat→Wrd) (i : Nat) (s : pv) : Prop where
 w : s.w.aS=W i
 inv : Inv (W i)
 len : s.began.length=(W i).ts.length
 busy : ∀ u : Int,0≤u→u < (W i).ts.length→(tsk (W i) u).busy=true→∃ fr n : Nat,s.began.getD u.toNat 0=fr∧fr + n + 1=i∧G (W fr).m (EE W fr n) (W i).m (tsk (W i) u).f
 past : ∀ p∈s.past,∃ fr n : Nat,p.fr=fr∧p.to=fr + n∧fr + n < i∧R (W fr).m (EE W fr (n + 1)) p
theorem getD_set_ne {l : List Int} {i j : Nat} {a : Int} (h : i≠j) : (l.set i a).getD j 0=l.getD j 0:=by
 rw [List.getD_eq_getElem?_getD,List.getD_eq_getElem?_getD,List.getElem?_set_ne h]
theorem EW {l : List Int} {i : Nat} {a : Int} (h : i < l.length) : (l.set i a).getD i 0=a:=by
 rw [List.getD_eq_getElem?_getD,List.getElem?_set_self h];rfl
theorem F0 {G : Mem→List Mem→Mem→Frm→Prop} {R : Mem→List Mem→Pst→Prop} (K : Law G R) {W : Nat→Wrd} {i : Nat} {s : pv} {x : Pik} (h : HI G R W i s) (hW : W (i + 1)=Ee (W i) x) : HI G R W (i + 1) (fT i x s):=by
 obtain ⟨h1,h2,h3,h4,h5⟩:=h
 have past' : ∀ p∈s.past,∃ fr n : Nat,p.fr=fr∧p.to=fr + n∧fr + n < i + 1∧R (W fr).m (EE W fr (n + 1)) p:=fun p hp=>by
  obtain ⟨fr,n,a,b,c,d⟩:=h5 p hp
  exact ⟨fr,n,a,b,by omega,d⟩
 have up : ∀ {f : Frm} {fr n : Nat},fr + n + 1=i→G (W fr).m ((W i).m :: EE W fr n) (W (i + 1)).m f→G (W fr).m (EE W fr (n + 1)) (W (i + 1)).m f:=by
  rintro f fr n rfl g;exact g
 have hp:=lP h2 x
 unfold fT
 rw [h1]
 unfold Ee at hW
 by_cases e : (b7 (W i) x).2≠0
 ·rw [if_pos e] at hW ⊢
  refine ⟨by rw [hW];exact h1,by rw [hW];exact h2,by rw [hW];exact h3,fun u u0 u1 ub=>?_,past'⟩
  rw [hW] at u1 ub
  obtain ⟨fr,n,a,b,c⟩:=h4 u u0 u1 ub
  refine ⟨fr,n + 1,a,by omega,up b ?_⟩
  rw [hW]
  exact K.gD h2 u0 u1 ub c h2.ch (cZ.same (P:=fun _=>False)) fun _ _ _=>id
 rw [if_neg e] at hW ⊢
 have hm : (W (i + 1)).m=(b7 (W i) x).1.m:=by rw [hW];rfl
 have hl : (W (i + 1)).ts.length=(W i).ts.length:=by rw [hW,jP,sf]
 have hbf : ∀ u : Int,0≤u→u < (W i).ts.length→(tsk (W (i + 1)) u).busy=(tsk (b7 (W i) x).1 u).busy∧(tsk (W (i + 1)) u).f=(tsk (b7 (W i) x).1 u).f:=fun u u0 u1=>by
  rw [hW,oC u0 (by rw [sf];exact u1)];exact ⟨rfl,rfl⟩
 have e0 : (b7 (W i) x).2=0:=Classical.not_not.1 e
 have hwi : Inv (W (i + 1)):=by rw [hW];exact hp.aS
 by_cases t : x.tick=true
 ·rw [if_pos t]
  have hq : (b7 (W i) x).1=⟨{ (W i).m with now:=(W i).m.now + 1},(W i).ts⟩:=by
   unfold b7 at e0 ⊢
   rw [if_pos t] at e0 ⊢
   split at e0
   ·cases e0
   ·rename_i z;rw [if_neg z]
  refine ⟨hW.symm,hwi,by rw [hl];exact h3,fun u u0 u1 ub=>?_,past'⟩
  rw [hl] at u1
  obtain ⟨b1,b2⟩:=hbf u u0 u1
  rw [b1,hq] at ub
  obtain ⟨fr,n,a,b,c⟩:=h4 u u0 u1 ub
  refine ⟨fr,n + 1,a,by omega,up b ?_⟩
  have hch:=hp.ch
  rw [b2,hm]
  rw [hq] at hch ⊢
  exact K.gD h2 u0 u1 ub c hch (cZ.tick (P:=fun _=>False)) fun _ _ _=>id
 rw [if_neg t]
 obtain ⟨x0,x1⟩:=AH e0 (by simpa using t)
 by_cases st : x.step=false
 ·rw [if_pos st]
  have hq : aV (W i).m x.c=0∧(b7 (W i) x).1=⟨(W i).m,(W i).ts.modify x.task.toNat fun t=>{ t with busy:=true,f:=ck x.c}⟩:=by
   unfold b7 at e0 ⊢
   rw [if_neg t,if_neg (by omega),if_neg (by rw [st];simp)] at e0 ⊢
   unfold gp at e0 ⊢
   split at e0
   ·cases e0
   rename_i q1
   split at e0
   ·rename_i q;exact absurd e0 q
   rename_i q2
   split at e0
   ·cases e0
   rename_i q3
   split at e0
   ·cases e0
   rename_i q4
   rw [if_neg q1,if_neg q2,if_neg q3,if_neg q4]
   exact ⟨Classical.not_not.1 q2,rfl⟩
  obtain ⟨q2,hq⟩:=hq
  have hmm : (W (i + 1)).m=(W i).m:=by rw [hm,hq]
  refine ⟨hW.symm,hwi,by rw [hl];simpa using h3,fun u u0 u1 ub=>?_,past'⟩
  rw [hl] at u1
  obtain ⟨b1,b2⟩:=hbf u u0 u1
  rw [hq,eI x0 x1 u0] at b1 b2
  by_cases eu : u=x.task
  ·rw [if_pos eu] at b1 b2
   refine ⟨i,0,?_,by omega,?_⟩
   ·show (s.began.set x.task.toNat i).getD u.toNat 0=i
    rw [eu,EW (by omega)]
   ·rw [b2,hmm]
    exact K.new h2.ch q2
  ·rw [if_neg eu] at b1 b2
   rw [b1] at ub
   obtain ⟨fr,n,a,b,c⟩:=h4 u u0 u1 ub
   refine ⟨fr,n + 1,?_,by omega,up b ?_⟩
   ·show (s.began.set x.task.toNat i).getD u.toNat 0=fr
    rw [getD_set_ne (by omega)];exact a
   ·rw [b2,hmm]
    exact K.gD h2 u0 u1 ub c h2.ch (cZ.same (P:=fun _=>False)) fun _ _ _=>id
 rw [if_neg st]
 have hq : b7 (W i) x=cG (W i) x.task:=by
  unfold b7
  rw [if_neg t,if_neg (by omega),if_pos (by simpa using st)]
 rw [hq] at e0 hm hbf ⊢
 have xb : (tsk (W i) x.task).busy=true:=by
  cases eb : (tsk (W i) x.task).busy with
  | true=>rfl
  | false =>
   unfold cG at e0
   rw [if_pos eb] at e0
   cases e0
 obtain ⟨s1,s2,s3,s4,s5⟩:=rX x0 x1 xb
 obtain ⟨fr,n,a,b,c⟩:=h4 x.task x0 x1 xb
 obtain ⟨o1,o2⟩:=K.own h2 x0 x1 xb c
 have hnc:=Fh h2 x0 x1 xb
 have others : ∀ u : Int,0≤u→u < (W i).ts.length→u≠x.task→(tsk (W (i + 1)) u).busy=true→∃ fr n : Nat,s.began.getD u.toNat 0=fr∧fr + n + 1=i + 1∧G (W fr).m (EE W fr n) (W (i + 1)).m (tsk (W (i + 1)) u).f:=fun u u0 u1 hne ub=>by
  obtain ⟨b1,b2⟩:=hbf u u0 u1
  rw [s1 u u0 hne] at b1 b2
  rw [b1] at ub
  obtain ⟨fr,n,a,b,c⟩:=h4 u u0 u1 ub
  refine ⟨fr,n + 1,a,by omega,up b ?_⟩
  rw [b2,hm]
  refine K.gD h2 u0 u1 ub c (Fe h2 x0 x1) (pz h2 x0 x1) fun uh B hB ⟨a1,a2,a3⟩=>?_
  exact h2.apart u0 u1 x0 x1 hne ub a1 uh a2 (by omega)
 obtain ⟨b1,b2⟩:=hbf x.task x0 x1
 rw [s3] at b1
 rw [s2] at b2
 by_cases dn : (tsk (cG (W i) x.task).1 x.task).busy=false
 ·rw [if_pos dn]
  rw [s3] at dn
  have dn : (gT (W i).m (tsk (W i) x.task).f x.task).done=true:=by
   cases ed : (gT (W i).m (tsk (W i) x.task).f x.task).done with
   | true=>rfl
   | false=>rw [ed] at dn;cases dn
  refine ⟨by rw [hW,← hq],hwi,by rw [hl];exact h3,fun u u0 u1 ub=>?_,fun p hp=>?_⟩
  ·rw [hl] at u1
   by_cases eu : u=x.task
   ·rw [eu,b1,dn] at ub;cases ub
   ·exact others u u0 u1 eu ub
  ·rcases List.mem_append.1 hp with hp | hp
   ·exact past' p hp
   ·have hpe : p=si (cG (W i) x.task).1 x.task (s.began.getD x.task.toNat 0) i:=by simpa using hp
    refine ⟨fr,n + 1,by rw [hpe];exact a,by rw [hpe];show (i : Int)=_;omega,by omega,?_⟩
    have:=o2 dn p (by rw [hpe];show (tsk (cG (W i) x.task).1 x.task).f.c=_;rw [s2,hnc]) (by rw [hpe];show (tsk (cG (W i) x.task).1 x.task).f.e=_;rw [s2]) (by rw [hpe];show (tsk (cG (W i) x.task).1 x.task).f.slot=_;rw [s2]) (by rw [hpe];show (tsk (cG (W i) x.task).1 x.task).f.keys=_;rw [s2])
    subst b
    rw [← hm] at this
    exact this
 ·rw [if_neg dn]
  rw [s3] at dn
  have dn : (gT (W i).m (tsk (W i) x.task).f x.task).done=false:=by
   cases ed : (gT (W i).m (tsk (W i) x.task).f x.task).done with
   | false=>rfl
   | true=>rw [ed] at dn;exact absurd rfl dn
  refine ⟨by rw [hW,← hq],hwi,by rw [hl];exact h3,fun u u0 u1 ub=>?_,past'⟩
  rw [hl] at u1
  by_cases eu : u=x.task
  ·refine ⟨fr,n + 1,by rw [eu];exact a,by omega,up b ?_⟩
   rw [eu,b2,hm]
   exact o1 dn
  ·exact others u u0 u1 eu ub
theorem FL {G : Mem→List Mem→Mem→Frm→Prop} {R : Mem→List Mem→Pst→Prop} (K : Law G R) {W : Nat→Wrd} : ∀ {l : List Pik} {i : Nat} {s : pv},HI G R W i s→(∀ j,j < l.length→W (i + j + 1)=Ee (W (i + j)) (l.getD j default))→HI G R W (i + l.length) (rh l i s)
 | [],_,_,h,_=>h
 | x :: l,i,s,h,hW=>by
  have:=FL K (l:=l) (F0 K h (hW 0 (by simp))) fun j hj=>by
   have:=hW (j + 1) (by simp;omega)
   rw [show i + 1 + j=i + (j + 1) by omega]
   exact this
  rw [show i + (x :: l).length=i + 1 + l.length by simp;omega]
  exact this
def wAt (v : Wrd) (l : List Pik) : Nat→Wrd
 | 0=>v
 | i + 1=>Ee (wAt v l i) (l.getD i default)
theorem EN {v : Wrd} (h : Inv v) (hm : v.aS=v) (l : List Pik) : ∀ i,Inv (wAt v l i)∧(wAt v l i).aS=wAt v l i
 | 0=>⟨h,hm⟩
 | i + 1=>by
  obtain ⟨h1,h2⟩:=EN h hm l i
  show Inv (Ee (wAt v l i) _)∧(Ee (wAt v l i) _).aS=Ee (wAt v l i) _
  unfold Ee
  split
  ·exact ⟨h1,h2⟩
  ·exact ⟨(lP h1 _).aS,by simp only [Wrd.aS,List.map_map];rfl⟩
theorem FY {v : Wrd} (h : Inv v) (hm : v.aS=v) (x : Pik) : aT v.bH x=(Ee v x).bH:=by
 have hc:=h.bH.check.1
 have hd : doW v.bH x=if (b7 v x).2≠0 then (Wrd.none,(b7 v x).2) else ((b7 v x).1,0):=by
  unfold doW
  rw [if_neg (fun y=>y hc),di,hm]
 unfold aT Ee
 rw [hd]
 by_cases e : (b7 v x).2≠0
 ·rw [if_pos e,if_pos e,if_neg e]
 ·rw [if_neg e,if_neg e,if_pos rfl]
  simp only [Wrd.bH,Wrd.aS,List.map_map];rfl
theorem FH {v : Wrd} (h : Inv v) : jk v.bH=0∧l5 v.bH=(bl v.m,v.m.now):=by
 obtain ⟨j1,j2⟩:=h.bH.check
 have he : jk v.bH=0:=by rw [EY,if_neg (fun y=>y j1)];exact j2
 exact ⟨he,FJ he⟩
theorem Fi {v : Wrd} (h : Inv v) (hm : v.aS=v) (l : List Pik) : ∀ (k : List Pik) (i : Nat) (acc : List Mom),(∀ j,j < k.length→k.getD j default=l.getD (i + j) default)→acc.length=i + 1→(∀ j,j < acc.length→acc.getD j default=(bl (wAt v l j).m,(wAt v l j).m.now)) →
  (Eg k (wAt v l i).bH acc).2=0∧∀ j,j≤i + k.length→(Eg k (wAt v l i).bH acc).1.getD j default=(bl (wAt v l j).m,(wAt v l j).m.now)
 | [],i,acc,_,ha,hg=>⟨rfl,fun j hj=>hg j (by simp at hj;omega)⟩
 | x :: k,i,acc,hk,ha,hg=>by
  obtain ⟨w1,w2⟩:=EN h hm l i
  obtain ⟨w3,w4⟩:=EN h hm l (i + 1)
  have hx : x=l.getD i default:=hk 0 (by simp)
  have hn : aT (wAt v l i).bH x=(wAt v l (i + 1)).bH:=by rw [FY w1 w2,hx];rfl
  obtain ⟨m1,m2⟩:=FH w3
  have:=Fi h hm l k (i + 1) (acc ++ [l5 (wAt v l (i + 1)).bH]) (fun j hj=>by
   have:=hk (j + 1) (by simp;omega)
   rw [show i + 1 + j=i + (j + 1) by omega]
   exact this) (by simp [ha]) (fun j hj=>by
   rw [List.length_append,List.length_singleton] at hj
   by_cases e : j < acc.length
   ·rw [List.getD_eq_getElem?_getD,List.getElem?_append_left e,← List.getD_eq_getElem?_getD];exact hg j e
   ·have : j=acc.length:=by omega
    rw [List.getD_eq_getElem?_getD,List.getElem?_append_right (by omega),this,Nat.sub_self,m2,ha];rfl)
  show (if jk (aT (wAt v l i).bH x)≠0 then ([],jk (aT (wAt v l i).bH x)) else Eg k (aT (wAt v l i).bH x) (acc ++ [l5 (aT (wAt v l i).bH x)])).2=0∧∀ j,j≤i + (x :: k).length→(if jk (aT (wAt v l i).bH x)≠0 then ([],jk (aT (wAt v l i).bH x)) else Eg k (aT (wAt v l i).bH x) (acc ++ [l5 (aT (wAt v l i).bH x)])).1.getD j default=_
  rw [hn,if_neg (fun y=>y m1)]
  refine ⟨this.1,fun j hj=>this.2 j ?_⟩
  rw [List.length_cons] at hj
  omega
theorem Er {p : Pst} {M : List Mom} : ∀ {n a : Nat},(∃ j,j < n∧FA p M (a + j)=true)→∃ k,zm p M a n=some k∧a≤k∧k < a + n
 | 0,_,⟨j,hj,_⟩=>by omega
 | n + 1,a,⟨j,hj,h⟩=>by
  unfold zm
  by_cases e : FA p M a=true
  ·rw [if_pos e];exact ⟨a,rfl,by omega,by omega⟩
  ·rw [if_neg e]
   cases j with
   | zero=>exact absurd h e
   | succ j =>
    obtain ⟨k,k1,k2,k3⟩:=Er (p:=p) (M:=M) (n:=n) (a:=a + 1) ⟨j,by omega,by rw [show a + 1 + j=a + (j + 1) by omega];exact h⟩
    exact ⟨k,k1,by omega,by omega⟩
theorem wit_ok {v : Wrd} (h : Inv v) (hm : v.aS=v) {l : List Pik} (hl : l.length≤300) {p : Pst} {fr n : Nat} (hf : p.fr=fr) (ht : p.to=fr + n) (hn : fr + n < l.length) (hw : Et p (EE (wAt v l) fr (n + 1))) :
  ∃ k : Nat,Ew v.bH l p=((k : Int),0)∧p.fr≤k∧(k : Int)≤p.to:=by
 obtain ⟨j,j1,j2⟩:=EL hw
 have hc:=h.bH.check.1
 have htk : (p.to + 1).toNat=fr + n + 1:=by omega
 have m0:=FH h
 have hM:=Fi h hm l (l.take (fr + n + 1)) 0 [l5 v.bH] (fun j hj=>by
  rw [List.length_take] at hj
  rw [List.getD_eq_getElem?_getD,List.getElem?_take_of_lt (by omega),Nat.zero_add,← List.getD_eq_getElem?_getD]) rfl (fun j hj=>by
  have : j=0:=by simp at hj;omega
  subst this
  exact m0.2)
 have hms : eF v.bH (l.take (fr + n + 1))=Eg (l.take (fr + n + 1)) (wAt v l 0).bH [l5 v.bH]:=by
  unfold eF
  rw [if_neg (fun y=>y m0.1)];rfl
 unfold Ew witS
 rw [if_neg (fun y=>y hc),if_neg (by omega),if_neg (by omega),htk,hms]
 rw [if_neg (fun y=>y hM.1),show p.fr.toNat=fr by omega,show (p.to + 1 - p.fr).toNat=n + 1 by omega]
 have hlen : (l.take (fr + n + 1)).length=fr + n + 1:=by rw [List.length_take];omega
 obtain ⟨k,k1,k2,k3⟩:=Er (p:=p) (M:=(Eg (l.take (fr + n + 1)) (wAt v l 0).bH [l5 v.bH]).1) (a:=fr) (n:=n + 1) ⟨j,j1,by
  unfold FA
  rw [hM.2 _ (by omega),hM.2 _ (by omega)]
  exact j2⟩
 rw [k1]
 exact ⟨k,rfl,by omega,by omega⟩
theorem FG {a b n : Int} (h : (oU a b n).2=0) (u : Int) (hu : u < (oU a b n).1.ts.length) : (tsk (oU a b n).1 u).busy=false:=by
 unfold oU at h hu ⊢
 split at h
 ·rename_i h1;exact absurd h h1
 rename_i h1
 rw [if_neg h1] at hu ⊢
 split at h
 ·cases h
 rename_i h2
 rw [if_neg h2] at hu ⊢
 unfold tsk
 show ((List.replicate n.toNat idle).getD u.toNat default).busy=false
 rw [List.getD_eq_getElem?_getD,List.getElem?_replicate]
 split <;> rfl
theorem FX {G : Mem→List Mem→Mem→Frm→Prop} {R : Mem→List Mem→Pst→Prop} (K : Law G R) {N : Wrd} (hi : Inv N) (hid : ∀ u : Int,u < N.ts.length→(tsk N u).busy=false) {l : List Pik} (hl : l.length≤300) :
  (r9 N.bH l).2=0∧∀ p∈(r9 N.bH l).1.past,∃ fr n : Nat,p.fr=fr∧p.to=fr + n∧fr + n < l.length∧R (wAt N.aS l fr).m (EE (wAt N.aS l) fr (n + 1)) p:=by
 have hmm : N.aS.aS=N.aS:=by simp only [Wrd.aS,List.map_map];rfl
 have hc:=hi.bH.check.1
 unfold r9
 rw [if_neg (fun y=>y hc),if_neg (by omega)]
 refine ⟨rfl,?_⟩
 have h0 : HI G R (wAt N.aS l) 0 ⟨N.bH.aS,[],[],List.replicate N.bH.ts.length 0⟩:=by
  refine ⟨?_,hi.aS,?_,fun u u0 u1 ub=>?_,fun p hp=>by cases hp⟩
  ·show N.bH.aS.aS=N.aS
   rw [di];exact hmm
  ·show (List.replicate N.bH.ts.length (0 : Int)).length=N.aS.ts.length
   simp [Wrd.bH,Wrd.aS]
  ·have u1 : u < N.aS.ts.length:=u1
   rw [jP] at u1
   have ub : (tsk N.aS u).busy=true:=ub
   rw [oC u0 u1] at ub
   have:=hid u u1
   have ub : (tsk N u).busy=true:=ub
   rw [this] at ub;cases ub
 have hr:=FL K (l:=l) h0 fun j hj=>by
  rw [Nat.zero_add];rfl
 rw [Nat.zero_add] at hr
 exact hr.past
theorem Fz : Law (fun _ s m f=>q6 s m f) (fun _ hs p=>Et p hs) where
 gD h _ u0 u1 ub _ _ hi _ _ hy hD hP:=E9 h u0 u1 ub hi hy hD hP
 own h _ x0 x1 hb _ _ hi:=⟨(ES h x0 x1 hb hi).1,fun d p c e s _=>(ES h x0 x1 hb hi).2 d p c e s⟩
 new hC hc:=FP hC fun k=>w6 hc (.inl k)
theorem FW {a b n : Int} (h : (oU a b n).2=0) {l : List Pik} (hl : l.length≤300) : (r9 (oU a b n).1.bH l).2=0∧∀ p∈(r9 (oU a b n).1.bH l).1.past,∃ k : Nat,Ew (oU a b n).1.bH l p=((k : Int),0)∧p.fr≤k∧(k : Int)≤p.to:=by
 have hi:=DI h
 obtain ⟨h1,h2⟩:=FX Fz hi (FG h) hl
 generalize (oU a b n).1=N at *
 have hmm : N.aS.aS=N.aS:=by simp only [Wrd.aS,List.map_map];rfl
 have hlt : N.aS.bH=N.bH:=by simp only [Wrd.bH,Wrd.aS,List.map_map];rfl
 refine ⟨h1,fun p hp=>?_⟩
 obtain ⟨fr,m,q1,q2,q3,q4⟩:=h2 p hp
 have:=wit_ok hi.aS hmm hl q1 q2 q3 q4
 rw [hlt] at this
 exact this
end Go.Proofs.Ytpmamacjepcdmaa

namespace Go.Proofs.Ytpmamacjepcdmaa
open Go Go.Sy Go.RowKit
set_option linter.unusedSimpArgs false
set_option linter.unusedVariables false
theorem Ei : ∀ (l : List Pik) (i : Nat) (s : pv),(rh l i s).past.length≤s.past.length + l.length
 | [],_,s=>by show s.past.length≤_;simp
 | x :: l,i,s=>by
  have:=Ei l (i + 1) (fT i x s)
  have h1 : (fT i x s).past.length≤s.past.length + 1:=by
   unfold fT
   repeat' split
   all_goals simp
  show (rh l (i + 1) (fT i x s)).past.length≤_
  simp only [List.length_cons]
  omega
theorem Fs (w : Wrd) (l : List Pik) (h : l.length≤300) : (r9 w l).1.past.length≤300:=by
 unfold r9
 split
 ·simp
 ·rw [if_neg (by omega)]
  have:=Ei l 0 ⟨w.aS,[],[],List.replicate w.ts.length 0⟩
  simp only [List.length_nil] at this
  show (rh l 0 _).past.length≤300
  omega
def s12 : Sig:=⟨[.one (.int .i64),.one (.int .i64),.one (.int .i64),.one (.fz kQ)],[.one (.bool)]⟩
def d12 : DC:=⟨s12,fun _=>True,fun _=>[.b true]⟩
def l12 : List (Nat × Ct):=[(78,d78.ct),(79,d79.ct),(80,d80.ct),(81,d81.ct)]
def z12 : Cx:={ T:=ttA,C:=sigs l12,F:=[],hints:=[⟨12,9,false,[(54,.lt)],[],[],[],0⟩],sig:=s12}
def t12 : Tree :=
 (.call 78 [.var 0,.var 1,.var 2] 4
 (.call 79 [] 11
 (.ite (.not (.var 11))
 (.call 79 [] 12
 (.ret [.var 12]))
 (.ite (.not (.eq (.var 10) (.int 0)))
 (.call 79 [] 12
 (.ret [.var 12]))
 (.need (.le (.int 0) (.min (.len (.var 3)) (.int 300)))
 (.need (.le (.min (.len (.var 3)) (.int 300)) (.len (.var 3)))
 (.need (.clean (.var 9) 15)
 (.call 80 [.var 4,.var 5,.var 6,.var 7,.var 8,.shuts (.var 9) 15,.take (.min (.len (.var 3)) (.int 300)) (.var 3)] 12
 (.ite (.not (.eq (.var 20) (.int 0)))
 (.ret [.bool false])
 (.need (.fit (.sub (.len (.var 19)) (.int 12)))
 (.need (.le (.int 0) (.max (.int 0) (.sub (.len (.var 19)) (.int 12))))
 (.need (.le (.max (.int 0) (.sub (.len (.var 19)) (.int 12))) (.len (.var 19)))
 (.loop 21 [.int .i64] [.int 0]
 (.ite (.lt (.var 22) (.len (.drop (.max (.int 0) (.sub (.len (.var 19)) (.int 12))) (.var 19))))
 (.need (.le (.int 0) (.var 22))
 (.call 81 [.var 4,.var 5,.var 6,.var 7,.var 8,.shuts (.var 9) 15,.take (.min (.len (.var 3)) (.int 300)) (.var 3),.cell (.drop (.max (.int 0) (.sub (.len (.var 19)) (.int 12))) (.var 19)) (.var 22) 0,.cell (.drop (.max (.int 0) (.sub (.len (.var 19)) (.int 12))) (.var 19)) (.var 22) 1,.cell (.drop (.max (.int 0) (.sub (.len (.var 19)) (.int 12))) (.var 19)) (.var 22) 2,.cell (.drop (.max (.int 0) (.sub (.len (.var 19)) (.int 12))) (.var 19)) (.var 22) 3,.cell (.drop (.max (.int 0) (.sub (.len (.var 19)) (.int 12))) (.var 19)) (.var 22) 4,.cell (.drop (.max (.int 0) (.sub (.len (.var 19)) (.int 12))) (.var 19)) (.var 22) 5,.cell (.drop (.max (.int 0) (.sub (.len (.var 19)) (.int 12))) (.var 19)) (.var 22) 6,.cell (.drop (.max (.int 0) (.sub (.len (.var 19)) (.int 12))) (.var 19)) (.var 22) 7,.cell (.drop (.max (.int 0) (.sub (.len (.var 19)) (.int 12))) (.var 19)) (.var 22) 8,.cell (.drop (.max (.int 0) (.sub (.len (.var 19)) (.int 12))) (.var 19)) (.var 22) 9,.cell (.drop (.max (.int 0) (.sub (.len (.var 19)) (.int 12))) (.var 19)) (.var 22) 10,.cell (.drop (.max (.int 0) (.sub (.len (.var 19)) (.int 12))) (.var 19)) (.var 22) 11,.cell (.drop (.max (.int 0) (.sub (.len (.var 19)) (.int 12))) (.var 19)) (.var 22) 12] 23
 (.ite (.not (.eq (.var 24) (.int 0)))
 (.ret [.bool false])
 (.ite (.lt (.var 23) (.cell (.drop (.max (.int 0) (.sub (.len (.var 19)) (.int 12))) (.var 19)) (.var 22) 7))
 (.ret [.bool false])
 (.ite (.lt (.cell (.drop (.max (.int 0) (.sub (.len (.var 19)) (.int 12))) (.var 19)) (.var 22) 8) (.var 23))
 (.ret [.bool false])
 (.need (.fit (.add (.var 22) (.int 1)))
 (.back 21 [.add (.var 22) (.int 1)])))))))
 (.ret [.bool true])))))))))))))))
theorem run12 : run z12 6000 [.code (Try.f12.body.getD .skip),.fin (br z12 Try.f12.results.toList 50)] { fn:=12,tmps:=z12.sig.aL ++ List.replicate (Try.f12.ntmps - z12.sig.aL.length) (.v (.one .undef)),stk:=[],h:=z12.sig.h0,nx:=z12.sig.ins.length,known:=[]}=t12:=by kernel_rfl
set_option maxHeartbeats 4000000 in
theorem ok12 : cA Try.prog 12 d12.ct:=by
 refine aB (d:=d12) (Z:=z12) (Γ:=gam l12) (fn:=Try.f12) (c:=Try.f12.body.getD .skip) (bc tok mixed (all_cons ok78 (all_cons ok79 (all_cons ok80 (all_cons ok81 all_nil)))) bd) Try.func12 (by kernel_rfl) (by kernel_rfl) rfl run12 fun E hk hp=>?_
 obtain ⟨hk0,hk1,hk2,hk3,_⟩:=hk
 obtain ⟨x,e0⟩:=ok_int (d:=E 0) hk0
 obtain ⟨x2,e1⟩:=ok_int (d:=E 1) hk1
 obtain ⟨x3,e2⟩:=ok_int (d:=E 2) hk2
 obtain ⟨l,e3,b3⟩:=Ej (d:=E 3) hk3
 have b3 : l.length * 64≤140737488355328:=b3
 have el : aH E d12.sig.ins.length=[.i x,.i x2,.i x3,dw l]:=by
  show [E 0,E 1,E 2,E 3]=_
  rw [e0,e1,e2,e3]
 rw [el] at hp
 rw [el]
 rw [Env.bE el]
 clear el e0 e1 e2 e3
 unfold t12
 obtain ⟨N,hN⟩ : ∃ N,oU x x2 x3=N:=⟨_,rfl⟩
 refine ai d78 [aq N.1.m.slots,ae N.1.m.heads,ae N.1.m.free,ae N.1.m.af,.i N.1.m.now,ax N.1.ts,.i N.2] rfl trivial (by simp only [nrm,xdn,reduceIte,Nat.reduceLT,Nat.reduceSub,Nat.reduceAdd,d78,hN];rfl) (ai d79 [.b true] rfl trivial rfl (aF (fun hn=>?_) (fun _=>aF (fun _=>ai d79 [.b true] rfl trivial rfl (aj (by simp only [nrm,xdn,reduceIte,Nat.reduceLT,Nat.reduceSub,Nat.reduceAdd];rfl))) (fun h0=>?_))))
 ·skip
  simp only [nrm,xdn,reduceIte,Nat.reduceLT,Nat.reduceSub,Nat.reduceAdd] at hn
  simp at hn
 simp only [nrm,xdn,reduceIte,Nat.reduceLT,Nat.reduceSub,Nat.reduceAdd] at h0
 have h0 : N.2=0:=by simpa using h0
 obtain ⟨mn,hmn⟩ : ∃ mn : Nat,(if (300 : Int) < (l.length : Int) then (300 : Int) else (l.length : Int))=mn∧mn=min l.length 300:=⟨min l.length 300,by split <;> omega,rfl⟩
 obtain ⟨K,hK⟩ : ∃ K,l.take mn=K:=⟨_,rfl⟩
 have hkl : K.length≤300:=by rw [← hK,List.length_take];omega
 obtain ⟨r,hr⟩ : ∃ r,r9 N.1.bH K=r:=⟨_,rfl⟩
 obtain ⟨r0,r1⟩ : r.2=0∧∀ p∈r.1.past,∃ k : Nat,Ew N.1.bH K p=((k : Int),0)∧p.fr≤k∧(k : Int)≤p.to:=by
  rw [← hr,← hN] at *
  exact FW h0 hkl
 have htk : CD.l ((dw l).rows.take mn)=dw K:=by rw [← hK];simp only [dw,CD.ay,List.map_take]
 refine ag (by simp only [nrm,xdn,reduceIte,Nat.reduceLT,Nat.reduceSub,Nat.reduceAdd,gC];omega) (ag (by simp only [nrm,xdn,reduceIte,Nat.reduceLT,Nat.reduceSub,Nat.reduceAdd,gC];omega) (ag (by simp only [nrm,xdn,reduceIte,Nat.reduceLT,Nat.reduceSub,Nat.reduceAdd];exact aI _) ?_))
 refine ai d80 (r.1.w.gi ++ [ae r.1.said,fw r.1.past,.i r.2]) rfl trivial ?_ ?_
 ·simp only [nrm,xdn,reduceIte,Nat.reduceLT,Nat.reduceSub,Nat.reduceAdd,bW,gC,hmn.1,Int.toNat_natCast]
  rw [htk]
  simp only [d80,dm,List.getD_cons_zero,List.getD_cons_succ,kv]
  rw [← hr]
 refine aF (fun hn=>?_) (fun _=>?_)
 ·simp only [nrm,xdn,reduceIte,Nat.reduceLT,Nat.reduceSub,Nat.reduceAdd,Wrd.gi,Mem.cds,lca,r0] at hn
  simp at hn
 obtain ⟨P,hP⟩ : ∃ P,r.1.past=P:=⟨_,rfl⟩
 have hPl : P.length≤300:=by rw [← hP,← hr];exact Fs _ _ hkl
 rw [hP] at r1 ⊢
 obtain ⟨lo,hlo,hlo2⟩ : ∃ lo : Nat,(if (0 : Int) < (P.length : Int) - 12 then (P.length : Int) - 12 else 0)=lo∧lo≤P.length:=⟨P.length - 12,by split <;> omega,by omega⟩
 obtain ⟨D,hD⟩ : ∃ D,P.drop lo=D:=⟨_,rfl⟩
 have hDd : CD.l ((fw P).rows.drop lo)=fw D:=by rw [← hD];simp only [fw,CD.ay,List.map_drop]
 have hDin : ∀ p∈D,p∈P:=fun p hp=>by rw [← hD] at hp;exact List.mem_of_mem_drop hp
 have hDl : D.length≤300:=by rw [← hD,List.length_drop];omega
 refine a9 (by simp only [nrm,xdn,reduceIte,Nat.reduceLT,Nat.reduceSub,Nat.reduceAdd,Wrd.gi,Mem.cds,lca,pQ];omega) (ag (by simp only [nrm,xdn,reduceIte,Nat.reduceLT,Nat.reduceSub,Nat.reduceAdd,Wrd.gi,Mem.cds,lca,pQ,hlo];omega) (ag (by simp only [nrm,xdn,reduceIte,Nat.reduceLT,Nat.reduceSub,Nat.reduceAdd,Wrd.gi,Mem.cds,lca,pQ,hlo];omega) ?_))
 refine bY (fun ds=>∃ k : Nat,ds=[.i k]∧k≤D.length) (fun ds=>D.length - (ds.getD 0 .u).int.toNat) ⟨0,rfl,by omega⟩ ?_
 rintro ds - ⟨k,rfl,hk⟩
 refine aF (fun h=>?_) (fun h=>aj (by simp only [nrm,xdn,reduceIte,Nat.reduceLT,Nat.reduceSub,Nat.reduceAdd];rfl))
 simp only [nrm,xdn,reduceIte,Nat.reduceLT,Nat.reduceSub,Nat.reduceAdd,Wrd.gi,Mem.cds,lca,pQ,hlo,Int.toNat_natCast,hDd] at h
 obtain ⟨p,hp⟩ : ∃ p,D.getD k default=p:=⟨_,rfl⟩
 have hpin : p∈P:=hDin p (by rw [← hp];rw [List.getD_eq_getElem?_getD,List.getElem?_eq_getElem (by omega)];exact List.getElem_mem _)
 obtain ⟨j,j1,j2,j3⟩:=r1 p hpin
 have c : ∀ o,((fw D).rows.getD k []).getD o .u=p.row.getD o .u:=fun o=>by rw [← hp];exact fk Pst.row D k o (by omega)
 have c0 : ((fw D).rows.getD k []).getD 0 .u=.i p.task:=c 0
 have c1 : ((fw D).rows.getD k []).getD 1 .u=.i p.c.kind:=c 1
 have c2 : ((fw D).rows.getD k []).getD 2 .u=.i p.c.k.a:=c 2
 have c3 : ((fw D).rows.getD k []).getD 3 .u=.i p.c.k.b:=c 3
 have c4 : ((fw D).rows.getD k []).getD 4 .u=.i p.c.time:=c 4
 have c5 : ((fw D).rows.getD k []).getD 5 .u=.i p.c.bucket:=c 5
 have c6 : ((fw D).rows.getD k []).getD 6 .u=.i p.c.slot:=c 6
 have c7 : ((fw D).rows.getD k []).getD 7 .u=.i p.fr:=c 7
 have c8 : ((fw D).rows.getD k []).getD 8 .u=.i p.to:=c 8
 have c9 : ((fw D).rows.getD k []).getD 9 .u=.i p.e:=c 9
 have c10 : ((fw D).rows.getD k []).getD 10 .u=.i p.slot:=c 10
 have c11 : ((fw D).rows.getD k []).getD 11 .u=.i p.n:=c 11
 have c12 : ((fw D).rows.getD k []).getD 12 .u=bK p.keys:=c 12
 refine ag (by simp only [nrm,xdn,reduceIte,Nat.reduceLT,Nat.reduceSub,Nat.reduceAdd];omega) (ai d81 [.i j,.i 0] rfl trivial ?_ (aF (fun hn=>?_) (fun _=>aF (fun hn=>?_) (fun _=>aF (fun hn=>?_) (fun _=>a9 (by simp only [nrm,xdn,reduceIte,Nat.reduceLT,Nat.reduceSub,Nat.reduceAdd];omega) (bU ⟨⟨k + 1,?_,by omega⟩,?_⟩))))))
 ·simp only [nrm,xdn,reduceIte,Nat.reduceLT,Nat.reduceSub,Nat.reduceAdd,bW,Wrd.gi,Mem.cds,lca,gC,pQ,hmn.1,hlo,Int.toNat_natCast,hDd,htk,c0,c1,c2,c3,c4,c5,c6,c7,c8,c9,c10,c11,c12]
  simp only [d81,dm,List.getD_cons_zero,List.getD_cons_succ,kv,List.drop_succ_cons,List.drop_zero,Eu]
  rw [show (⟨N.1.m,N.1.ts⟩ : Wrd).bH=N.1.bH from rfl,j1]
 ·simp only [nrm,xdn,reduceIte,Nat.reduceLT,Nat.reduceSub,Nat.reduceAdd] at hn
  simp at hn
 ·simp only [nrm,xdn,reduceIte,Nat.reduceLT,Nat.reduceSub,Nat.reduceAdd,Wrd.gi,Mem.cds,lca,pQ,hlo,Int.toNat_natCast,hDd,c7] at hn
  omega
 ·simp only [nrm,xdn,reduceIte,Nat.reduceLT,Nat.reduceSub,Nat.reduceAdd,Wrd.gi,Mem.cds,lca,pQ,hlo,Int.toNat_natCast,hDd,c8] at hn
  omega
 ·simp only [nrm,xdn,reduceIte,Nat.reduceLT,Nat.reduceSub,Nat.reduceAdd];rfl
 ·simp only [nrm,xdn,reduceIte,Nat.reduceLT,Nat.reduceSub,Nat.reduceAdd];omega
end Go.Proofs.Ytpmamacjepcdmaa
