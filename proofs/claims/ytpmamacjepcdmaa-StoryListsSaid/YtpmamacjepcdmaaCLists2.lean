import Derived.Test.YtpmamacjepcdmaaCEnds2
import Derived.Test.YtpmamacjepcdmaaCStory3
namespace Go.Proofs.Ytpmamacjepcdmaa
open Go Go.Sy Go.RowKit
set_option linter.unusedSimpArgs false
set_option linter.unusedVariables false
theorem Fh {v : Wrd} (h : Inv v) {x : Int} (hx0 : 0≤x) (hx : x < v.ts.length) (hb : (tsk v x).busy=true) : (gT v.m (tsk v x).f x).c=(tsk v x).f.c:=by
 obtain ⟨_,_,hd⟩:=cL h hx0 hx hb
 unfold gT
 by_cases k1 : (tsk v x).f.c.kind=1
 ·rw [if_pos k1];exact nV
 rw [if_neg k1]
 by_cases k2 : (tsk v x).f.c.kind=2
 ·rw [if_pos k2];exact (qZ x k2 hd).1
 rw [if_neg k2]
 by_cases k3 : (tsk v x).f.c.kind=3
 ·rw [if_pos k3];exact (kY x k3 hd).1
 rw [if_neg k3]
 by_cases k4 : (tsk v x).f.c.kind=4∨(tsk v x).f.c.kind=5
 ·rw [if_pos k4];exact (nb x k4 hd).1
 rw [if_neg k4];rfl
theorem Fe {v : Wrd} (h : Inv v) {x : Int} (hx0 : 0≤x) (hx : x < v.ts.length) : aK (cG v x).1.m:=by
 have:=(lP h ⟨x,true,false,⟨0,⟨0,0⟩,0,0,0⟩⟩).ch
 unfold b7 at this
 rw [if_neg (by simp),if_neg (by show ¬ (x < 0∨(v.ts.length : Int)≤x);omega),if_pos rfl] at this
 exact this
def EE (W : Nat→Wrd) (fr : Nat) : Nat→List Mem
 | 0=>[(W fr).m]
 | n + 1=>(W (fr + n + 1)).m :: EE W fr n
def Ee (v : Wrd) (x : Pik) : Wrd:=if (b7 v x).2≠0 then v else (b7 v x).1.aS
structure Law (G : Mem→List Mem→Mem→Frm→Prop) (R : Mem→List Mem→Pst→Prop) : Prop where
 gD : ∀ {v : Wrd},Inv v→∀ {u : Int},0≤u→u < v.ts.length→(tsk v u).busy=true→∀ {o : Mem} {s : List Mem},G o s v.m (tsk v u).f→∀ {P : Nat→Prop} {y : Mem},aK y→cZ v.m P y→(bq (tsk v u).f→∀ B : Nat,aa v.m (tsk v u).f.c=B→¬ P B)→G o (v.m :: s) y (tsk v u).f
 own : ∀ {v : Wrd},Inv v→∀ {x : Int},0≤x→x < v.ts.length→(tsk v x).busy=true→∀ {o : Mem} {s : List Mem},G o s v.m (tsk v x).f →
  ((gT v.m (tsk v x).f x).done=false→G o (v.m :: s) (cG v x).1.m (gT v.m (tsk v x).f x))∧((gT v.m (tsk v x).f x).done=true→∀ p : Pst,p.c=(tsk v x).f.c→p.e=(gT v.m (tsk v x).f x).e→p.slot=(gT v.m (tsk v x).f x).slot→p.keys=(gT v.m (tsk v x).f x).keys→R o ((cG v x).1.m :: v.m :: s) p)
 new : ∀ {m : Mem} {c : Cal},aK m→aV m c=0→G m [m] m (ck c)
structure HI (G : Mem→List Mem→Mem→Frm→Prop) (R : Mem→List Mem→Pst→Prop) (W : Nat→Wrd) (i : Nat) (s : pv) : Prop where
 w : s.w.aS=W i
 inv : Inv (W i)
 len : s.began.length=(W i).ts.length
 busy : ∀ u : Int,0≤u→u < (W i).ts.length→(tsk (W i) u).busy=true→∃ fr n : Nat,s.began.getD u.toNat 0=fr∧fr + n + 1=i∧G (W fr).m (EE W fr n) (W i).m (tsk (W i) u).f
 past : ∀ p∈s.past,∃ fr n : Nat,p.fr=fr∧p.to=fr + n∧fr + n < i∧R (W fr).m (EE W fr (n + 1)) p
theorem getD_set_ne {l : List Int} {i j : Nat} {a : Int} (h : i≠j) : (l.set i a).getD j 0=l.getD j 0:=by
 rw [List.getD_eq_getElem?_getD,List.getD_eq_getElem?_getD,List.getElem?_set_ne h]
theorem EW {l : List Int} {i : Nat} {a : Int} (h : i < l.length) : (l.set i a).getD i 0=a:=by
 rw [List.getD_eq_getElem?_getD,List.getElem?_set_self h];rfl
theorem F0 {G : Mem→List Mem→Mem→Frm→Prop} {R : Mem→List Mem→Pst→Prop} (K : Law G R) {W : Nat→Wrd} {i : Nat} {s : pv} {x : Pik} (h : HI G R W i s) (hW : W (i + 1)=Ee (W i) x) : HI G R W (i + 1) (fT i x s):=by
 obtain ⟨h1,h2,h3,h4,h5⟩:=h
 have past' : ∀ p∈s.past,∃ fr n : Nat,p.fr=fr∧p.to=fr + n∧fr + n < i + 1∧R (W fr).m (EE W fr (n + 1)) p:=fun p hp=>by
  obtain ⟨fr,n,a,b,c,d⟩:=h5 p hp
  exact ⟨fr,n,a,b,by omega,d⟩
 have up : ∀ {f : Frm} {fr n : Nat},fr + n + 1=i→G (W fr).m ((W i).m :: EE W fr n) (W (i + 1)).m f→G (W fr).m (EE W fr (n + 1)) (W (i + 1)).m f:=by
  rintro f fr n rfl g;exact g
 have hp:=lP h2 x
 unfold fT
 rw [h1]
 unfold Ee at hW
 by_cases e : (b7 (W i) x).2≠0
 ·rw [if_pos e] at hW ⊢
  refine ⟨by rw [hW];exact h1,by rw [hW];exact h2,by rw [hW];exact h3,fun u u0 u1 ub=>?_,past'⟩
  rw [hW] at u1 ub
  obtain ⟨fr,n,a,b,c⟩:=h4 u u0 u1 ub
  refine ⟨fr,n + 1,a,by omega,up b ?_⟩
  rw [hW]
  exact K.gD h2 u0 u1 ub c h2.ch (cZ.same (P:=fun _=>False)) fun _ _ _=>id
 rw [if_neg e] at hW ⊢
 have hm : (W (i + 1)).m=(b7 (W i) x).1.m:=by rw [hW];rfl
 have hl : (W (i + 1)).ts.length=(W i).ts.length:=by rw [hW,jP,sf]
 have hbf : ∀ u : Int,0≤u→u < (W i).ts.length→(tsk (W (i + 1)) u).busy=(tsk (b7 (W i) x).1 u).busy∧(tsk (W (i + 1)) u).f=(tsk (b7 (W i) x).1 u).f:=fun u u0 u1=>by
  rw [hW,oC u0 (by rw [sf];exact u1)];exact ⟨rfl,rfl⟩
 have e0 : (b7 (W i) x).2=0:=Classical.not_not.1 e
 have hwi : Inv (W (i + 1)):=by rw [hW];exact hp.aS
 by_cases t : x.tick=true
 ·rw [if_pos t]
  have hq : (b7 (W i) x).1=⟨{ (W i).m with now:=(W i).m.now + 1},(W i).ts⟩:=by
   unfold b7 at e0 ⊢
   rw [if_pos t] at e0 ⊢
   split at e0
   ·cases e0
   ·rename_i z;rw [if_neg z]
  refine ⟨hW.symm,hwi,by rw [hl];exact h3,fun u u0 u1 ub=>?_,past'⟩
  rw [hl] at u1
  obtain ⟨b1,b2⟩:=hbf u u0 u1
  rw [b1,hq] at ub
  obtain ⟨fr,n,a,b,c⟩:=h4 u u0 u1 ub
  refine ⟨fr,n + 1,a,by omega,up b ?_⟩
  have hch:=hp.ch
  rw [b2,hm]
  rw [hq] at hch ⊢
  exact K.gD h2 u0 u1 ub c hch (cZ.tick (P:=fun _=>False)) fun _ _ _=>id
 rw [if_neg t]
 obtain ⟨x0,x1⟩:=AH e0 (by simpa using t)
 by_cases st : x.step=false
 ·rw [if_pos st]
  have hq : aV (W i).m x.c=0∧(b7 (W i) x).1=⟨(W i).m,(W i).ts.modify x.task.toNat fun t=>{ t with busy:=true,f:=ck x.c}⟩:=by
   unfold b7 at e0 ⊢
   rw [if_neg t,if_neg (by omega),if_neg (by rw [st];simp)] at e0 ⊢
   unfold gp at e0 ⊢
   split at e0
   ·cases e0
   rename_i q1
   split at e0
   ·rename_i q;exact absurd e0 q
   rename_i q2
   split at e0
   ·cases e0
   rename_i q3
   split at e0
   ·cases e0
   rename_i q4
   rw [if_neg q1,if_neg q2,if_neg q3,if_neg q4]
   exact ⟨Classical.not_not.1 q2,rfl⟩
  obtain ⟨q2,hq⟩:=hq
  have hmm : (W (i + 1)).m=(W i).m:=by rw [hm,hq]
  refine ⟨hW.symm,hwi,by rw [hl];simpa using h3,fun u u0 u1 ub=>?_,past'⟩
  rw [hl] at u1
  obtain ⟨b1,b2⟩:=hbf u u0 u1
  rw [hq,eI x0 x1 u0] at b1 b2
  by_cases eu : u=x.task
  ·rw [if_pos eu] at b1 b2
   refine ⟨i,0,?_,by omega,?_⟩
   ·show (s.began.set x.task.toNat i).getD u.toNat 0=i
    rw [eu,EW (by omega)]
   ·rw [b2,hmm]
    exact K.new h2.ch q2
  ·rw [if_neg eu] at b1 b2
   rw [b1] at ub
   obtain ⟨fr,n,a,b,c⟩:=h4 u u0 u1 ub
   refine ⟨fr,n + 1,?_,by omega,up b ?_⟩
   ·show (s.began.set x.task.toNat i).getD u.toNat 0=fr
    rw [getD_set_ne (by omega)];exact a
   ·rw [b2,hmm]
    exact K.gD h2 u0 u1 ub c h2.ch (cZ.same (P:=fun _=>False)) fun _ _ _=>id
 rw [if_neg st]
 have hq : b7 (W i) x=cG (W i) x.task:=by
  unfold b7
  rw [if_neg t,if_neg (by omega),if_pos (by simpa using st)]
 rw [hq] at e0 hm hbf ⊢
 have xb : (tsk (W i) x.task).busy=true:=by
  cases eb : (tsk (W i) x.task).busy with
  | true=>rfl
  | false =>
   unfold cG at e0
   rw [if_pos eb] at e0
   cases e0
 obtain ⟨s1,s2,s3,s4,s5⟩:=rX x0 x1 xb
 obtain ⟨fr,n,a,b,c⟩:=h4 x.task x0 x1 xb
 obtain ⟨o1,o2⟩:=K.own h2 x0 x1 xb c
 have hnc:=Fh h2 x0 x1 xb
 have others : ∀ u : Int,0≤u→u < (W i).ts.length→u≠x.task→(tsk (W (i + 1)) u).busy=true→∃ fr n : Nat,s.began.getD u.toNat 0=fr∧fr + n + 1=i + 1∧G (W fr).m (EE W fr n) (W (i + 1)).m (tsk (W (i + 1)) u).f:=fun u u0 u1 hne ub=>by
  obtain ⟨b1,b2⟩:=hbf u u0 u1
  rw [s1 u u0 hne] at b1 b2
  rw [b1] at ub
  obtain ⟨fr,n,a,b,c⟩:=h4 u u0 u1 ub
  refine ⟨fr,n + 1,a,by omega,up b ?_⟩
  rw [b2,hm]
  refine K.gD h2 u0 u1 ub c (Fe h2 x0 x1) (pz h2 x0 x1) fun uh B hB ⟨a1,a2,a3⟩=>?_
  exact h2.apart u0 u1 x0 x1 hne ub a1 uh a2 (by omega)
 obtain ⟨b1,b2⟩:=hbf x.task x0 x1
 rw [s3] at b1
 rw [s2] at b2
 by_cases dn : (tsk (cG (W i) x.task).1 x.task).busy=false
 ·rw [if_pos dn]
  rw [s3] at dn
  have dn : (gT (W i).m (tsk (W i) x.task).f x.task).done=true:=by
   cases ed : (gT (W i).m (tsk (W i) x.task).f x.task).done with
   | true=>rfl
   | false=>rw [ed] at dn;cases dn
  refine ⟨by rw [hW,← hq],hwi,by rw [hl];exact h3,fun u u0 u1 ub=>?_,fun p hp=>?_⟩
  ·rw [hl] at u1
   by_cases eu : u=x.task
   ·rw [eu,b1,dn] at ub;cases ub
   ·exact others u u0 u1 eu ub
  ·rcases List.mem_append.1 hp with hp | hp
   ·exact past' p hp
   ·have hpe : p=si (cG (W i) x.task).1 x.task (s.began.getD x.task.toNat 0) i:=by simpa using hp
    refine ⟨fr,n + 1,by rw [hpe];exact a,by rw [hpe];show (i : Int)=_;omega,by omega,?_⟩
    have:=o2 dn p (by rw [hpe];show (tsk (cG (W i) x.task).1 x.task).f.c=_;rw [s2,hnc]) (by rw [hpe];show (tsk (cG (W i) x.task).1 x.task).f.e=_;rw [s2]) (by rw [hpe];show (tsk (cG (W i) x.task).1 x.task).f.slot=_;rw [s2]) (by rw [hpe];show (tsk (cG (W i) x.task).1 x.task).f.keys=_;rw [s2])
    subst b
    rw [← hm] at this
    exact this
 ·rw [if_neg dn]
  rw [s3] at dn
  have dn : (gT (W i).m (tsk (W i) x.task).f x.task).done=false:=by
   cases ed : (gT (W i).m (tsk (W i) x.task).f x.task).done with
   | false=>rfl
   | true=>rw [ed] at dn;exact absurd rfl dn
  refine ⟨by rw [hW,← hq],hwi,by rw [hl];exact h3,fun u u0 u1 ub=>?_,past'⟩
  rw [hl] at u1
  by_cases eu : u=x.task
  ·refine ⟨fr,n + 1,by rw [eu];exact a,by omega,up b ?_⟩
   rw [eu,b2,hm]
   exact o1 dn
  ·exact others u u0 u1 eu ub
theorem FL {G : Mem→List Mem→Mem→Frm→Prop} {R : Mem→List Mem→Pst→Prop} (K : Law G R) {W : Nat→Wrd} : ∀ {l : List Pik} {i : Nat} {s : pv},HI G R W i s→(∀ j,j < l.length→W (i + j + 1)=Ee (W (i + j)) (l.getD j default))→HI G R W (i + l.length) (rh l i s)
 | [],_,_,h,_=>h
 | x :: l,i,s,h,hW=>by
  have:=FL K (l:=l) (F0 K h (hW 0 (by simp))) fun j hj=>by
   have:=hW (j + 1) (by simp;omega)
   rw [show i + 1 + j=i + (j + 1) by omega]
   exact this
  rw [show i + (x :: l).length=i + 1 + l.length by simp;omega]
  exact this
def wAt (v : Wrd) (l : List Pik) : Nat→Wrd
 | 0=>v
 | i + 1=>Ee (wAt v l i) (l.getD i default)
theorem EN {v : Wrd} (h : Inv v) (hm : v.aS=v) (l : List Pik) : ∀ i,Inv (wAt v l i)∧(wAt v l i).aS=wAt v l i
 | 0=>⟨h,hm⟩
 | i + 1=>by
  obtain ⟨h1,h2⟩:=EN h hm l i
  show Inv (Ee (wAt v l i) _)∧(Ee (wAt v l i) _).aS=Ee (wAt v l i) _
  unfold Ee
  split
  ·exact ⟨h1,h2⟩
  ·exact ⟨(lP h1 _).aS,by simp only [Wrd.aS,List.map_map];rfl⟩
theorem FG {a b n : Int} (h : (oU a b n).2=0) (u : Int) (hu : u < (oU a b n).1.ts.length) : (tsk (oU a b n).1 u).busy=false:=by
 unfold oU at h hu ⊢
 split at h
 ·rename_i h1;exact absurd h h1
 rename_i h1
 rw [if_neg h1] at hu ⊢
 split at h
 ·cases h
 rename_i h2
 rw [if_neg h2] at hu ⊢
 unfold tsk
 show ((List.replicate n.toNat idle).getD u.toNat default).busy=false
 rw [List.getD_eq_getElem?_getD,List.getElem?_replicate]
 split <;> rfl
theorem FX {G : Mem→List Mem→Mem→Frm→Prop} {R : Mem→List Mem→Pst→Prop} (K : Law G R) {N : Wrd} (hi : Inv N) (hid : ∀ u : Int,u < N.ts.length→(tsk N u).busy=false) {l : List Pik} (hl : l.length≤300) :
  (r9 N.bH l).2=0∧∀ p∈(r9 N.bH l).1.past,∃ fr n : Nat,p.fr=fr∧p.to=fr + n∧fr + n < l.length∧R (wAt N.aS l fr).m (EE (wAt N.aS l) fr (n + 1)) p:=by
 have hmm : N.aS.aS=N.aS:=by simp only [Wrd.aS,List.map_map];rfl
 have hc:=hi.bH.check.1
 unfold r9
 rw [if_neg (fun y=>y hc),if_neg (by omega)]
 refine ⟨rfl,?_⟩
 have h0 : HI G R (wAt N.aS l) 0 ⟨N.bH.aS,[],[],List.replicate N.bH.ts.length 0⟩:=by
  refine ⟨?_,hi.aS,?_,fun u u0 u1 ub=>?_,fun p hp=>by cases hp⟩
  ·show N.bH.aS.aS=N.aS
   rw [di];exact hmm
  ·show (List.replicate N.bH.ts.length (0 : Int)).length=N.aS.ts.length
   simp [Wrd.bH,Wrd.aS]
  ·have u1 : u < N.aS.ts.length:=u1
   rw [jP] at u1
   have ub : (tsk N.aS u).busy=true:=ub
   rw [oC u0 u1] at ub
   have:=hid u u1
   have ub : (tsk N u).busy=true:=ub
   rw [this] at ub;cases ub
 have hr:=FL K (l:=l) h0 fun j hj=>by
  rw [Nat.zero_add];rfl
 rw [Nat.zero_add] at hr
 exact hr.past
end Go.Proofs.Ytpmamacjepcdmaa

namespace Go.Proofs.Ytpmamacjepcdmaa
open Go Go.Sy Go.RowKit
set_option linter.unusedSimpArgs false
set_option linter.unusedVariables false
theorem Gf {m y : Mem} (hC : aK m) (hy : aK y) (h : Kin m y) {b : Nat} (hb : b < m.heads.length) (hl : y.heads.length=m.heads.length) (e : chL y b=chL m b) {a : Int} (ha : a∈chL m b) : bP y a=bP m a:=by
 have a0:=(df hC ha).1
 have hin:=((hy.ch (show b < y.heads.length by omega)).ok a (by rw [e];exact ha)).inn
 cases h with
 | same _ _ hk=>exact (hk a a0 hin).2
 | lnk c B _ _ _ _ _ _ _ _ hj hk _ =>
  by_cases ec : a=c
  ·subst ec;exact hk
  ·unfold bP;rw [hj a a0 ec]
 | cutt c B l1 l3 _ _ _ _ hk _=>exact (hk a).2
def c9 (o m : Mem) (f : Frm) (l : List Int) : Prop:=(f.c.kind=5→f.keys=l.map (kys m))∧(f.c.kind=4→∀ a∈l,o.now < (bP m a).till)
structure w3 (o m : Mem) (f : Frm) : Prop where
 now : o.now≤m.now
 p1 : f.pc < 2→f.keys=[]
 p2 : f.pc=2∨f.pc=5→∃ l1 l2,chF m f=l1 ++ l2∧f.cur=fL (aa m f.c) l2∧f.prev=jz l1∧c9 o m f l1
 p3 : f.pc=3→∃ l1 a l2,chF m f=l1 ++ a :: l2∧f.cur=a + 1∧c9 o m f (l1 ++ [a])
 p4 : f.pc=4→∃ l1 a l2,chF m f=l1 ++ a :: l2∧f.cur=a + 1∧f.prev=jz l1∧c9 o m f l1
 p6 : f.pc=6→c9 o m f (chF m f)
 no : f.c.kind=5→f.pc≠4∧f.pc≠5
theorem c9.Gb {o m y : Mem} {f : Frm} {l : List Int} (h : c9 o m f l) (e : ∀ a∈l,bP y a=bP m a) : c9 o y f l :=
 ⟨fun k=>by rw [h.1 k];exact List.map_congr_left fun a ha=>(l6 (e a ha)).symm,fun k a ha=>by rw [e a ha];exact h.2 k a ha⟩
theorem w3.Gb {o m y : Mem} {f : Frm} (h : w3 o m f) (hh : y.heads.length=m.heads.length) (hn : m.now≤y.now) (hc : 2≤f.pc→chF y f=chF m f∧∀ a∈chF m f,bP y a=bP m a) : w3 o y f:=by
 obtain ⟨h0,h1,h2,h3,h4,h6,h7⟩:=h
 have hb : aa y f.c=aa m f.c:=bw f.c hh
 refine ⟨by omega,h1,fun p=>?_,fun p=>?_,fun p=>?_,fun p=>?_,h7⟩
 ·obtain ⟨c1,c2⟩:=hc (by omega)
  obtain ⟨l1,l2,e1,e2,e3,e4⟩:=h2 p
  exact ⟨l1,l2,by rw [c1];exact e1,by rw [hb];exact e2,e3,e4.Gb fun a ha=>c2 a (by rw [e1];exact List.mem_append_left _ ha)⟩
 ·obtain ⟨c1,c2⟩:=hc (by omega)
  obtain ⟨l1,a,l2,e1,e2,e4⟩:=h3 p
  exact ⟨l1,a,l2,by rw [c1];exact e1,e2,e4.Gb fun d hd=>c2 d (by
   rw [e1]
   rcases List.mem_append.1 hd with g | g
   ·exact List.mem_append_left _ g
   ·have : d=a:=by simpa using g
    subst this;simp)⟩
 ·obtain ⟨c1,c2⟩:=hc (by omega)
  obtain ⟨l1,a,l2,e1,e2,e3,e4⟩:=h4 p
  exact ⟨l1,a,l2,by rw [c1];exact e1,e2,e3,e4.Gb fun a ha=>c2 a (by rw [e1];exact List.mem_append_left _ ha)⟩
 ·obtain ⟨c1,c2⟩:=hc (by omega)
  rw [c1]
  exact (h6 p).Gb c2
theorem Gs {v : Wrd} (h : Inv v) {u : Int} (u0 : 0≤u) (u1 : u < v.ts.length) (ub : (tsk v u).busy=true) (hk : (tsk v u).f.c.kind=4∨(tsk v u).f.c.kind=5) {o : Mem} (hi : w3 o v.m (tsk v u).f) {P : Nat→Prop} {y : Mem} (hy : aK y) (hD : cZ v.m P y)
  (hP : bq (tsk v u).f→∀ B : Nat,aa v.m (tsk v u).f.c=B→¬ P B) : w3 o y (tsk v u).f:=by
 obtain ⟨hf,hF,hd⟩:=cL h u0 u1 ub
 obtain ⟨l1,l2,l3⟩:=hD.lens h.ch
 have hK:=hD.kin h.ch
 have hbr:=aC h.ch.mem.lu hf.call (by omega)
 obtain ⟨B,hB⟩ : ∃ B : Nat,aa v.m (tsk v u).f.c=B:=⟨(aa v.m (tsk v u).f.c).toNat,by omega⟩
 have hBl : B < v.m.heads.length:=by omega
 refine hi.Gb l2 l3 fun p=>?_
 have e:=hD.FO hBl (hP (.inr (.inr ⟨hk,by omega⟩)) B hB)
 have e1 : chF v.m (tsk v u).f=chL v.m B:=by unfold chF;rw [hB];rfl
 have e2 : chF y (tsk v u).f=chL y B:=by unfold chF;rw [bw (m:=v.m) _ l2,hB];rfl
 rw [e1,e2]
 exact ⟨e,fun a ha=>Gf h.ch hy hK hBl l2 e ha⟩
theorem F4 {m : Mem} (hC : aK m) {b : Nat} (hb : b < m.heads.length) : (chL m b).length≤13:=by
 have:=(bF.1 (hC.ch hb).of).2
 have:=hC.mem.ns
 omega
theorem F6 {m : Mem} {f : Frm} {a : Int} (h : f.cur=a + 1) : (at1 m f).k=kys m a∧(at1 m f).till=(bP m a).till∧(at1 m f).next=nxt m a:=by
 unfold at1 kys bP nxt
 rw [show f.cur - 1=a by omega]
 exact ⟨rfl,rfl,rfl⟩
theorem Gd {v : Wrd} (h : Inv v) {x : Int} (hx0 : 0≤x) (hx : x < v.ts.length) (hb : (tsk v x).busy=true) (hk : (tsk v x).f.c.kind=4∨(tsk v x).f.c.kind=5) {o : Mem} (hi : w3 o v.m (tsk v x).f) (hy : aK (aU v.m (tsk v x).f x).2) :
  ((aU v.m (tsk v x).f x).1.done=false→w3 o (aU v.m (tsk v x).f x).2 (aU v.m (tsk v x).f x).1)∧((aU v.m (tsk v x).f x).1.done=true→c9 o (aU v.m (tsk v x).f x).2 (aU v.m (tsk v x).f x).1 (chF (aU v.m (tsk v x).f x).2 (tsk v x).f)):=by
 obtain ⟨hf,hF,hd⟩:=cL h hx0 hx hb
 have hbr:=aC h.ch.mem.lu hf.call (by omega)
 obtain ⟨B,hB⟩ : ∃ B : Nat,aa v.m (tsk v x).f.c=B:=⟨(aa v.m (tsk v x).f.c).toNat,by omega⟩
 have hBl : B < v.m.heads.length:=by omega
 have hch : ∀ g : Frm,g.c=(tsk v x).f.c→chF v.m g=chL v.m B:=fun g e=>by unfold chF;rw [e,hB];rfl
 have n7 : cg (tsk v x)=(tsk v x).f.slot:=cY hb (by omega)
 have hs1:=hf.slot1
 have p0:=hf.pc0
 obtain ⟨p6,_,q5⟩:=hF.sweep hk
 have q34:=hF.sweep2 hk
 have hC:=h.ch
 have hD:=xK h hx0 hx hb hk
 obtain ⟨l1,l2,l3⟩:=hD.lens h.ch
 have hput : (tsk v x).f.pc=5→cZ v.m (fun _=>False) (put v.m (tsk v x).f.slot):=fun e5 =>
  jJ h _ (q5 e5) (by omega) (cP h hx0 hx n7 (q5 e5) (by omega))
 have c12:=F4 hC hBl
 generalize hye : (aU v.m (tsk v x).f x).2=y at *
 generalize hfe : (tsk v x).f=f at *
 generalize v.m=m at *
 have hbk : ∀ g : Frm,g.c=f.c→aa m g.c=B∧aa y g.c=B:=fun g e=>by rw [e,bw (m:=m) (y:=y) f.c l2];exact ⟨hB,hB⟩
 have hcy : ∀ g : Frm,g.c=f.c→chF y g=chL y B:=fun g e=>by unfold chF;rw [(hbk g e).2];rfl
 have st : cZ m (fun _=>False) y→chL y B=chL m B∧∀ a∈chL m B,bP y a=bP m a:=fun D=>⟨D.FO hBl id,fun a ha=>Gf hC hy (D.kin hC) hBl l2 (D.FO hBl id) ha⟩
 have go : ∀ g : Frm,g.done=false→w3 o y g→((g,y).1.done=false→w3 o (g,y).2 (g,y).1)∧((g,y).1.done=true→c9 o (g,y).2 (g,y).1 (chF (g,y).2 f)):=fun g e i=>⟨fun _=>i,fun d=>by
  have d : g.done=true:=d
  rw [e] at d;cases d⟩
 have same : ∀ g : Frm,y=m→g.done=false→w3 o m g→((g,y).1.done=false→w3 o (g,y).2 (g,y).1)∧((g,y).1.done=true→c9 o (g,y).2 (g,y).1 (chF (g,y).2 f)):=fun g e e2 i=>go g e2 (by rw [e];exact i)
 have pr : ∀ r : Frm × Mem,r.2=y→((r.1,y).1.done=false→w3 o (r.1,y).2 (r.1,y).1)∧((r.1,y).1.done=true→c9 o (r.1,y).2 (r.1,y).1 (chF (r.1,y).2 f))→(r.1.done=false→w3 o y r.1)∧(r.1.done=true→c9 o y r.1 (chF y f)):=fun r _ i=>i
 refine pr _ hye ?_
 obtain ⟨i0,i1,i2,i3,i4,i6,i7⟩:=hi
 unfold aU at hye ⊢
 by_cases e0 : f.pc=0
 ·rw [if_pos e0] at hye ⊢
  have hp : (if (lock m (aa m f.c) x).2=true then (1 : Int) else f.pc)=1∨(if (lock m (aa m f.c) x).2=true then (1 : Int) else f.pc)=0:=by split <;> omega
  generalize (if (lock m (aa m f.c) x).2=true then (1 : Int) else f.pc)=pc at hp
  exact go _ hd ⟨by omega,fun _=>i1 (by omega),fun p=>by have p : pc=2∨pc=5:=p;omega,fun p=>by have p : pc=3:=p;omega,fun p=>by have p : pc=4:=p;omega,fun p=>by have p : pc=6:=p;omega,fun _=>by show pc≠4∧pc≠5;omega⟩
 rw [if_neg e0] at hye ⊢
 by_cases e1 : f.pc=1
 ·rw [if_pos e1] at hye ⊢
  refine same _ hye.symm hd ⟨by omega,fun p=>by have p : (2 : Int) < 2:=p;omega,fun _=>⟨[],chL m B,hch _ rfl,?_,rfl,fun _=>i1 (by omega),fun _ a ha=>by cases ha⟩,fun p=>by have p : (2 : Int)=3:=p;omega,fun p=>by have p : (2 : Int)=4:=p;omega,fun p=>by have p : (2 : Int)=6:=p;omega,fun _=>by show (2 : Int)≠4∧(2 : Int)≠5;omega⟩
  show aM m (aa m f.c)=fL (aa m f.c) (chL m B)
  rw [hB];exact o8 hC hBl
 rw [if_neg e1] at hye ⊢
 by_cases e2 : f.pc=2
 ·obtain ⟨q1,q2,s1,s2,s3,s4⟩:=i2 (.inl e2)
  rw [hch _ rfl] at s1
  rw [hB] at s2
  by_cases c0 : f.cur≤0
  ·rw [if_pos ⟨e2,c0⟩] at hye ⊢
   have hq2 : q2=[]:=by
    cases q2 with
    | nil=>rfl
    | cons a l =>
     have s2 : f.cur=a + 1:=s2
     have:=(df hC (show a∈chL m B by rw [s1];simp)).1
     omega
   rw [hq2,List.append_nil] at s1
   refine same _ hye.symm hd ⟨by omega,fun p=>by have p : (6 : Int) < 2:=p;omega,fun p=>by have p : (6 : Int)=2∨(6 : Int)=5:=p;omega,fun p=>by have p : (6 : Int)=3:=p;omega,fun p=>by have p : (6 : Int)=4:=p;omega,fun _=>?_,fun _=>by show (6 : Int)≠4∧(6 : Int)≠5;omega⟩
   have e6 : chF m { f with pc:=6}=chL m B:=hch _ rfl
   show c9 o m _ (chF m { f with pc:=6})
   rw [e6,s1];exact s4
  rw [if_neg (by omega)] at hye ⊢
  obtain ⟨a,l3',c1,c2,c3,c4,c5⟩:=fm hC hBl s1 (by rw [← s2];omega)
  have hca : f.cur=a + 1:=by omega
  obtain ⟨k1,k2,k3⟩:=F6 (m:=m) hca
  subst c1
  by_cases k5 : f.c.kind=5
  ·rw [if_pos ⟨e2,k5⟩] at hye ⊢
   have hkl : f.keys.length < 100:=by
    rw [s4.1 k5,List.length_map]
    rw [s1,List.length_append] at c12
    omega
   refine same _ hye.symm hd ⟨by omega,fun p=>by have p : (3 : Int) < 2:=p;omega,fun p=>by have p : (3 : Int)=2∨(3 : Int)=5:=p;omega,fun _=>⟨q1,a,l3',?_,hca,fun _=>?_,fun k=>?_⟩,fun p=>by have p : (3 : Int)=4:=p;omega,fun p=>by have p : (3 : Int)=6:=p;omega,fun _=>by show (3 : Int)≠4∧(3 : Int)≠5;omega⟩
   ·exact Eq.trans (hch _ rfl) s1
   ·show (if f.keys.length < 100 then f.keys ++ [(at1 m f).k] else f.keys)=_
    rw [if_pos hkl,k1,s4.1 k5];simp
   ·have k : f.c.kind=4:=k
    omega
  rw [if_neg (by omega),if_pos e2] at hye ⊢
  by_cases ht : (at1 m f).till≤m.now
  ·rw [if_pos ht]
   refine same _ hye.symm hd ⟨by omega,fun p=>by have p : (4 : Int) < 2:=p;omega,fun p=>by have p : (4 : Int)=2∨(4 : Int)=5:=p;omega,fun p=>by have p : (4 : Int)=3:=p;omega,fun _=>⟨q1,a,l3',?_,hca,s3,s4⟩,fun p=>by have p : (4 : Int)=6:=p;omega,fun k=>by have k : f.c.kind=5:=k;omega⟩
   exact Eq.trans (hch _ rfl) s1
  ·rw [if_neg ht]
   refine same _ hye.symm hd ⟨by omega,fun p=>by have p : (3 : Int) < 2:=p;omega,fun p=>by have p : (3 : Int)=2∨(3 : Int)=5:=p;omega,fun _=>⟨q1,a,l3',?_,hca,fun k=>?_,fun _ d hd'=>?_⟩,fun p=>by have p : (3 : Int)=4:=p;omega,fun p=>by have p : (3 : Int)=6:=p;omega,fun k=>by have k : f.c.kind=5:=k;omega⟩
   ·exact Eq.trans (hch _ rfl) s1
   ·have k : f.c.kind=5:=k
    omega
   ·rcases List.mem_append.1 hd' with g | g
    ·exact s4.2 (by omega) d g
    ·have : d=a:=by simpa using g
     rw [this,← k2];omega
 rw [if_neg (by omega),if_neg (by omega),if_neg e2] at hye ⊢
 by_cases e3 : f.pc=3
 ·obtain ⟨q1,a,q2,s1,s2,s4⟩:=i3 e3
  rw [hch _ rfl] at s1
  have ha:=(df hC (show a∈chL m B by rw [s1];simp)).1
  rw [if_pos ⟨e3,by omega⟩] at hye ⊢
  have hn:=iB hC hBl s1
  obtain ⟨k1,k2,k3⟩:=F6 (m:=m) s2
  refine same _ hye.symm hd ⟨by omega,fun p=>by have p : (2 : Int) < 2:=p;omega,fun _=>⟨q1 ++ [a],q2,?_,?_,?_,s4⟩,fun p=>by have p : (2 : Int)=3:=p;omega,fun p=>by have p : (2 : Int)=4:=p;omega,fun p=>by have p : (2 : Int)=6:=p;omega,fun _=>by show (2 : Int)≠4∧(2 : Int)≠5;omega⟩
  ·exact Eq.trans (hch _ rfl) (by rw [s1];simp)
  ·show (at1 m f).next=fL (aa m f.c) q2
   rw [hB,k3,hn]
  ·show f.cur=jz (q1 ++ [a])
   rw [qG];exact s2
 rw [if_neg (by omega)] at hye ⊢
 by_cases e4 : f.pc=4
 ·obtain ⟨q1,a,q2,s1,s2,s3,s4⟩:=i4 e4
  rw [hch _ rfl] at s1
  have ha:=(df hC (show a∈chL m B by rw [s1];simp)).1
  rw [if_pos ⟨e4,by omega⟩] at hye ⊢
  have hn:=iB hC hBl s1
  obtain ⟨k1,k2,k3⟩:=F6 (m:=m) s2
  have hye : cut m f.prev (f.cur - 1) (aa m f.c)=y:=hye
  rw [show f.cur - 1=a by omega,hB] at hye
  obtain ⟨d1,d2,d3,d4,d5,d6⟩:=iP hC hBl s1 s3 hye.symm
  have k4 : f.c.kind=4:=by
   rcases hk with k | k
   ·exact k
   ·exact absurd e4 (i7 k).1
  refine go _ hd ⟨by omega,fun p=>by have p : (5 : Int) < 2:=p;omega,fun _=>⟨q1,q2,?_,?_,s3,?_⟩,fun p=>by have p : (5 : Int)=3:=p;omega,fun p=>by have p : (5 : Int)=4:=p;omega,fun p=>by have p : (5 : Int)=6:=p;omega,fun k=>by have k : f.c.kind=5:=k;omega⟩
  ·exact Eq.trans (hcy _ rfl) d2
  ·show (at1 m f).next=fL (aa y f.c) q2
   rw [(hbk f rfl).2,k3,hn]
  ·exact c9.Gb (m:=m) s4 fun c _=>qP (d4 c.toNat).2.1 (d4 c.toNat).2.2.1
 rw [if_neg (by omega)] at hye ⊢
 by_cases e5 : f.pc=5
 ·rw [if_pos ⟨e5,q5 e5⟩] at hye ⊢
  have hye : put m f.slot=y:=hye
  have D:=hput e5
  rw [hye] at D
  obtain ⟨t1,t2⟩:=st D
  obtain ⟨q1,q2,s1,s2,s3,s4⟩:=i2 (.inr e5)
  rw [hch _ rfl] at s1
  rw [hB] at s2
  refine go _ hd ⟨by omega,fun p=>by have p : (2 : Int) < 2:=p;omega,fun _=>⟨q1,q2,?_,?_,s3,?_⟩,fun p=>by have p : (2 : Int)=3:=p;omega,fun p=>by have p : (2 : Int)=4:=p;omega,fun p=>by have p : (2 : Int)=6:=p;omega,fun _=>by show (2 : Int)≠4∧(2 : Int)≠5;omega⟩
  ·exact Eq.trans (hcy _ rfl) (t1.trans s1)
  ·show f.cur=fL (aa y f.c) q2
   rw [(hbk f rfl).2];exact s2
  ·exact c9.Gb (m:=m) s4 fun c hc=>t2 c (by rw [s1];exact List.mem_append_left _ hc)
 rw [if_neg (by omega),if_pos (by omega)] at hye ⊢
 have hye : unlock m (aa m f.c) x=y:=hye
 have D:=lB m (fun _=>False) (aa m f.c) x
 rw [hye] at D
 obtain ⟨t1,t2⟩:=st D
 have s4:=i6 (by omega)
 rw [hch _ rfl] at s4
 refine ⟨fun e=>(by cases e),fun _=>?_⟩
 show c9 o y _ (chF y f)
 rw [hcy _ rfl,t1]
 exact c9.Gb (m:=m) s4 t2
def Gi (o : Mem) (hs : List Mem) (p : Pst) : Prop:=(p.c.kind=4∨p.c.kind=5)→∃ y s,hs=y :: s∧0≤p.c.bucket∧p.c.bucket < y.heads.length∧(p.c.kind=5→p.keys=(chL y p.c.bucket.toNat).map (kys y))∧(p.c.kind=4→∀ a∈chL y p.c.bucket.toNat,o.now < (bP y a).till)
theorem Gr : Law (fun o _ m f=>(f.c.kind=4∨f.c.kind=5)→w3 o m f) Gi where
 gD h _ u0 u1 ub _ _ hi _ _ hy hD hP k:=Gs h u0 u1 ub k (hi k) hy hD hP
 own:=fun {v} h {x} x0 x1 hb {o s} hi=>by
  have hc:=Fh h x0 x1 hb
  have hy:=Fe h x0 x1
  have hl:=(pz h x0 x1).lens h.ch
  obtain ⟨_,_,_,m4⟩:=vU hb
  refine ⟨fun d k=>?_,fun d p c e s' ks k=>?_⟩
  ·rw [hc] at k
   rw [m4 k] at hy ⊢
   have hn : gT v.m (tsk v x).f x=(aU v.m (tsk v x).f x).1:=by unfold gT;rw [if_neg (by omega),if_neg (by omega),if_neg (by omega),if_pos k]
   rw [hn] at d ⊢
   exact (Gd h x0 x1 hb k (hi k) hy).1 d
  ·rw [c] at k
   rw [m4 k] at hy hl ⊢
   have hn : gT v.m (tsk v x).f x=(aU v.m (tsk v x).f x).1:=by unfold gT;rw [if_neg (by omega),if_neg (by omega),if_neg (by omega),if_pos k]
   rw [hn] at d ks hc
   have r:=(Gd h x0 x1 hb k (hi k) hy).2 d
   obtain ⟨hf,_,_⟩:=cL h x0 x1 hb
   have hbr:=aC h.ch.mem.lu hf.call (by omega)
   have hB : ∀ m : Mem,aa m (tsk v x).f.c=(tsk v x).f.c.bucket:=fun m=>by unfold aa;rw [if_pos k]
   rw [hB] at hbr
   unfold c9 chF at r
   rw [hB,hc] at r
   rw [c,ks]
   exact ⟨_,_,rfl,hbr.1,by omega,r.1,r.2⟩
 new:=fun {m c} hC hc k=>⟨Int.le_refl _,fun _=>rfl,fun p=>by have p : (0 : Int)=2∨(0 : Int)=5:=p;omega,fun p=>by have p : (0 : Int)=3:=p;omega,fun p=>by have p : (0 : Int)=4:=p;omega,fun p=>by have p : (0 : Int)=6:=p;omega,fun _=>by show (0 : Int)≠4∧(0 : Int)≠5;omega⟩
end Go.Proofs.Ytpmamacjepcdmaa

namespace Go.Proofs.Ytpmamacjepcdmaa
open Go Go.Sy Go.RowKit
set_option linter.unusedSimpArgs false
set_option linter.unusedVariables false
def kV : SK:=⟨128,[.sl 48 kS.kd,.sl 8 kI.kd,.sl 8 kI.kd,.sl 8 kI.kd,.int .i64,.sl 160 kT.kd]⟩
def Wrd.Gt (w : Wrd) : List CD:=[aq w.m.slots,ae w.m.heads,ae w.m.free,ae w.m.af,.i w.m.now,aX w.ts]
instance : Inhabited Wrd:=⟨Wrd.none⟩
def w4 (l : List Wrd) : CD:=.l (l.map Wrd.Gt)
theorem m0 (l : List Wrd) : (w4 l).rows.length=l.length:=by simp [w4]
theorem F9 (l : List Wrd) (w : Wrd) : CD.l ((w4 l).rows ++ [[aq w.m.slots,ae w.m.heads,ae w.m.free,ae w.m.af,.i w.m.now,aX w.ts]])=w4 (l ++ [w]):=by simp [w4,Wrd.Gt]
theorem F8 {m : Mem} (hC : aK m) {b : Int} (h1 : 0≤b) (h2 : b < m.heads.length) : slotsOf m b=(chL m b.toNat,0):=by
 have hm:=(dv m).2 hC.mem
 have hc:=(hC.ch (b:=b.toNat) (by omega)).of
 rw [show ((b.toNat : Nat) : Int)=b by omega] at hc
 unfold slotsOf chL bG
 rw [if_neg (fun y=>y hm),if_neg (by omega),show ((b.toNat : Nat) : Int)=b by omega,hc]
def s154 : Sig:=⟨[.agg [.fz kS,.fz kI,.fz kI,.fz kI,.int .i64,.fz kT],.one (.int .i64)],[.one (.own 31 kK),.one (.bool)]⟩
def d154 : DC:=⟨s154,fun l=>aK (Mem.of l)∧0≤(l.getD 6 .u).int∧(l.getD 6 .u).int < (Mem.of l).heads.length,fun l=>[bK ((chL (Mem.of l) (l.getD 6 .u).int.toNat).map (kys (Mem.of l))),.b true]⟩
def l154 : List (Nat × Ct):=[(70,d70.ct)]
def z154 : Cx:={ T:=ttA,C:=sigs l154,F:=[],hints:=[⟨154,4,false,[(20,.lt),(8,.own 31 kK)],[],[],[],0⟩],sig:=s154}
def t154 : Tree :=
 (.call 70 [.var 0,.var 1,.var 2,.var 3,.var 4,.var 6] 7
 (.loop 9 [.sl 16 [.int .i64,.int .i64],.int .i64] [.nil,.int 0]
 (.ite (.lt (.var 11) (.len (.var 7)))
 (.need (.le (.int 0) (.var 11))
 (.need (.le (.int 0) (.cell (.var 7) (.var 11) 0))
 (.need (.lt (.cell (.var 7) (.var 11) 0) (.len (.var 0)))
 (.need (.le (.add (.len (.var 10)) (.int 1)) (.int 8796093022208))
 (.need (.fit (.add (.var 11) (.int 1)))
 (.back 9 [.app (.var 10) (.cons (.cell (.var 0) (.cell (.var 7) (.var 11) 0) 1) (.cons (.cell (.var 0) (.cell (.var 7) (.var 11) 0) 2) .row0)),.add (.var 11) (.int 1)]))))))
 (.ret [.var 10,.eq (.var 8) (.int 0)]))))
theorem run154 : run z154 6000 [.code (Try.f154.body.getD .skip),.fin (br z154 Try.f154.results.toList 50)] { fn:=154,tmps:=z154.sig.aL ++ List.replicate (Try.f154.ntmps - z154.sig.aL.length) (.v (.one .undef)),stk:=[],h:=z154.sig.h0,nx:=z154.sig.ins.length,known:=[]}=t154:=by kernel_rfl
theorem ok154 : cA Try.prog 154 d154.ct:=by
 refine aB (d:=d154) (Z:=z154) (Γ:=gam l154) (fn:=Try.f154) (c:=Try.f154.body.getD .skip) (bc tok mixed (all_cons ok70 all_nil) bd) Try.func154 (by kernel_rfl) (by kernel_rfl) rfl run154 fun E hk hp=>?_
 obtain ⟨hk0,hk1,hk2,hk3,hk4,hk5,hk6,_⟩:=hk
 obtain ⟨m,e0,e1,e2,e3,e4,b0,b1,b2,b3⟩:=cr (d0:=E 0) (d1:=E 1) (d2:=E 2) (d3:=E 3) (d4:=E 4) hk0 hk1 hk2 hk3 hk4
 obtain ⟨ts,e5,hts,b5⟩:=gS (d:=E 5) hk5
 have b5 : ts.length * 160≤140737488355328:=b5
 obtain ⟨x,e6⟩:=ok_int (d:=E 6) hk6
 have el : aH E d154.sig.ins.length=[aq m.slots,ae m.heads,ae m.free,ae m.af,.i m.now,aX ts,.i x]:=by
  show [E 0,E 1,E 2,E 3,E 4,E 5,E 6]=_
  rw [e0,e1,e2,e3,e4,e5,e6]
 rw [el] at hp
 rw [el]
 rw [Env.bE el]
 clear el e0 e1 e2 e3 e4 e5 e6
 simp only [d154,mem_of,aw,List.getD_cons_zero,List.getD_cons_succ,CD.aP] at hp ⊢
 obtain ⟨hC,b0,b1⟩:=hp
 obtain ⟨L,hL⟩ : ∃ L,chL m x.toNat=L:=⟨_,rfl⟩
 have hin : ∀ a∈L,0≤a∧a < m.slots.length:=fun a ha=>df hC (by rw [hL];exact ha)
 have hLl : L.length≤13:=by rw [← hL];exact F4 hC (b:=x.toNat) (by omega)
 rw [hL]
 unfold t154
 refine ai d70 [ae L,.i 0] rfl trivial (by simp only [nrm,xdn,reduceIte,Nat.reduceLT,Nat.reduceSub,Nat.reduceAdd,fn70,F8 hC b0 b1,hL]) ?_
 refine bY (fun ds=>∃ i : Nat,ds=[bK ((L.take i).map (kys m)),.i i]∧i≤L.length) (fun ds=>L.length - (ds.getD 1 .u).int.toNat) ⟨0,rfl,by omega⟩ ?_
 rintro ds - ⟨i,rfl,hi⟩
 refine aF (fun h=>?_) (fun h=>aj ?_)
 ·simp only [nrm,xdn,reduceIte,Nat.reduceLT,Nat.reduceSub,Nat.reduceAdd,av] at h
  have hi1 : i < L.length:=by omega
  obtain ⟨a,ha⟩ : ∃ a,L.getD i 0=a:=⟨_,rfl⟩
  have hae : L[i]?=some a:=by
   rw [List.getD_eq_getElem?_getD,List.getElem?_eq_getElem hi1] at ha
   rw [List.getElem?_eq_getElem hi1,← ha];rfl
  obtain ⟨a0,a1⟩:=hin a (List.mem_of_getElem? hae)
  have hc : ((ae L).rows.getD i []).getD 0 .u=.i a:=by rw [iw hi1,ha]
  have hk0 : ((aq m.slots).rows.getD a.toNat []).getD 1 .u=.i (kys m a).a:=fk bp.row m.slots a.toNat 1 (by omega)
  have hk1 : ((aq m.slots).rows.getD a.toNat []).getD 2 .u=.i (kys m a).b:=fk bp.row m.slots a.toNat 2 (by omega)
  have ht : (L.take i).length=i:=by rw [List.length_take];omega
  refine ag (by simp only [nrm,xdn,reduceIte,Nat.reduceLT,Nat.reduceSub,Nat.reduceAdd];omega) (ag (by simp only [nrm,xdn,reduceIte,Nat.reduceLT,Nat.reduceSub,Nat.reduceAdd,Int.toNat_natCast,hc];omega) (ag (by simp only [nrm,xdn,reduceIte,Nat.reduceLT,Nat.reduceSub,Nat.reduceAdd,Int.toNat_natCast,hc,aJ];omega) (ag (by simp only [nrm,xdn,reduceIte,Nat.reduceLT,Nat.reduceSub,Nat.reduceAdd,bO,List.length_map,ht];omega) (a9 (by simp only [nrm,xdn,reduceIte,Nat.reduceLT,Nat.reduceSub,Nat.reduceAdd];omega) (bU ⟨⟨i + 1,?_,by omega⟩,?_⟩)))))
  ·simp only [nrm,xdn,reduceIte,Nat.reduceLT,Nat.reduceSub,Nat.reduceAdd,Int.toNat_natCast,hc,hk0,hk1]
   have:=Gu ((L.take i).map (kys m)) [kys m a]
   rw [show (L.take (i + 1)).map (kys m)=(L.take i).map (kys m) ++ [kys m a] by rw [List.take_add_one,hae];simp,← this]
   rfl
  ·simp only [nrm,xdn,reduceIte,Nat.reduceLT,Nat.reduceSub,Nat.reduceAdd];omega
 ·simp only [nrm,xdn,reduceIte,Nat.reduceLT,Nat.reduceSub,Nat.reduceAdd,av] at h ⊢
  rw [List.take_of_length_le (by omega)]
  rfl
theorem F7 {v : Wrd} (h : Inv v) (hm : v.aS=v) (l : List Pik) : ∀ i,(wAt v l i).m.heads.length=v.m.heads.length
 | 0=>rfl
 | i + 1=>by
  have ih:=F7 h hm l i
  obtain ⟨h1,_⟩:=EN h hm l i
  show (Ee (wAt v l i) _).m.heads.length=_
  unfold Ee
  split
  ·exact ih
  ·exact ((AI h1 _).lens h1.ch).2.1.trans ih
theorem Ge {W : Nat→Wrd} {fr n : Nat} {p : Pst} (h : Gi (W fr).m (EE W fr (n + 1)) p) (hk : p.c.kind=4∨p.c.kind=5) : 0≤p.c.bucket∧p.c.bucket < (W (fr + n + 1)).m.heads.length∧(p.c.kind=5→p.keys=(chL (W (fr + n + 1)).m p.c.bucket.toNat).map (kys (W (fr + n + 1)).m))∧(p.c.kind=4→∀ a∈chL (W (fr + n + 1)).m p.c.bucket.toNat,(W fr).m.now < (bP (W (fr + n + 1)).m a).till):=by
 obtain ⟨y,s,e,h1,h2,h3,h4⟩:=h hk
 have : (W (fr + n + 1)).m=y:=(List.cons.inj e).1
 rw [this]
 exact ⟨h1,h2,h3,h4⟩
theorem Gq {m y : Mem} (hC : aK m) (hy : aK y) (hh : y.heads.length=m.heads.length) {b : Int} (b0 : 0≤b) (b1 : b < m.heads.length) (h : ∀ a∈chL y b.toNat,m.now < (bP y a).till) {x : dV} (hx : x∈bl m) (ht : x.till≤m.now) (hs : x.slot∈chL m b.toNat) : x ∉ bl y:=fun hf=>by
 obtain ⟨_,_,p3,_,_,_,_⟩:=s9 hC hx
 obtain ⟨_,_,_,q4,_,_,q7⟩:=s9 hy hf
 have hb:=((hC.ch (b:=b.toNat) (by omega)).ok _ hs).bk
 rw [p3] at hb
 have hb' : bk y x.k=b:=by
  unfold bk at hb ⊢
  rw [hh,hb];omega
 rw [hb'] at q7
 have:=h _ q7
 rw [← q4] at this
 omega
end Go.Proofs.Ytpmamacjepcdmaa
