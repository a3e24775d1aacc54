import Derived.Test.YtpmamacjepcdmaaCHist4
namespace Go.Proofs.Ytpmamacjepcdmaa
open Go Go.Sy Go.RowKit
set_option linter.unusedSimpArgs false
set_option linter.unusedVariables false
theorem Lp {m y : Mem} (hC : aK m) (hy : aK y) (h : Kin m y) {b : Nat} (hb : b < m.heads.length) (hl : y.heads.length=m.heads.length) (e : chL y b=chL m b) {a : Int} (ha : a∈chL m b) : bu y a=bu m a:=by
 have a0:=(cW hC ha).1
 have hin:=((hy.ch (show b < y.heads.length by omega)).ok a (by rw [e];exact ha)).inn
 cases h with
 | same _ _ hk=>exact (hk a a0 hin).2
 | lnk c B _ _ _ _ _ _ _ _ hj hk _ =>
  by_cases ec : a=c
  ·subst ec;exact hk
  ·unfold bu;rw [hj a a0 ec]
 | cutt c B l1 l3 _ _ _ _ hk _=>exact (hk a).2
def HY (o m : Mem) (f : Frm) (l : List Int) : Prop:=(f.c.kind=5→f.keys=l.map (kys m))∧(f.c.kind=4→∀ a∈l,o.now < (bu m a).till)
structure Ir (o m : Mem) (f : Frm) : Prop where
 now : o.now≤m.now
 p1 : f.pc < 2→f.keys=[]
 p2 : f.pc=2∨f.pc=5→∃ l1 l2,chF m f=l1 ++ l2∧f.cur=ig (aa m f.c) l2∧f.prev=jJ l1∧HY o m f l1
 p3 : f.pc=3→∃ l1 a l2,chF m f=l1 ++ a :: l2∧f.cur=a + 1∧HY o m f (l1 ++ [a])
 p4 : f.pc=4→∃ l1 a l2,chF m f=l1 ++ a :: l2∧f.cur=a + 1∧f.prev=jJ l1∧HY o m f l1
 p6 : f.pc=6→HY o m f (chF m f)
 no : f.c.kind=5→f.pc≠4∧f.pc≠5
theorem HY.K1 {o m y : Mem} {f : Frm} {l : List Int} (h : HY o m f l) (e : ∀ a∈l,bu y a=bu m a) : HY o y f l :=
 ⟨fun k=>by rw [h.1 k];exact List.map_congr_left fun a ha=>(HN (e a ha)).symm,fun k a ha=>by rw [e a ha];exact h.2 k a ha⟩
theorem Ir.K1 {o m y : Mem} {f : Frm} (h : Ir o m f) (hh : y.heads.length=m.heads.length) (hn : m.now≤y.now) (hc : 2≤f.pc→chF y f=chF m f∧∀ a∈chF m f,bu y a=bu m a) : Ir o y f:=by
 obtain ⟨h0,h1,h2,h3,h4,h6,h7⟩:=h
 have hb : aa y f.c=aa m f.c:=ck f.c hh
 refine ⟨by omega,h1,fun p=>?_,fun p=>?_,fun p=>?_,fun p=>?_,h7⟩
 ·obtain ⟨c1,c2⟩:=hc (by omega)
  obtain ⟨l1,l2,e1,e2,e3,e4⟩:=h2 p
  exact ⟨l1,l2,by rw [c1];exact e1,by rw [hb];exact e2,e3,e4.K1 fun a ha=>c2 a (by rw [e1];exact List.mem_append_left _ ha)⟩
 ·obtain ⟨c1,c2⟩:=hc (by omega)
  obtain ⟨l1,a,l2,e1,e2,e4⟩:=h3 p
  exact ⟨l1,a,l2,by rw [c1];exact e1,e2,e4.K1 fun d hd=>c2 d (by
   rw [e1]
   rcases List.mem_append.1 hd with g | g
   ·exact List.mem_append_left _ g
   ·have : d=a:=by simpa using g
    subst this;simp)⟩
 ·obtain ⟨c1,c2⟩:=hc (by omega)
  obtain ⟨l1,a,l2,e1,e2,e3,e4⟩:=h4 p
  exact ⟨l1,a,l2,by rw [c1];exact e1,e2,e3,e4.K1 fun a ha=>c2 a (by rw [e1];exact List.mem_append_left _ ha)⟩
 ·obtain ⟨c1,c2⟩:=hc (by omega)
  rw [c1]
  exact (h6 p).K1 c2
theorem Mu {v : Wrd} (h : Inv v) {u : Int} (u0 : 0≤u) (u1 : u < v.ts.length) (ub : (tsk v u).busy=true) (hk : (tsk v u).f.c.kind=4∨(tsk v u).f.c.kind=5) {o : Mem} (hi : Ir o v.m (tsk v u).f) {P : Nat→Prop} {y : Mem} (hy : aK y) (hD : cZ v.m P y)
  (hP : bI (tsk v u).f→∀ B : Nat,aa v.m (tsk v u).f.c=B→¬ P B) : Ir o y (tsk v u).f:=by
 obtain ⟨hf,hF,hd⟩:=fe h u0 u1 ub
 obtain ⟨l1,l2,l3⟩:=hD.lens h.ch
 have hK:=hD.kin h.ch
 have hbr:=aQ h.ch.mem.rJ hf.call (by omega)
 obtain ⟨B,hB⟩ : ∃ B : Nat,aa v.m (tsk v u).f.c=B:=⟨(aa v.m (tsk v u).f.c).toNat,by omega⟩
 have hBl : B < v.m.heads.length:=by omega
 refine hi.K1 l2 l3 fun p=>?_
 have e:=hD.Ij hBl (hP (.inr (.inr ⟨hk,by omega⟩)) B hB)
 have e1 : chF v.m (tsk v u).f=chL v.m B:=by unfold chF;rw [hB];rfl
 have e2 : chF y (tsk v u).f=chL y B:=by unfold chF;rw [ck (m:=v.m) _ l2,hB];rfl
 rw [e1,e2]
 exact ⟨e,fun a ha=>Lp h.ch hy hK hBl l2 e ha⟩
theorem JS {m : Mem} (hC : aK m) {b : Nat} (hb : b < m.heads.length) : (chL m b).length≤13:=by
 have:=(br.1 (hC.ch hb).of).2
 have:=hC.mem.ns
 omega
theorem Ku {m : Mem} {f : Frm} {a : Int} (h : f.cur=a + 1) : (at1 m f).k=kys m a∧(at1 m f).till=(bu m a).till∧(at1 m f).next=nxt m a:=by
 unfold at1 kys bu nxt
 rw [show f.cur - 1=a by omega]
 exact ⟨rfl,rfl,rfl⟩
theorem Lm {v : Wrd} (h : Inv v) {x : Int} (hx0 : 0≤x) (hx : x < v.ts.length) (hb : (tsk v x).busy=true) (hk : (tsk v x).f.c.kind=4∨(tsk v x).f.c.kind=5) {o : Mem} (hi : Ir o v.m (tsk v x).f) (hy : aK (aB v.m (tsk v x).f x).2) :
  ((aB v.m (tsk v x).f x).1.done=false→Ir o (aB v.m (tsk v x).f x).2 (aB v.m (tsk v x).f x).1)∧((aB v.m (tsk v x).f x).1.done=true→HY o (aB v.m (tsk v x).f x).2 (aB v.m (tsk v x).f x).1 (chF (aB v.m (tsk v x).f x).2 (tsk v x).f)):=by
 obtain ⟨hf,hF,hd⟩:=fe h hx0 hx hb
 have hbr:=aQ h.ch.mem.rJ hf.call (by omega)
 obtain ⟨B,hB⟩ : ∃ B : Nat,aa v.m (tsk v x).f.c=B:=⟨(aa v.m (tsk v x).f.c).toNat,by omega⟩
 have hBl : B < v.m.heads.length:=by omega
 have hch : ∀ g : Frm,g.c=(tsk v x).f.c→chF v.m g=chL v.m B:=fun g e=>by unfold chF;rw [e,hB];rfl
 have n7 : cr (tsk v x)=(tsk v x).f.slot:=dj hb (by omega)
 have hs1:=hf.slot1
 have p0:=hf.pc0
 obtain ⟨p6,_,q5⟩:=hF.sweep hk
 have q34:=hF.sweep2 hk
 have hC:=h.ch
 have hD:=yP h hx0 hx hb hk
 obtain ⟨l1,l2,l3⟩:=hD.lens h.ch
 have hput : (tsk v x).f.pc=5→cZ v.m (fun _=>False) (put v.m (tsk v x).f.slot):=fun e5 =>
  jW h _ (q5 e5) (by omega) (Hg h hx0 hx n7 (q5 e5) (by omega))
 have c12:=JS hC hBl
 generalize hye : (aB v.m (tsk v x).f x).2=y at *
 generalize hfe : (tsk v x).f=f at *
 generalize v.m=m at *
 have hbk : ∀ g : Frm,g.c=f.c→aa m g.c=B∧aa y g.c=B:=fun g e=>by rw [e,ck (m:=m) (y:=y) f.c l2];exact ⟨hB,hB⟩
 have hcy : ∀ g : Frm,g.c=f.c→chF y g=chL y B:=fun g e=>by unfold chF;rw [(hbk g e).2];rfl
 have st : cZ m (fun _=>False) y→chL y B=chL m B∧∀ a∈chL m B,bu y a=bu m a:=fun D=>⟨D.Ij hBl id,fun a ha=>Lp hC hy (D.kin hC) hBl l2 (D.Ij hBl id) ha⟩
 have go : ∀ g : Frm,g.done=false→Ir o y g→((g,y).1.done=false→Ir o (g,y).2 (g,y).1)∧((g,y).1.done=true→HY o (g,y).2 (g,y).1 (chF (g,y).2 f)):=fun g e i=>⟨fun _=>i,fun d=>by
  have d : g.done=true:=d
  rw [e] at d;cases d⟩
 have same : ∀ g : Frm,y=m→g.done=false→Ir o m g→((g,y).1.done=false→Ir o (g,y).2 (g,y).1)∧((g,y).1.done=true→HY o (g,y).2 (g,y).1 (chF (g,y).2 f)):=fun g e e2 i=>go g e2 (by rw [e];exact i)
 have pr : ∀ r : Frm × Mem,r.2=y→((r.1,y).1.done=false→Ir o (r.1,y).2 (r.1,y).1)∧((r.1,y).1.done=true→HY o (r.1,y).2 (r.1,y).1 (chF (r.1,y).2 f))→(r.1.done=false→Ir o y r.1)∧(r.1.done=true→HY o y r.1 (chF y f)):=fun r _ i=>i
 refine pr _ hye ?_
 obtain ⟨i0,i1,i2,i3,i4,i6,i7⟩:=hi
 unfold aB at hye ⊢
 by_cases e0 : f.pc=0
 ·rw [if_pos e0] at hye ⊢
  have hp : (if (lock m (aa m f.c) x).2=true then (1 : Int) else f.pc)=1∨(if (lock m (aa m f.c) x).2=true then (1 : Int) else f.pc)=0:=by split <;> omega
  generalize (if (lock m (aa m f.c) x).2=true then (1 : Int) else f.pc)=pc at hp
  exact go _ hd ⟨by omega,fun _=>i1 (by omega),fun p=>by have p : pc=2∨pc=5:=p;omega,fun p=>by have p : pc=3:=p;omega,fun p=>by have p : pc=4:=p;omega,fun p=>by have p : pc=6:=p;omega,fun _=>by show pc≠4∧pc≠5;omega⟩
 rw [if_neg e0] at hye ⊢
 by_cases e1 : f.pc=1
 ·rw [if_pos e1] at hye ⊢
  refine same _ hye.symm hd ⟨by omega,fun p=>by have p : (2 : Int) < 2:=p;omega,fun _=>⟨[],chL m B,hch _ rfl,?_,rfl,fun _=>i1 (by omega),fun _ a ha=>by cases ha⟩,fun p=>by have p : (2 : Int)=3:=p;omega,fun p=>by have p : (2 : Int)=4:=p;omega,fun p=>by have p : (2 : Int)=6:=p;omega,fun _=>by show (2 : Int)≠4∧(2 : Int)≠5;omega⟩
  show aO m (aa m f.c)=ig (aa m f.c) (chL m B)
  rw [hB];exact tA hC hBl
 rw [if_neg e1] at hye ⊢
 by_cases e2 : f.pc=2
 ·obtain ⟨q1,q2,s1,s2,s3,s4⟩:=i2 (.inl e2)
  rw [hch _ rfl] at s1
  rw [hB] at s2
  by_cases c0 : f.cur≤0
  ·rw [if_pos ⟨e2,c0⟩] at hye ⊢
   have hq2 : q2=[]:=by
    cases q2 with
    | nil=>rfl
    | cons a l =>
     have s2 : f.cur=a + 1:=s2
     have:=(cW hC (show a∈chL m B by rw [s1];simp)).1
     omega
   rw [hq2,List.append_nil] at s1
   refine same _ hye.symm hd ⟨by omega,fun p=>by have p : (6 : Int) < 2:=p;omega,fun p=>by have p : (6 : Int)=2∨(6 : Int)=5:=p;omega,fun p=>by have p : (6 : Int)=3:=p;omega,fun p=>by have p : (6 : Int)=4:=p;omega,fun _=>?_,fun _=>by show (6 : Int)≠4∧(6 : Int)≠5;omega⟩
   have e6 : chF m { f with pc:=6}=chL m B:=hch _ rfl
   show HY o m _ (chF m { f with pc:=6})
   rw [e6,s1];exact s4
  rw [if_neg (by omega)] at hye ⊢
  obtain ⟨a,l3',c1,c2,c3,c4,c5⟩:=jA hC hBl s1 (by rw [← s2];omega)
  have hca : f.cur=a + 1:=by omega
  obtain ⟨k1,k2,k3⟩:=Ku (m:=m) hca
  subst c1
  by_cases k5 : f.c.kind=5
  ·rw [if_pos ⟨e2,k5⟩] at hye ⊢
   have hkl : f.keys.length < 100:=by
    rw [s4.1 k5,List.length_map]
    rw [s1,List.length_append] at c12
    omega
   refine same _ hye.symm hd ⟨by omega,fun p=>by have p : (3 : Int) < 2:=p;omega,fun p=>by have p : (3 : Int)=2∨(3 : Int)=5:=p;omega,fun _=>⟨q1,a,l3',?_,hca,fun _=>?_,fun k=>?_⟩,fun p=>by have p : (3 : Int)=4:=p;omega,fun p=>by have p : (3 : Int)=6:=p;omega,fun _=>by show (3 : Int)≠4∧(3 : Int)≠5;omega⟩
   ·exact Eq.trans (hch _ rfl) s1
   ·show (if f.keys.length < 100 then f.keys ++ [(at1 m f).k] else f.keys)=_
    rw [if_pos hkl,k1,s4.1 k5];simp
   ·have k : f.c.kind=4:=k
    omega
  rw [if_neg (by omega),if_pos e2] at hye ⊢
  by_cases ht : (at1 m f).till≤m.now
  ·rw [if_pos ht]
   refine same _ hye.symm hd ⟨by omega,fun p=>by have p : (4 : Int) < 2:=p;omega,fun p=>by have p : (4 : Int)=2∨(4 : Int)=5:=p;omega,fun p=>by have p : (4 : Int)=3:=p;omega,fun _=>⟨q1,a,l3',?_,hca,s3,s4⟩,fun p=>by have p : (4 : Int)=6:=p;omega,fun k=>by have k : f.c.kind=5:=k;omega⟩
   exact Eq.trans (hch _ rfl) s1
  ·rw [if_neg ht]
   refine same _ hye.symm hd ⟨by omega,fun p=>by have p : (3 : Int) < 2:=p;omega,fun p=>by have p : (3 : Int)=2∨(3 : Int)=5:=p;omega,fun _=>⟨q1,a,l3',?_,hca,fun k=>?_,fun _ d hd'=>?_⟩,fun p=>by have p : (3 : Int)=4:=p;omega,fun p=>by have p : (3 : Int)=6:=p;omega,fun k=>by have k : f.c.kind=5:=k;omega⟩
   ·exact Eq.trans (hch _ rfl) s1
   ·have k : f.c.kind=5:=k
    omega
   ·rcases List.mem_append.1 hd' with g | g
    ·exact s4.2 (by omega) d g
    ·have : d=a:=by simpa using g
     rw [this,← k2];omega
 rw [if_neg (by omega),if_neg (by omega),if_neg e2] at hye ⊢
 by_cases e3 : f.pc=3
 ·obtain ⟨q1,a,q2,s1,s2,s4⟩:=i3 e3
  rw [hch _ rfl] at s1
  have ha:=(cW hC (show a∈chL m B by rw [s1];simp)).1
  rw [if_pos ⟨e3,by omega⟩] at hye ⊢
  have hn:=rV hC hBl s1
  obtain ⟨k1,k2,k3⟩:=Ku (m:=m) s2
  refine same _ hye.symm hd ⟨by omega,fun p=>by have p : (2 : Int) < 2:=p;omega,fun _=>⟨q1 ++ [a],q2,?_,?_,?_,s4⟩,fun p=>by have p : (2 : Int)=3:=p;omega,fun p=>by have p : (2 : Int)=4:=p;omega,fun p=>by have p : (2 : Int)=6:=p;omega,fun _=>by show (2 : Int)≠4∧(2 : Int)≠5;omega⟩
  ·exact Eq.trans (hch _ rfl) (by rw [s1];simp)
  ·show (at1 m f).next=ig (aa m f.c) q2
   rw [hB,k3,hn]
  ·show f.cur=jJ (q1 ++ [a])
   rw [qY];exact s2
 rw [if_neg (by omega)] at hye ⊢
 by_cases e4 : f.pc=4
 ·obtain ⟨q1,a,q2,s1,s2,s3,s4⟩:=i4 e4
  rw [hch _ rfl] at s1
  have ha:=(cW hC (show a∈chL m B by rw [s1];simp)).1
  rw [if_pos ⟨e4,by omega⟩] at hye ⊢
  have hn:=rV hC hBl s1
  obtain ⟨k1,k2,k3⟩:=Ku (m:=m) s2
  have hye : cut m f.prev (f.cur - 1) (aa m f.c)=y:=hye
  rw [show f.cur - 1=a by omega,hB] at hye
  obtain ⟨d1,d2,d3,d4,d5,d6⟩:=kp hC hBl s1 s3 hye.symm
  have k4 : f.c.kind=4:=by
   rcases hk with k | k
   ·exact k
   ·exact absurd e4 (i7 k).1
  refine go _ hd ⟨by omega,fun p=>by have p : (5 : Int) < 2:=p;omega,fun _=>⟨q1,q2,?_,?_,s3,?_⟩,fun p=>by have p : (5 : Int)=3:=p;omega,fun p=>by have p : (5 : Int)=4:=p;omega,fun p=>by have p : (5 : Int)=6:=p;omega,fun k=>by have k : f.c.kind=5:=k;omega⟩
  ·exact Eq.trans (hcy _ rfl) d2
  ·show (at1 m f).next=ig (aa y f.c) q2
   rw [(hbk f rfl).2,k3,hn]
  ·exact HY.K1 (m:=m) s4 fun c _=>ib (d4 c.toNat).2.1 (d4 c.toNat).2.2.1
 rw [if_neg (by omega)] at hye ⊢
 by_cases e5 : f.pc=5
 ·rw [if_pos ⟨e5,q5 e5⟩] at hye ⊢
  have hye : put m f.slot=y:=hye
  have D:=hput e5
  rw [hye] at D
  obtain ⟨t1,t2⟩:=st D
  obtain ⟨q1,q2,s1,s2,s3,s4⟩:=i2 (.inr e5)
  rw [hch _ rfl] at s1
  rw [hB] at s2
  refine go _ hd ⟨by omega,fun p=>by have p : (2 : Int) < 2:=p;omega,fun _=>⟨q1,q2,?_,?_,s3,?_⟩,fun p=>by have p : (2 : Int)=3:=p;omega,fun p=>by have p : (2 : Int)=4:=p;omega,fun p=>by have p : (2 : Int)=6:=p;omega,fun _=>by show (2 : Int)≠4∧(2 : Int)≠5;omega⟩
  ·exact Eq.trans (hcy _ rfl) (t1.trans s1)
  ·show f.cur=ig (aa y f.c) q2
   rw [(hbk f rfl).2];exact s2
  ·exact HY.K1 (m:=m) s4 fun c hc=>t2 c (by rw [s1];exact List.mem_append_left _ hc)
 rw [if_neg (by omega),if_pos (by omega)] at hye ⊢
 have hye : unlock m (aa m f.c) x=y:=hye
 have D:=lQ m (fun _=>False) (aa m f.c) x
 rw [hye] at D
 obtain ⟨t1,t2⟩:=st D
 have s4:=i6 (by omega)
 rw [hch _ rfl] at s4
 refine ⟨fun e=>(by cases e),fun _=>?_⟩
 show HY o y _ (chF y f)
 rw [hcy _ rfl,t1]
 exact HY.K1 (m:=m) s4 t2
def LO (o : Mem) (hs : List Mem) (p : Pst) : Prop:=(p.c.kind=4∨p.c.kind=5)→∃ y s,hs=y :: s∧0≤p.c.bucket∧p.c.bucket < y.heads.length∧(p.c.kind=5→p.keys=(chL y p.c.bucket.toNat).map (kys y))∧(p.c.kind=4→∀ a∈chL y p.c.bucket.toNat,o.now < (bu y a).till)
theorem Ms : Law (fun o _ m f=>(f.c.kind=4∨f.c.kind=5)→Ir o m f) LO where
 fa h _ u0 u1 ub _ _ hi _ _ hy hD hP k:=Mu h u0 u1 ub k (hi k) hy hD hP
 own:=fun {v} h {x} x0 x1 hb {o s} hi=>by
  have hc:=KX h x0 x1 hb
  have hy:=KU h x0 x1
  have hl:=(BE h x0 x1).lens h.ch
  obtain ⟨_,_,_,m4⟩:=Jm hb
  refine ⟨fun d k=>?_,fun d p c e s' ks k=>?_⟩
  ·rw [hc] at k
   rw [m4 k] at hy ⊢
   have hn : xz v.m (tsk v x).f x=(aB v.m (tsk v x).f x).1:=by unfold xz;rw [if_neg (by omega),if_neg (by omega),if_neg (by omega),if_pos k]
   rw [hn] at d ⊢
   exact (Lm h x0 x1 hb k (hi k) hy).1 d
  ·rw [c] at k
   rw [m4 k] at hy hl ⊢
   have hn : xz v.m (tsk v x).f x=(aB v.m (tsk v x).f x).1:=by unfold xz;rw [if_neg (by omega),if_neg (by omega),if_neg (by omega),if_pos k]
   rw [hn] at d ks hc
   have r:=(Lm h x0 x1 hb k (hi k) hy).2 d
   obtain ⟨hf,_,_⟩:=fe h x0 x1 hb
   have hbr:=aQ h.ch.mem.rJ hf.call (by omega)
   have hB : ∀ m : Mem,aa m (tsk v x).f.c=(tsk v x).f.c.bucket:=fun m=>by unfold aa;rw [if_pos k]
   rw [hB] at hbr
   unfold HY chF at r
   rw [hB,hc] at r
   rw [c,ks]
   exact ⟨_,_,rfl,hbr.1,by omega,r.1,r.2⟩
 new:=fun {m c} hC hc k=>⟨Int.le_refl _,fun _=>rfl,fun p=>by have p : (0 : Int)=2∨(0 : Int)=5:=p;omega,fun p=>by have p : (0 : Int)=3:=p;omega,fun p=>by have p : (0 : Int)=4:=p;omega,fun p=>by have p : (0 : Int)=6:=p;omega,fun _=>by show (0 : Int)≠4∧(0 : Int)≠5;omega⟩
end Go.Proofs.Ytpmamacjepcdmaa

namespace Go.Proofs.Ytpmamacjepcdmaa
open Go Go.Sy Go.RowKit
set_option linter.unusedSimpArgs false
set_option linter.unusedVariables false
def kV : SK:=⟨128,[.sl 48 kS.kd,.sl 8 kI.kd,.sl 8 kI.kd,.sl 8 kI.kd,.int .i64,.sl 160 kT.kd]⟩
def Wrd.MB (w : Wrd) : List CD:=[au w.m.slots,af w.m.heads,af w.m.free,af w.m.ae,.i w.m.now,G2 w.ts]
instance : Inhabited Wrd:=⟨Wrd.none⟩
def IB (l : List Wrd) : CD:=.l (l.map Wrd.MB)
theorem Ic (l : List Wrd) : (IB l).rows.length=l.length:=by simp [IB]
theorem KR (l : List Wrd) (w : Wrd) : CD.l ((IB l).rows ++ [[au w.m.slots,af w.m.heads,af w.m.free,af w.m.ae,.i w.m.now,G2 w.ts]])=IB (l ++ [w]):=by simp [IB,Wrd.MB]
theorem KB {m : Mem} (hC : aK m) {b : Int} (h1 : 0≤b) (h2 : b < m.heads.length) : slotsOf m b=(chL m b.toNat,0):=by
 have hm:=(dT m).2 hC.mem
 have hc:=(hC.ch (b:=b.toNat) (by omega)).of
 rw [show ((b.toNat : Nat) : Int)=b by omega] at hc
 unfold slotsOf chL bP
 rw [if_neg (fun y=>y hm),if_neg (by omega),show ((b.toNat : Nat) : Int)=b by omega,hc]
def s154 : Sig:=⟨[.agg [.fz kS,.fz kI,.fz kI,.fz kI,.int .i64,.fz kT],.one (.int .i64)],[.one (.own 31 kK),.one (.bool)]⟩
def d154 : DC:=⟨s154,fun l=>aK (Mem.of l)∧0≤(l.getD 6 .u).int∧(l.getD 6 .u).int < (Mem.of l).heads.length,fun l=>[bS ((chL (Mem.of l) (l.getD 6 .u).int.toNat).map (kys (Mem.of l))),.b true]⟩
def l154 : List (Nat × Ct):=[(70,d70.ct)]
def z154 : Cx:={ T:=ttA,C:=sigs l154,F:=[],hints:=[⟨154,4,false,[(20,.lt),(8,.own 31 kK)],[],[],[],0,0,false⟩],sig:=s154}
def t154 : Tree :=
 (.call 70 [.var 0,.var 1,.var 2,.var 3,.var 4,.var 6] 7
 (.loop 9 [.sl 16 [.int .i64,.int .i64],.int .i64] [.nil,.int 0]
 (.ite (.lt (.var 11) (.len (.var 7)))
 (.need (.le (.int 0) (.var 11))
 (.need (.le (.int 0) (.cell (.var 7) (.var 11) 0))
 (.need (.lt (.cell (.var 7) (.var 11) 0) (.len (.var 0)))
 (.need (.le (.add (.len (.var 10)) (.int 1)) (.int 8796093022208))
 (.need (.fit (.add (.var 11) (.int 1)))
 (.back 9 [.app (.var 10) (.cons (.cell (.var 0) (.cell (.var 7) (.var 11) 0) 1) (.cons (.cell (.var 0) (.cell (.var 7) (.var 11) 0) 2) .row0)),.add (.var 11) (.int 1)]))))))
 (.ret [.var 10,.eq (.var 8) (.int 0)]))))
theorem run154 : run z154 6000 [.code (Try.f154.body.getD .skip),.fin (bt z154 Try.f154.results.toList 50)] { fn:=154,tmps:=z154.sig.aM ++ List.replicate (Try.f154.ntmps - z154.sig.aM.length) (.v (.one .undef)),stk:=[],h:=z154.sig.h0,nx:=z154.sig.ins.length,known:=[]}=t154:=by kernel_rfl
theorem ok154 : cB Try.prog 154 d154.ct:=by
 refine aD (d:=d154) (Z:=z154) (Γ:=gam l154) (fn:=Try.f154) (c:=Try.f154.body.getD .skip) (bg tok mixed (all_cons ok70 all_nil) bh) Try.func154 (by kernel_rfl) (by kernel_rfl) rfl run154 fun E hk hp=>?_
 obtain ⟨hk0,hk1,hk2,hk3,hk4,hk5,hk6,_⟩:=hk
 obtain ⟨m,e0,e1,e2,e3,e4,b0,b1,b2,b3⟩:=cv (d0:=E 0) (d1:=E 1) (d2:=E 2) (d3:=E 3) (d4:=E 4) hk0 hk1 hk2 hk3 hk4
 obtain ⟨ts,e5,hts,b5⟩:=hU (d:=E 5) hk5
 have b5 : ts.length * 160≤140737488355328:=b5
 obtain ⟨x,e6⟩:=ok_int (d:=E 6) hk6
 have el : aH E d154.sig.ins.length=[au m.slots,af m.heads,af m.free,af m.ae,.i m.now,G2 ts,.i x]:=by
  show [E 0,E 1,E 2,E 3,E 4,E 5,E 6]=_
  rw [e0,e1,e2,e3,e4,e5,e6]
 rw [el] at hp
 rw [el]
 rw [Env.bJ el]
 clear el e0 e1 e2 e3 e4 e5 e6
 simp only [d154,mem_of,aA,List.getD_cons_zero,List.getD_cons_succ,CD.aR] at hp ⊢
 obtain ⟨hC,b0,b1⟩:=hp
 obtain ⟨L,hL⟩ : ∃ L,chL m x.toNat=L:=⟨_,rfl⟩
 have hin : ∀ a∈L,0≤a∧a < m.slots.length:=fun a ha=>cW hC (by rw [hL];exact ha)
 have hLl : L.length≤13:=by rw [← hL];exact JS hC (b:=x.toNat) (by omega)
 rw [hL]
 unfold t154
 refine ai d70 [af L,.i 0] rfl trivial (by simp only [nrm,xdn,reduceIte,Nat.reduceLT,Nat.reduceSub,Nat.reduceAdd,fn70,KB hC b0 b1,hL]) ?_
 refine bO (fun ds=>∃ i : Nat,ds=[bS ((L.take i).map (kys m)),.i i]∧i≤L.length) (fun ds=>L.length - (ds.getD 1 .u).int.toNat) ⟨0,rfl,by omega⟩ ?_
 rintro ds - ⟨i,rfl,hi⟩
 refine G0 (fun h=>?_) (fun h=>aj ?_)
 ·simp only [nrm,xdn,reduceIte,Nat.reduceLT,Nat.reduceSub,Nat.reduceAdd,aw] at h
  have hi1 : i < L.length:=by omega
  obtain ⟨a,ha⟩ : ∃ a,L.getD i 0=a:=⟨_,rfl⟩
  have hae : L[i]?=some a:=by
   rw [List.getD_eq_getElem?_getD,List.getElem?_eq_getElem hi1] at ha
   rw [List.getElem?_eq_getElem hi1,← ha];rfl
  obtain ⟨a0,a1⟩:=hin a (List.mem_of_getElem? hae)
  have hc : ((af L).rows.getD i []).getD 0 .u=.i a:=by rw [iK hi1,ha]
  have hk0 : ((au m.slots).rows.getD a.toNat []).getD 1 .u=.i (kys m a).a:=dh bp.row m.slots a.toNat 1 (by omega)
  have hk1 : ((au m.slots).rows.getD a.toNat []).getD 2 .u=.i (kys m a).b:=dh bp.row m.slots a.toNat 2 (by omega)
  have ht : (L.take i).length=i:=by rw [List.length_take];omega
  refine ag (by simp only [nrm,xdn,reduceIte,Nat.reduceLT,Nat.reduceSub,Nat.reduceAdd];omega) (ag (by simp only [nrm,xdn,reduceIte,Nat.reduceLT,Nat.reduceSub,Nat.reduceAdd,Int.toNat_natCast,hc];omega) (ag (by simp only [nrm,xdn,reduceIte,Nat.reduceLT,Nat.reduceSub,Nat.reduceAdd,Int.toNat_natCast,hc,aN];omega) (ag (by simp only [nrm,xdn,reduceIte,Nat.reduceLT,Nat.reduceSub,Nat.reduceAdd,bX,List.length_map,ht];omega) (G1 (by simp only [nrm,xdn,reduceIte,Nat.reduceLT,Nat.reduceSub,Nat.reduceAdd];omega) (aV ⟨⟨i + 1,?_,by omega⟩,?_⟩)))))
  ·simp only [nrm,xdn,reduceIte,Nat.reduceLT,Nat.reduceSub,Nat.reduceAdd,Int.toNat_natCast,hc,hk0,hk1]
   have:=M3 ((L.take i).map (kys m)) [kys m a]
   rw [show (L.take (i + 1)).map (kys m)=(L.take i).map (kys m) ++ [kys m a] by rw [List.take_add_one,hae];simp,← this]
   rfl
  ·simp only [nrm,xdn,reduceIte,Nat.reduceLT,Nat.reduceSub,Nat.reduceAdd];omega
 ·simp only [nrm,xdn,reduceIte,Nat.reduceLT,Nat.reduceSub,Nat.reduceAdd,aw] at h ⊢
  rw [List.take_of_length_le (by omega)]
  rfl
theorem Ky {v : Wrd} (h : Inv v) (hm : v.bm=v) (l : List Pik) : ∀ i,(wAt v l i).m.heads.length=v.m.heads.length
 | 0=>rfl
 | i + 1=>by
  have ih:=Ky h hm l i
  obtain ⟨h1,_⟩:=Ji h hm l i
  show (Iq (wAt v l i) _).m.heads.length=_
  unfold Iq
  split
  ·exact ih
  ·exact ((BQ h1 _).lens h1.ch).2.1.trans ih
theorem Ln {W : Nat→Wrd} {fr n : Nat} {p : Pst} (h : LO (W fr).m (JL W fr (n + 1)) p) (hk : p.c.kind=4∨p.c.kind=5) : 0≤p.c.bucket∧p.c.bucket < (W (fr + n + 1)).m.heads.length∧(p.c.kind=5→p.keys=(chL (W (fr + n + 1)).m p.c.bucket.toNat).map (kys (W (fr + n + 1)).m))∧(p.c.kind=4→∀ a∈chL (W (fr + n + 1)).m p.c.bucket.toNat,(W fr).m.now < (bu (W (fr + n + 1)).m a).till):=by
 obtain ⟨y,s,e,h1,h2,h3,h4⟩:=h hk
 have : (W (fr + n + 1)).m=y:=(List.cons.inj e).1
 rw [this]
 exact ⟨h1,h2,h3,h4⟩
theorem Mg {m y : Mem} (hC : aK m) (hy : aK y) (hh : y.heads.length=m.heads.length) {b : Int} (b0 : 0≤b) (b1 : b < m.heads.length) (h : ∀ a∈chL y b.toNat,m.now < (bu y a).till) {x : cI} (hx : x∈aq m) (ht : x.till≤m.now) (hs : x.slot∈chL m b.toNat) : x ∉ aq y:=fun hf=>by
 obtain ⟨_,_,p3,_,_,_,_⟩:=jj hC hx
 obtain ⟨_,_,_,q4,_,_,q7⟩:=jj hy hf
 have hb:=((hC.ch (b:=b.toNat) (by omega)).ok _ hs).bk
 rw [p3] at hb
 have hb' : bk y x.k=b:=by
  unfold bk at hb ⊢
  rw [hh,hb];omega
 rw [hb'] at q7
 have:=h _ q7
 rw [← q4] at this
 omega
end Go.Proofs.Ytpmamacjepcdmaa
