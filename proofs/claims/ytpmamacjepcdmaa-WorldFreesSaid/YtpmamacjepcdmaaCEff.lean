import Derived.Test.YtpmamacjepcdmaaCInv7
namespace Go.Proofs.Ytpmamacjepcdmaa
open Go Go.Sy Go.RowKit
set_option linter.unusedSimpArgs false
set_option linter.unusedVariables false
def Ins {α : Type} (f : α) (l l' : List α) : Prop:=∃ p s,l=p ++ s∧l'=p ++ f :: s
theorem Ins.app {α : Type} {f : α} {l l' : List α} (h : Ins f l l') (a b : List α) : Ins f (a ++ l ++ b) (a ++ l' ++ b):=by
 obtain ⟨p,s,rfl,rfl⟩:=h
 exact ⟨a ++ p,s ++ b,by simp,by simp⟩
def cat (m : Mem) : Nat→Nat→List cI
 | 0,_=>[]
 | n + 1,b=>(chL m b).map (bu m) ++ cat m n (b + 1)
theorem nQ {m : Mem} : ∀ {n b : Nat} {acc : List cI},bC m n b acc=acc ++ cat m n b
 | 0,b,acc=>by simp [bC,cat]
 | n + 1,b,acc=>by
  rw [bC,nQ]
  simp only [cat,chL,List.append_assoc]
theorem gN (m : Mem) : aq m=cat m m.heads.length 0:=by
 unfold aq
 rw [nQ];rfl
theorem pO {m y : Mem} : ∀ {n b : Nat},(∀ i,b≤i→i < b + n→(chL y i).map (bu y)=(chL m i).map (bu m))→cat y n b=cat m n b
 | 0,_,_=>rfl
 | n + 1,b,h=>by
  simp only [cat]
  rw [h b (Nat.le_refl _) (by omega),pO fun i h1 h2=>h i (by omega) (by omega)]
theorem K8 {m y : Mem} {B : Nat} {f : cI} : ∀ {n b : Nat},b≤B→B < b + n→Ins f ((chL m B).map (bu m)) ((chL y B).map (bu y))→(∀ i,b≤i→i < b + n→i≠B→(chL y i).map (bu y)=(chL m i).map (bu m))→Ins f (cat m n b) (cat y n b)
 | 0,b,h1,h2,_,_=>by omega
 | n + 1,b,h1,h2,h3,h4=>by
  simp only [cat]
  by_cases e : b=B
  ·subst e
   rw [pO (m:=m) (y:=y) fun i g1 g2=>h4 i (by omega) (by omega) (by omega)]
   have:=h3.app [] (cat m n (b + 1))
   simpa using this
  ·rw [h4 b (Nat.le_refl _) (by omega) e]
   have:=(K8 (n:=n) (b:=b + 1) (by omega) (by omega) h3 fun i g1 g2 g3=>h4 i (by omega) (by omega) g3).app ((chL m b).map (bu m)) []
   simpa using this
structure Eff (m y : Mem) : Prop where
 len : y.slots.length=m.slots.length
 fl : aq y=aq m∨(∃ f,Ins f (aq m) (aq y))∨∃ f,Ins f (aq y) (aq m)
 sl : ∀ k,k < m.slots.length→0 < (msl m k).refs→0 < (msl y k).refs→(msl y k).k=(msl m k).k∧(msl y k).till=(msl m k).till∧(msl y k).refs≤(msl m k).refs + 1∧(msl m k).refs - 1≤(msl y k).refs
 now : m.now≤y.now
theorem Eff.same {m : Mem} : Eff m m:=⟨rfl,.inl rfl,fun _ _ _ _=>⟨rfl,rfl,by omega,by omega⟩,Int.le_refl _⟩
theorem Dt {m y : Mem} {l l' : List Int} (e : l'=l) (h : ∀ a∈l,(msl y a.toNat).k=(msl m a.toNat).k∧(msl y a.toNat).till=(msl m a.toNat).till) : l'.map (bu y)=l.map (bu m):=by
 subst e
 exact List.map_congr_left fun a ha=>ib (h a ha).1 (h a ha).2
theorem Eff.fa {m y : Mem} (hl : y.slots.length=m.slots.length) (hh : y.heads.length=m.heads.length) (hc : ∀ b,b < m.heads.length→chL y b=chL m b) (hk : ∀ b,b < m.heads.length→∀ a∈chL m b,(msl y a.toNat).k=(msl m a.toNat).k∧(msl y a.toNat).till=(msl m a.toNat).till)
  (hs : ∀ k,k < m.slots.length→0 < (msl m k).refs→0 < (msl y k).refs→(msl y k).k=(msl m k).k∧(msl y k).till=(msl m k).till∧(msl y k).refs≤(msl m k).refs + 1∧(msl m k).refs - 1≤(msl y k).refs) (hn : m.now≤y.now) : Eff m y :=
 ⟨hl,.inl (by rw [gN,gN,hh];exact pO fun i _ g=>Dt (hc i (by omega)) (hk i (by omega))),hs,hn⟩
theorem Eff.ae {m : Mem} {l : List Int} : Eff m { m with ae:=l} :=
 Eff.fa rfl rfl (fun b _=>qA m l b) (fun _ _ _ _=>⟨rfl,rfl⟩) (fun _ _ _ _=>⟨rfl,rfl,by show (msl m _).refs≤_;omega,by show _≤(msl m _).refs;omega⟩) (Int.le_refl _)
theorem Eff.refs {m y : Mem} (hC : aK m) (hy : bB y) {a d : Int} (h0 : 0≤a) (h1 : a < m.slots.length) (hd : d=1∨d=-1) (hs : y.slots=m.slots.modify a.toNat (bx d)) (hh : y.heads=m.heads) (hn : y.now=m.now) (hr : (∃ b,b < m.heads.length∧a∈chL m b)→(msl m a.toNat).refs + d≠0) : Eff m y:=by
 obtain ⟨_,c2⟩:=gX hC hy h0 h1 hs hh hr
 have hm : ∀ j,msl y j=if a.toNat=j then bx d (msl m a.toNat) else msl m j:=fun j=>gn hs (by omega) j
 have hk : ∀ j,(msl y j).k=(msl m j).k∧(msl y j).till=(msl m j).till:=fun j=>by
  rw [hm];split
  ·rename_i e;rw [← e];exact ⟨rfl,rfl⟩
  ·exact ⟨rfl,rfl⟩
 refine Eff.fa (by rw [hs];simp) (by rw [hh]) c2 (fun _ _ a _=>hk a.toNat) (fun k _ _ _=>⟨(hk k).1,(hk k).2,?_⟩) (by rw [hn];exact Int.le_refl _)
 rw [hm];split
 ·rename_i e
  rw [← e]
  show (msl m a.toNat).refs + d≤_∧_≤(msl m a.toNat).refs + d
  omega
 ·omega
theorem IZ {w : Wrd} (h : Inv w) {a : Int} (a0 : 0≤a) (a1 : a < w.m.slots.length) (hr : (fK w.m a : Int) + 1≤(msl w.m a.toNat).refs) : Eff w.m (put w.m a):=by
 obtain ⟨u1,u2,u3,u4⟩:=fQ (m:=w.m) (a:=a) (by omega)
 exact Eff.refs h.ch (iY h.ch.mem a0 a1) a0 a1 (.inr rfl) u1 u2 u4 fun ⟨b,hb1,hb2⟩=>by have:=HU hb1 hb2;omega
theorem I9 (m : Mem) (b x : Int) : Eff m (unlock m b x):=by
 obtain ⟨l,h,_⟩:=pU m b x
 rw [h];exact Eff.ae
theorem Kk (m : Mem) (b x : Int) : Eff m (lock m b x).1:=by
 rcases dA m b x with ⟨h,_⟩ | h
 ·rw [h];exact Eff.ae
 ·rw [h];exact Eff.same
theorem L8 {m y : Mem} (hC : aK m) {B : Nat} (hB : B < m.heads.length) {l1 l3 : List Int} {a p : Int} (e : chL m B=l1 ++ a :: l3) (hp : p=jJ l1) (hy : y=cut m p a B) (hn : y.now=m.now) : Eff m y:=by
 obtain ⟨d1,d2,d3,d4,d5,d6⟩:=kp hC hB e hp hy
 have hk : ∀ j,(msl y j).k=(msl m j).k∧(msl y j).till=(msl m j).till:=fun j=>⟨(d4 j).2.1,(d4 j).2.2.1⟩
 refine ⟨d5,.inr (.inr ⟨bu m a,?_⟩),fun k _ _ _=>⟨(hk k).1,(hk k).2,by rw [(d4 k).1];omega,by rw [(d4 k).1];omega⟩,by rw [hn];exact Int.le_refl _⟩
 rw [gN,gN,d6]
 refine K8 (m:=y) (y:=m) (B:=B) (by omega) (by omega) ⟨l1.map (bu m),l3.map (bu m),?_,?_⟩ fun i _ g hne=>(Dt (d3 i (by omega) hne) fun a _=>hk a.toNat).symm
 ·rw [d2,List.map_append]
  rw [Dt (m:=m) (y:=y) (l:=l1) rfl fun a _=>hk a.toNat,Dt (m:=m) (y:=y) (l:=l3) rfl fun a _=>hk a.toNat]
 ·rw [e];simp
theorem Fl (m : Mem) (p a b : Int) : (cut m p a b).now=m.now:=by
 unfold cut
 repeat' split
 all_goals rfl
theorem MW {w : Wrd} (h : Inv w) {x : Int} (hx0 : 0≤x) (hx : x < w.ts.length) (hb : (tsk w x).busy=true) (hk : (tsk w x).f.c.kind=3) : Eff w.m (aL w.m (tsk w x).f x).2:=by
 obtain ⟨hf,hF,hd⟩:=fe h hx0 hx hb
 have hbr:=aQ h.ch.mem.rJ hf.call (by omega)
 obtain ⟨B,hB⟩ : ∃ B : Nat,aa w.m (tsk w x).f.c=B:=⟨(aa w.m (tsk w x).f.c).toNat,by omega⟩
 have hBl : B < w.m.heads.length:=by omega
 have hch : chF w.m (tsk w x).f=chL w.m B:=by unfold chF;rw [hB];rfl
 have n7 : cr (tsk w x)=(tsk w x).f.slot:=dj hb (by omega)
 have hs1:=hf.slot1
 generalize hfe : (tsk w x).f=f at *
 unfold aL
 by_cases e4 : f.pc=4∧0 < f.cur
 ·rw [if_neg (by omega),if_neg (by omega),if_neg (by omega),if_neg (by omega),if_pos e4]
  obtain ⟨⟨l1,l2,s1,s2,s3⟩,hcu⟩:=hF.drop2 hk (by omega) (by omega)
  rw [hB] at s2
  rw [hch] at s1
  obtain ⟨a,l3,c1,c2,c3,c4,c5⟩:=jA h.ch hBl s1 (by rw [← s2];omega)
  have hca : f.cur - 1=a:=by omega
  show Eff w.m (cut w.m f.prev (f.cur - 1) (aa w.m f.c))
  rw [hca,hB]
  exact L8 h.ch hBl (show chL w.m B=l1 ++ a :: l3 by rw [s1,c1]) s3 rfl (Fl _ _ _ _)
 ·repeat' split
  all_goals first
   | exact absurd (by assumption) e4
   | exact Eff.same
   | exact Kk _ _ _
   | exact I9 _ _ _
   | exact IZ h (by assumption) (by omega) (Hg h hx0 hx n7 (by assumption) (by omega))
theorem Mh {w : Wrd} (h : Inv w) {x : Int} (hx0 : 0≤x) (hx : x < w.ts.length) (hb : (tsk w x).busy=true) (hk : (tsk w x).f.c.kind=4∨(tsk w x).f.c.kind=5) : Eff w.m (aB w.m (tsk w x).f x).2:=by
 obtain ⟨hf,hF,hd⟩:=fe h hx0 hx hb
 have hbr:=aQ h.ch.mem.rJ hf.call (by omega)
 obtain ⟨B,hB⟩ : ∃ B : Nat,aa w.m (tsk w x).f.c=B:=⟨(aa w.m (tsk w x).f.c).toNat,by omega⟩
 have hBl : B < w.m.heads.length:=by omega
 have hch : chF w.m (tsk w x).f=chL w.m B:=by unfold chF;rw [hB];rfl
 have n7 : cr (tsk w x)=(tsk w x).f.slot:=dj hb (by omega)
 have hs1:=hf.slot1
 generalize hfe : (tsk w x).f=f at *
 unfold aB
 by_cases e4 : f.pc=4∧0 < f.cur
 ·rw [if_neg (by omega),if_neg (by omega),if_neg (by omega),if_neg (by omega),if_neg (by omega),if_neg (by omega),if_pos e4]
  obtain ⟨⟨l1,l2,s1,s2,s3⟩,hcu⟩:=hF.sweep2 hk (by omega) (by omega)
  rw [hB] at s2
  rw [hch] at s1
  obtain ⟨a,l3,c1,c2,c3,c4,c5⟩:=jA h.ch hBl s1 (by rw [← s2];omega)
  have hca : f.cur - 1=a:=by omega
  show Eff w.m (cut w.m f.prev (f.cur - 1) (aa w.m f.c))
  rw [hca,hB]
  exact L8 h.ch hBl (show chL w.m B=l1 ++ a :: l3 by rw [s1,c1]) s3 rfl (Fl _ _ _ _)
 ·repeat' split
  all_goals first
   | exact absurd (by assumption) e4
   | exact Eff.same
   | exact Kk _ _ _
   | exact I9 _ _ _
   | (have e5 : f.pc=5∧0≤f.slot:=(by assumption);exact IZ h e5.2 (by omega) (Hg h hx0 hx n7 e5.2 (by omega)))
theorem Lk {w : Wrd} (h : Inv w) {x : Int} (hx0 : 0≤x) (hx : x < w.ts.length) (hb : (tsk w x).busy=true) (hk : (tsk w x).f.c.kind=1) : Eff w.m (ar w.m (tsk w x).f).2:=by
 obtain ⟨hf,hF,hd⟩:=fe h hx0 hx hb
 have n7 : cr (tsk w x)=(tsk w x).f.slot:=dj hb (by omega)
 have hs1:=hf.slot1
 have hc1:=hf.cur1
 generalize hfe : (tsk w x).f=f at *
 unfold ar
 by_cases e3 : f.pc=3∧0 < f.cur
 ·rw [if_neg (by omega),if_neg (by omega),if_neg (by omega),if_neg (by omega),if_pos e3]
  rcases oD w.m (f.cur - 1) with ⟨k1,k2⟩ | ⟨k1,k2⟩
  ·rw [k1,if_neg (by decide)];exact Eff.same
  ·rw [k1,if_pos rfl]
   have hr0 : 0≤(msl w.m (f.cur - 1).toNat).refs:=(h.ch.mem.sl (i:=(f.cur - 1).toNat) (by omega)).r0
   show Eff w.m (hold w.m (f.cur - 1)).1
   exact Eff.refs h.ch (we h.ch.mem (by omega) (by omega)) (a:=f.cur - 1) (d:=1) (by omega) (by omega) (.inl rfl) (by rw [k2]) (by rw [k2]) (by rw [k2]) fun _=>by omega
 ·repeat' split
  all_goals first
   | exact absurd (by assumption) e3
   | exact Eff.same
   | (have e5 : f.pc=5∧0≤f.slot:=(by assumption);exact IZ h e5.2 (by omega) (Hg h hx0 hx n7 e5.2 (by omega)))
   | (have e5 : f.pc=6∧0≤f.slot:=(by assumption);exact IZ h e5.2 (by omega) (Hg h hx0 hx n7 e5.2 (by omega)))
theorem CG (m : Mem) (k : Key) (t : Int) : (take m k t).1.now=m.now:=by
 unfold take
 split <;> rfl
theorem Nq {w : Wrd} (h : Inv w) {x : Int} (hx0 : 0≤x) (hx : x < w.ts.length) (hb : (tsk w x).busy=true) (hk : (tsk w x).f.c.kind=2) : Eff w.m (G3 w.m (tsk w x).f x).2:=by
 obtain ⟨hf,hF,hd⟩:=fe h hx0 hx hb
 have hbr:=aQ h.ch.mem.rJ hf.call (by omega)
 have ek : aa w.m (tsk w x).f.c=bk w.m (tsk w x).f.c.k:=by unfold aa bk;rw [if_neg (by omega)]
 obtain ⟨B,hB⟩ : ∃ B : Nat,aa w.m (tsk w x).f.c=B:=⟨(aa w.m (tsk w x).f.c).toNat,by omega⟩
 have hBl : B < w.m.heads.length:=by omega
 have hch : chF w.m (tsk w x).f=chL w.m B:=by unfold chF;rw [hB];rfl
 have n7 : (tsk w x).f.pc≠7→cr (tsk w x)=(tsk w x).f.slot:=fun e=>dj hb (by omega)
 have hs1:=hf.slot1
 generalize hfe : (tsk w x).f=f at *
 unfold G3
 by_cases e0 : f.pc=0
 ·rw [if_pos e0]
  split
  ·exact Eff.same
  ·rename_i ht
   have ht : (take w.m f.c.k (bE w.m f)).2.2=0:=Classical.not_not.1 ht
   have hct:=nv hf.call hk
   have hkk : Key.Ok f.c.k:=by
    have:=hf.call
    unfold bf at this
    rw [if_neg (by omega),if_pos hk] at this
    split at this
    ·cases this
    ·exact (gA _).1 this
   have n0:=h.ch.mem.ma
   have n1:=h.ch.mem.Ik
   obtain ⟨t1,t2,t3,t4,t5,t6,t7,t8,t9,t10⟩:=qI h.ch (k:=f.c.k) (t:=bE w.m f) hkk (by unfold bE;split <;> omega) (by unfold bE;split <;> omega) ht
   have hms : ∀ j,msl (take w.m f.c.k (bE w.m f)).1 j=if (bc w.m).toNat=j then cp f.c.k (bE w.m f) (msl w.m (bc w.m).toNat) else msl w.m j:=fun j=>gn t5 (by omega) j
   refine Eff.fa (by rw [t5];simp) (by rw [t6]) t9 (fun b hb c hc=>?_) (fun k hk h1 h2=>?_) (by rw [CG];exact Int.le_refl _)
   ·have hne : bc w.m≠c:=fun e=>t10 b hb (by rw [e];exact hc)
    have:=(cW h.ch hc).1
    rw [hms,if_neg (by omega)]
    exact ⟨rfl,rfl⟩
   ·have hne : (bc w.m).toNat≠k:=fun e=>by rw [e] at t3;omega
    rw [hms,if_neg hne]
    exact ⟨rfl,rfl,by omega,by omega⟩
 rw [if_neg e0]
 by_cases e5 : f.pc=5∧0≤f.slot
 ·rw [if_neg (by omega),if_neg (by omega),if_neg (by omega),if_neg (by omega),if_pos e5]
  obtain ⟨q1,q2,q3⟩:=hF.add1 hk (by omega) (by omega)
  have r5:=hF.add5 hk e5.1
  have ha1 : f.slot < w.m.slots.length:=by omega
  have hre:=Hg h hx0 hx (a:=f.slot) (n7 (by omega)) q1 ha1
  have hbk : aa w.m f.c=bk w.m (kys w.m f.slot):=by rw [ek,q2]
  have hbn : (bk w.m (kys w.m f.slot)).toNat=B:=by rw [← hbk,hB];rfl
  obtain ⟨c1,c2,c3⟩:=vZ h.ch q1 ha1 (by omega) (fun c hc=>by rw [hbn] at hc;rw [q2];exact r5 c (by rw [hch];exact hc))
  show Eff w.m (link w.m f.slot (aa w.m f.c))
  rw [hbk]
  generalize hy : link w.m f.slot (bk w.m (kys w.m f.slot))=y at *
  have yl : y.slots.length=w.m.slots.length:=by rw [← hy];simp [link]
  have yh : y.heads.length=w.m.heads.length:=by rw [← hy];simp [link]
  have yn : y.now=w.m.now:=by rw [← hy];rfl
  have hk : ∀ j,(msl y j).k=(msl w.m j).k∧(msl y j).till=(msl w.m j).till∧(msl y j).refs=(msl w.m j).refs:=fun j=>by
   rw [c3];split <;> exact ⟨rfl,rfl,rfl⟩
  have hcB : chL y B=f.slot :: chL w.m B:=by
   have:=c2 B hBl
   rwa [if_pos (by rw [← hbk,hB])] at this
  have hco : ∀ i,i < w.m.heads.length→i≠B→chL y i=chL w.m i:=fun i hi hne=>by
   have:=c2 i hi
   rwa [if_neg (by rw [← hbk,hB];omega)] at this
  refine ⟨yl,.inr (.inl ⟨bu y f.slot,?_⟩),fun k _ _ _=>⟨(hk k).1,(hk k).2.1,by rw [(hk k).2.2];omega,by rw [(hk k).2.2];omega⟩,by rw [yn];exact Int.le_refl _⟩
  rw [gN,gN,yh]
  refine K8 (m:=w.m) (y:=y) (B:=B) (by omega) (by omega) ⟨[],(chL w.m B).map (bu w.m),rfl,?_⟩ fun i _ g hne=>Dt (hco i (by omega) hne) fun a _=>⟨(hk a.toNat).1,(hk a.toNat).2.1⟩
  rw [hcB,List.map_cons,Dt (m:=w.m) (y:=y) (l:=chL w.m B) rfl fun a _=>⟨(hk a.toNat).1,(hk a.toNat).2.1⟩];rfl
 ·repeat' split
  all_goals first
   | exact absurd (by assumption) e5
   | exact Eff.same
   | exact Kk _ _ _
   | exact I9 _ _ _
   | (have e6 : f.pc=6∧0≤f.slot:=(by assumption);exact IZ h e6.2 (by omega) (Hg h hx0 hx (n7 (by omega)) e6.2 (by omega)))
theorem MM {w : Wrd} (h : Inv w) (x : Pik) : Eff w.m (bN w x).1.m:=by
 unfold bN
 split
 ·split
  ·exact Eff.same
  ·rename_i hn
   have hm:=h.ch.mem
   have hy : bB { w.m with now:=w.m.now + 1}:=(wQ h hn).ch.mem
   obtain ⟨_,c2⟩:=jC h.ch hy rfl rfl (fun _=>rfl) fun b hb a ha=>⟨((h.ch.ch hb).ok a ha).refs,rfl,rfl⟩
   exact Eff.fa rfl rfl c2 (fun _ _ _ _=>⟨rfl,rfl⟩) (fun k _ _ _=>⟨rfl,rfl,by show (msl w.m k).refs≤_;omega,by show _≤(msl w.m k).refs;omega⟩) (by show w.m.now≤w.m.now + 1;omega)
 split
 ·exact Eff.same
 rename_i hr
 have hx0 : 0≤x.task:=by omega
 have hx : x.task < w.ts.length:=by omega
 split
 ·unfold cN
  split
  ·exact Eff.same
  rename_i hb
  have hb : (tsk w x.task).busy=true:=by simpa using hb
  have hf:=h.fo _ (Hf hx0 hx) hb
  split
  ·rename_i hk
   split
   ·exact Lk h hx0 hx hb hk
   ·exact Lk h hx0 hx hb hk
  split
  ·rename_i _ hk;exact Nq h hx0 hx hb hk
  split
  ·rename_i _ _ hk;exact MW h hx0 hx hb hk
  split
  ·rename_i _ _ _ hk;exact Mh h hx0 hx hb hk
  split
  ·rename_i hi
   obtain ⟨j,h1,l1,l2,h2,h3⟩:=lf hi
   have hin : (tsk w x.task).f.c.slot∈(tsk w x.task).held:=by rw [h2];simp
   obtain ⟨s0,s1⟩:=(h.hd _ (Hf hx0 hx)).2.2 _ hin
   refine IZ h s0 s1 ?_
   have q1:=h.rf (tsk w x.task).f.c.slot.toNat (by omega)
   have q2:=vD (k:=(tsk w x.task).f.c.slot) (Hf hx0 hx)
   have hc : (1 : Int)≤((tsk w x.task).held.count (tsk w x.task).f.c.slot : Int):=by
    have:=List.count_pos_iff.2 hin
    omega
   rw [show (((tsk w x.task).f.c.slot.toNat : Nat) : Int)=(tsk w x.task).f.c.slot by omega] at q1
   have q3 : 1≤fv (tsk w x.task).f.c.slot (tsk w x.task):=by unfold fv;split <;> omega
   omega
  ·exact Eff.same
 ·unfold eR
  repeat' split
  all_goals exact Eff.same
end Go.Proofs.Ytpmamacjepcdmaa
