import Derived.Test.YtpmamacjepcdmaaCInv7
namespace Go.Proofs.Ytpmamacjepcdmaa
open Go Go.Sy Go.RowKit
set_option linter.unusedSimpArgs false
set_option linter.unusedVariables false
def Ins {α : Type} (f : α) (l l' : List α) : Prop:=∃ p s,l=p ++ s∧l'=p ++ f :: s
theorem Ins.app {α : Type} {f : α} {l l' : List α} (h : Ins f l l') (a b : List α) : Ins f (a ++ l ++ b) (a ++ l' ++ b):=by
 obtain ⟨p,s,rfl,rfl⟩:=h
 exact ⟨a ++ p,s ++ b,by simp,by simp⟩
def cat (m : Mem) : Nat→Nat→List iq
 | 0,_=>[]
 | n + 1,b=>(chL m b).map (rh m) ++ cat m n (b + 1)
theorem CV {m : Mem} : ∀ {n b : Nat} {acc : List iq},kl m n b acc=acc ++ cat m n b
 | 0,b,acc=>by simp [kl,cat]
 | n + 1,b,acc=>by
  rw [kl,CV]
  simp only [cat,chL,List.append_assoc]
theorem CQ (m : Mem) : u7 m=cat m m.heads.length 0:=by
 unfold u7
 rw [CV];rfl
theorem C1 {m y : Mem} : ∀ {n b : Nat},(∀ i,b≤i→i < b + n→(chL y i).map (rh y)=(chL m i).map (rh m))→cat y n b=cat m n b
 | 0,_,_=>rfl
 | n + 1,b,h=>by
  simp only [cat]
  rw [h b (Nat.le_refl _) (by omega),C1 fun i h1 h2=>h i (by omega) (by omega)]
theorem C4 {m y : Mem} {B : Nat} {f : iq} : ∀ {n b : Nat},b≤B→B < b + n→Ins f ((chL m B).map (rh m)) ((chL y B).map (rh y))→(∀ i,b≤i→i < b + n→i≠B→(chL y i).map (rh y)=(chL m i).map (rh m))→Ins f (cat m n b) (cat y n b)
 | 0,b,h1,h2,_,_=>by omega
 | n + 1,b,h1,h2,h3,h4=>by
  simp only [cat]
  by_cases e : b=B
  ·subst e
   rw [C1 (m:=m) (y:=y) fun i g1 g2=>h4 i (by omega) (by omega) (by omega)]
   have:=h3.app [] (cat m n (b + 1))
   simpa using this
  ·rw [h4 b (Nat.le_refl _) (by omega) e]
   have:=(C4 (n:=n) (b:=b + 1) (by omega) (by omega) h3 fun i g1 g2 g3=>h4 i (by omega) (by omega) g3).app ((chL m b).map (rh m)) []
   simpa using this
structure Eff (m y : Mem) : Prop where
 len : y.slots.length=m.slots.length
 fl : u7 y=u7 m∨(∃ f,Ins f (u7 m) (u7 y))∨∃ f,Ins f (u7 y) (u7 m)
 sl : ∀ k,k < m.slots.length→0 < (msl m k).refs→0 < (msl y k).refs→(msl y k).k=(msl m k).k∧(msl y k).till=(msl m k).till∧(msl y k).refs≤(msl m k).refs + 1∧(msl m k).refs - 1≤(msl y k).refs
 now : m.now≤y.now
theorem Eff.same {m : Mem} : Eff m m:=⟨rfl,.inl rfl,fun _ _ _ _=>⟨rfl,rfl,by omega,by omega⟩,Int.le_refl _⟩
theorem CR {m y : Mem} {l l' : List Int} (e : l'=l) (h : ∀ a∈l,(msl y a.toNat).k=(msl m a.toNat).k∧(msl y a.toNat).till=(msl m a.toNat).till) : l'.map (rh y)=l.map (rh m):=by
 subst e
 exact List.map_congr_left fun a ha=>C6 (h a ha).1 (h a ha).2
theorem Eff.fU {m y : Mem} (hl : y.slots.length=m.slots.length) (hh : y.heads.length=m.heads.length) (hc : ∀ b,b < m.heads.length→chL y b=chL m b) (hk : ∀ b,b < m.heads.length→∀ a∈chL m b,(msl y a.toNat).k=(msl m a.toNat).k∧(msl y a.toNat).till=(msl m a.toNat).till)
  (hs : ∀ k,k < m.slots.length→0 < (msl m k).refs→0 < (msl y k).refs→(msl y k).k=(msl m k).k∧(msl y k).till=(msl m k).till∧(msl y k).refs≤(msl m k).refs + 1∧(msl m k).refs - 1≤(msl y k).refs) (hn : m.now≤y.now) : Eff m y :=
 ⟨hl,.inl (by rw [CQ,CQ,hh];exact C1 fun i _ g=>CR (hc i (by omega)) (hk i (by omega))),hs,hn⟩
theorem Eff.kM {m : Mem} {l : List Int} : Eff m { m with kM:=l} :=
 Eff.fU rfl rfl (fun b _=>Cs m l b) (fun _ _ _ _=>⟨rfl,rfl⟩) (fun _ _ _ _=>⟨rfl,rfl,by show (msl m _).refs≤_;omega,by show _≤(msl m _).refs;omega⟩) (Int.le_refl _)
theorem Eff.refs {m y : Mem} (hC : tf m) (hy : cr y) {a d : Int} (h0 : 0≤a) (h1 : a < m.slots.length) (hd : d=1∨d=-1) (hs : y.slots=m.slots.modify a.toNat (eg d)) (hh : y.heads=m.heads) (hn : y.now=m.now) (hr : (∃ b,b < m.heads.length∧a∈chL m b)→(msl m a.toNat).refs + d≠0) : Eff m y:=by
 obtain ⟨_,c2⟩:=By hC hy h0 h1 hs hh hr
 have hm : ∀ j,msl y j=if a.toNat=j then eg d (msl m a.toNat) else msl m j:=fun j=>Bn hs (by omega) j
 have hk : ∀ j,(msl y j).k=(msl m j).k∧(msl y j).till=(msl m j).till:=fun j=>by
  rw [hm];split
  ·rename_i e;rw [← e];exact ⟨rfl,rfl⟩
  ·exact ⟨rfl,rfl⟩
 refine Eff.fU (by rw [hs];simp) (by rw [hh]) c2 (fun _ _ a _=>hk a.toNat) (fun k _ _ _=>⟨(hk k).1,(hk k).2,?_⟩) (by rw [hn];exact Int.le_refl _)
 rw [hm];split
 ·rename_i e
  rw [← e]
  show (msl m a.toNat).refs + d≤_∧_≤(msl m a.toNat).refs + d
  omega
 ·omega
theorem CU {w : Wrd} (h : Inv w) {a : Int} (a0 : 0≤a) (a1 : a < w.m.slots.length) (hr : (Ak w.m a : Int) + 1≤(msl w.m a.toNat).refs) : Eff w.m (put w.m a):=by
 obtain ⟨u1,u2,u3,u4⟩:=AP (m:=w.m) (a:=a) (by omega)
 exact Eff.refs h.ch (A6 h.ch.mem a0 a1) a0 a1 (.inr rfl) u1 u2 u4 fun ⟨b,hb1,hb2⟩=>by have:=AU hb1 hb2;omega
theorem CW (m : Mem) (b x : Int) : Eff m (unlock m b x):=by
 obtain ⟨l,h,_⟩:=BQ m b x
 rw [h];exact Eff.kM
theorem CZ (m : Mem) (b x : Int) : Eff m (lock m b x).1:=by
 rcases yY m b x with ⟨h,_⟩ | h
 ·rw [h];exact Eff.kM
 ·rw [h];exact Eff.same
theorem Da {m y : Mem} (hC : tf m) {B : Nat} (hB : B < m.heads.length) {l1 l3 : List Int} {a p : Int} (e : chL m B=l1 ++ a :: l3) (hp : p=BJ l1) (hy : y=cut m p a B) (hn : y.now=m.now) : Eff m y:=by
 obtain ⟨d1,d2,d3,d4,d5,d6⟩:=BT hC hB e hp hy
 have hk : ∀ j,(msl y j).k=(msl m j).k∧(msl y j).till=(msl m j).till:=fun j=>⟨(d4 j).2.1,(d4 j).2.2.1⟩
 refine ⟨d5,.inr (.inr ⟨rh m a,?_⟩),fun k _ _ _=>⟨(hk k).1,(hk k).2,by rw [(d4 k).1];omega,by rw [(d4 k).1];omega⟩,by rw [hn];exact Int.le_refl _⟩
 rw [CQ,CQ,d6]
 refine C4 (m:=y) (y:=m) (B:=B) (by omega) (by omega) ⟨l1.map (rh m),l3.map (rh m),?_,?_⟩ fun i _ g hne=>(CR (d3 i (by omega) hne) fun a _=>hk a.toNat).symm
 ·rw [d2,List.map_append]
  rw [CR (m:=m) (y:=y) (l:=l1) rfl fun a _=>hk a.toNat,CR (m:=m) (y:=y) (l:=l3) rfl fun a _=>hk a.toNat]
 ·rw [e];simp
theorem C9 (m : Mem) (p a b : Int) : (cut m p a b).now=m.now:=by
 unfold cut
 repeat' split
 all_goals rfl
theorem Dh {w : Wrd} (h : Inv w) {x : Int} (hx0 : 0≤x) (hx : x < w.ts.length) (hb : (tsk w x).busy=true) (hk : (tsk w x).f.c.kind=3) : Eff w.m (bS w.m (tsk w x).f x).2:=by
 obtain ⟨hf,hF,hd⟩:=AW h hx0 hx hb
 have hbr:=bl h.ch.mem.BU hf.call (by omega)
 obtain ⟨B,hB⟩ : ∃ B : Nat,ay w.m (tsk w x).f.c=B:=⟨(ay w.m (tsk w x).f.c).toNat,by omega⟩
 have hBl : B < w.m.heads.length:=by omega
 have hch : chF w.m (tsk w x).f=chL w.m B:=by unfold chF;rw [hB];rfl
 have n7 : Ao (tsk w x)=(tsk w x).f.slot:=AD hb (by omega)
 have hs1:=hf.slot1
 generalize hfe : (tsk w x).f=f at *
 unfold bS
 by_cases e4 : f.pc=4∧0 < f.cur
 ·rw [if_neg (by omega),if_neg (by omega),if_neg (by omega),if_neg (by omega),if_pos e4]
  obtain ⟨⟨l1,l2,s1,s2,s3⟩,hcu⟩:=hF.drop2 hk (by omega) (by omega)
  rw [hB] at s2
  rw [hch] at s1
  obtain ⟨a,l3,c1,c2,c3,c4,c5⟩:=A9 h.ch hBl s1 (by rw [← s2];omega)
  have hca : f.cur - 1=a:=by omega
  show Eff w.m (cut w.m f.prev (f.cur - 1) (ay w.m f.c))
  rw [hca,hB]
  exact Da h.ch hBl (show chL w.m B=l1 ++ a :: l3 by rw [s1,c1]) s3 rfl (C9 _ _ _ _)
 ·repeat' split
  all_goals first
   | exact absurd (by assumption) e4
   | exact Eff.same
   | exact CZ _ _ _
   | exact CW _ _ _
   | exact CU h (by assumption) (by omega) (AI h hx0 hx n7 (by assumption) (by omega))
theorem Dd {w : Wrd} (h : Inv w) {x : Int} (hx0 : 0≤x) (hx : x < w.ts.length) (hb : (tsk w x).busy=true) (hk : (tsk w x).f.c.kind=4∨(tsk w x).f.c.kind=5) : Eff w.m (bB w.m (tsk w x).f x).2:=by
 obtain ⟨hf,hF,hd⟩:=AW h hx0 hx hb
 have hbr:=bl h.ch.mem.BU hf.call (by omega)
 obtain ⟨B,hB⟩ : ∃ B : Nat,ay w.m (tsk w x).f.c=B:=⟨(ay w.m (tsk w x).f.c).toNat,by omega⟩
 have hBl : B < w.m.heads.length:=by omega
 have hch : chF w.m (tsk w x).f=chL w.m B:=by unfold chF;rw [hB];rfl
 have n7 : Ao (tsk w x)=(tsk w x).f.slot:=AD hb (by omega)
 have hs1:=hf.slot1
 generalize hfe : (tsk w x).f=f at *
 unfold bB
 by_cases e4 : f.pc=4∧0 < f.cur
 ·rw [if_neg (by omega),if_neg (by omega),if_neg (by omega),if_neg (by omega),if_neg (by omega),if_neg (by omega),if_pos e4]
  obtain ⟨⟨l1,l2,s1,s2,s3⟩,hcu⟩:=hF.sweep2 hk (by omega) (by omega)
  rw [hB] at s2
  rw [hch] at s1
  obtain ⟨a,l3,c1,c2,c3,c4,c5⟩:=A9 h.ch hBl s1 (by rw [← s2];omega)
  have hca : f.cur - 1=a:=by omega
  show Eff w.m (cut w.m f.prev (f.cur - 1) (ay w.m f.c))
  rw [hca,hB]
  exact Da h.ch hBl (show chL w.m B=l1 ++ a :: l3 by rw [s1,c1]) s3 rfl (C9 _ _ _ _)
 ·repeat' split
  all_goals first
   | exact absurd (by assumption) e4
   | exact Eff.same
   | exact CZ _ _ _
   | exact CW _ _ _
   | (have e5 : f.pc=5∧0≤f.slot:=(by assumption);exact CU h e5.2 (by omega) (AI h hx0 hx n7 e5.2 (by omega)))
theorem C5 {w : Wrd} (h : Inv w) {x : Int} (hx0 : 0≤x) (hx : x < w.ts.length) (hb : (tsk w x).busy=true) (hk : (tsk w x).f.c.kind=1) : Eff w.m (bw w.m (tsk w x).f).2:=by
 obtain ⟨hf,hF,hd⟩:=AW h hx0 hx hb
 have n7 : Ao (tsk w x)=(tsk w x).f.slot:=AD hb (by omega)
 have hs1:=hf.slot1
 have hc1:=hf.cur1
 generalize hfe : (tsk w x).f=f at *
 unfold bw
 by_cases e3 : f.pc=3∧0 < f.cur
 ·rw [if_neg (by omega),if_neg (by omega),if_neg (by omega),if_neg (by omega),if_pos e3]
  rcases Cd w.m (f.cur - 1) with ⟨k1,k2⟩ | ⟨k1,k2⟩
  ·rw [k1,if_neg (by decide)];exact Eff.same
  ·rw [k1,if_pos rfl]
   have hr0 : 0≤(msl w.m (f.cur - 1).toNat).refs:=(h.ch.mem.sl (i:=(f.cur - 1).toNat) (by omega)).r0
   show Eff w.m (hold w.m (f.cur - 1)).1
   exact Eff.refs h.ch (yM h.ch.mem (by omega) (by omega)) (a:=f.cur - 1) (d:=1) (by omega) (by omega) (.inl rfl) (by rw [k2]) (by rw [k2]) (by rw [k2]) fun _=>by omega
 ·repeat' split
  all_goals first
   | exact absurd (by assumption) e3
   | exact Eff.same
   | (have e5 : f.pc=5∧0≤f.slot:=(by assumption);exact CU h e5.2 (by omega) (AI h hx0 hx n7 e5.2 (by omega)))
   | (have e5 : f.pc=6∧0≤f.slot:=(by assumption);exact CU h e5.2 (by omega) (AI h hx0 hx n7 e5.2 (by omega)))
theorem De (m : Mem) (k : Key) (t : Int) : (take m k t).1.now=m.now:=by
 unfold take
 split <;> rfl
theorem Dl {w : Wrd} (h : Inv w) {x : Int} (hx0 : 0≤x) (hx : x < w.ts.length) (hb : (tsk w x).busy=true) (hk : (tsk w x).f.c.kind=2) : Eff w.m (cx w.m (tsk w x).f x).2:=by
 obtain ⟨hf,hF,hd⟩:=AW h hx0 hx hb
 have hbr:=bl h.ch.mem.BU hf.call (by omega)
 have ek : ay w.m (tsk w x).f.c=bk w.m (tsk w x).f.c.k:=by unfold ay bk;rw [if_neg (by omega)]
 obtain ⟨B,hB⟩ : ∃ B : Nat,ay w.m (tsk w x).f.c=B:=⟨(ay w.m (tsk w x).f.c).toNat,by omega⟩
 have hBl : B < w.m.heads.length:=by omega
 have hch : chF w.m (tsk w x).f=chL w.m B:=by unfold chF;rw [hB];rfl
 have n7 : (tsk w x).f.pc≠7→Ao (tsk w x)=(tsk w x).f.slot:=fun e=>AD hb (by omega)
 have hs1:=hf.slot1
 generalize hfe : (tsk w x).f=f at *
 unfold cx
 by_cases e0 : f.pc=0
 ·rw [if_pos e0]
  split
  ·exact Eff.same
  ·rename_i ht
   have ht : (take w.m f.c.k (ck w.m f)).2.2=0:=Classical.not_not.1 ht
   have hct:=mT hf.call hk
   have hkk : Key.Ok f.c.k:=by
    have:=hf.call
    unfold bg at this
    rw [if_neg (by omega),if_pos hk] at this
    split at this
    ·cases this
    ·exact (iY _).1 this
   have n0:=h.ch.mem.oN
   have n1:=h.ch.mem.oM
   obtain ⟨t1,t2,t3,t4,t5,t6,t7,t8,t9,t10⟩:=BX h.ch (k:=f.c.k) (t:=ck w.m f) hkk (by unfold ck;split <;> omega) (by unfold ck;split <;> omega) ht
   have hms : ∀ j,msl (take w.m f.c.k (ck w.m f)).1 j=if (bG w.m).toNat=j then gj f.c.k (ck w.m f) (msl w.m (bG w.m).toNat) else msl w.m j:=fun j=>Bn t5 (by omega) j
   refine Eff.fU (by rw [t5];simp) (by rw [t6]) t9 (fun b hb c hc=>?_) (fun k hk h1 h2=>?_) (by rw [De];exact Int.le_refl _)
   ·have hne : bG w.m≠c:=fun e=>t10 b hb (by rw [e];exact hc)
    have:=(AF h.ch hc).1
    rw [hms,if_neg (by omega)]
    exact ⟨rfl,rfl⟩
   ·have hne : (bG w.m).toNat≠k:=fun e=>by rw [e] at t3;omega
    rw [hms,if_neg hne]
    exact ⟨rfl,rfl,by omega,by omega⟩
 rw [if_neg e0]
 by_cases e5 : f.pc=5∧0≤f.slot
 ·rw [if_neg (by omega),if_neg (by omega),if_neg (by omega),if_neg (by omega),if_pos e5]
  obtain ⟨q1,q2,q3⟩:=hF.add1 hk (by omega) (by omega)
  have r5:=hF.add5 hk e5.1
  have ha1 : f.slot < w.m.slots.length:=by omega
  have hre:=AI h hx0 hx (a:=f.slot) (n7 (by omega)) q1 ha1
  have hbk : ay w.m f.c=bk w.m (kys w.m f.slot):=by rw [ek,q2]
  have hbn : (bk w.m (kys w.m f.slot)).toNat=B:=by rw [← hbk,hB];rfl
  obtain ⟨c1,c2,c3⟩:=CM h.ch q1 ha1 (by omega) (fun c hc=>by rw [hbn] at hc;rw [q2];exact r5 c (by rw [hch];exact hc))
  show Eff w.m (link w.m f.slot (ay w.m f.c))
  rw [hbk]
  generalize hy : link w.m f.slot (bk w.m (kys w.m f.slot))=y at *
  have yl : y.slots.length=w.m.slots.length:=by rw [← hy];simp [link]
  have yh : y.heads.length=w.m.heads.length:=by rw [← hy];simp [link]
  have yn : y.now=w.m.now:=by rw [← hy];rfl
  have hk : ∀ j,(msl y j).k=(msl w.m j).k∧(msl y j).till=(msl w.m j).till∧(msl y j).refs=(msl w.m j).refs:=fun j=>by
   rw [c3];split <;> exact ⟨rfl,rfl,rfl⟩
  have hcB : chL y B=f.slot :: chL w.m B:=by
   have:=c2 B hBl
   rwa [if_pos (by rw [← hbk,hB])] at this
  have hco : ∀ i,i < w.m.heads.length→i≠B→chL y i=chL w.m i:=fun i hi hne=>by
   have:=c2 i hi
   rwa [if_neg (by rw [← hbk,hB];omega)] at this
  refine ⟨yl,.inr (.inl ⟨rh y f.slot,?_⟩),fun k _ _ _=>⟨(hk k).1,(hk k).2.1,by rw [(hk k).2.2];omega,by rw [(hk k).2.2];omega⟩,by rw [yn];exact Int.le_refl _⟩
  rw [CQ,CQ,yh]
  refine C4 (m:=w.m) (y:=y) (B:=B) (by omega) (by omega) ⟨[],(chL w.m B).map (rh w.m),rfl,?_⟩ fun i _ g hne=>CR (hco i (by omega) hne) fun a _=>⟨(hk a.toNat).1,(hk a.toNat).2.1⟩
  rw [hcB,List.map_cons,CR (m:=w.m) (y:=y) (l:=chL w.m B) rfl fun a _=>⟨(hk a.toNat).1,(hk a.toNat).2.1⟩];rfl
 ·repeat' split
  all_goals first
   | exact absurd (by assumption) e5
   | exact Eff.same
   | exact CZ _ _ _
   | exact CW _ _ _
   | (have e6 : f.pc=6∧0≤f.slot:=(by assumption);exact CU h e6.2 (by omega) (AI h hx0 hx (n7 (by omega)) e6.2 (by omega)))
theorem Dg {w : Wrd} (h : Inv w) (x : Pik) : Eff w.m (cJ w x).1.m:=by
 unfold cJ
 split
 ·split
  ·exact Eff.same
  ·rename_i hn
   have hm:=h.ch.mem
   have hy : cr { w.m with now:=w.m.now + 1}:=(Cv h hn).ch.mem
   obtain ⟨_,c2⟩:=AR h.ch hy rfl rfl (fun _=>rfl) fun b hb a ha=>⟨((h.ch.ch hb).ok a ha).refs,rfl,rfl⟩
   exact Eff.fU rfl rfl c2 (fun _ _ _ _=>⟨rfl,rfl⟩) (fun k _ _ _=>⟨rfl,rfl,by show (msl w.m k).refs≤_;omega,by show _≤(msl w.m k).refs;omega⟩) (by show w.m.now≤w.m.now + 1;omega)
 split
 ·exact Eff.same
 rename_i hr
 have hx0 : 0≤x.task:=by omega
 have hx : x.task < w.ts.length:=by omega
 split
 ·unfold jo
  split
  ·exact Eff.same
  rename_i hb
  have hb : (tsk w x.task).busy=true:=by simpa using hb
  have hf:=h.fo _ (As hx0 hx) hb
  split
  ·rename_i hk
   split
   ·exact C5 h hx0 hx hb hk
   ·exact C5 h hx0 hx hb hk
  split
  ·rename_i _ hk;exact Dl h hx0 hx hb hk
  split
  ·rename_i _ _ hk;exact Dh h hx0 hx hb hk
  split
  ·rename_i _ _ _ hk;exact Dd h hx0 hx hb hk
  split
  ·rename_i hi
   obtain ⟨j,h1,l1,l2,h2,h3⟩:=BK hi
   have hin : (tsk w x.task).f.c.slot∈(tsk w x.task).held:=by rw [h2];simp
   obtain ⟨s0,s1⟩:=(h.hd _ (As hx0 hx)).2.2 _ hin
   refine CU h s0 s1 ?_
   have q1:=h.rf (tsk w x.task).f.c.slot.toNat (by omega)
   have q2:=Cb (k:=(tsk w x.task).f.c.slot) (As hx0 hx)
   have hc : (1 : Int)≤((tsk w x.task).held.count (tsk w x.task).f.c.slot : Int):=by
    have:=List.count_pos_iff.2 hin
    omega
   rw [show (((tsk w x.task).f.c.slot.toNat : Nat) : Int)=(tsk w x.task).f.c.slot by omega] at q1
   have q3 : 1≤Au (tsk w x.task).f.c.slot (tsk w x.task):=by unfold Au;split <;> omega
   omega
  ·exact Eff.same
 ·unfold gy
  repeat' split
  all_goals exact Eff.same
end Go.Proofs.Ytpmamacjepcdmaa

namespace Go.Proofs.Ytpmamacjepcdmaa
open Go Go.Sy Go.RowKit
set_option linter.unusedSimpArgs false
set_option linter.unusedVariables false
theorem Cr {Γ : Gam} {R : List CD→Prop} {E : Env} {J : JJ} {id a b c : Nat} {cur : List X} {Y Ya Yb Yc : List CD→Prop} (h1 : id≠a) (h2 : id≠b) (h3 : id≠c) (h : Y (cur.map (X.den E))) : (Tree.back id cur).den Γ R E ((((J.put id Y).put a Ya).put b Yb).put c Yc):=by
 show ((((J.put id Y).put a Ya).put b Yb).put c Yc).b id _
 simp only [JJ.put,if_neg h1,if_neg h2,if_neg h3,if_true]
 exact h
def CS (b : List iq) (a : List iq) : Nat:=(a.filter fun x=>decide (x ∉ b)).length
theorem C2 {a b : List iq} {j : Nat} (h : j < a.length) : CS b (a.take (j + 1))=CS b (a.take j) + if a.getD j default∈b then 0 else 1:=by
 have e : a.take (j + 1)=a.take j ++ [a.getD j default]:=by
  rw [List.take_succ_eq_append_getElem h,List.getD_eq_getElem?_getD,List.getElem?_eq_getElem h];rfl
 unfold CS
 rw [e,List.filter_append,List.length_append]
 generalize a.getD j default=z
 by_cases hz : z∈b
 ·rw [if_pos hz];simp [hz]
 ·rw [if_neg hz];simp [hz]
theorem CX {a b : List iq} (h : ∀ x∈a,x∈b) : CS b a=0:=by
 unfold CS
 rw [List.length_eq_zero_iff,List.filter_eq_nil_iff]
 intro x hx
 simp [h x hx]
theorem CY (b p s : List iq) : CS b (p ++ s)=CS b p + CS b s:=by
 unfold CS
 rw [List.filter_append,List.length_append]
theorem C8 {f : iq} {l l' : List iq} (h : Ins f l l') : CS l' l=0∧CS l l'≤1:=by
 obtain ⟨p,s,rfl,rfl⟩:=h
 refine ⟨CX fun x hx=>?_,?_⟩
 ·rcases List.mem_append.1 hx with h | h
  ·exact List.mem_append_left _ h
  ·exact List.mem_append_right _ (List.mem_cons_of_mem _ h)
 ·rw [show p ++ f :: s=p ++ ([f] ++ s) from rfl,CY,CY,CX (a:=p) fun x hx=>List.mem_append_left _ hx,CX (a:=s) fun x hx=>List.mem_append_right _ hx]
  have : CS (p ++ s) [f]≤1:=by
   unfold CS
   exact List.length_filter_le _ _
  omega
theorem Dk {m y : Mem} (h : Eff m y) : CS (u7 y) (u7 m) + CS (u7 m) (u7 y)≤1:=by
 rcases h.fl with e | ⟨f,hi⟩ | ⟨f,hi⟩
 ·rw [e,CX fun x hx=>hx];omega
 ·have:=C8 hi;omega
 ·have:=C8 hi;omega
theorem C3 {a b : List iq} {j : Nat} : CS b (a.take j)≤CS b a:=by
 have:=CY b (a.take j) (a.drop j)
 rw [List.take_append_drop] at this
 omega
theorem fn93 (L : List iq) (f : iq) : d93.fn [fK L,.i f.k.a,.i f.k.b,.i f.slot,.i f.till]=[.b (decide (f∈L))]:=by simp only [d93,List.getD_cons_zero,List.getD_cons_succ,zt,CD.aL]
def s28 : Sig:=⟨[.one (.int .i64),.one (.int .i64),.one (.int .i64),.one (.fz kQ)],[.one (.bool)]⟩
def d28 : DC:=⟨s28,fun _=>True,fun _=>[.b true]⟩
def l28 : List (Nat × Ct):=[(79,d79.ct),(78,d78.ct),(140,d140.ct),(134,d134.ct),(74,d74.ct),(93,d93.ct)]
noncomputable def z28 : Cx:={ T:=ttA,C:=sigs l28,F:=[(132,Try.f132),(133,Try.f133)],hints:=[⟨132,5,false,[(32,.lt)],[(0,0,.fz kS),(0,1,.fz kI),(0,2,.fz kI),(0,3,.fz kI),(0,4,.lt),(0,5,.fz kT)],[],[],0⟩,⟨133,7,false,[(42,.lt),(9,.lt)],[],[],[],0⟩,⟨133,13,false,[(55,.lt),(10,.lt)],[],[],[],0⟩,⟨133,21,false,[(74,.lt)],[],[],[],0⟩],sig:=s28}
def t28 : Tree :=
 (.call 79 [] 4
 (.ite (.var 4)
 (.call 78 [.var 0,.var 1,.var 2] 5
 (.ite (.not (.eq (.var 11) (.int 0)))
 (.ret [.bool true])
 (.need (.le (.int 0) (.min (.len (.var 3)) (.int 300)))
 (.need (.le (.min (.len (.var 3)) (.int 300)) (.len (.var 3)))
 (.need (.clean (.var 10) 15)
 (.loop 12 [.int .i64,.sl 48 [.int .i64,.int .i64,.int .i64,.int .i64,.bool,.int .i64],.sl 8 [.int .i64],.sl 8 [.int .i64],.sl 8 [.int .i64],.int .i64,.sl 160 [.bool,.int .i64,.int .i64,.int .i64,.int .i64,.int .i64,.int .i64,.int .i64,.int .i64,.int .i64,.int .i64,.int .i64,.sl 16 [.int .i64,.int .i64],.bool,.int .i64,.sl 8 [.int .i64]]] [.int 0,.var 5,.var 6,.var 7,.var 8,.var 9,.shuts (.var 10) 15]
 (.ite (.lt (.var 13) (.len (.take (.min (.len (.var 3)) (.int 300)) (.var 3))))
 (.need (.le (.int 0) (.var 13))
 (.call 140 [.var 14,.var 15,.var 16,.var 17,.var 18,.var 19,.cell (.take (.min (.len (.var 3)) (.int 300)) (.var 3)) (.var 13) 0,.cell (.take (.min (.len (.var 3)) (.int 300)) (.var 3)) (.var 13) 1,.cell (.take (.min (.len (.var 3)) (.int 300)) (.var 3)) (.var 13) 2,.cell (.take (.min (.len (.var 3)) (.int 300)) (.var 3)) (.var 13) 3,.cell (.take (.min (.len (.var 3)) (.int 300)) (.var 3)) (.var 13) 4,.cell (.take (.min (.len (.var 3)) (.int 300)) (.var 3)) (.var 13) 5,.cell (.take (.min (.len (.var 3)) (.int 300)) (.var 3)) (.var 13) 6,.cell (.take (.min (.len (.var 3)) (.int 300)) (.var 3)) (.var 13) 7,.cell (.take (.min (.len (.var 3)) (.int 300)) (.var 3)) (.var 13) 8] 20
 (.ite (.eq (.var 26) (.int 0))
 (.call 134 [.var 14,.var 15,.var 16,.var 17,.var 18,.var 19] 27
 (.need (.clean (.var 25) 15)
 (.call 134 [.var 20,.var 21,.var 22,.var 23,.var 24,.shuts (.var 25) 15] 29
 (.ite (.not (.eq (.var 28) (.int 0)))
 (.ret [.bool false])
 (.ite (.not (.eq (.var 30) (.int 0)))
 (.ret [.bool false])
 (.call 74 [.var 20,.var 21,.var 22,.var 23,.var 24] 31
 (.ite (.not (.eq (.var 31) (.int 0)))
 (.ret [.bool false])
 (.loop 32 [.int .i64,.int .i64] [.int 0,.int 0]
 (.ite (.lt (.var 34) (.len (.var 27)))
 (.need (.le (.int 0) (.var 34))
 (.call 93 [.var 29,.cell (.var 27) (.var 34) 0,.cell (.var 27) (.var 34) 1,.cell (.var 27) (.var 34) 2,.cell (.var 27) (.var 34) 3] 35
 (.ite (.not (.var 35))
 (.need (.fit (.add (.var 33) (.int 1)))
 (.need (.fit (.add (.var 34) (.int 1)))
 (.back 32 [.add (.var 33) (.int 1),.add (.var 34) (.int 1)])))
 (.need (.fit (.add (.var 34) (.int 1)))
 (.back 32 [.var 33,.add (.var 34) (.int 1)])))))
 (.loop 35 [.int .i64,.int .i64] [.int 0,.int 0]
 (.ite (.lt (.var 37) (.len (.var 29)))
 (.need (.le (.int 0) (.var 37))
 (.call 93 [.var 27,.cell (.var 29) (.var 37) 0,.cell (.var 29) (.var 37) 1,.cell (.var 29) (.var 37) 2,.cell (.var 29) (.var 37) 3] 38
 (.ite (.not (.var 38))
 (.need (.fit (.add (.var 36) (.int 1)))
 (.need (.fit (.add (.var 37) (.int 1)))
 (.back 35 [.add (.var 36) (.int 1),.add (.var 37) (.int 1)])))
 (.need (.fit (.add (.var 37) (.int 1)))
 (.back 35 [.var 36,.add (.var 37) (.int 1)])))))
 (.need (.fit (.add (.var 33) (.var 36)))
 (.ite (.lt (.int 1) (.add (.var 33) (.var 36)))
 (.ret [.bool false])
 (.loop 38 [.int .i64] [.int 0]
 (.ite (.lt (.var 39) (.len (.var 14)))
 (.need (.le (.int 0) (.var 39))
 (.need (.lt (.var 39) (.len (.var 20)))
 (.ite (.lt (.int 0) (.cell (.var 14) (.var 39) 0))
 (.ite (.lt (.int 0) (.cell (.var 20) (.var 39) 0))
 (.ite (.not (.and (.eq (.cell (.var 20) (.var 39) 1) (.cell (.var 14) (.var 39) 1)) (.and (.eq (.cell (.var 20) (.var 39) 2) (.cell (.var 14) (.var 39) 2)) (.bool true))))
 (.ret [.bool false])
 (.ite (.not (.eq (.cell (.var 20) (.var 39) 3) (.cell (.var 14) (.var 39) 3)))
 (.ret [.bool false])
 (.need (.fit (.add (.cell (.var 14) (.var 39) 0) (.int 1)))
 (.ite (.lt (.add (.cell (.var 14) (.var 39) 0) (.int 1)) (.cell (.var 20) (.var 39) 0))
 (.ret [.bool false])
 (.need (.fit (.sub (.cell (.var 14) (.var 39) 0) (.int 1)))
 (.ite (.lt (.cell (.var 20) (.var 39) 0) (.sub (.cell (.var 14) (.var 39) 0) (.int 1)))
 (.ret [.bool false])
 (.need (.fit (.add (.var 39) (.int 1)))
 (.back 38 [.add (.var 39) (.int 1)]))))))))
 (.need (.fit (.add (.var 39) (.int 1)))
 (.back 38 [.add (.var 39) (.int 1)])))
 (.need (.fit (.add (.var 39) (.int 1)))
 (.back 38 [.add (.var 39) (.int 1)])))))
 (.ite (.not (.le (.var 18) (.var 24)))
 (.ret [.bool false])
 (.need (.fit (.add (.var 13) (.int 1)))
 (.back 12 [.add (.var 13) (.int 1),.var 20,.var 21,.var 22,.var 23,.var 24,.shuts (.var 25) 15]))))))))))))))))))
 (.need (.fit (.add (.var 13) (.int 1)))
 (.need (.clean (.var 25) 15)
 (.back 12 [.add (.var 13) (.int 1),.var 14,.var 15,.var 16,.var 17,.var 18,.var 19]))))))
 (.ret [.bool true]))))))))
 (.ret [.bool false])))
theorem run28 : run z28 6000 [.code (Try.f28.body.getD .skip),.fin (aP z28 Try.f28.results.toList 50)] { fn:=28,tmps:=z28.sig.aE ++ List.replicate (Try.f28.ntmps - z28.sig.aE.length) (.v (.one .undef)),stk:=[],h:=z28.sig.h0,nx:=z28.sig.ins.length,known:=[]}=t28:=by kernel_rfl
set_option maxHeartbeats 4000000 in
theorem ok28 : bJ Try.prog 28 d28.ct:=by
 refine ax (d:=d28) (Z:=z28) (Γ:=gam l28) (fn:=Try.f28) (c:=Try.f28.body.getD .skip) (aJ tok mixed (all_cons ok79 (all_cons ok78 (all_cons ok140 (all_cons ok134 (all_cons ok74 (all_cons ok93 all_nil)))))) (cv (c:=Try.f132.body.getD .skip) Try.func132 (by kernel_rfl) (by kernel_rfl) (cv (c:=Try.f133.body.getD .skip) Try.func133 (by kernel_rfl) (by kernel_rfl) aK))) Try.func28 (by kernel_rfl) (by kernel_rfl) rfl run28 fun E hk hp=>?_
 obtain ⟨hk0,hk1,hk2,hk3,_⟩:=hk
 obtain ⟨x,e0⟩:=ok_int (d:=E 0) hk0
 obtain ⟨x2,e1⟩:=ok_int (d:=E 1) hk1
 obtain ⟨x3,e2⟩:=ok_int (d:=E 2) hk2
 obtain ⟨l,e3,b3⟩:=w8 (d:=E 3) hk3
 have b3 : l.length * 64≤140737488355328:=b3
 have el : aG E d28.sig.ins.length=[.i x,.i x2,.i x3,dM l]:=by
  show [E 0,E 1,E 2,E 3]=_
  rw [e0,e1,e2,e3]
 rw [el] at hp
 rw [el]
 rw [Env.aU el]
 clear el e0 e1 e2 e3
 unfold t28
 refine ah d79 [.b true] rfl trivial rfl (ae (fun _=>?_) (fun hn=>?_))
 rotate_left
 ·skip
  simp only [nrm,xdn,reduceIte,Nat.reduceLT,Nat.reduceSub,Nat.reduceAdd] at hn
  simp at hn
 obtain ⟨N,hN⟩ : ∃ N,sd x x2 x3=N:=⟨_,rfl⟩
 refine ah d78 [ai N.1.m.slots,aa N.1.m.heads,aa N.1.m.free,aa N.1.m.kM,.i N.1.m.now,ar N.1.ts,.i N.2] rfl trivial (by simp only [nrm,xdn,reduceIte,Nat.reduceLT,Nat.reduceSub,Nat.reduceAdd,d78,hN];rfl) (ae (fun _=>ag (by simp only [nrm,xdn,reduceIte,Nat.reduceLT,Nat.reduceSub,Nat.reduceAdd];rfl)) (fun h0=>?_))
 simp only [nrm,xdn,reduceIte,Nat.reduceLT,Nat.reduceSub,Nat.reduceAdd] at h0
 have h0 : N.2=0:=by simpa using h0
 have hL0 : Inv N.1:=by rw [← hN] at h0 ⊢;exact CL h0
 refine af (by simp only [nrm,xdn,reduceIte,Nat.reduceLT,Nat.reduceSub,Nat.reduceAdd,kb];omega) (af (by simp only [nrm,xdn,reduceIte,Nat.reduceLT,Nat.reduceSub,Nat.reduceAdd,kb];omega) (af (by simp only [nrm,xdn,reduceIte,Nat.reduceLT,Nat.reduceSub,Nat.reduceAdd];exact az _) ?_))
 refine bD (fun ds=>∃ (i : Nat) (w : Wrd),ds=[.i i,ai w.m.slots,aa w.m.heads,aa w.m.free,aa w.m.kM,.i w.m.now,aA w.ts]∧Inv w.bU) (fun ds=>(min l.length 300) - (ds.getD 0 .u).int.toNat) ⟨0,N.1,?_,hL0.bU⟩ ?_
 ·simp only [nrm,xdn,reduceIte,Nat.reduceLT,Nat.reduceSub,Nat.reduceAdd,aD];rfl
 rintro ds - ⟨i,w,rfl,hL⟩
 obtain ⟨mn,hmn⟩ : ∃ mn : Nat,(if (300 : Int) < (l.length : Int) then (300 : Int) else (l.length : Int))=mn∧mn=min l.length 300:=⟨min l.length 300,by split <;> omega,rfl⟩
 refine ae (fun hlt=>?_) (fun _=>ag (by simp only [nrm,xdn,reduceIte,Nat.reduceLT,Nat.reduceSub,Nat.reduceAdd];rfl))
 simp only [nrm,xdn,reduceIte,Nat.reduceLT,Nat.reduceSub,Nat.reduceAdd,kb,hmn.1,Int.toNat_natCast,List.length_take] at hlt
 obtain ⟨q,hq⟩ : ∃ q,l.getD i default=q:=⟨_,rfl⟩
 have hcell : ∀ o,(((dM l).rows.take mn).getD i []).getD o .u=q.row.getD o .u:=fun o=>by
  have ht : ((dM l).rows.take mn).getD i []=(dM l).rows.getD i []:=by
   rw [List.getD_eq_getElem?_getD (l:=(dM l).rows.take mn),List.getElem?_take,if_pos (by omega),← List.getD_eq_getElem?_getD]
  rw [← hq,ht]
  exact fy Pik.row l i o (by omega)
 have c0 : (((dM l).rows.take mn).getD i []).getD 0 .u=.i q.task:=hcell 0
 have c1 : (((dM l).rows.take mn).getD i []).getD 1 .u=.b q.step:=hcell 1
 have c2 : (((dM l).rows.take mn).getD i []).getD 2 .u=.b q.tick:=hcell 2
 have c3 : (((dM l).rows.take mn).getD i []).getD 3 .u=.i q.c.kind:=hcell 3
 have c4 : (((dM l).rows.take mn).getD i []).getD 4 .u=.i q.c.k.a:=hcell 4
 have c5 : (((dM l).rows.take mn).getD i []).getD 5 .u=.i q.c.k.b:=hcell 5
 have c6 : (((dM l).rows.take mn).getD i []).getD 6 .u=.i q.c.time:=hcell 6
 have c7 : (((dM l).rows.take mn).getD i []).getD 7 .u=.i q.c.bucket:=hcell 7
 have c8 : (((dM l).rows.take mn).getD i []).getD 8 .u=.i q.c.slot:=hcell 8
 obtain ⟨v,hv⟩ : ∃ v,doW w.cU q=v:=⟨_,rfl⟩
 refine af (by simp only [nrm,xdn,reduceIte,Nat.reduceLT,Nat.reduceSub,Nat.reduceAdd];omega) (ah d140 [ai v.1.m.slots,aa v.1.m.heads,aa v.1.m.free,aa v.1.m.kM,.i v.1.m.now,ar v.1.ts,.i v.2] rfl trivial ?_ (ae (fun h1=>?_) (fun _=>?_)))
 ·simp only [nrm,xdn,reduceIte,Nat.reduceLT,Nat.reduceSub,Nat.reduceAdd,kb,hmn.1,Int.toNat_natCast,c0,c1,c2,c3,c4,c5,c6,c7,c8,d140,oe,aq,List.drop_succ_cons,List.drop_zero,eW,bF]
  rw [← hv];rfl
 rotate_left
 ·refine aH (by simp only [nrm,xdn,reduceIte,Nat.reduceLT,Nat.reduceSub,Nat.reduceAdd];omega) (af (by simp only [nrm,xdn,reduceIte,Nat.reduceLT,Nat.reduceSub,Nat.reduceAdd];exact az _) (bx ⟨⟨i + 1,w,?_,hL⟩,?_⟩))
  ·simp only [nrm,xdn,reduceIte,Nat.reduceLT,Nat.reduceSub,Nat.reduceAdd];rfl
  ·simp only [nrm,xdn,reduceIte,Nat.reduceLT,Nat.reduceSub,Nat.reduceAdd];omega
 simp only [nrm,xdn,reduceIte,Nat.reduceLT,Nat.reduceSub,Nat.reduceAdd] at h1
 have h1 : v.2=0:=by simpa using h1
 have hw : v.1=(cJ w.bU q).1:=by
  rw [← hv] at h1 ⊢
  unfold doW at h1 ⊢
  split at h1
  ·rename_i h2;exact absurd h1 h2
  ·rename_i h2
   rw [if_neg h2]
   rw [zi] at h1 ⊢
   split at h1
   ·rename_i h3;exact absurd h1 h3
   ·rename_i h3
    rw [if_neg h3]
 have hV : Inv v.1:=by rw [hw];exact Cw hL q
 have hE : Eff w.m v.1.m:=by rw [hw];exact Dg hL q
 obtain ⟨k1,k2⟩:=hV.cU.check
 have hfl : Bv v.1.cU=(u7 v.1.m,0):=by
  unfold Bv iV
  rw [if_neg (fun y=>y k1),if_neg (fun y=>y k2)];rfl
 have hLl : w.bU.cU=w.cU:=by simp only [Wrd.cU,Wrd.bU,List.map_map];rfl
 have hw0:=hL.cU
 rw [hLl] at hw0
 obtain ⟨j1,j2⟩:=hw0.check
 have hfw : Bv w.cU=(u7 w.m,0):=by
  unfold Bv iV
  rw [if_neg (fun y=>y j1),if_neg (fun y=>y j2)];rfl
 have hout:=Dk hE
 obtain ⟨A,hA⟩ : ∃ A,u7 w.m=A:=⟨_,rfl⟩
 obtain ⟨B,hB⟩ : ∃ B,u7 v.1.m=B:=⟨_,rfl⟩
 have hAl : A.length≤48:=by rw [← hA];exact BV hw0.ch.mem
 have hBl : B.length≤48:=by rw [← hB];exact BV hV.ch.mem
 rw [hA,hB] at hout
 refine ah d134 [fK A,.i 0] rfl trivial ?_ (af (by simp only [nrm,xdn,reduceIte,Nat.reduceLT,Nat.reduceSub,Nat.reduceAdd];exact az _) (ah d134 [fK B,.i 0] rfl trivial ?_ (ae (fun hn=>?_) (fun _=>ae (fun hn=>?_) (fun _=>?_)))))
 ·simp only [nrm,xdn,reduceIte,Nat.reduceLT,Nat.reduceSub,Nat.reduceAdd,d134,oe,aq]
  rw [show Wrd.cU ⟨w.m,w.ts⟩=w.cU from rfl,hfw,hA]
 ·simp only [nrm,xdn,reduceIte,Nat.reduceLT,Nat.reduceSub,Nat.reduceAdd,aD,d134,oe,aq]
  rw [show Wrd.cU ⟨v.1.m,v.1.ts⟩=v.1.cU from rfl,hfl,hB]
 ·skip
  simp only [nrm,xdn,reduceIte,Nat.reduceLT,Nat.reduceSub,Nat.reduceAdd] at hn
  simp at hn
 ·skip
  simp only [nrm,xdn,reduceIte,Nat.reduceLT,Nat.reduceSub,Nat.reduceAdd] at hn
  simp at hn
 refine ah d74 [.i 0] rfl trivial (by simp only [nrm,xdn,reduceIte,Nat.reduceLT,Nat.reduceSub,Nat.reduceAdd,fn74];rw [show cp v.1.m=0 from k2]) (ae (fun hn=>?_) (fun _=>?_))
 ·skip
  simp only [nrm,xdn,reduceIte,Nat.reduceLT,Nat.reduceSub,Nat.reduceAdd] at hn
  simp at hn
 refine bD (fun ds=>∃ j : Nat,ds=[.i (CS B (A.take j) : Nat),.i j]∧j≤A.length) (fun ds=>A.length - (ds.getD 1 .u).int.toNat) ⟨0,?_,by omega⟩ ?_
 ·simp only [nrm,xdn,reduceIte,Nat.reduceLT,Nat.reduceSub,Nat.reduceAdd];rfl
 rintro ds - ⟨j,rfl,hj⟩
 have hp1:=C3 (a:=A) (b:=B) (j:=j)
 refine ae (fun h2=>?_) (fun h2=>?_)
 ·simp only [nrm,xdn,reduceIte,Nat.reduceLT,Nat.reduceSub,Nat.reduceAdd,mJ] at h2
  obtain ⟨f,hf⟩ : ∃ f,A.getD j default=f:=⟨_,rfl⟩
  have c : ∀ o,((fK A).rows.getD j []).getD o .u=f.row.getD o .u:=fun o=>by rw [← hf];exact fy iq.row A j o (by omega)
  have d0 : ((fK A).rows.getD j []).getD 0 .u=.i f.k.a:=c 0
  have d1 : ((fK A).rows.getD j []).getD 1 .u=.i f.k.b:=c 1
  have d2 : ((fK A).rows.getD j []).getD 2 .u=.i f.slot:=c 2
  have d3 : ((fK A).rows.getD j []).getD 3 .u=.i f.till:=c 3
  have hs:=C2 (a:=A) (b:=B) (j:=j) (by omega)
  rw [hf] at hs
  refine af (by simp only [nrm,xdn,reduceIte,Nat.reduceLT,Nat.reduceSub,Nat.reduceAdd];omega) (ah d93 [.b (decide (f∈B))] rfl trivial (by simp only [nrm,xdn,reduceIte,Nat.reduceLT,Nat.reduceSub,Nat.reduceAdd,Int.toNat_natCast,d0,d1,d2,d3,fn93]) (ae (fun h3=>?_) (fun h3=>?_)))
  ·simp only [nrm,xdn,reduceIte,Nat.reduceLT,Nat.reduceSub,Nat.reduceAdd] at h3
   have h3 : f ∉ B:=by simpa using h3
   rw [if_neg h3] at hs
   refine aH (by simp only [nrm,xdn,reduceIte,Nat.reduceLT,Nat.reduceSub,Nat.reduceAdd];omega) (aH (by simp only [nrm,xdn,reduceIte,Nat.reduceLT,Nat.reduceSub,Nat.reduceAdd];omega) (bx ⟨⟨j + 1,?_,by omega⟩,?_⟩))
   ·simp only [nrm,xdn,reduceIte,Nat.reduceLT,Nat.reduceSub,Nat.reduceAdd,hs];rfl
   ·simp only [nrm,xdn,reduceIte,Nat.reduceLT,Nat.reduceSub,Nat.reduceAdd];omega
  ·simp only [nrm,xdn,reduceIte,Nat.reduceLT,Nat.reduceSub,Nat.reduceAdd] at h3
   have h3 : f∈B:=by simpa using h3
   rw [if_pos h3] at hs
   refine aH (by simp only [nrm,xdn,reduceIte,Nat.reduceLT,Nat.reduceSub,Nat.reduceAdd];omega) (bx ⟨⟨j + 1,?_,by omega⟩,?_⟩)
   ·simp only [nrm,xdn,reduceIte,Nat.reduceLT,Nat.reduceSub,Nat.reduceAdd,hs];rfl
   ·simp only [nrm,xdn,reduceIte,Nat.reduceLT,Nat.reduceSub,Nat.reduceAdd];omega
 refine bD (fun ds=>∃ k : Nat,ds=[.i (CS A (B.take k) : Nat),.i k]∧k≤B.length) (fun ds=>B.length - (ds.getD 1 .u).int.toNat) ⟨0,?_,by omega⟩ ?_
 ·simp only [nrm,xdn,reduceIte,Nat.reduceLT,Nat.reduceSub,Nat.reduceAdd];rfl
 rintro ds - ⟨k,rfl,hk⟩
 have hp2:=C3 (a:=B) (b:=A) (j:=k)
 refine ae (fun h3=>?_) (fun h3=>?_)
 ·simp only [nrm,xdn,reduceIte,Nat.reduceLT,Nat.reduceSub,Nat.reduceAdd,mJ] at h3
  obtain ⟨f,hf⟩ : ∃ f,B.getD k default=f:=⟨_,rfl⟩
  have c : ∀ o,((fK B).rows.getD k []).getD o .u=f.row.getD o .u:=fun o=>by rw [← hf];exact fy iq.row B k o (by omega)
  have d0 : ((fK B).rows.getD k []).getD 0 .u=.i f.k.a:=c 0
  have d1 : ((fK B).rows.getD k []).getD 1 .u=.i f.k.b:=c 1
  have d2 : ((fK B).rows.getD k []).getD 2 .u=.i f.slot:=c 2
  have d3 : ((fK B).rows.getD k []).getD 3 .u=.i f.till:=c 3
  have hs:=C2 (a:=B) (b:=A) (j:=k) (by omega)
  rw [hf] at hs
  refine af (by simp only [nrm,xdn,reduceIte,Nat.reduceLT,Nat.reduceSub,Nat.reduceAdd];omega) (ah d93 [.b (decide (f∈A))] rfl trivial (by simp only [nrm,xdn,reduceIte,Nat.reduceLT,Nat.reduceSub,Nat.reduceAdd,Int.toNat_natCast,d0,d1,d2,d3,fn93]) (ae (fun h4=>?_) (fun h4=>?_)))
  ·simp only [nrm,xdn,reduceIte,Nat.reduceLT,Nat.reduceSub,Nat.reduceAdd] at h4
   have h4 : f ∉ A:=by simpa using h4
   rw [if_neg h4] at hs
   refine aH (by simp only [nrm,xdn,reduceIte,Nat.reduceLT,Nat.reduceSub,Nat.reduceAdd];omega) (aH (by simp only [nrm,xdn,reduceIte,Nat.reduceLT,Nat.reduceSub,Nat.reduceAdd];omega) (bx ⟨⟨k + 1,?_,by omega⟩,?_⟩))
   ·simp only [nrm,xdn,reduceIte,Nat.reduceLT,Nat.reduceSub,Nat.reduceAdd,hs];rfl
   ·simp only [nrm,xdn,reduceIte,Nat.reduceLT,Nat.reduceSub,Nat.reduceAdd];omega
  ·simp only [nrm,xdn,reduceIte,Nat.reduceLT,Nat.reduceSub,Nat.reduceAdd] at h4
   have h4 : f∈A:=by simpa using h4
   rw [if_pos h4] at hs
   refine aH (by simp only [nrm,xdn,reduceIte,Nat.reduceLT,Nat.reduceSub,Nat.reduceAdd];omega) (bx ⟨⟨k + 1,?_,by omega⟩,?_⟩)
   ·simp only [nrm,xdn,reduceIte,Nat.reduceLT,Nat.reduceSub,Nat.reduceAdd,hs];rfl
   ·simp only [nrm,xdn,reduceIte,Nat.reduceLT,Nat.reduceSub,Nat.reduceAdd];omega
 refine aH (by simp only [nrm,xdn,reduceIte,Nat.reduceLT,Nat.reduceSub,Nat.reduceAdd];omega) (ae (fun hn=>?_) (fun _=>?_))
 ·simp only [nrm,xdn,reduceIte,Nat.reduceLT,Nat.reduceSub,Nat.reduceAdd] at hn
  omega
 obtain ⟨n,hn⟩ : ∃ n,w.m.slots.length=n:=⟨_,rfl⟩
 have hlen:=hE.len
 rw [hn] at hlen
 have hns:=hw0.ch.mem.ns
 have hns : n≤12:=by rw [← hn];exact hns
 refine bD (fun ds=>∃ s : Nat,ds=[.i s]∧s≤n) (fun ds=>n - (ds.getD 0 .u).int.toNat) ⟨0,rfl,by omega⟩ ?_
 rintro ds - ⟨s,rfl,hs⟩
 refine ae (fun h4=>?_) (fun h4=>?_)
 ·simp only [nrm,xdn,reduceIte,Nat.reduceLT,Nat.reduceSub,Nat.reduceAdd,aw] at h4
  have hsn : s < n:=by omega
  have p0 : ((ai w.m.slots).rows.getD s []).getD 0 .u=.i (msl w.m s).refs:=Df (by omega)
  have p1 : ((ai w.m.slots).rows.getD s []).getD 1 .u=.i (msl w.m s).k.a:=gl (by omega)
  have p2 : ((ai w.m.slots).rows.getD s []).getD 2 .u=.i (msl w.m s).k.b:=gk (by omega)
  have p3 : ((ai w.m.slots).rows.getD s []).getD 3 .u=.i (msl w.m s).till:=wZ (by omega)
  have r0 : ((ai v.1.m.slots).rows.getD s []).getD 0 .u=.i (msl v.1.m s).refs:=Df (by omega)
  have r1 : ((ai v.1.m.slots).rows.getD s []).getD 1 .u=.i (msl v.1.m s).k.a:=gl (by omega)
  have r2 : ((ai v.1.m.slots).rows.getD s []).getD 2 .u=.i (msl v.1.m s).k.b:=gk (by omega)
  have r3 : ((ai v.1.m.slots).rows.getD s []).getD 3 .u=.i (msl v.1.m s).till:=wZ (by omega)
  have hr:=(hw0.ch.mem.sl (i:=s) (by show s < w.m.slots.length;omega))
  have hr0 : 0≤(msl w.m s).refs:=hr.r0
  have hr1 : (msl w.m s).refs≤1000:=hr.r1
  refine af (by simp only [nrm,xdn,reduceIte,Nat.reduceLT,Nat.reduceSub,Nat.reduceAdd];omega) (af (by simp only [nrm,xdn,reduceIte,Nat.reduceLT,Nat.reduceSub,Nat.reduceAdd,aw];omega) (ae (fun h5=>?_) (fun _=>?_)))
  rotate_left
  ·refine aH (by simp only [nrm,xdn,reduceIte,Nat.reduceLT,Nat.reduceSub,Nat.reduceAdd];omega) (bx ⟨⟨s + 1,?_,by omega⟩,?_⟩)
   ·simp only [nrm,xdn,reduceIte,Nat.reduceLT,Nat.reduceSub,Nat.reduceAdd];rfl
   ·simp only [nrm,xdn,reduceIte,Nat.reduceLT,Nat.reduceSub,Nat.reduceAdd];omega
  simp only [nrm,xdn,reduceIte,Nat.reduceLT,Nat.reduceSub,Nat.reduceAdd,Int.toNat_natCast,p0] at h5
  refine ae (fun h6=>?_) (fun _=>?_)
  rotate_left
  ·refine aH (by simp only [nrm,xdn,reduceIte,Nat.reduceLT,Nat.reduceSub,Nat.reduceAdd];omega) (bx ⟨⟨s + 1,?_,by omega⟩,?_⟩)
   ·simp only [nrm,xdn,reduceIte,Nat.reduceLT,Nat.reduceSub,Nat.reduceAdd];rfl
   ·simp only [nrm,xdn,reduceIte,Nat.reduceLT,Nat.reduceSub,Nat.reduceAdd];omega
  simp only [nrm,xdn,reduceIte,Nat.reduceLT,Nat.reduceSub,Nat.reduceAdd,Int.toNat_natCast,r0] at h6
  obtain ⟨s1,s2,s3,s4⟩:=hE.sl s (by omega) h5 h6
  refine ae (fun hn=>?_) (fun _=>ae (fun hn=>?_) (fun _=>aH (by simp only [nrm,xdn,reduceIte,Nat.reduceLT,Nat.reduceSub,Nat.reduceAdd,Int.toNat_natCast,p0];omega) (ae (fun hn=>?_) (fun _=>aH (by simp only [nrm,xdn,reduceIte,Nat.reduceLT,Nat.reduceSub,Nat.reduceAdd,Int.toNat_natCast,p0];omega) (ae (fun hn=>?_) (fun _=>?_))))))
  ·simp only [nrm,xdn,reduceIte,Nat.reduceLT,Nat.reduceSub,Nat.reduceAdd,Int.toNat_natCast,p1,p2,r1,r2,s1] at hn
   simp at hn
  ·simp only [nrm,xdn,reduceIte,Nat.reduceLT,Nat.reduceSub,Nat.reduceAdd,Int.toNat_natCast,p3,r3,s2] at hn
   simp at hn
  ·simp only [nrm,xdn,reduceIte,Nat.reduceLT,Nat.reduceSub,Nat.reduceAdd,Int.toNat_natCast,p0,r0] at hn
   omega
  ·simp only [nrm,xdn,reduceIte,Nat.reduceLT,Nat.reduceSub,Nat.reduceAdd,Int.toNat_natCast,p0,r0] at hn
   omega
  ·refine aH (by simp only [nrm,xdn,reduceIte,Nat.reduceLT,Nat.reduceSub,Nat.reduceAdd];omega) (bx ⟨⟨s + 1,?_,by omega⟩,?_⟩)
   ·simp only [nrm,xdn,reduceIte,Nat.reduceLT,Nat.reduceSub,Nat.reduceAdd];rfl
   ·simp only [nrm,xdn,reduceIte,Nat.reduceLT,Nat.reduceSub,Nat.reduceAdd];omega
 have hnow:=hE.now
 refine ae (fun hn=>?_) (fun _=>?_)
 ·simp only [nrm,xdn,reduceIte,Nat.reduceLT,Nat.reduceSub,Nat.reduceAdd] at hn
  have hn : ¬ w.m.now≤v.1.m.now:=by simpa using hn
  exact absurd hnow hn
 ·refine aH (by simp only [nrm,xdn,reduceIte,Nat.reduceLT,Nat.reduceSub,Nat.reduceAdd];omega) (Cr (by decide) (by decide) (by decide) ⟨⟨i + 1,v.1,?_,hV.bU⟩,?_⟩)
  ·simp only [nrm,xdn,reduceIte,Nat.reduceLT,Nat.reduceSub,Nat.reduceAdd,aD];rfl
  ·simp only [nrm,xdn,reduceIte,Nat.reduceLT,Nat.reduceSub,Nat.reduceAdd];omega
end Go.Proofs.Ytpmamacjepcdmaa
