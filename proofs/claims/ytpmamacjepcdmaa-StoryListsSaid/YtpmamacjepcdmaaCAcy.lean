import Derived.Test.YtpmamacjepcdmaaCInv7
namespace Go.Proofs.Ytpmamacjepcdmaa
open Go Go.Sy Go.RowKit
set_option linter.unusedSimpArgs false
set_option linter.unusedVariables false
def Ins {α : Type} (f : α) (l l' : List α) : Prop:=∃ p s,l=p ++ s∧l'=p ++ f :: s
theorem Ins.app {α : Type} {f : α} {l l' : List α} (h : Ins f l l') (a b : List α) : Ins f (a ++ l ++ b) (a ++ l' ++ b):=by
 obtain ⟨p,s,rfl,rfl⟩:=h
 exact ⟨a ++ p,s ++ b,by simp,by simp⟩
def cat (m : Mem) : Nat→Nat→List cI
 | 0,_=>[]
 | n + 1,b=>(chL m b).map (bu m) ++ cat m n (b + 1)
theorem nQ {m : Mem} : ∀ {n b : Nat} {acc : List cI},bC m n b acc=acc ++ cat m n b
 | 0,b,acc=>by simp [bC,cat]
 | n + 1,b,acc=>by
  rw [bC,nQ]
  simp only [cat,chL,List.append_assoc]
theorem gN (m : Mem) : aq m=cat m m.heads.length 0:=by
 unfold aq
 rw [nQ];rfl
theorem pO {m y : Mem} : ∀ {n b : Nat},(∀ i,b≤i→i < b + n→(chL y i).map (bu y)=(chL m i).map (bu m))→cat y n b=cat m n b
 | 0,_,_=>rfl
 | n + 1,b,h=>by
  simp only [cat]
  rw [h b (Nat.le_refl _) (by omega),pO fun i h1 h2=>h i (by omega) (by omega)]
structure Eff (m y : Mem) : Prop where
 len : y.slots.length=m.slots.length
 fl : aq y=aq m∨(∃ f,Ins f (aq m) (aq y))∨∃ f,Ins f (aq y) (aq m)
 sl : ∀ k,k < m.slots.length→0 < (msl m k).refs→0 < (msl y k).refs→(msl y k).k=(msl m k).k∧(msl y k).till=(msl m k).till∧(msl y k).refs≤(msl m k).refs + 1∧(msl m k).refs - 1≤(msl y k).refs
 now : m.now≤y.now
theorem Eff.same {m : Mem} : Eff m m:=⟨rfl,.inl rfl,fun _ _ _ _=>⟨rfl,rfl,by omega,by omega⟩,Int.le_refl _⟩
theorem Dt {m y : Mem} {l l' : List Int} (e : l'=l) (h : ∀ a∈l,(msl y a.toNat).k=(msl m a.toNat).k∧(msl y a.toNat).till=(msl m a.toNat).till) : l'.map (bu y)=l.map (bu m):=by
 subst e
 exact List.map_congr_left fun a ha=>ib (h a ha).1 (h a ha).2
theorem Eff.fa {m y : Mem} (hl : y.slots.length=m.slots.length) (hh : y.heads.length=m.heads.length) (hc : ∀ b,b < m.heads.length→chL y b=chL m b) (hk : ∀ b,b < m.heads.length→∀ a∈chL m b,(msl y a.toNat).k=(msl m a.toNat).k∧(msl y a.toNat).till=(msl m a.toNat).till)
  (hs : ∀ k,k < m.slots.length→0 < (msl m k).refs→0 < (msl y k).refs→(msl y k).k=(msl m k).k∧(msl y k).till=(msl m k).till∧(msl y k).refs≤(msl m k).refs + 1∧(msl m k).refs - 1≤(msl y k).refs) (hn : m.now≤y.now) : Eff m y :=
 ⟨hl,.inl (by rw [gN,gN,hh];exact pO fun i _ g=>Dt (hc i (by omega)) (hk i (by omega))),hs,hn⟩
theorem Eff.ae {m : Mem} {l : List Int} : Eff m { m with ae:=l} :=
 Eff.fa rfl rfl (fun b _=>qA m l b) (fun _ _ _ _=>⟨rfl,rfl⟩) (fun _ _ _ _=>⟨rfl,rfl,by show (msl m _).refs≤_;omega,by show _≤(msl m _).refs;omega⟩) (Int.le_refl _)
theorem Eff.refs {m y : Mem} (hC : aK m) (hy : bB y) {a d : Int} (h0 : 0≤a) (h1 : a < m.slots.length) (hd : d=1∨d=-1) (hs : y.slots=m.slots.modify a.toNat (bx d)) (hh : y.heads=m.heads) (hn : y.now=m.now) (hr : (∃ b,b < m.heads.length∧a∈chL m b)→(msl m a.toNat).refs + d≠0) : Eff m y:=by
 obtain ⟨_,c2⟩:=gX hC hy h0 h1 hs hh hr
 have hm : ∀ j,msl y j=if a.toNat=j then bx d (msl m a.toNat) else msl m j:=fun j=>gn hs (by omega) j
 have hk : ∀ j,(msl y j).k=(msl m j).k∧(msl y j).till=(msl m j).till:=fun j=>by
  rw [hm];split
  ·rename_i e;rw [← e];exact ⟨rfl,rfl⟩
  ·exact ⟨rfl,rfl⟩
 refine Eff.fa (by rw [hs];simp) (by rw [hh]) c2 (fun _ _ a _=>hk a.toNat) (fun k _ _ _=>⟨(hk k).1,(hk k).2,?_⟩) (by rw [hn];exact Int.le_refl _)
 rw [hm];split
 ·rename_i e
  rw [← e]
  show (msl m a.toNat).refs + d≤_∧_≤(msl m a.toNat).refs + d
  omega
 ·omega
theorem Fl (m : Mem) (p a b : Int) : (cut m p a b).now=m.now:=by
 unfold cut
 repeat' split
 all_goals rfl
theorem CG (m : Mem) (k : Key) (t : Int) : (take m k t).1.now=m.now:=by
 unfold take
 split <;> rfl
end Go.Proofs.Ytpmamacjepcdmaa

namespace Go.Proofs.Ytpmamacjepcdmaa
open Go Go.Sy Go.RowKit
set_option linter.unusedSimpArgs false
set_option linter.unusedVariables false
inductive cZ (m : Mem) (P : Nat→Prop) : Mem→Prop
 | quiet (l : List Int) : cZ m P { m with ae:=l}
 | tick : cZ m P { m with now:=m.now + 1}
 | refs {y : Mem} {a d : Int} (a0 : 0≤a) (a1 : a < m.slots.length) (hs : y.slots=m.slots.modify a.toNat (bx d)) (hh : y.heads=m.heads) (hn : y.now=m.now) (hl : y.ae=m.ae) (hc : ∀ b,b < m.heads.length→chL y b=chL m b) : cZ m P y
 | tak {y : Mem} {a : Int} {k : Key} {t : Int} (a0 : 0≤a) (a1 : a < m.slots.length) (hr : (msl m a.toNat).refs=0) (hs : y.slots=m.slots.modify a.toNat (cp k t)) (hh : y.heads=m.heads) (hn : y.now=m.now) (hl : y.ae=m.ae)
   (hc : ∀ b,b < m.heads.length→chL y b=chL m b) (ho : ∀ b,b < m.heads.length→a ∉ chL m b) (ht : m.now < t) : cZ m P y
 | lnk {y : Mem} {a : Int} {B : Nat} (a0 : 0≤a) (a1 : a < m.slots.length) (hB : B < m.heads.length) (hp : P B) (hr : (msl m a.toNat).refs≠0) (hi : (msl m a.toNat).inn=false) (hk : ∀ c∈chL m B,kys m c≠kys m a) (hb : bk m (kys m a)=B) (hy : y=link m a B)
   (hc : chL y B=a :: chL m B) (ho : ∀ b,b < m.heads.length→b≠B→chL y b=chL m b) : cZ m P y
 | cutt {y : Mem} {a : Int} {B : Nat} {l1 l3 : List Int} (hB : B < m.heads.length) (hp : P B) (e : chL m B=l1 ++ a :: l3) (hy : y=cut m (jJ l1) a B)
   (hc : chL y B=l1 ++ l3) (ho : ∀ b,b < m.heads.length→b≠B→chL y b=chL m b) : cZ m P y
theorem cZ.same {m : Mem} {P : Nat→Prop} : cZ m P m:=cZ.quiet m.ae
theorem qk (m : Mem) (P : Nat→Prop) (b x : Int) : cZ m P (lock m b x).1:=by
 rcases dA m b x with ⟨h,_⟩ | h
 ·rw [h];exact cZ.quiet _
 ·rw [h];exact cZ.same
theorem lQ (m : Mem) (P : Nat→Prop) (b x : Int) : cZ m P (unlock m b x):=by
 obtain ⟨l,h,_⟩:=pU m b x
 rw [h];exact cZ.quiet _
theorem jW {w : Wrd} (h : Inv w) (P : Nat→Prop) {a : Int} (a0 : 0≤a) (a1 : a < w.m.slots.length) (hr : (fK w.m a : Int) + 1≤(msl w.m a.toNat).refs) : cZ w.m P (put w.m a):=by
 obtain ⟨u1,u2,u3,u4⟩:=fQ (m:=w.m) (a:=a) (by omega)
 exact cZ.refs a0 a1 u1 u2 u4 u3 (gX h.ch (iY h.ch.mem a0 a1) a0 a1 u1 u2 fun ⟨b,hb1,hb2⟩=>by have:=HU hb1 hb2;omega).2
theorem x9 {m : Mem} {P : Nat→Prop} (hC : aK m) {B : Nat} (hB : B < m.heads.length) (hp : P B) {l1 l3 : List Int} {a p : Int} (e : chL m B=l1 ++ a :: l3) (hl : p=jJ l1) : cZ m P (cut m p a B):=by
 subst hl
 obtain ⟨d1,d2,d3,d4,d5,d6⟩:=kp hC hB e rfl rfl
 exact cZ.cutt hB hp e rfl d2 d3
def At (w : Wrd) (x : Int) (B : Nat) : Prop:=(tsk w x).busy=true∧bI (tsk w x).f∧aa w.m (tsk w x).f.c=B
theorem Ch {w : Wrd} (h : Inv w) {x : Int} (hx0 : 0≤x) (hx : x < w.ts.length) (hb : (tsk w x).busy=true) (hk : (tsk w x).f.c.kind=3) : cZ w.m (At w x) (aL w.m (tsk w x).f x).2:=by
 obtain ⟨hf,hF,hd⟩:=fe h hx0 hx hb
 have hbr:=aQ h.ch.mem.rJ hf.call (by omega)
 obtain ⟨B,hB⟩ : ∃ B : Nat,aa w.m (tsk w x).f.c=B:=⟨(aa w.m (tsk w x).f.c).toNat,by omega⟩
 have hBl : B < w.m.heads.length:=by omega
 have hch : chF w.m (tsk w x).f=chL w.m B:=by unfold chF;rw [hB];rfl
 have n7 : cr (tsk w x)=(tsk w x).f.slot:=dj hb (by omega)
 have hs1:=hf.slot1
 have hA : bI (tsk w x).f→At w x B:=fun hh=>⟨hb,hh,hB⟩
 generalize hfe : (tsk w x).f=f at *
 unfold aL
 by_cases e4 : f.pc=4∧0 < f.cur
 ·rw [if_neg (by omega),if_neg (by omega),if_neg (by omega),if_neg (by omega),if_pos e4]
  obtain ⟨⟨l1,l2,s1,s2,s3⟩,hcu⟩:=hF.drop2 hk (by omega) (by omega)
  rw [hB] at s2
  rw [hch] at s1
  obtain ⟨a,l3,c1,c2,c3,c4,c5⟩:=jA h.ch hBl s1 (by rw [← s2];omega)
  have hca : f.cur - 1=a:=by omega
  show cZ w.m _ (cut w.m f.prev (f.cur - 1) (aa w.m f.c))
  rw [hca,hB]
  exact x9 h.ch hBl (hA (.inr (.inl ⟨hk,by omega,by omega⟩))) (show chL w.m B=l1 ++ a :: l3 by rw [s1,c1]) s3
 ·repeat' split
  all_goals first
   | exact absurd (by assumption) e4
   | exact cZ.same
   | exact qk _ _ _ _
   | exact lQ _ _ _ _
   | exact jW h _ (by assumption) (by omega) (Hg h hx0 hx n7 (by assumption) (by omega))
theorem yP {w : Wrd} (h : Inv w) {x : Int} (hx0 : 0≤x) (hx : x < w.ts.length) (hb : (tsk w x).busy=true) (hk : (tsk w x).f.c.kind=4∨(tsk w x).f.c.kind=5) : cZ w.m (At w x) (aB w.m (tsk w x).f x).2:=by
 obtain ⟨hf,hF,hd⟩:=fe h hx0 hx hb
 have hbr:=aQ h.ch.mem.rJ hf.call (by omega)
 obtain ⟨B,hB⟩ : ∃ B : Nat,aa w.m (tsk w x).f.c=B:=⟨(aa w.m (tsk w x).f.c).toNat,by omega⟩
 have hBl : B < w.m.heads.length:=by omega
 have hch : chF w.m (tsk w x).f=chL w.m B:=by unfold chF;rw [hB];rfl
 have n7 : cr (tsk w x)=(tsk w x).f.slot:=dj hb (by omega)
 have hs1:=hf.slot1
 have hA : bI (tsk w x).f→At w x B:=fun hh=>⟨hb,hh,hB⟩
 generalize hfe : (tsk w x).f=f at *
 unfold aB
 by_cases e4 : f.pc=4∧0 < f.cur
 ·rw [if_neg (by omega),if_neg (by omega),if_neg (by omega),if_neg (by omega),if_neg (by omega),if_neg (by omega),if_pos e4]
  obtain ⟨⟨l1,l2,s1,s2,s3⟩,hcu⟩:=hF.sweep2 hk (by omega) (by omega)
  rw [hB] at s2
  rw [hch] at s1
  obtain ⟨a,l3,c1,c2,c3,c4,c5⟩:=jA h.ch hBl s1 (by rw [← s2];omega)
  have hca : f.cur - 1=a:=by omega
  show cZ w.m _ (cut w.m f.prev (f.cur - 1) (aa w.m f.c))
  rw [hca,hB]
  exact x9 h.ch hBl (hA (.inr (.inr ⟨hk,by omega⟩))) (show chL w.m B=l1 ++ a :: l3 by rw [s1,c1]) s3
 ·repeat' split
  all_goals first
   | exact absurd (by assumption) e4
   | exact cZ.same
   | exact qk _ _ _ _
   | exact lQ _ _ _ _
   | (have e5 : f.pc=5∧0≤f.slot:=(by assumption);exact jW h _ e5.2 (by omega) (Hg h hx0 hx n7 e5.2 (by omega)))
theorem uY {w : Wrd} (h : Inv w) (P : Nat→Prop) {x : Int} (hx0 : 0≤x) (hx : x < w.ts.length) (hb : (tsk w x).busy=true) (hk : (tsk w x).f.c.kind=1) : cZ w.m P (ar w.m (tsk w x).f).2:=by
 obtain ⟨hf,hF,hd⟩:=fe h hx0 hx hb
 have n7 : cr (tsk w x)=(tsk w x).f.slot:=dj hb (by omega)
 have hs1:=hf.slot1
 have hc1:=hf.cur1
 generalize hfe : (tsk w x).f=f at *
 unfold ar
 by_cases e3 : f.pc=3∧0 < f.cur
 ·rw [if_neg (by omega),if_neg (by omega),if_neg (by omega),if_neg (by omega),if_pos e3]
  rcases oD w.m (f.cur - 1) with ⟨k1,k2⟩ | ⟨k1,k2⟩
  ·rw [k1,if_neg (by decide)];exact cZ.same
  ·rw [k1,if_pos rfl]
   have hr0 : 0≤(msl w.m (f.cur - 1).toNat).refs:=(h.ch.mem.sl (i:=(f.cur - 1).toNat) (by omega)).r0
   show cZ w.m _ (hold w.m (f.cur - 1)).1
   exact cZ.refs (a:=f.cur - 1) (d:=1) (by omega) (by omega) (by rw [k2]) (by rw [k2]) (by rw [k2]) (by rw [k2]) (gX h.ch (we h.ch.mem (by omega) (by omega)) (a:=f.cur - 1) (d:=1) (by omega) (by omega) (by rw [k2]) (by rw [k2]) fun _=>by omega).2
 ·repeat' split
  all_goals first
   | exact absurd (by assumption) e3
   | exact cZ.same
   | (have e5 : f.pc=5∧0≤f.slot:=(by assumption);exact jW h _ e5.2 (by omega) (Hg h hx0 hx n7 e5.2 (by omega)))
   | (have e5 : f.pc=6∧0≤f.slot:=(by assumption);exact jW h _ e5.2 (by omega) (Hg h hx0 hx n7 e5.2 (by omega)))
theorem Eh {w : Wrd} (h : Inv w) {x : Int} (hx0 : 0≤x) (hx : x < w.ts.length) (hb : (tsk w x).busy=true) (hk : (tsk w x).f.c.kind=2) : cZ w.m (At w x) (G3 w.m (tsk w x).f x).2:=by
 obtain ⟨hf,hF,hd⟩:=fe h hx0 hx hb
 have hbr:=aQ h.ch.mem.rJ hf.call (by omega)
 have ek : aa w.m (tsk w x).f.c=bk w.m (tsk w x).f.c.k:=by unfold aa bk;rw [if_neg (by omega)]
 obtain ⟨B,hB⟩ : ∃ B : Nat,aa w.m (tsk w x).f.c=B:=⟨(aa w.m (tsk w x).f.c).toNat,by omega⟩
 have hBl : B < w.m.heads.length:=by omega
 have hch : chF w.m (tsk w x).f=chL w.m B:=by unfold chF;rw [hB];rfl
 have n7 : (tsk w x).f.pc≠7→cr (tsk w x)=(tsk w x).f.slot:=fun e=>dj hb (by omega)
 have hs1:=hf.slot1
 have hA : bI (tsk w x).f→At w x B:=fun hh=>⟨hb,hh,hB⟩
 generalize hfe : (tsk w x).f=f at *
 unfold G3
 by_cases e0 : f.pc=0
 ·rw [if_pos e0]
  split
  ·exact cZ.same
  ·rename_i ht
   have ht : (take w.m f.c.k (bE w.m f)).2.2=0:=Classical.not_not.1 ht
   have hct:=nv hf.call hk
   have hkk : Key.Ok f.c.k:=by
    have:=hf.call
    unfold bf at this
    rw [if_neg (by omega),if_pos hk] at this
    split at this
    ·cases this
    ·exact (gA _).1 this
   have n0:=h.ch.mem.ma
   have n1:=h.ch.mem.Ik
   obtain ⟨t1,t2,t3,t4,t5,t6,t7,t8,t9,t10⟩:=qI h.ch (k:=f.c.k) (t:=bE w.m f) hkk (by unfold bE;split <;> omega) (by unfold bE;split <;> omega) ht
   exact cZ.tak t1 t2 t3 t5 t6 (CG _ _ _) t7 t9 t10 (by unfold bE;split <;> omega)
 rw [if_neg e0]
 by_cases e5 : f.pc=5∧0≤f.slot
 ·rw [if_neg (by omega),if_neg (by omega),if_neg (by omega),if_neg (by omega),if_pos e5]
  obtain ⟨q1,q2,q3⟩:=hF.add1 hk (by omega) (by omega)
  have r5:=hF.add5 hk e5.1
  have ha1 : f.slot < w.m.slots.length:=by omega
  have hre:=Hg h hx0 hx (a:=f.slot) (n7 (by omega)) q1 ha1
  have hbk : bk w.m (kys w.m f.slot)=B:=by rw [q2,← ek,hB]
  have hbn : (bk w.m (kys w.m f.slot)).toNat=B:=by rw [hbk];rfl
  have hkk : ∀ c∈chL w.m B,kys w.m c≠kys w.m f.slot:=fun c hc=>by rw [q2];exact r5 c (by rw [hch];exact hc)
  obtain ⟨c1,c2,c3⟩:=vZ h.ch q1 ha1 (by omega) (fun c hc=>by rw [hbn] at hc;exact hkk c hc)
  show cZ w.m _ (link w.m f.slot (aa w.m f.c))
  rw [hB]
  rw [hbk] at c2
  refine cZ.lnk q1 ha1 hBl (hA (.inl ⟨hk,by omega,by omega⟩)) (by omega) q3 hkk hbk rfl ?_ fun i hi hne=>?_
  ·have:=c2 B hBl
   rwa [if_pos rfl] at this
  ·have:=c2 i hi
   rwa [if_neg (by omega)] at this
 ·repeat' split
  all_goals first
   | exact absurd (by assumption) e5
   | exact cZ.same
   | exact qk _ _ _ _
   | exact lQ _ _ _ _
   | (have e6 : f.pc=6∧0≤f.slot:=(by assumption);exact jW h _ e6.2 (by omega) (Hg h hx0 hx (n7 (by omega)) e6.2 (by omega)))
theorem zB {w : Wrd} (h : Inv w) {x : Int} (hx0 : 0≤x) (hx : x < w.ts.length) (hi : 0≤indexOf (tsk w x).f.c.slot (tsk w x).held 0) : 0≤(tsk w x).f.c.slot∧(tsk w x).f.c.slot < w.m.slots.length∧(fK w.m (tsk w x).f.c.slot : Int) + 1≤(msl w.m (tsk w x).f.c.slot.toNat).refs:=by
 obtain ⟨j,h1,l1,l2,h2,h3⟩:=lf hi
 have hin : (tsk w x).f.c.slot∈(tsk w x).held:=by rw [h2];simp
 obtain ⟨s0,s1⟩:=(h.hd _ (Hf hx0 hx)).2.2 _ hin
 refine ⟨s0,s1,?_⟩
 have q1:=h.rf (tsk w x).f.c.slot.toNat (by omega)
 have q2:=vD (k:=(tsk w x).f.c.slot) (Hf hx0 hx)
 have hc : (1 : Int)≤((tsk w x).held.count (tsk w x).f.c.slot : Int):=by
  have:=List.count_pos_iff.2 hin
  omega
 rw [show (((tsk w x).f.c.slot.toNat : Nat) : Int)=(tsk w x).f.c.slot by omega] at q1
 have q3 : 1≤fv (tsk w x).f.c.slot (tsk w x):=by unfold fv;split <;> omega
 omega
theorem BE {w : Wrd} (h : Inv w) {x : Int} (hx0 : 0≤x) (hx : x < w.ts.length) : cZ w.m (At w x) (cN w x).1.m:=by
 unfold cN
 split
 ·exact cZ.same
 rename_i hb
 have hb : (tsk w x).busy=true:=by simpa using hb
 split
 ·rename_i hk
  split
  ·exact uY h _ hx0 hx hb hk
  ·exact uY h _ hx0 hx hb hk
 split
 ·rename_i _ hk;exact Eh h hx0 hx hb hk
 split
 ·rename_i _ _ hk;exact Ch h hx0 hx hb hk
 split
 ·rename_i _ _ _ hk;exact yP h hx0 hx hb hk
 split
 ·rename_i hi
  obtain ⟨s0,s1,s2⟩:=zB h hx0 hx hi
  exact jW h _ s0 s1 s2
 ·exact cZ.same
theorem BQ {w : Wrd} (h : Inv w) (x : Pik) : cZ w.m (At w x.task) (bN w x).1.m:=by
 unfold bN
 split
 ·split
  ·exact cZ.same
  ·exact cZ.tick
 split
 ·exact cZ.same
 rename_i hr
 split
 ·exact BE h (by omega) (by omega)
 ·unfold eR
  repeat' split
  all_goals exact cZ.same
theorem cZ.lens {m y : Mem} {P : Nat→Prop} (hC : aK m) (h : cZ m P y) : y.slots.length=m.slots.length∧y.heads.length=m.heads.length∧m.now≤y.now:=by
 cases h with
 | quiet l=>exact ⟨rfl,rfl,Int.le_refl _⟩
 | tick=>exact ⟨rfl,rfl,by show m.now≤m.now + 1;omega⟩
 | refs a0 a1 hs hh hn hl hc=>exact ⟨by rw [hs];simp,by rw [hh],by omega⟩
 | tak a0 a1 hr hs hh hn hl hc ho ht=>exact ⟨by rw [hs];simp,by rw [hh],by omega⟩
 | lnk a0 a1 hB hp hr hi hk hb hy hc ho=>exact ⟨by rw [hy];simp [link],by rw [hy];simp [link],by rw [hy];exact Int.le_refl _⟩
 | cutt hB hp e hy hc ho =>
  obtain ⟨_,_,_,_,d5,d6⟩:=kp hC hB e rfl hy
  exact ⟨d5,d6,by rw [hy,Fl];exact Int.le_refl _⟩
theorem cZ.Ij {m y : Mem} {P : Nat→Prop} (h : cZ m P y) {b : Nat} (hb : b < m.heads.length) (hp : ¬ P b) : chL y b=chL m b:=by
 cases h with
 | quiet l=>exact qA m l b
 | tick =>
  have hw : ∀ (f : Nat) (n : Int),walk { m with now:=m.now + 1} f n=walk m f n:=fun f=>by
   induction f with
   | zero=>intro n;rfl
   | succ f ih =>
    intro n
    simp only [walk]
    rw [ih];rfl
  unfold chL bP cQ walked
  rw [hw];rfl
 | refs a0 a1 hs hh hn hl hc=>exact hc b hb
 | tak a0 a1 hr hs hh hn hl hc ho ht=>exact hc b hb
 | lnk a0 a1 hB hp' hr hi hk hbk hy hc ho=>exact ho b hb fun e=>hp (e ▸ hp')
 | cutt hB hp' e hy hc ho=>exact ho b hb fun e=>hp (e ▸ hp')
end Go.Proofs.Ytpmamacjepcdmaa

namespace Go.Proofs.Ytpmamacjepcdmaa
open Go Go.Sy Go.RowKit
set_option linter.unusedSimpArgs false
set_option linter.unusedVariables false
theorem IP {m : Mem} : ∀ {l l' : List Int} {n e e' : Int},Path m n l e→Path m n l' e'→l=l'∧e=e'
 | [],[],_,_,_,h,h'=>⟨rfl,h.1.symm.trans h'.1⟩
 | [],_ :: _,_,_,_,h,h'=>by have:=h.2;have:=h'.2.1;omega
 | _ :: _,[],_,_,_,h,h'=>by have:=h'.2;have:=h.2.1;omega
 | a :: l,b :: l',n,e,e',h,h'=>by
  have hab : a=b:=by have:=h.1;have:=h'.1;omega
  subst hab
  obtain ⟨r1,r2⟩:=IP h.2.2 h'.2.2
  exact ⟨by rw [r1],r2⟩
def Ends (m : Mem) (n : Int) : Prop:=∃ l e,Path m n l e
def Acy (m : Mem) : Prop:=∀ a : Int,0≤a→a < m.slots.length→Ends m (a + 1)
theorem qy {m y : Mem} {c : Int} (hn : ∀ a : Int,0≤a→a≠c→nxt y a=nxt m a) (hc : Ends y (c + 1)) : ∀ {l : List Int} {n e : Int},Path m n l e→Ends y n
 | [],n,e,h=>⟨[],e,h⟩
 | a :: l,n,e,h=>by
  by_cases ha : a=c
  ·rw [h.1,ha];exact hc
  ·obtain ⟨l',e',h'⟩:=qy hn hc h.2.2
   exact ⟨a :: l',e',h.1,h.2.1,by rw [hn a (by have:=h.1;have:=h.2.1;omega) ha];exact h'⟩
theorem mP {m y : Mem} (h : Acy m) (hl : y.slots.length=m.slots.length) (hn : ∀ a,nxt y a=nxt m a) : Acy y:=fun a a0 a1=>by
 obtain ⟨l,e,hp⟩:=h a a0 (by omega)
 exact ⟨l,e,hp.congr fun c _=>hn c⟩
theorem Acy.deed {m y : Mem} {P : Nat→Prop} (hC : aK m) (hD : cZ m P y) (h : Acy m) : Acy y:=by
 have hl:=(hD.lens hC).1
 cases hD with
 | quiet l=>exact mP h rfl fun _=>rfl
 | tick=>exact mP h rfl fun _=>rfl
 | @refs _ a d a0 a1 hs hh hn hk hc =>
  refine mP h hl fun c=>?_
  have:=gn hs (by omega) c.toNat
  show (y.slots.getD c.toNat default).next=_
  rw [this];split
  ·rename_i e;unfold nxt;rw [← e];rfl
  ·rfl
 | @tak _ a k t a0 a1 hr hs hh hn hk hc ho ht =>
  refine mP h hl fun c=>?_
  have:=gn hs (by omega) c.toNat
  show (y.slots.getD c.toNat default).next=_
  rw [this];split
  ·rename_i e;unfold nxt;rw [← e];rfl
  ·rfl
 | @lnk _ a B a0 a1 hB hp hr hi hk hb hy hc ho =>
  have hm : ∀ j,msl y j=if a.toNat=j then jc (aO m B) (msl m a.toNat) else msl m j:=fun j=>gn (by rw [hy];rfl) (by omega) j
  have hn : ∀ c : Int,0≤c→c≠a→nxt y c=nxt m c:=fun c c0 hne=>by unfold nxt;rw [hm,if_neg (by omega)]
  have ha : nxt y a=aO m B:=by unfold nxt;rw [hm,if_pos rfl];rfl
  have hna : a ∉ chL m B:=fun hx=>hk a hx rfl
  have hpa : Path y (aO m B) (chL m B) (-1 - B):=(br.1 (hC.ch hB).of).1.congr fun c hc=>hn c (cW hC hc).1 fun e=>hna (e ▸ hc)
  have hE : Ends y (a + 1):=⟨a :: chL m B,-1 - B,rfl,by omega,by rw [ha];exact hpa⟩
  intro c c0 c1
  obtain ⟨l,e,hp⟩:=h c c0 (by omega)
  exact qy hn hE hp
 | @cutt _ a B l1 l3 hB hp e hy hc ho =>
  obtain ⟨d1,d2,d3,d4,d5,d6⟩:=kp hC hB e rfl hy
  rcases List.eq_nil_or_concat l1 with e1 | ⟨k,c,e1⟩ <;> try rw [List.concat_eq_append] at e1
  ·have e0 : jJ l1=0:=by rw [e1];rfl
   refine mP h hl fun c=>?_
   rw [hy,e0];rfl
  ·have e0 : jJ l1=c + 1:=by rw [e1];unfold jJ;simp
   have hcm : c∈chL m B:=by rw [e,e1];simp
   obtain ⟨c0,c1⟩:=cW hC hcm
   have hs : y.slots=m.slots.modify c.toNat (og (msl m a.toNat).next):=by
    rw [hy,e0];unfold cut
    rw [if_pos (by omega),show c + 1 - 1=c by omega]
   have hm : ∀ j,msl y j=if c.toNat=j then og (msl m a.toNat).next (msl m c.toNat) else msl m j:=fun j=>gn hs (by omega) j
   have hn : ∀ d : Int,0≤d→d≠c→nxt y d=nxt m d:=fun d d0 hne=>by unfold nxt;rw [hm,if_neg (by omega)]
   have hpy:=(br.1 (d1.ch (show B < y.heads.length by omega)).of).1
   rw [d2,e1,List.append_assoc] at hpy
   obtain ⟨q,_,hq⟩:=eE.1 hpy
   have hq : Path y q (c :: l3) (-1 - B):=hq
   have hE : Ends y (c + 1):=⟨c :: l3,-1 - B,by rw [← hq.1];exact hq⟩
   intro d dd0 dd1
   obtain ⟨l,e,hp⟩:=h d dd0 (by omega)
   exact qy hn hE hp
theorem Acy.pick {w : Wrd} (h : Inv w) (ha : Acy w.m) (x : Pik) : Acy (bN w x).1.m:=ha.deed h.ch (BQ h x)
theorem Acy.new {a b n : Int} (h : (iw a b n).2=0) : Acy (iw a b n).1.m:=by
 unfold iw at h ⊢
 split at h
 ·rename_i h1;exact absurd h h1
 rename_i h1
 rw [if_neg h1]
 split at h
 ·cases h
 rename_i h2
 rw [if_neg h2]
 have h1 : (dx a b).2=0:=Classical.not_not.1 h1
 show Acy (dx a b).1
 unfold dx at h1 ⊢
 split at h1
 ·cases h1
 rename_i h3
 rw [if_neg h3]
 intro c c0 c1
 have hn : ∀ m : Mem,m.slots=List.replicate a.toNat default→nxt m c=0:=fun m hm=>by
  unfold nxt msl
  rw [hm,List.getD_eq_getElem?_getD,List.getElem?_replicate]
  split <;> rfl
 exact ⟨[c],0,rfl,by omega,by rw [hn _ rfl];exact ⟨rfl,Int.le_refl _⟩⟩
end Go.Proofs.Ytpmamacjepcdmaa
