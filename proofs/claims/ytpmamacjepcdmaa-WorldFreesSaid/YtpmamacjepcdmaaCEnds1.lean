import Derived.Test.YtpmamacjepcdmaaCEff
namespace Go.Proofs.Ytpmamacjepcdmaa
open Go Go.Sy Go.RowKit
set_option linter.unusedSimpArgs false
set_option linter.unusedVariables false
inductive cZ (m : Mem) (P : Nat→Prop) : Mem→Prop
 | quiet (l : List Int) : cZ m P { m with ae:=l}
 | tick : cZ m P { m with now:=m.now + 1}
 | refs {y : Mem} {a d : Int} (a0 : 0≤a) (a1 : a < m.slots.length) (hs : y.slots=m.slots.modify a.toNat (bx d)) (hh : y.heads=m.heads) (hn : y.now=m.now) (hl : y.ae=m.ae) (hc : ∀ b,b < m.heads.length→chL y b=chL m b) : cZ m P y
 | tak {y : Mem} {a : Int} {k : Key} {t : Int} (a0 : 0≤a) (a1 : a < m.slots.length) (hr : (msl m a.toNat).refs=0) (hs : y.slots=m.slots.modify a.toNat (cp k t)) (hh : y.heads=m.heads) (hn : y.now=m.now) (hl : y.ae=m.ae)
   (hc : ∀ b,b < m.heads.length→chL y b=chL m b) (ho : ∀ b,b < m.heads.length→a ∉ chL m b) (ht : m.now < t) : cZ m P y
 | lnk {y : Mem} {a : Int} {B : Nat} (a0 : 0≤a) (a1 : a < m.slots.length) (hB : B < m.heads.length) (hp : P B) (hr : (msl m a.toNat).refs≠0) (hi : (msl m a.toNat).inn=false) (hk : ∀ c∈chL m B,kys m c≠kys m a) (hb : bk m (kys m a)=B) (hy : y=link m a B)
   (hc : chL y B=a :: chL m B) (ho : ∀ b,b < m.heads.length→b≠B→chL y b=chL m b) : cZ m P y
 | cutt {y : Mem} {a : Int} {B : Nat} {l1 l3 : List Int} (hB : B < m.heads.length) (hp : P B) (e : chL m B=l1 ++ a :: l3) (hy : y=cut m (jJ l1) a B)
   (hc : chL y B=l1 ++ l3) (ho : ∀ b,b < m.heads.length→b≠B→chL y b=chL m b) : cZ m P y
theorem cZ.same {m : Mem} {P : Nat→Prop} : cZ m P m:=cZ.quiet m.ae
theorem qk (m : Mem) (P : Nat→Prop) (b x : Int) : cZ m P (lock m b x).1:=by
 rcases dA m b x with ⟨h,_⟩ | h
 ·rw [h];exact cZ.quiet _
 ·rw [h];exact cZ.same
theorem lQ (m : Mem) (P : Nat→Prop) (b x : Int) : cZ m P (unlock m b x):=by
 obtain ⟨l,h,_⟩:=pU m b x
 rw [h];exact cZ.quiet _
theorem jW {w : Wrd} (h : Inv w) (P : Nat→Prop) {a : Int} (a0 : 0≤a) (a1 : a < w.m.slots.length) (hr : (fK w.m a : Int) + 1≤(msl w.m a.toNat).refs) : cZ w.m P (put w.m a):=by
 obtain ⟨u1,u2,u3,u4⟩:=fQ (m:=w.m) (a:=a) (by omega)
 exact cZ.refs a0 a1 u1 u2 u4 u3 (gX h.ch (iY h.ch.mem a0 a1) a0 a1 u1 u2 fun ⟨b,hb1,hb2⟩=>by have:=HU hb1 hb2;omega).2
theorem x9 {m : Mem} {P : Nat→Prop} (hC : aK m) {B : Nat} (hB : B < m.heads.length) (hp : P B) {l1 l3 : List Int} {a p : Int} (e : chL m B=l1 ++ a :: l3) (hl : p=jJ l1) : cZ m P (cut m p a B):=by
 subst hl
 obtain ⟨d1,d2,d3,d4,d5,d6⟩:=kp hC hB e rfl rfl
 exact cZ.cutt hB hp e rfl d2 d3
def At (w : Wrd) (x : Int) (B : Nat) : Prop:=(tsk w x).busy=true∧bI (tsk w x).f∧aa w.m (tsk w x).f.c=B
theorem Ch {w : Wrd} (h : Inv w) {x : Int} (hx0 : 0≤x) (hx : x < w.ts.length) (hb : (tsk w x).busy=true) (hk : (tsk w x).f.c.kind=3) : cZ w.m (At w x) (aL w.m (tsk w x).f x).2:=by
 obtain ⟨hf,hF,hd⟩:=fe h hx0 hx hb
 have hbr:=aQ h.ch.mem.rJ hf.call (by omega)
 obtain ⟨B,hB⟩ : ∃ B : Nat,aa w.m (tsk w x).f.c=B:=⟨(aa w.m (tsk w x).f.c).toNat,by omega⟩
 have hBl : B < w.m.heads.length:=by omega
 have hch : chF w.m (tsk w x).f=chL w.m B:=by unfold chF;rw [hB];rfl
 have n7 : cr (tsk w x)=(tsk w x).f.slot:=dj hb (by omega)
 have hs1:=hf.slot1
 have hA : bI (tsk w x).f→At w x B:=fun hh=>⟨hb,hh,hB⟩
 generalize hfe : (tsk w x).f=f at *
 unfold aL
 by_cases e4 : f.pc=4∧0 < f.cur
 ·rw [if_neg (by omega),if_neg (by omega),if_neg (by omega),if_neg (by omega),if_pos e4]
  obtain ⟨⟨l1,l2,s1,s2,s3⟩,hcu⟩:=hF.drop2 hk (by omega) (by omega)
  rw [hB] at s2
  rw [hch] at s1
  obtain ⟨a,l3,c1,c2,c3,c4,c5⟩:=jA h.ch hBl s1 (by rw [← s2];omega)
  have hca : f.cur - 1=a:=by omega
  show cZ w.m _ (cut w.m f.prev (f.cur - 1) (aa w.m f.c))
  rw [hca,hB]
  exact x9 h.ch hBl (hA (.inr (.inl ⟨hk,by omega,by omega⟩))) (show chL w.m B=l1 ++ a :: l3 by rw [s1,c1]) s3
 ·repeat' split
  all_goals first
   | exact absurd (by assumption) e4
   | exact cZ.same
   | exact qk _ _ _ _
   | exact lQ _ _ _ _
   | exact jW h _ (by assumption) (by omega) (Hg h hx0 hx n7 (by assumption) (by omega))
theorem yP {w : Wrd} (h : Inv w) {x : Int} (hx0 : 0≤x) (hx : x < w.ts.length) (hb : (tsk w x).busy=true) (hk : (tsk w x).f.c.kind=4∨(tsk w x).f.c.kind=5) : cZ w.m (At w x) (aB w.m (tsk w x).f x).2:=by
 obtain ⟨hf,hF,hd⟩:=fe h hx0 hx hb
 have hbr:=aQ h.ch.mem.rJ hf.call (by omega)
 obtain ⟨B,hB⟩ : ∃ B : Nat,aa w.m (tsk w x).f.c=B:=⟨(aa w.m (tsk w x).f.c).toNat,by omega⟩
 have hBl : B < w.m.heads.length:=by omega
 have hch : chF w.m (tsk w x).f=chL w.m B:=by unfold chF;rw [hB];rfl
 have n7 : cr (tsk w x)=(tsk w x).f.slot:=dj hb (by omega)
 have hs1:=hf.slot1
 have hA : bI (tsk w x).f→At w x B:=fun hh=>⟨hb,hh,hB⟩
 generalize hfe : (tsk w x).f=f at *
 unfold aB
 by_cases e4 : f.pc=4∧0 < f.cur
 ·rw [if_neg (by omega),if_neg (by omega),if_neg (by omega),if_neg (by omega),if_neg (by omega),if_neg (by omega),if_pos e4]
  obtain ⟨⟨l1,l2,s1,s2,s3⟩,hcu⟩:=hF.sweep2 hk (by omega) (by omega)
  rw [hB] at s2
  rw [hch] at s1
  obtain ⟨a,l3,c1,c2,c3,c4,c5⟩:=jA h.ch hBl s1 (by rw [← s2];omega)
  have hca : f.cur - 1=a:=by omega
  show cZ w.m _ (cut w.m f.prev (f.cur - 1) (aa w.m f.c))
  rw [hca,hB]
  exact x9 h.ch hBl (hA (.inr (.inr ⟨hk,by omega⟩))) (show chL w.m B=l1 ++ a :: l3 by rw [s1,c1]) s3
 ·repeat' split
  all_goals first
   | exact absurd (by assumption) e4
   | exact cZ.same
   | exact qk _ _ _ _
   | exact lQ _ _ _ _
   | (have e5 : f.pc=5∧0≤f.slot:=(by assumption);exact jW h _ e5.2 (by omega) (Hg h hx0 hx n7 e5.2 (by omega)))
theorem uY {w : Wrd} (h : Inv w) (P : Nat→Prop) {x : Int} (hx0 : 0≤x) (hx : x < w.ts.length) (hb : (tsk w x).busy=true) (hk : (tsk w x).f.c.kind=1) : cZ w.m P (ar w.m (tsk w x).f).2:=by
 obtain ⟨hf,hF,hd⟩:=fe h hx0 hx hb
 have n7 : cr (tsk w x)=(tsk w x).f.slot:=dj hb (by omega)
 have hs1:=hf.slot1
 have hc1:=hf.cur1
 generalize hfe : (tsk w x).f=f at *
 unfold ar
 by_cases e3 : f.pc=3∧0 < f.cur
 ·rw [if_neg (by omega),if_neg (by omega),if_neg (by omega),if_neg (by omega),if_pos e3]
  rcases oD w.m (f.cur - 1) with ⟨k1,k2⟩ | ⟨k1,k2⟩
  ·rw [k1,if_neg (by decide)];exact cZ.same
  ·rw [k1,if_pos rfl]
   have hr0 : 0≤(msl w.m (f.cur - 1).toNat).refs:=(h.ch.mem.sl (i:=(f.cur - 1).toNat) (by omega)).r0
   show cZ w.m _ (hold w.m (f.cur - 1)).1
   exact cZ.refs (a:=f.cur - 1) (d:=1) (by omega) (by omega) (by rw [k2]) (by rw [k2]) (by rw [k2]) (by rw [k2]) (gX h.ch (we h.ch.mem (by omega) (by omega)) (a:=f.cur - 1) (d:=1) (by omega) (by omega) (by rw [k2]) (by rw [k2]) fun _=>by omega).2
 ·repeat' split
  all_goals first
   | exact absurd (by assumption) e3
   | exact cZ.same
   | (have e5 : f.pc=5∧0≤f.slot:=(by assumption);exact jW h _ e5.2 (by omega) (Hg h hx0 hx n7 e5.2 (by omega)))
   | (have e5 : f.pc=6∧0≤f.slot:=(by assumption);exact jW h _ e5.2 (by omega) (Hg h hx0 hx n7 e5.2 (by omega)))
theorem Eh {w : Wrd} (h : Inv w) {x : Int} (hx0 : 0≤x) (hx : x < w.ts.length) (hb : (tsk w x).busy=true) (hk : (tsk w x).f.c.kind=2) : cZ w.m (At w x) (G3 w.m (tsk w x).f x).2:=by
 obtain ⟨hf,hF,hd⟩:=fe h hx0 hx hb
 have hbr:=aQ h.ch.mem.rJ hf.call (by omega)
 have ek : aa w.m (tsk w x).f.c=bk w.m (tsk w x).f.c.k:=by unfold aa bk;rw [if_neg (by omega)]
 obtain ⟨B,hB⟩ : ∃ B : Nat,aa w.m (tsk w x).f.c=B:=⟨(aa w.m (tsk w x).f.c).toNat,by omega⟩
 have hBl : B < w.m.heads.length:=by omega
 have hch : chF w.m (tsk w x).f=chL w.m B:=by unfold chF;rw [hB];rfl
 have n7 : (tsk w x).f.pc≠7→cr (tsk w x)=(tsk w x).f.slot:=fun e=>dj hb (by omega)
 have hs1:=hf.slot1
 have hA : bI (tsk w x).f→At w x B:=fun hh=>⟨hb,hh,hB⟩
 generalize hfe : (tsk w x).f=f at *
 unfold G3
 by_cases e0 : f.pc=0
 ·rw [if_pos e0]
  split
  ·exact cZ.same
  ·rename_i ht
   have ht : (take w.m f.c.k (bE w.m f)).2.2=0:=Classical.not_not.1 ht
   have hct:=nv hf.call hk
   have hkk : Key.Ok f.c.k:=by
    have:=hf.call
    unfold bf at this
    rw [if_neg (by omega),if_pos hk] at this
    split at this
    ·cases this
    ·exact (gA _).1 this
   have n0:=h.ch.mem.ma
   have n1:=h.ch.mem.Ik
   obtain ⟨t1,t2,t3,t4,t5,t6,t7,t8,t9,t10⟩:=qI h.ch (k:=f.c.k) (t:=bE w.m f) hkk (by unfold bE;split <;> omega) (by unfold bE;split <;> omega) ht
   exact cZ.tak t1 t2 t3 t5 t6 (CG _ _ _) t7 t9 t10 (by unfold bE;split <;> omega)
 rw [if_neg e0]
 by_cases e5 : f.pc=5∧0≤f.slot
 ·rw [if_neg (by omega),if_neg (by omega),if_neg (by omega),if_neg (by omega),if_pos e5]
  obtain ⟨q1,q2,q3⟩:=hF.add1 hk (by omega) (by omega)
  have r5:=hF.add5 hk e5.1
  have ha1 : f.slot < w.m.slots.length:=by omega
  have hre:=Hg h hx0 hx (a:=f.slot) (n7 (by omega)) q1 ha1
  have hbk : bk w.m (kys w.m f.slot)=B:=by rw [q2,← ek,hB]
  have hbn : (bk w.m (kys w.m f.slot)).toNat=B:=by rw [hbk];rfl
  have hkk : ∀ c∈chL w.m B,kys w.m c≠kys w.m f.slot:=fun c hc=>by rw [q2];exact r5 c (by rw [hch];exact hc)
  obtain ⟨c1,c2,c3⟩:=vZ h.ch q1 ha1 (by omega) (fun c hc=>by rw [hbn] at hc;exact hkk c hc)
  show cZ w.m _ (link w.m f.slot (aa w.m f.c))
  rw [hB]
  rw [hbk] at c2
  refine cZ.lnk q1 ha1 hBl (hA (.inl ⟨hk,by omega,by omega⟩)) (by omega) q3 hkk hbk rfl ?_ fun i hi hne=>?_
  ·have:=c2 B hBl
   rwa [if_pos rfl] at this
  ·have:=c2 i hi
   rwa [if_neg (by omega)] at this
 ·repeat' split
  all_goals first
   | exact absurd (by assumption) e5
   | exact cZ.same
   | exact qk _ _ _ _
   | exact lQ _ _ _ _
   | (have e6 : f.pc=6∧0≤f.slot:=(by assumption);exact jW h _ e6.2 (by omega) (Hg h hx0 hx (n7 (by omega)) e6.2 (by omega)))
theorem zB {w : Wrd} (h : Inv w) {x : Int} (hx0 : 0≤x) (hx : x < w.ts.length) (hi : 0≤indexOf (tsk w x).f.c.slot (tsk w x).held 0) : 0≤(tsk w x).f.c.slot∧(tsk w x).f.c.slot < w.m.slots.length∧(fK w.m (tsk w x).f.c.slot : Int) + 1≤(msl w.m (tsk w x).f.c.slot.toNat).refs:=by
 obtain ⟨j,h1,l1,l2,h2,h3⟩:=lf hi
 have hin : (tsk w x).f.c.slot∈(tsk w x).held:=by rw [h2];simp
 obtain ⟨s0,s1⟩:=(h.hd _ (Hf hx0 hx)).2.2 _ hin
 refine ⟨s0,s1,?_⟩
 have q1:=h.rf (tsk w x).f.c.slot.toNat (by omega)
 have q2:=vD (k:=(tsk w x).f.c.slot) (Hf hx0 hx)
 have hc : (1 : Int)≤((tsk w x).held.count (tsk w x).f.c.slot : Int):=by
  have:=List.count_pos_iff.2 hin
  omega
 rw [show (((tsk w x).f.c.slot.toNat : Nat) : Int)=(tsk w x).f.c.slot by omega] at q1
 have q3 : 1≤fv (tsk w x).f.c.slot (tsk w x):=by unfold fv;split <;> omega
 omega
theorem BE {w : Wrd} (h : Inv w) {x : Int} (hx0 : 0≤x) (hx : x < w.ts.length) : cZ w.m (At w x) (cN w x).1.m:=by
 unfold cN
 split
 ·exact cZ.same
 rename_i hb
 have hb : (tsk w x).busy=true:=by simpa using hb
 split
 ·rename_i hk
  split
  ·exact uY h _ hx0 hx hb hk
  ·exact uY h _ hx0 hx hb hk
 split
 ·rename_i _ hk;exact Eh h hx0 hx hb hk
 split
 ·rename_i _ _ hk;exact Ch h hx0 hx hb hk
 split
 ·rename_i _ _ _ hk;exact yP h hx0 hx hb hk
 split
 ·rename_i hi
  obtain ⟨s0,s1,s2⟩:=zB h hx0 hx hi
  exact jW h _ s0 s1 s2
 ·exact cZ.same
theorem BQ {w : Wrd} (h : Inv w) (x : Pik) : cZ w.m (At w x.task) (bN w x).1.m:=by
 unfold bN
 split
 ·split
  ·exact cZ.same
  ·exact cZ.tick
 split
 ·exact cZ.same
 rename_i hr
 split
 ·exact BE h (by omega) (by omega)
 ·unfold eR
  repeat' split
  all_goals exact cZ.same
theorem cZ.lens {m y : Mem} {P : Nat→Prop} (hC : aK m) (h : cZ m P y) : y.slots.length=m.slots.length∧y.heads.length=m.heads.length∧m.now≤y.now:=by
 cases h with
 | quiet l=>exact ⟨rfl,rfl,Int.le_refl _⟩
 | tick=>exact ⟨rfl,rfl,by show m.now≤m.now + 1;omega⟩
 | refs a0 a1 hs hh hn hl hc=>exact ⟨by rw [hs];simp,by rw [hh],by omega⟩
 | tak a0 a1 hr hs hh hn hl hc ho ht=>exact ⟨by rw [hs];simp,by rw [hh],by omega⟩
 | lnk a0 a1 hB hp hr hi hk hb hy hc ho=>exact ⟨by rw [hy];simp [link],by rw [hy];simp [link],by rw [hy];exact Int.le_refl _⟩
 | cutt hB hp e hy hc ho =>
  obtain ⟨_,_,_,_,d5,d6⟩:=kp hC hB e rfl hy
  exact ⟨d5,d6,by rw [hy,Fl];exact Int.le_refl _⟩
theorem cZ.Ij {m y : Mem} {P : Nat→Prop} (h : cZ m P y) {b : Nat} (hb : b < m.heads.length) (hp : ¬ P b) : chL y b=chL m b:=by
 cases h with
 | quiet l=>exact qA m l b
 | tick =>
  have hw : ∀ (f : Nat) (n : Int),walk { m with now:=m.now + 1} f n=walk m f n:=fun f=>by
   induction f with
   | zero=>intro n;rfl
   | succ f ih =>
    intro n
    simp only [walk]
    rw [ih];rfl
  unfold chL bP cQ walked
  rw [hw];rfl
 | refs a0 a1 hs hh hn hl hc=>exact hc b hb
 | tak a0 a1 hr hs hh hn hl hc ho ht=>exact hc b hb
 | lnk a0 a1 hB hp' hr hi hk hbk hy hc ho=>exact ho b hb fun e=>hp (e ▸ hp')
 | cutt hB hp' e hy hc ho=>exact ho b hb fun e=>hp (e ▸ hp')
end Go.Proofs.Ytpmamacjepcdmaa

namespace Go.Proofs.Ytpmamacjepcdmaa
open Go Go.Sy Go.RowKit
set_option linter.unusedSimpArgs false
set_option linter.unusedVariables false
theorem IP {m : Mem} : ∀ {l l' : List Int} {n e e' : Int},Path m n l e→Path m n l' e'→l=l'∧e=e'
 | [],[],_,_,_,h,h'=>⟨rfl,h.1.symm.trans h'.1⟩
 | [],_ :: _,_,_,_,h,h'=>by have:=h.2;have:=h'.2.1;omega
 | _ :: _,[],_,_,_,h,h'=>by have:=h'.2;have:=h.2.1;omega
 | a :: l,b :: l',n,e,e',h,h'=>by
  have hab : a=b:=by have:=h.1;have:=h'.1;omega
  subst hab
  obtain ⟨r1,r2⟩:=IP h.2.2 h'.2.2
  exact ⟨by rw [r1],r2⟩
theorem LY {m : Mem} : ∀ {l : List Int} {n e : Int},Path m n l e→l.Nodup
 | [],_,_,_=>List.nodup_nil
 | a :: l,n,e,h=>by
  refine List.nodup_cons.2 ⟨fun ha=>?_,LY h.2.2⟩
  obtain ⟨s1,s2,rfl⟩:=List.append_of_mem ha
  obtain ⟨q,_,h2⟩:=eE.1 h.2.2
  have hq : q=n:=by rw [h2.1,h.1]
  rw [hq] at h2
  have:=congrArg List.length (IP h h2).1
  simp at this
  omega
theorem MN {m : Mem} (hm : bB m) {a : Int} : nxt m a≤m.slots.length:=by
 by_cases ha : a.toNat < m.slots.length
 ·exact (hm.sl ha).n0
 ·unfold nxt msl
  rw [List.getD_eq_getElem?_getD,List.getElem?_eq_none (by omega)]
  show (0 : Int)≤_
  omega
theorem LZ {m : Mem} (hm : bB m) : ∀ {l : List Int} {n e : Int},n≤m.slots.length→Path m n l e→∀ a∈l,0≤a∧a < m.slots.length
 | [],_,_,_,_,_,h=>by cases h
 | b :: l,n,e,hn,h,a,ha=>by
  rcases List.mem_cons.1 ha with rfl | ha
  ·have:=h.1;have:=h.2.1;omega
  ·exact LZ hm (MN hm) h.2.2 a ha
theorem LC {m : Mem} (hm : bB m) {l : List Int} {n e : Int} (hn : n≤m.slots.length) (h : Path m n l e) : l.length≤12:=by
 have h1:=pa (LY h) (LZ hm hn h)
 have:=hm.ns
 omega
def Ends (m : Mem) (n : Int) : Prop:=∃ l e,Path m n l e
def Acy (m : Mem) : Prop:=∀ a : Int,0≤a→a < m.slots.length→Ends m (a + 1)
theorem qy {m y : Mem} {c : Int} (hn : ∀ a : Int,0≤a→a≠c→nxt y a=nxt m a) (hc : Ends y (c + 1)) : ∀ {l : List Int} {n e : Int},Path m n l e→Ends y n
 | [],n,e,h=>⟨[],e,h⟩
 | a :: l,n,e,h=>by
  by_cases ha : a=c
  ·rw [h.1,ha];exact hc
  ·obtain ⟨l',e',h'⟩:=qy hn hc h.2.2
   exact ⟨a :: l',e',h.1,h.2.1,by rw [hn a (by have:=h.1;have:=h.2.1;omega) ha];exact h'⟩
theorem mP {m y : Mem} (h : Acy m) (hl : y.slots.length=m.slots.length) (hn : ∀ a,nxt y a=nxt m a) : Acy y:=fun a a0 a1=>by
 obtain ⟨l,e,hp⟩:=h a a0 (by omega)
 exact ⟨l,e,hp.congr fun c _=>hn c⟩
theorem Acy.deed {m y : Mem} {P : Nat→Prop} (hC : aK m) (hD : cZ m P y) (h : Acy m) : Acy y:=by
 have hl:=(hD.lens hC).1
 cases hD with
 | quiet l=>exact mP h rfl fun _=>rfl
 | tick=>exact mP h rfl fun _=>rfl
 | @refs _ a d a0 a1 hs hh hn hk hc =>
  refine mP h hl fun c=>?_
  have:=gn hs (by omega) c.toNat
  show (y.slots.getD c.toNat default).next=_
  rw [this];split
  ·rename_i e;unfold nxt;rw [← e];rfl
  ·rfl
 | @tak _ a k t a0 a1 hr hs hh hn hk hc ho ht =>
  refine mP h hl fun c=>?_
  have:=gn hs (by omega) c.toNat
  show (y.slots.getD c.toNat default).next=_
  rw [this];split
  ·rename_i e;unfold nxt;rw [← e];rfl
  ·rfl
 | @lnk _ a B a0 a1 hB hp hr hi hk hb hy hc ho =>
  have hm : ∀ j,msl y j=if a.toNat=j then jc (aO m B) (msl m a.toNat) else msl m j:=fun j=>gn (by rw [hy];rfl) (by omega) j
  have hn : ∀ c : Int,0≤c→c≠a→nxt y c=nxt m c:=fun c c0 hne=>by unfold nxt;rw [hm,if_neg (by omega)]
  have ha : nxt y a=aO m B:=by unfold nxt;rw [hm,if_pos rfl];rfl
  have hna : a ∉ chL m B:=fun hx=>hk a hx rfl
  have hpa : Path y (aO m B) (chL m B) (-1 - B):=(br.1 (hC.ch hB).of).1.congr fun c hc=>hn c (cW hC hc).1 fun e=>hna (e ▸ hc)
  have hE : Ends y (a + 1):=⟨a :: chL m B,-1 - B,rfl,by omega,by rw [ha];exact hpa⟩
  intro c c0 c1
  obtain ⟨l,e,hp⟩:=h c c0 (by omega)
  exact qy hn hE hp
 | @cutt _ a B l1 l3 hB hp e hy hc ho =>
  obtain ⟨d1,d2,d3,d4,d5,d6⟩:=kp hC hB e rfl hy
  rcases List.eq_nil_or_concat l1 with e1 | ⟨k,c,e1⟩ <;> try rw [List.concat_eq_append] at e1
  ·have e0 : jJ l1=0:=by rw [e1];rfl
   refine mP h hl fun c=>?_
   rw [hy,e0];rfl
  ·have e0 : jJ l1=c + 1:=by rw [e1];unfold jJ;simp
   have hcm : c∈chL m B:=by rw [e,e1];simp
   obtain ⟨c0,c1⟩:=cW hC hcm
   have hs : y.slots=m.slots.modify c.toNat (og (msl m a.toNat).next):=by
    rw [hy,e0];unfold cut
    rw [if_pos (by omega),show c + 1 - 1=c by omega]
   have hm : ∀ j,msl y j=if c.toNat=j then og (msl m a.toNat).next (msl m c.toNat) else msl m j:=fun j=>gn hs (by omega) j
   have hn : ∀ d : Int,0≤d→d≠c→nxt y d=nxt m d:=fun d d0 hne=>by unfold nxt;rw [hm,if_neg (by omega)]
   have hpy:=(br.1 (d1.ch (show B < y.heads.length by omega)).of).1
   rw [d2,e1,List.append_assoc] at hpy
   obtain ⟨q,_,hq⟩:=eE.1 hpy
   have hq : Path y q (c :: l3) (-1 - B):=hq
   have hE : Ends y (c + 1):=⟨c :: l3,-1 - B,by rw [← hq.1];exact hq⟩
   intro d dd0 dd1
   obtain ⟨l,e,hp⟩:=h d dd0 (by omega)
   exact qy hn hE hp
theorem Acy.pick {w : Wrd} (h : Inv w) (ha : Acy w.m) (x : Pik) : Acy (bN w x).1.m:=ha.deed h.ch (BQ h x)
theorem Acy.new {a b n : Int} (h : (iw a b n).2=0) : Acy (iw a b n).1.m:=by
 unfold iw at h ⊢
 split at h
 ·rename_i h1;exact absurd h h1
 rename_i h1
 rw [if_neg h1]
 split at h
 ·cases h
 rename_i h2
 rw [if_neg h2]
 have h1 : (dx a b).2=0:=Classical.not_not.1 h1
 show Acy (dx a b).1
 unfold dx at h1 ⊢
 split at h1
 ·cases h1
 rename_i h3
 rw [if_neg h3]
 intro c c0 c1
 have hn : ∀ m : Mem,m.slots=List.replicate a.toNat default→nxt m c=0:=fun m hm=>by
  unfold nxt msl
  rw [hm,List.getD_eq_getElem?_getD,List.getElem?_replicate]
  split <;> rfl
 exact ⟨[c],0,rfl,by omega,by rw [hn _ rfl];exact ⟨rfl,Int.le_refl _⟩⟩
end Go.Proofs.Ytpmamacjepcdmaa

namespace Go.Proofs.Ytpmamacjepcdmaa
open Go Go.Sy Go.RowKit
set_option linter.unusedSimpArgs false
set_option linter.unusedVariables false
def Hr (m : Mem) (f : Frm) : Nat:=((chF m f).dropWhile fun a=>decide (a≠f.cur - 1)).length
theorem L7 {a : Int} : ∀ {l1 l3 : List Int},a ∉ l1→(l1 ++ a :: l3).dropWhile (fun c=>decide (c≠a))=a :: l3
 | [],l3,_=>by simp
 | c :: l1,l3,h=>by
  have h1 : c≠a:=fun e=>h (by simp [e])
  rw [List.cons_append,List.dropWhile_cons,if_pos (by simpa using h1)]
  exact L7 fun hx=>h (by simp [hx])
theorem Lt {α : Type} {p : α→Bool} : ∀ {l : List α},(∀ a∈l,p a=true)→l.dropWhile p=[]
 | [],_=>rfl
 | a :: l,h=>by
  rw [List.dropWhile_cons,if_pos (h a (by simp))]
  exact Lt fun b hb=>h b (by simp [hb])
theorem Ip {m : Mem} {f : Frm} {b : Nat} {l1 l2 : List Int} (hC : aK m) (hb : b < m.heads.length) (hB : aa m f.c=b) (h : chL m b=l1 ++ l2) (hc : f.cur=ig b l2) : Hr m f=l2.length:=by
 have e : chF m f=chL m b:=by unfold chF;rw [hB];rfl
 unfold Hr
 rw [e]
 cases l2 with
 | nil =>
  have : (chL m b).dropWhile (fun a=>decide (a≠f.cur - 1))=[]:=Lt fun a ha=>by
   have h0:=(cW hC ha).1
   have hc : f.cur=-1 - (b : Int):=hc
   simp;omega
  rw [this]
 | cons a l3 =>
  have hc : f.cur=a + 1:=hc
  have hnd:=(hC.ch hb).ndl
  rw [h] at hnd ⊢
  rw [show f.cur - 1=a by omega,L7 fun hx=>(List.nodup_append.1 hnd).2.2 a hx a (by simp) rfl]
def H5 (m : Mem) (f : Frm) : Nat:=if f.pc=0 then 40 else if f.pc=1 then 39 else if f.pc=2 then 38 else if f.pc=3 then 2 * Hr m f + 5 else if f.pc=4 then 2 * Hr m f + 4 else if f.pc=5∨f.pc=6 then 2 else 1
def HB (m : Mem) (f : Frm) : Nat:=if f.pc=0 then 40 else if f.pc=1 then 39 else if f.pc=2 then 2 * Hr m f + 6 else if f.pc=3 then 2 * Hr m f + 5 else if f.pc=4 then 3 else if f.pc=5 then 2 else 1
def Ho (m : Mem) (f : Frm) : Nat:=if f.pc=0 then 45 else if f.pc=1 then 44 else if f.pc=2 then 3 * Hr m f + 5 else if f.pc=3∨f.pc=4 then 3 * Hr m f + 4 else if f.pc=5 then 3 * Hr m f + 6 else 1
def aF (m : Mem) (f : Frm) : Nat:=if f.c.kind=1 then 0 else if f.c.kind=2 then H5 m f else if f.c.kind=3 then HB m f else if f.c.kind=4∨f.c.kind=5 then Ho m f else 1
theorem M7 (m : Mem) (f : Frm) (h : f.c.kind≠1) : 1≤aF m f:=by
 unfold aF H5 HB Ho
 rw [if_neg h]
 repeat' split
 all_goals omega
theorem J1 {m : Mem} (hC : aK m) (f : Frm) : Hr m f≤12:=by
 unfold Hr
 have h1 : ((chF m f).dropWhile fun a=>decide (a≠f.cur - 1)).length≤(chF m f).length:=(List.dropWhile_sublist _).length_le
 have h2 : (chF m f).length≤m.slots.length:=(oL hC.mem _).1
 have:=hC.mem.ns
 omega
theorem aF_le {m : Mem} (hC : aK m) (f : Frm) : aF m f≤45:=by
 have:=J1 hC f
 unfold aF H5 HB Ho
 repeat' split
 all_goals omega
theorem Nr {m y : Mem} {f : Frm} (h : bI f→chF y f=chF m f) : aF y f=aF m f:=by
 have hr : bI f→Hr y f=Hr m f:=fun hh=>by unfold Hr;rw [h hh]
 unfold aF
 by_cases k1 : f.c.kind=1
 ·rw [if_pos k1,if_pos k1]
 rw [if_neg k1,if_neg k1]
 by_cases k2 : f.c.kind=2
 ·rw [if_pos k2,if_pos k2]
  unfold H5
  by_cases hp : f.pc=0∨f.pc=1
  ·rcases hp with e | e <;> simp [e]
  ·rw [hr (.inl ⟨k2,by omega,by omega⟩)]
 rw [if_neg k2,if_neg k2]
 by_cases k3 : f.c.kind=3
 ·rw [if_pos k3,if_pos k3]
  unfold HB
  by_cases hp : f.pc=0∨f.pc=6
  ·rcases hp with e | e <;> simp [e]
  ·rw [hr (.inr (.inl ⟨k3,by omega,by omega⟩))]
 rw [if_neg k3,if_neg k3]
 by_cases k4 : f.c.kind=4∨f.c.kind=5
 ·rw [if_pos k4,if_pos k4]
  unfold Ho
  by_cases hp : f.pc=0
  ·simp [hp]
  ·rw [hr (.inr (.inr ⟨k4,by omega⟩))]
 rw [if_neg k4,if_neg k4]
def LP (m : Mem) (f : Frm) (r : Frm × Mem) (lk : Int) : Prop:=(r=(f,m)∧f.pc=lk∧m.ae.getD (aa m f.c).toNat 0≠-1)∨r.1.done=true∨(r.1.done=f.done∧r.1.c=f.c∧aF r.2 r.1 < aF m f)
theorem Jd {m : Mem} {b x : Int} (h : lock m b x=(m,false)) : m.ae.getD b.toNat 0≠-1:=fun e=>by
 unfold lock at h
 rw [if_pos e] at h
 have:=congrArg Prod.snd h
 cases this
theorem M5 {w : Wrd} (h : Inv w) {x : Int} (hx0 : 0≤x) (hx : x < w.ts.length) (hb : (tsk w x).busy=true) (hk : (tsk w x).f.c.kind=2) : LP w.m (tsk w x).f (G3 w.m (tsk w x).f x) 1:=by
 obtain ⟨hf,hF,hd⟩:=fe h hx0 hx hb
 have hbr:=aQ h.ch.mem.rJ hf.call (by omega)
 obtain ⟨B,hB⟩ : ∃ B : Nat,aa w.m (tsk w x).f.c=B:=⟨(aa w.m (tsk w x).f.c).toNat,by omega⟩
 have hBl : B < w.m.heads.length:=by omega
 have hch : chF w.m (tsk w x).f=chL w.m B:=by unfold chF;rw [hB];rfl
 generalize hfe : (tsk w x).f=f at *
 have eF : ∀ (y : Mem) (g : Frm),g.c=f.c→aF y g=H5 y g:=fun y g e=>by unfold aF;rw [e,if_neg (by omega),if_pos hk]
 have go : ∀ (y : Mem) (g : Frm),g.done=f.done→g.c=f.c→H5 y g < H5 w.m f→LP w.m f (g,y) 1:=fun y g h1 h2 h3=>.inr (.inr ⟨h1,h2,by show aF y g < aF w.m f;rw [eF y g h2,eF w.m f rfl];exact h3⟩)
 have p0:=hf.pc0
 have p7:=(hF.add hk).1
 unfold G3
 by_cases e0 : f.pc=0
 ·rw [if_pos e0]
  split
  ·exact .inr (.inl rfl)
  ·exact go _ _ rfl rfl (by unfold H5;rw [e0];simp)
 rw [if_neg e0]
 by_cases e1 : f.pc=1
 ·rw [if_pos e1]
  rcases dA w.m (aa w.m f.c) x with ⟨hl,_⟩ | hl
  ·rw [hl]
   exact go _ _ rfl rfl (by unfold H5;rw [e1];simp)
  ·refine .inl ⟨?_,e1,Jd hl⟩
   rw [hl];rfl
 rw [if_neg e1]
 by_cases e2 : f.pc=2
 ·rw [if_pos e2]
  refine go _ _ rfl rfl ?_
  have hr:=J1 h.ch { f with cur:=aO w.m (aa w.m f.c),pc:=3}
  have e : H5 w.m { f with cur:=aO w.m (aa w.m f.c),pc:=3}=2 * Hr w.m { f with cur:=aO w.m (aa w.m f.c),pc:=3} + 5:=by unfold H5;simp
  rw [show H5 w.m f=38 by unfold H5;rw [e2];simp,e]
  omega
 rw [if_neg e2]
 by_cases e3 : f.pc=3
 ·rw [if_pos e3]
  refine go _ _ rfl rfl ?_
  rw [show H5 w.m f=2 * Hr w.m f + 5 by unfold H5;rw [e3];simp]
  by_cases c0 : f.cur≤0
  ·rw [if_pos c0];unfold H5;simp <;> omega
  rw [if_neg c0]
  by_cases c1 : (at1 w.m f).k=f.c.k
  ·rw [if_pos c1];unfold H5;simp <;> omega
  ·rw [if_neg c1]
   show H5 w.m { f with pc:=4} < _
   have : Hr w.m { f with pc:=4}=Hr w.m f:=rfl
   unfold H5;simp <;> omega
 rw [if_neg e3]
 by_cases e4 : f.pc=4
 ·have hc:=(hF.add4 hk e4).1
  rw [if_pos ⟨e4,hc⟩]
  refine go _ _ rfl rfl ?_
  obtain ⟨l1,l2,s1,s2,_⟩:=hF.add3 hk (.inr e4)
  rw [hch] at s1
  rw [hB] at s2
  obtain ⟨a,l3,c1,c2,c3,c4,c5⟩:=jA h.ch hBl s1 (by rw [← s2];omega)
  have r1:=Ip h.ch hBl hB s1 s2
  subst c1
  have hn:=rV h.ch hBl s1
  have r2:=Ip (f:={ f with cur:=(at1 w.m f).next,pc:=3}) h.ch hBl hB (show chL w.m B=(l1 ++ [a]) ++ l3 by rw [s1];simp) (by
   show (at1 w.m f).next=_
   rw [← hn];unfold nxt at1;rw [show f.cur - 1=a by omega])
  rw [show H5 w.m f=2 * Hr w.m f + 4 by unfold H5;rw [e4];simp,show H5 w.m { f with cur:=(at1 w.m f).next,pc:=3}=2 * Hr w.m { f with cur:=(at1 w.m f).next,pc:=3} + 5 by unfold H5;simp,r1,r2]
  simp only [List.length_cons];omega
 rw [if_neg (by omega)]
 have h1:=hF.add1 hk
 by_cases e5 : f.pc=5
 ·rw [if_pos ⟨e5,(h1 (by omega) (by omega)).1⟩]
  exact go _ _ rfl rfl (by unfold H5;rw [e5];simp)
 rw [if_neg (by omega)]
 by_cases e6 : f.pc=6
 ·rw [if_pos ⟨e6,(h1 (by omega) (by omega)).1⟩]
  exact go _ _ rfl rfl (by unfold H5;rw [e6];simp)
 rw [if_neg (by omega),if_pos (by omega)]
 exact .inr (.inl rfl)
theorem MC {w : Wrd} (h : Inv w) {x : Int} (hx0 : 0≤x) (hx : x < w.ts.length) (hb : (tsk w x).busy=true) (hk : (tsk w x).f.c.kind=3) : LP w.m (tsk w x).f (aL w.m (tsk w x).f x) 0:=by
 obtain ⟨hf,hF,hd⟩:=fe h hx0 hx hb
 have hbr:=aQ h.ch.mem.rJ hf.call (by omega)
 obtain ⟨B,hB⟩ : ∃ B : Nat,aa w.m (tsk w x).f.c=B:=⟨(aa w.m (tsk w x).f.c).toNat,by omega⟩
 have hBl : B < w.m.heads.length:=by omega
 have hch : chF w.m (tsk w x).f=chL w.m B:=by unfold chF;rw [hB];rfl
 generalize hfe : (tsk w x).f=f at *
 have eF : ∀ (y : Mem) (g : Frm),g.c=f.c→aF y g=HB y g:=fun y g e=>by unfold aF;rw [e,if_neg (by omega),if_neg (by omega),if_pos hk]
 have go : ∀ (y : Mem) (g : Frm),g.done=f.done→g.c=f.c→HB y g < HB w.m f→LP w.m f (g,y) 0:=fun y g h1 h2 h3=>.inr (.inr ⟨h1,h2,by show aF y g < aF w.m f;rw [eF y g h2,eF w.m f rfl];exact h3⟩)
 have p0:=hf.pc0
 have p6:=(hF.drop hk).1
 unfold aL
 by_cases e0 : f.pc=0
 ·rw [if_pos e0]
  rcases dA w.m (aa w.m f.c) x with ⟨hl,_⟩ | hl
  ·rw [hl]
   exact go _ _ rfl rfl (by unfold HB;rw [e0];simp)
  ·refine .inl ⟨?_,e0,Jd hl⟩
   rw [hl];rfl
 rw [if_neg e0]
 by_cases e1 : f.pc=1
 ·rw [if_pos e1]
  refine go _ _ rfl rfl ?_
  have hr:=J1 h.ch { f with prev:=0,cur:=aO w.m (aa w.m f.c),pc:=2}
  have e : HB w.m { f with prev:=0,cur:=aO w.m (aa w.m f.c),pc:=2}=2 * Hr w.m { f with prev:=0,cur:=aO w.m (aa w.m f.c),pc:=2} + 6:=by unfold HB;simp
  rw [show HB w.m f=39 by unfold HB;rw [e1];simp,e]
  omega
 rw [if_neg e1]
 by_cases e2 : f.pc=2
 ·rw [if_pos e2]
  have eA : HB w.m f=2 * Hr w.m f + 6:=by unfold HB;rw [e2];simp
  rw [eA] at go
  by_cases c0 : f.cur≤0
  ·rw [if_pos c0]
   exact go _ _ rfl rfl (by unfold HB;simp <;> omega)
  rw [if_neg c0]
  refine go _ _ rfl rfl ?_
  by_cases c1 : (at1 w.m f).k=f.c.k
  ·rw [if_pos c1];unfold HB;simp <;> omega
  ·rw [if_neg c1]
   show HB w.m { f with pc:=3} < _
   have : Hr w.m { f with pc:=3}=Hr w.m f:=rfl
   unfold HB;simp <;> omega
 rw [if_neg e2]
 by_cases e3 : f.pc=3
 ·obtain ⟨⟨l1,l2,s1,s2,s3⟩,hcu⟩:=hF.drop2 hk (by omega) (by omega)
  have hc:=hcu (by omega)
  rw [if_pos ⟨e3,hc⟩]
  refine go _ _ rfl rfl ?_
  rw [hch] at s1
  rw [hB] at s2
  obtain ⟨a,l3,c1,c2,c3,c4,c5⟩:=jA h.ch hBl s1 (by rw [← s2];omega)
  have r1:=Ip h.ch hBl hB s1 s2
  subst c1
  have hn:=rV h.ch hBl s1
  have r2:=Ip (f:={ f with prev:=f.cur,cur:=(at1 w.m f).next,pc:=2}) h.ch hBl hB (show chL w.m B=(l1 ++ [a]) ++ l3 by rw [s1];simp) (by
   show (at1 w.m f).next=_
   rw [← hn];unfold nxt at1;rw [show f.cur - 1=a by omega])
  rw [show HB w.m f=2 * Hr w.m f + 5 by unfold HB;rw [e3];simp,show HB w.m { f with prev:=f.cur,cur:=(at1 w.m f).next,pc:=2}=2 * Hr w.m { f with prev:=f.cur,cur:=(at1 w.m f).next,pc:=2} + 6 by unfold HB;simp,r1,r2]
  simp only [List.length_cons];omega
 rw [if_neg (by omega)]
 by_cases e4 : f.pc=4
 ·obtain ⟨_,hcu⟩:=hF.drop2 hk (by omega) (by omega)
  rw [if_pos ⟨e4,hcu (by omega)⟩]
  exact go _ _ rfl rfl (by unfold HB;rw [e4];simp)
 rw [if_neg (by omega)]
 by_cases e5 : f.pc=5
 ·rw [if_pos e5]
  exact go _ _ rfl rfl (by unfold HB;rw [e5];simp)
 rw [if_neg e5,if_pos (by omega)]
 exact .inr (.inl rfl)
theorem Ly {w : Wrd} (h : Inv w) {x : Int} (hx0 : 0≤x) (hx : x < w.ts.length) (hb : (tsk w x).busy=true) (hk : (tsk w x).f.c.kind=4∨(tsk w x).f.c.kind=5) : LP w.m (tsk w x).f (aB w.m (tsk w x).f x) 0:=by
 obtain ⟨hf,hF,hd⟩:=fe h hx0 hx hb
 have hbr:=aQ h.ch.mem.rJ hf.call (by omega)
 obtain ⟨B,hB⟩ : ∃ B : Nat,aa w.m (tsk w x).f.c=B:=⟨(aa w.m (tsk w x).f.c).toNat,by omega⟩
 have hBl : B < w.m.heads.length:=by omega
 have hch : chF w.m (tsk w x).f=chL w.m B:=by unfold chF;rw [hB];rfl
 have n7 : cr (tsk w x)=(tsk w x).f.slot:=dj hb (by omega)
 have hs1:=hf.slot1
 generalize hfe : (tsk w x).f=f at *
 have eF : ∀ (y : Mem) (g : Frm),g.c=f.c→aF y g=Ho y g:=fun y g e=>by unfold aF;rw [e,if_neg (by omega),if_neg (by omega),if_neg (by omega),if_pos hk]
 have go : ∀ (y : Mem) (g : Frm),g.done=f.done→g.c=f.c→Ho y g < Ho w.m f→LP w.m f (g,y) 0:=fun y g h1 h2 h3=>.inr (.inr ⟨h1,h2,by show aF y g < aF w.m f;rw [eF y g h2,eF w.m f rfl];exact h3⟩)
 have p0:=hf.pc0
 obtain ⟨p6,q1,q2⟩:=hF.sweep hk
 have hst:=hF.sweep2 hk
 unfold aB
 by_cases e0 : f.pc=0
 ·rw [if_pos e0]
  rcases dA w.m (aa w.m f.c) x with ⟨hl,_⟩ | hl
  ·rw [hl]
   exact go _ _ rfl rfl (by unfold Ho;rw [e0];simp)
  ·refine .inl ⟨?_,e0,Jd hl⟩
   rw [hl];rfl
 rw [if_neg e0]
 by_cases e1 : f.pc=1
 ·rw [if_pos e1]
  refine go _ _ rfl rfl ?_
  have hr:=J1 h.ch { f with prev:=0,cur:=aO w.m (aa w.m f.c),pc:=2}
  have e : Ho w.m { f with prev:=0,cur:=aO w.m (aa w.m f.c),pc:=2}=3 * Hr w.m { f with prev:=0,cur:=aO w.m (aa w.m f.c),pc:=2} + 5:=by unfold Ho;simp
  rw [show Ho w.m f=44 by unfold Ho;rw [e1];simp,e]
  omega
 rw [if_neg e1]
 by_cases e2 : f.pc=2
 ·have eA : Ho w.m f=3 * Hr w.m f + 5:=by unfold Ho;rw [e2];simp
  rw [eA] at go
  have hsm : ∀ (ks : List Key) (p : Int),p=3∨p=4→Ho w.m { f with keys:=ks,pc:=p}=3 * Hr w.m f + 4:=fun ks p hp=>by
   have : Hr w.m { f with keys:=ks,pc:=p}=Hr w.m f:=rfl
   rcases hp with rfl | rfl <;> (unfold Ho;simp [this])
  by_cases c0 : f.cur≤0
  ·rw [if_pos ⟨e2,c0⟩]
   exact go _ _ rfl rfl (by unfold Ho;simp)
  rw [if_neg (by omega)]
  by_cases c5 : f.c.kind=5
  ·rw [if_pos ⟨e2,c5⟩]
   exact go _ _ rfl rfl (by rw [hsm _ _ (.inl rfl)];omega)
  rw [if_neg (by omega),if_pos e2]
  refine go _ _ rfl rfl ?_
  have:=hsm f.keys (if (at1 w.m f).till≤w.m.now then 4 else 3) (by split <;> simp)
  have this : Ho w.m { f with pc:=if (at1 w.m f).till≤w.m.now then 4 else 3}=_:=this
  rw [this];omega
 rw [if_neg (by omega),if_neg (by omega),if_neg e2]
 by_cases e3 : f.pc=3
 ·obtain ⟨⟨l1,l2,s1,s2,s3⟩,hcu⟩:=hst (by omega) (by omega)
  have hc:=hcu (by omega)
  rw [if_pos ⟨e3,hc⟩]
  refine go _ _ rfl rfl ?_
  rw [hch] at s1
  rw [hB] at s2
  obtain ⟨a,l3,c1,c2,c3,c4,c5⟩:=jA h.ch hBl s1 (by rw [← s2];omega)
  have r1:=Ip h.ch hBl hB s1 s2
  subst c1
  have hn:=rV h.ch hBl s1
  have r2:=Ip (f:={ f with prev:=f.cur,cur:=(at1 w.m f).next,pc:=2}) h.ch hBl hB (show chL w.m B=(l1 ++ [a]) ++ l3 by rw [s1];simp) (by
   show (at1 w.m f).next=_
   rw [← hn];unfold nxt at1;rw [show f.cur - 1=a by omega])
  rw [show Ho w.m f=3 * Hr w.m f + 4 by unfold Ho;rw [e3];simp,show Ho w.m { f with prev:=f.cur,cur:=(at1 w.m f).next,pc:=2}=3 * Hr w.m { f with prev:=f.cur,cur:=(at1 w.m f).next,pc:=2} + 5 by unfold Ho;simp,r1,r2]
  simp only [List.length_cons];omega
 rw [if_neg (by omega)]
 by_cases e4 : f.pc=4
 ·obtain ⟨⟨l1,l2,s1,s2,s3⟩,hcu⟩:=hst (by omega) (by omega)
  have hc:=hcu (by omega)
  rw [if_pos ⟨e4,hc⟩]
  refine go _ _ rfl rfl ?_
  rw [hch] at s1
  rw [hB] at s2
  obtain ⟨a,l3,c1,c2,c3,c4,c5⟩:=jA h.ch hBl s1 (by rw [← s2];omega)
  have r1:=Ip h.ch hBl hB s1 s2
  subst c1
  have hn:=rV h.ch hBl s1
  have hca : f.cur - 1=a:=by omega
  generalize hy : cut w.m f.prev (f.cur - 1) (aa w.m f.c)=y
  rw [hca,hB] at hy
  obtain ⟨d1,d2,d3,d4,d5,d6⟩:=kp h.ch hBl s1 s3 hy.symm
  have r2:=Ip (m:=y) (f:={ f with slot:=f.cur - 1,cur:=(at1 w.m f).next,pc:=5}) d1 (by omega) (by
   show aa y f.c=_
   rw [ck _ d6];exact hB) d2 (by
   show (at1 w.m f).next=_
   rw [← hn];unfold nxt at1;rw [hca])
  rw [show Ho w.m f=3 * Hr w.m f + 4 by unfold Ho;rw [e4];simp,show Ho y { f with slot:=f.cur - 1,cur:=(at1 w.m f).next,pc:=5}=3 * Hr y { f with slot:=f.cur - 1,cur:=(at1 w.m f).next,pc:=5} + 6 by unfold Ho;simp,r1,r2]
  simp only [List.length_cons];omega
 rw [if_neg (by omega)]
 by_cases e5 : f.pc=5
 ·have hsl:=q2 e5
  rw [if_pos ⟨e5,hsl⟩]
  refine go _ _ rfl rfl ?_
  have hre:=Hg h hx0 hx n7 hsl (by omega)
  obtain ⟨u1,u2,u3,u4⟩:=fQ (m:=w.m) (a:=f.slot) (by omega)
  have hc:=(gX h.ch (iY h.ch.mem hsl (by omega)) hsl (by omega) u1 u2 fun ⟨b,hb1,hb2⟩=>by have:=HU hb1 hb2;omega).2
  have r2 : Hr (put w.m f.slot) { f with slot:=-1,n:=if 1000000 < f.n + 1 then 1000000 else f.n + 1,pc:=2}=Hr w.m f:=by
   unfold Hr chF
   show (List.dropWhile _ (chL (put w.m f.slot) (aa (put w.m f.slot) f.c).toNat)).length=_
   rw [ck f.c (show (put w.m f.slot).heads.length=w.m.heads.length by rw [u2]),hc _ (by omega)]
  rw [show Ho w.m f=3 * Hr w.m f + 6 by unfold Ho;rw [e5];simp,show Ho (put w.m f.slot) { f with slot:=-1,n:=if 1000000 < f.n + 1 then 1000000 else f.n + 1,pc:=2}=3 * Hr (put w.m f.slot) { f with slot:=-1,n:=if 1000000 < f.n + 1 then 1000000 else f.n + 1,pc:=2} + 5 by unfold Ho;simp,r2]
  omega
 rw [if_neg (by omega),if_pos (by omega)]
 exact .inr (.inl rfl)
end Go.Proofs.Ytpmamacjepcdmaa
