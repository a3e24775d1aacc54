import Derived.Test.YtpmamacjepcdmaaCWorld
import Derived.Test.YtpmamacjepcdmaaCWorldLocks
namespace Go.Proofs.Ytpmamacjepcdmaa
open Go Go.Sy Go.RowKit
set_option linter.unusedSimpArgs false
set_option linter.unusedVariables false
def cg (t : Tsk) : Int:=if t.busy=true∧¬ (t.f.c.kind=2∧t.f.pc=7) then t.f.slot else -1
def fc (k : Int) (t : Tsk) : Int:=(t.held.count k : Int) + (if cg t=k then 1 else 0)
def gZ (k : Int) : List Tsk→Int
 | []=>0
 | t :: l=>fc k t + gZ k l
theorem wj (k : Int) (t : Tsk) : 0≤fc k t:=by
 unfold fc
 split <;> omega
theorem yY (k : Int) : ∀ l,0≤gZ k l
 | []=>Int.le_refl _
 | t :: l=>by
  have:=wj k t
  have:=yY k l
  simp only [gZ];omega
theorem uS {k : Int} {t : Tsk} : ∀ {l : List Tsk},t∈l→fc k t≤gZ k l
 | u :: l,h=>by
  have h1:=wj k u
  have h2:=yY k l
  simp only [gZ]
  rcases List.mem_cons.1 h with rfl | h
  ·omega
  ·have:=uS (k:=k) h;omega
theorem yZ (k : Int) (F : Tsk→Tsk) : ∀ (l : List Tsk) (i : Nat),i < l.length→gZ k (l.modify i F)=gZ k l - fc k (l.getD i default) + fc k (F (l.getD i default))
 | [],i,h=>by simp at h
 | t :: l,0,_=>by simp [gZ];omega
 | t :: l,i + 1,h=>by
  have:=yZ k F l i (by simpa using h)
  simp only [List.modify_succ_cons,gZ,this,List.getD_cons_succ]
  omega
def chF (m : Mem) (f : Frm) : List Int:=chL m (aa m f.c).toNat
def Ad (m : Mem) (f : Frm) : Prop:=∃ l1 l2,chF m f=l1 ++ l2∧f.cur=fL (aa m f.c) l2∧∀ a∈l1,kys m a≠f.c.k
def ql (m : Mem) (f : Frm) : Prop:=∃ l1 l2,chF m f=l1 ++ l2∧f.cur=fL (aa m f.c) l2∧f.prev=jz l1
structure FI (m : Mem) (f : Frm) : Prop where
 look : f.c.kind=1→f.pc≤6∧(4≤f.pc→0≤f.slot)∧(f.pc≤3→f.slot=-1)
 add : f.c.kind=2→f.pc≤7∧(f.pc=0→f.slot=-1)
 add1 : f.c.kind=2→1≤f.pc→f.pc≤6→0≤f.slot∧kys m f.slot=f.c.k∧(msl m f.slot.toNat).inn=false
 add3 : f.c.kind=2→f.pc=3∨f.pc=4→Ad m f
 add4 : f.c.kind=2→f.pc=4→0 < f.cur∧f.cur - 1∈chF m f∧kys m (f.cur - 1)≠f.c.k
 add5 : f.c.kind=2→f.pc=5→∀ a∈chF m f,kys m a≠f.c.k
 drop : f.c.kind=3→f.pc≤6∧(f.pc≤4→f.slot=-1)
 drop2 : f.c.kind=3→2≤f.pc→f.pc≤4→ql m f∧(3≤f.pc→0 < f.cur)
 sweep : f.c.kind=4∨f.c.kind=5→f.pc≤6∧(f.pc≠5→f.slot=-1)∧(f.pc=5→0≤f.slot)
 sweep2 : f.c.kind=4∨f.c.kind=5→2≤f.pc→f.pc≤5→ql m f∧(f.pc=3∨f.pc=4→0 < f.cur)
 leave : f.c.kind=6→f.slot=-1∧f.pc=0
theorem FI.other {m y : Mem} {f : Frm} (h : FI m f) (hh : y.heads.length=m.heads.length) (hc : bq f→chF y f=chF m f∧∀ a∈chF m f,kys y a=kys m a)
  (ho : f.c.kind=2→1≤f.pc→f.pc≤6→kys y f.slot=kys m f.slot∧(msl y f.slot.toNat).inn=(msl m f.slot.toNat).inn) : FI y f:=by
 have hb : aa y f.c=aa m f.c:=bw f.c hh
 have stands : bq f→ql m f→ql y f:=fun hf ⟨l1,l2,e1,e2,e3⟩=>⟨l1,l2,by rw [(hc hf).1];exact e1,by rw [hb];exact e2,e3⟩
 refine ⟨h.look,h.add,fun k p q=>?_,fun k p=>?_,fun k p=>?_,fun k p=>?_,h.drop,fun k p q=>?_,h.sweep,fun k p q=>?_,h.leave⟩
 ·obtain ⟨a1,a2,a3⟩:=h.add1 k p q
  obtain ⟨o1,o2⟩:=ho k p q
  exact ⟨a1,by rw [o1];exact a2,by rw [o2];exact a3⟩
 ·have hf : bq f:=.inl ⟨k,by omega,by omega⟩
  obtain ⟨l1,l2,e1,e2,e3⟩:=h.add3 k p
  obtain ⟨c1,c2⟩:=hc hf
  exact ⟨l1,l2,by rw [c1];exact e1,by rw [hb];exact e2,fun a ha=>by rw [c2 a (by rw [e1];exact List.mem_append_left _ ha)];exact e3 a ha⟩
 ·have hf : bq f:=.inl ⟨k,by omega,by omega⟩
  obtain ⟨a1,a2,a3⟩:=h.add4 k p
  obtain ⟨c1,c2⟩:=hc hf
  exact ⟨a1,by rw [c1];exact a2,by rw [c2 _ a2];exact a3⟩
 ·have hf : bq f:=.inl ⟨k,by omega,by omega⟩
  obtain ⟨c1,c2⟩:=hc hf
  intro a ha
  rw [c1] at ha
  rw [c2 a ha];exact h.add5 k p a ha
 ·have hf : bq f:=.inr (.inl ⟨k,by omega,by omega⟩)
  obtain ⟨s1,s2⟩:=h.drop2 k p q
  exact ⟨stands hf s1,s2⟩
 ·have hf : bq f:=.inr (.inr ⟨k,by omega⟩)
  obtain ⟨s1,s2⟩:=h.sweep2 k p q
  exact ⟨stands hf s1,s2⟩
def fb (t : Tsk) : Prop:=t.busy=true∧t.f.c.kind=2∧1≤t.f.pc∧t.f.pc≤6
def gH (n : Nat) (t : Tsk) : Prop:=t.held.length≤100∧(t.busy=true→t.f.c.kind=1→t.held.length < 100)∧∀ a∈t.held,0≤a∧a < n
def er (w : Wrd) : Prop:=∀ t : Int,0≤t→t < w.ts.length→(tsk w t).busy=true→bq (tsk w t).f→w.m.af.getD (aa w.m (tsk w t).f.c).toNat 0=t
structure Inv (w : Wrd) : Prop where
 ch : aK w.m
 lo : 1≤w.ts.length∧w.ts.length≤5
 lk : dU w
 lk2 : er w
 fo : ∀ t∈w.ts,t.busy=true→bN w.m t.f
 fi : ∀ t∈w.ts,t.busy=true→FI w.m t.f
 un : ∀ t u : Int,0≤t→t < w.ts.length→0≤u→u < w.ts.length→t≠u→fb (tsk w t)→fb (tsk w u)→(tsk w t).f.slot≠(tsk w u).f.slot
 hd : ∀ t∈w.ts,gH w.m.slots.length t
 rf : ∀ k : Nat,k < w.m.slots.length→(msl w.m k).refs=fe w.m k + gZ k w.ts
theorem bQ {w : Wrd} {t : Int} (h0 : 0≤t) (h : t < w.ts.length) : tsk w t∈w.ts:=eQ (by omega)
theorem mM {w : Wrd} {t : Tsk} (h : t∈w.ts) : ∃ i : Int,0≤i∧i < w.ts.length∧tsk w i=t:=by
 obtain ⟨i,hi⟩:=List.getElem?_of_mem h
 obtain ⟨hl,he⟩:=List.getElem?_eq_some_iff.1 hi
 refine ⟨i,by omega,by omega,?_⟩
 unfold tsk
 rw [Int.toNat_natCast,List.getD_eq_getElem?_getD,hi];rfl
theorem Inv.apart {w : Wrd} (h : Inv w) {t u : Int} (t0 : 0≤t) (t1 : t < w.ts.length) (u0 : 0≤u) (u1 : u < w.ts.length) (hne : t≠u) (tb : (tsk w t).busy=true) (ub : (tsk w u).busy=true) (th : bq (tsk w t).f) (uh : bq (tsk w u).f) : aa w.m (tsk w t).f.c≠aa w.m (tsk w u).f.c:=fun e=>by
 have h1:=h.lk2 t t0 t1 tb th
 have h2:=h.lk2 u u0 u1 ub uh
 rw [e,h2] at h1
 exact hne h1.symm
theorem Inv.cU {w : Wrd} {y : Mem} {x : Int} {F : Tsk→Tsk} (h : Inv w) (hx0 : 0≤x) (hx : x < w.ts.length) (hC : aK y) (hl : y.slots.length=w.m.slots.length) (hh : y.heads.length=w.m.heads.length)
  (hk : dU ⟨y,w.ts.modify x.toNat F⟩) (hk2 : er ⟨y,w.ts.modify x.toNat F⟩)
  (ho : ∀ u : Int,0≤u→u < w.ts.length→u≠x→(tsk w u).busy=true→(bq (tsk w u).f→chF y (tsk w u).f=chF w.m (tsk w u).f∧∀ a∈chF w.m (tsk w u).f,kys y a=kys w.m a) ∧
   (fb (tsk w u)→kys y (tsk w u).f.slot=kys w.m (tsk w u).f.slot∧(msl y (tsk w u).f.slot.toNat).inn=(msl w.m (tsk w u).f.slot.toNat).inn))
  (hm : (F (tsk w x)).busy=true→bN y (F (tsk w x)).f∧FI y (F (tsk w x)).f)
  (hu : fb (F (tsk w x))→∀ u : Int,0≤u→u < w.ts.length→u≠x→fb (tsk w u)→(F (tsk w x)).f.slot≠(tsk w u).f.slot)
  (hd : gH w.m.slots.length (F (tsk w x)))
  (hr : ∀ k : Nat,k < w.m.slots.length→(msl y k).refs - (msl w.m k).refs=((fe y k : Int) - fe w.m k) + (fc k (F (tsk w x)) - fc k (tsk w x))) : Inv ⟨y,w.ts.modify x.toNat F⟩:=by
 have hlen : (Wrd.mk y (w.ts.modify x.toNat F)).ts.length=w.ts.length:=by simp
 have ht : ∀ t : Int,0≤t→tsk ⟨y,w.ts.modify x.toNat F⟩ t=if t=x then F (tsk w x) else tsk w t:=fun t h0=>eI hx0 hx h0
 refine ⟨hC,by rw [hlen];exact h.lo,hk,hk2,fun t hin hb=>?_,fun t hin hb=>?_,fun t u t0 t1 u0 u1 hne ta ua=>?_,fun t hin=>?_,fun k hk=>?_⟩
 ·obtain ⟨i,i0,i1,rfl⟩:=mM hin
  rw [hlen] at i1
  rw [ht i i0] at hb ⊢
  by_cases e : i=x
  ·rw [if_pos e] at hb ⊢;exact (hm hb).1
  ·rw [if_neg e] at hb ⊢;exact (h.fo _ (bQ i0 i1) hb).len hl hh
 ·obtain ⟨i,i0,i1,rfl⟩:=mM hin
  rw [hlen] at i1
  rw [ht i i0] at hb ⊢
  by_cases e : i=x
  ·rw [if_pos e] at hb ⊢;exact (hm hb).2
  ·rw [if_neg e] at hb ⊢
   obtain ⟨o1,o2⟩:=ho i i0 i1 e hb
   exact (h.fi _ (bQ i0 i1) hb).other hh o1 fun k p q=>o2 ⟨hb,k,p,q⟩
 ·rw [hlen] at t1 u1
  rw [ht t t0] at ta ⊢
  rw [ht u u0] at ua ⊢
  by_cases e : t=x
  ·have e2 : u≠x:=fun e2=>hne (e.trans e2.symm)
   rw [if_pos e] at ta ⊢
   rw [if_neg e2] at ua ⊢
   exact hu ta u u0 u1 e2 ua
  ·rw [if_neg e] at ta ⊢
   by_cases e2 : u=x
   ·rw [if_pos e2] at ua ⊢
    exact (hu ua t t0 t1 e ta).symm
   ·rw [if_neg e2] at ua ⊢
    exact h.un t u t0 t1 u0 u1 hne ta ua
 ·obtain ⟨i,i0,i1,rfl⟩:=mM hin
  rw [hlen] at i1
  rw [ht i i0,show (Wrd.mk y (w.ts.modify x.toNat F)).m.slots.length=w.m.slots.length from hl]
  by_cases e : i=x
  ·rw [if_pos e];exact hd
  ·rw [if_neg e];exact h.hd _ (bQ i0 i1)
 ·have hk : k < w.m.slots.length:=by rw [← hl];exact hk
  have h1:=h.rf k hk
  have h2:=hr k hk
  have h3:=yZ (k : Int) F w.ts x.toNat (by omega)
  show (msl y k).refs=fe y k + gZ k (w.ts.modify x.toNat F)
  have h3 : gZ k (w.ts.modify x.toNat F)=gZ k w.ts - fc k (tsk w x) + fc k (F (tsk w x)):=h3
  omega
def rI (m : Mem) (f : Frm) (x : Int) (r : Frm × Mem) : Prop :=
 r.1.c=f.c∧(bq r.1→r.1.done=false→(bq f∧r.2.af=m.af)∨r.2.af=m.af.set (aa m f.c).toNat x) ∧
  (r.2.af=m.af∨(m.af.getD (aa m f.c).toNat 0=-1∧r.2.af=m.af.set (aa m f.c).toNat x)∨r.2.af=(unlock m (aa m f.c) x).af)
theorem sT {w : Wrd} {r : Frm × Mem} {x : Int} {F : Tsk→Tsk} (h : er w) (hx0 : 0≤x) (hx : x < w.ts.length) (hbu : (tsk w x).busy=true) (hs : rI w.m (tsk w x).f x r) (hy : r.2.heads.length=w.m.heads.length)
  (hr : bq r.1→(aa w.m (tsk w x).f.c).toNat < w.m.af.length) (hF : (F (tsk w x)).f=r.1∧(F (tsk w x)).busy=!r.1.done) : er ⟨r.2,w.ts.modify x.toNat F⟩:=by
 obtain ⟨g,y⟩:=r
 obtain ⟨hc,hs,hl⟩:=hs
 intro t t0 t9 tb th
 have t1 : t < w.ts.length:=by simpa using t9
 clear t9
 rw [eI hx0 hx t0] at tb th
 show y.af.getD (aa y (tsk ⟨y,w.ts.modify x.toNat F⟩ t).f.c).toNat 0=t
 rw [eI hx0 hx t0,bw _ hy]
 by_cases e : t=x
 ·subst e
  rw [if_pos rfl] at tb th ⊢
  rw [hF.1] at th ⊢
  rw [hF.2] at tb
  have hd : g.done=false:=by simpa using tb
  rw [show g.c=(tsk w t).f.c from hc]
  rcases hs th hd with ⟨k1,k2⟩ | k2
  ·have k2 : y.af=w.m.af:=k2
   rw [k2]
   exact h t t0 t1 hbu k1
  ·have k2 : y.af=w.m.af.set (aa w.m (tsk w t).f.c).toNat t:=k2
   rw [k2]
   simp [List.getD_eq_getElem?_getD,hr th]
 ·rw [if_neg e] at tb th ⊢
  have hb:=h t t0 t1 tb th
  rcases hl with hl | ⟨h1,hl⟩ | hl
  ·have hl : y.af=w.m.af:=hl
   rw [hl];exact hb
  ·have hl : y.af=w.m.af.set (aa w.m (tsk w x).f.c).toNat x:=hl
   rw [hl]
   have hne : (aa w.m (tsk w x).f.c).toNat≠(aa w.m (tsk w t).f.c).toNat:=fun e2=>by
    rw [e2,hb] at h1;omega
   rw [List.getD_eq_getElem?_getD,List.getElem?_set_ne hne,← List.getD_eq_getElem?_getD]
   exact hb
  ·have hl : y.af=(unlock w.m (aa w.m (tsk w x).f.c) x).af:=hl
   unfold unlock at hl
   split at hl
   ·rename_i h1
    have hl : y.af=w.m.af.set (aa w.m (tsk w x).f.c).toNat (-1):=hl
    rw [hl]
    have hne : (aa w.m (tsk w x).f.c).toNat≠(aa w.m (tsk w t).f.c).toNat:=fun e2=>by
     rw [e2,hb] at h1;exact e h1
    rw [List.getD_eq_getElem?_getD,List.getElem?_set_ne hne,← List.getD_eq_getElem?_getD]
    exact hb
   ·rw [hl];exact hb
end Go.Proofs.Ytpmamacjepcdmaa

namespace Go.Proofs.Ytpmamacjepcdmaa
open Go Go.Sy Go.RowKit
set_option linter.unusedSimpArgs false
set_option linter.unusedVariables false
theorem qZ {m : Mem} {f : Frm} (x : Int) (hk : f.c.kind=2) (hd : f.done=false) : rI m f x (bx m f x):=by
 unfold bx
 by_cases h1 : f.pc=1
 ·rw [if_neg (by omega),if_pos h1]
  rcases cK m (aa m f.c) x with ⟨h,hl⟩ | h
  ·rw [h]
   exact ⟨rfl,fun _ _=>.inr rfl,.inr (.inl ⟨hl,rfl⟩)⟩
  ·rw [h]
   refine ⟨rfl,fun y _=>?_,.inl rfl⟩
   simp only [bq,Bool.false_eq_true,if_false] at y
   omega
 by_cases h7 : f.pc=7
 ·rw [if_neg (by omega),if_neg (by omega),if_neg (by omega),if_neg (by omega),if_neg (by omega),if_neg (by omega),if_neg (by omega),if_pos h7]
  exact ⟨rfl,fun _ hdn=>(by cases hdn),.inr (.inr rfl)⟩
 rw [if_neg h1]
 by_cases h0 : f.pc=0
 ·rw [if_pos h0]
  split
  ·exact ⟨rfl,fun _ hdn=>(by cases hdn),.inl rfl⟩
  ·refine ⟨rfl,fun y _=>?_,.inl (rR _ _ _)⟩
   simp only [bq] at y
   omega
 rw [if_neg h0]
 have hh : bq f:=.inl ⟨hk,h0,h1⟩
 repeat' split
 all_goals first
  | exact absurd (by assumption) h7
  | exact ⟨rfl,fun _ _=>.inl ⟨hh,rfl⟩,.inl rfl⟩
  | exact ⟨rfl,fun _ _=>.inl ⟨hh,eJ _ _⟩,.inl (eJ _ _)⟩
theorem kY {m : Mem} {f : Frm} (x : Int) (hk : f.c.kind=3) (hd : f.done=false) : rI m f x (aQ m f x):=by
 unfold aQ
 by_cases h1 : f.pc=0
 ·rw [if_pos h1]
  rcases cK m (aa m f.c) x with ⟨h,hl⟩ | h
  ·rw [h]
   exact ⟨rfl,fun _ _=>.inr rfl,.inr (.inl ⟨hl,rfl⟩)⟩
  ·rw [h]
   refine ⟨rfl,fun y _=>?_,.inl rfl⟩
   simp only [bq,Bool.false_eq_true,if_false] at y
   omega
 rw [if_neg h1]
 by_cases h7 : f.pc=5
 ·rw [if_neg (by omega),if_neg (by omega),if_neg (by omega),if_neg (by omega),if_pos h7]
  refine ⟨rfl,fun y _=>?_,.inr (.inr rfl)⟩
  simp only [bq] at y
  omega
 by_cases h6 : f.pc=6
 ·rw [if_neg (by omega),if_neg (by omega),if_neg (by omega),if_neg (by omega),if_neg h7,if_pos h6]
  refine ⟨rfl,fun _ hdn=>(by cases hdn),.inl ?_⟩
  show (if 0≤f.slot then put m f.slot else m).af=m.af
  split
  ·exact eJ _ _
  ·rfl
 have hh : bq f:=.inr (.inl ⟨hk,h1,h6⟩)
 repeat' split
 all_goals first
  | exact absurd (by assumption) h7
  | exact absurd (by assumption) h6
  | exact ⟨rfl,fun _ _=>.inl ⟨hh,rfl⟩,.inl rfl⟩
  | exact ⟨rfl,fun _ _=>.inl ⟨hh,iO _ _ _ _⟩,.inl (iO _ _ _ _)⟩
theorem nb {m : Mem} {f : Frm} (x : Int) (hk : f.c.kind=4∨f.c.kind=5) (hd : f.done=false) : rI m f x (aU m f x):=by
 unfold aU
 by_cases h1 : f.pc=0
 ·rw [if_pos h1]
  rcases cK m (aa m f.c) x with ⟨h,hl⟩ | h
  ·rw [h]
   exact ⟨rfl,fun _ _=>.inr rfl,.inr (.inl ⟨hl,rfl⟩)⟩
  ·rw [h]
   refine ⟨rfl,fun y _=>?_,.inl rfl⟩
   simp only [bq,Bool.false_eq_true,if_false] at y
   omega
 rw [if_neg h1]
 by_cases h7 : f.pc=6
 ·rw [if_neg (by omega),if_neg (by omega),if_neg (by omega),if_neg (by omega),if_neg (by omega),if_neg (by omega),if_neg (by omega),if_pos h7]
  exact ⟨rfl,fun _ hdn=>(by cases hdn),.inr (.inr rfl)⟩
 have hh : bq f:=.inr (.inr ⟨hk,h1⟩)
 repeat' split
 all_goals first
  | exact absurd (by assumption) h7
  | exact ⟨rfl,fun _ _=>.inl ⟨hh,rfl⟩,.inl rfl⟩
  | exact ⟨rfl,fun _ _=>.inl ⟨hh,iO _ _ _ _⟩,.inl (iO _ _ _ _)⟩
  | exact ⟨rfl,fun _ _=>.inl ⟨hh,eJ _ _⟩,.inl (eJ _ _)⟩
theorem eu {w : Wrd} (h : Inv w) {u : Int} (u0 : 0≤u) (u1 : u < w.ts.length) (ub : (tsk w u).busy=true) (uh : bq (tsk w u).f) : (aa w.m (tsk w u).f.c).toNat < w.m.heads.length:=by
 have hf:=h.fo _ (bQ u0 u1) ub
 have:=aC h.ch.mem.lu hf.call (by unfold bq at uh;omega)
 omega
theorem Inv.quiet {w : Wrd} {y : Mem} {x : Int} {F : Tsk→Tsk} (h : Inv w) (hx0 : 0≤x) (hx : x < w.ts.length) {l : List Int} (hy : y={ w.m with af:=l}) (hl : l.length=w.m.af.length)
  (hk : dU ⟨y,w.ts.modify x.toNat F⟩) (hk2 : er ⟨y,w.ts.modify x.toNat F⟩) (hm : (F (tsk w x)).busy=true→bN y (F (tsk w x)).f∧FI y (F (tsk w x)).f)
  (hu : fb (F (tsk w x))→fb (tsk w x)∧(F (tsk w x)).f.slot=(tsk w x).f.slot) (hd : gH w.m.slots.length (F (tsk w x))) (hr : ∀ k : Nat,fc k (F (tsk w x))=fc k (tsk w x)) : Inv ⟨y,w.ts.modify x.toNat F⟩:=by
 have hlr : ∀ i,i < w.m.heads.length→-1≤l.getD i 0∧l.getD i 0 < 5:=fun i hi=>by
  have e : y.af=l:=by rw [hy]
  have:=hk i (by show i < y.af.length;rw [e,hl,h.ch.mem.nl];exact hi)
  have this : y.af.getD i 0=-1∨ld ⟨y,w.ts.modify x.toNat F⟩ i (y.af.getD i 0):=this
  rw [e] at this
  rcases this with h1 | ⟨h1,h2,_⟩
  ·omega
  ·have h2 : l.getD i 0 < (w.ts.modify x.toNat F).length:=h2
   rw [List.length_modify] at h2
   have:=h.lo.2
   omega
 obtain ⟨c1,c2⟩:=wA h.ch hy hl hlr
 have hms : ∀ j,msl y j=msl w.m j:=fun j=>by rw [hy];rfl
 refine h.cU hx0 hx c1 (by rw [hy]) (by rw [hy]) hk hk2 (fun u u0 u1 hne ub=>⟨fun uh=>⟨?_,fun a _=>by unfold kys;rw [hms]⟩,fun _=>⟨by unfold kys;rw [hms],by rw [hms]⟩⟩) hm (fun ha u u0 u1 hne ua=>?_) hd fun k hk=>?_
 ·unfold chF
  rw [show aa y (tsk w u).f.c=aa w.m (tsk w u).f.c from bw _ (by rw [hy])]
  exact c2 _ (eu h u0 u1 ub uh)
 ·obtain ⟨a1,a2⟩:=hu ha
  rw [a2]
  exact h.un x u hx0 hx u0 u1 (fun e=>hne e.symm) a1 ua
 ·rw [hms,hr,mO (by rw [hy]) c2]
  omega
theorem Inv.refs {w : Wrd} {y : Mem} {x a d : Int} {F : Tsk→Tsk} (h : Inv w) (hx0 : 0≤x) (hx : x < w.ts.length) (a0 : 0≤a) (a1 : a < w.m.slots.length) (hy : bs y)
  (hs : y.slots=w.m.slots.modify a.toNat (cB d)) (hh : y.heads=w.m.heads) (hlk : y.af=w.m.af) (hnz : (∃ b,b < w.m.heads.length∧a∈chL w.m b)→(msl w.m a.toNat).refs + d≠0)
  (hk : dU ⟨y,w.ts.modify x.toNat F⟩) (hk2 : er ⟨y,w.ts.modify x.toNat F⟩) (hm : (F (tsk w x)).busy=true→bN y (F (tsk w x)).f∧FI y (F (tsk w x)).f)
  (hu : ¬ fb (F (tsk w x))) (hd : gH w.m.slots.length (F (tsk w x))) (hr : ∀ k : Nat,fc k (F (tsk w x))=fc k (tsk w x) + if (k : Int)=a then d else 0) : Inv ⟨y,w.ts.modify x.toNat F⟩:=by
 obtain ⟨c1,c2⟩:=fE h.ch hy a0 a1 hs hh hnz
 have hms : ∀ j,msl y j=if a.toNat=j then cB d (msl w.m a.toNat) else msl w.m j:=fun j=>fV hs (by omega) j
 have hk' : ∀ c,kys y c=kys w.m c:=fun c=>by
  unfold kys
  rw [hms];split
  ·rename_i e;rw [← e];rfl
  ·rfl
 have hi : ∀ j,(msl y j).inn=(msl w.m j).inn:=fun j=>by
  rw [hms];split
  ·rename_i e;rw [← e];rfl
  ·rfl
 refine h.cU hx0 hx c1 (by rw [hs];simp) (by rw [hh]) hk hk2 (fun u u0 u1 hne ub=>⟨fun uh=>⟨?_,fun c _=>hk' c⟩,fun _=>⟨hk' _,hi _⟩⟩) hm (fun ha=>absurd ha hu) hd fun k hk=>?_
 ·unfold chF
  rw [show aa y (tsk w u).f.c=aa w.m (tsk w u).f.c from bw _ (by rw [hh])]
  exact c2 _ (eu h u0 u1 ub uh)
 ·rw [hms,hr,mO (by rw [hh]) c2]
  by_cases e : a.toNat=k
  ·rw [if_pos e,if_pos (by omega),← e]
   show (msl w.m a.toNat).refs + d - _=_
   omega
  ·rw [if_neg e,if_neg (by omega)]
   omega
end Go.Proofs.Ytpmamacjepcdmaa
