import Derived.Test.YtpmamacjepcdmaaCPlayed
import Derived.Test.YtpmamacjepcdmaaCWorldIn
import Derived.Test.YtpmamacjepcdmaaCWorld2
namespace Go.Proofs.Ytpmamacjepcdmaa
open Go Go.Sy Go.RowKit
set_option linter.unusedSimpArgs false
set_option linter.unusedVariables false
theorem iQ (w : Wrd) : w.G4.bm=w.bm:=by
 simp only [Wrd.G4,Wrd.bm,List.map_map];rfl
end Go.Proofs.Ytpmamacjepcdmaa

namespace Go.Proofs.Ytpmamacjepcdmaa
open Go Go.Sy Go.RowKit
set_option linter.unusedSimpArgs false
set_option linter.unusedVariables false
def bI (f : Frm) : Prop:=(f.c.kind=2∧f.pc≠0∧f.pc≠1)∨(f.c.kind=3∧f.pc≠0∧f.pc≠6)∨((f.c.kind=4∨f.c.kind=5)∧f.pc≠0)
def nw (m : Mem) (f : Frm) (x : Int) (r : Frm × Mem) : Prop :=
 r.1.c=f.c∧((r.2.ae=m.ae∧(bI f→bI r.1∧r.1.done=false))∨(m.ae.getD (aa m f.c).toNat 0=-1∧r.2.ae=m.ae.set (aa m f.c).toNat x∧bI r.1∧r.1.done=false)∨r.2.ae=(unlock m (aa m f.c) x).ae)
theorem fP (m : Mem) (a : Int) : (put m a).ae=m.ae:=by
 unfold put
 repeat' split
 all_goals rfl
theorem iV (m : Mem) (p a b : Int) : (cut m p a b).ae=m.ae:=by
 unfold cut
 repeat' split
 all_goals rfl
theorem sy (m : Mem) (k : Key) (t : Int) : (take m k t).1.ae=m.ae:=by
 unfold take
 repeat' split
 all_goals rfl
theorem dA (m : Mem) (b x : Int) : (lock m b x=({ m with ae:=m.ae.set b.toNat x},true)∧m.ae.getD b.toNat 0=-1)∨lock m b x=(m,false):=by
 unfold lock
 split
 ·exact .inl ⟨rfl,by assumption⟩
 ·exact .inr rfl
theorem uC {m : Mem} {f : Frm} (x : Int) (hk : f.c.kind=2) (hd : f.done=false) : nw m f x (G3 m f x):=by
 unfold G3
 by_cases h1 : f.pc=1
 ·rw [if_neg (by omega),if_pos h1]
  rcases dA m (aa m f.c) x with ⟨h,hl⟩ | h
  ·rw [h]
   exact ⟨rfl,.inr (.inl ⟨hl,rfl,.inl ⟨hk,by simp,by simp⟩,hd⟩)⟩
  ·rw [h]
   refine ⟨rfl,.inl ⟨rfl,fun y=>?_⟩⟩
   unfold bI at y
   omega
 by_cases h7 : f.pc=7
 ·rw [if_neg (by omega),if_neg (by omega),if_neg (by omega),if_neg (by omega),if_neg (by omega),if_neg (by omega),if_neg (by omega),if_pos h7]
  exact ⟨rfl,.inr (.inr rfl)⟩
 have hold : ∀ g : Frm,g.c=f.c→g.pc≠0→g.pc≠1→g.done=f.done→(f.pc≠0→bI g∧g.done=false):=fun g c1 c2 c3 c4 _=>⟨.inl ⟨by rw [c1];exact hk,c2,c3⟩,by rw [c4];exact hd⟩
 have nz : bI f→f.pc≠0:=fun y=>by unfold bI at y;omega
 rw [if_neg h1]
 repeat' split
 all_goals first
  | exact absurd (by assumption) h7
  | exact ⟨rfl,.inl ⟨by first | rfl | exact sy _ _ _ | exact fP _ _,fun y=>by first | (exfalso;exact nz y (by assumption)) | (refine hold _ rfl ?_ ?_ rfl (nz y) <;> simp <;> (try split) <;> (try split) <;> decide)⟩⟩
theorem tP {m : Mem} {f : Frm} (x : Int) (hk : f.c.kind=3) (hd : f.done=false) : nw m f x (aL m f x):=by
 unfold aL
 by_cases h1 : f.pc=0
 ·rw [if_pos h1]
  rcases dA m (aa m f.c) x with ⟨h,hl⟩ | h
  ·rw [h]
   exact ⟨rfl,.inr (.inl ⟨hl,rfl,.inr (.inl ⟨hk,by simp,by simp⟩),hd⟩)⟩
  ·rw [h]
   refine ⟨rfl,.inl ⟨rfl,fun y=>?_⟩⟩
   unfold bI at y
   omega
 rw [if_neg h1]
 by_cases h7 : f.pc=5
 ·rw [if_neg (by omega),if_neg (by omega),if_neg (by omega),if_neg (by omega),if_pos h7]
  exact ⟨rfl,.inr (.inr rfl)⟩
 have hold : ∀ g : Frm,g.c=f.c→g.pc≠0→g.pc≠6→g.done=f.done→(bI f→bI g∧g.done=false):=fun g c1 c2 c3 c4 _=>⟨.inr (.inl ⟨by rw [c1];exact hk,c2,c3⟩),by rw [c4];exact hd⟩
 have nz : bI f→f.pc≠6:=fun y=>by unfold bI at y;omega
 repeat' split
 all_goals first
  | exact absurd (by assumption) h7
  | exact ⟨rfl,.inl ⟨by first | rfl | exact fP _ _ | exact iV _ _ _ _,fun y=>by first | (exfalso;exact nz y (by assumption)) | (refine hold _ rfl ?_ ?_ rfl y <;> simp <;> (try split) <;> (try split) <;> decide)⟩⟩
theorem rG {m : Mem} {f : Frm} (x : Int) (hk : f.c.kind=4∨f.c.kind=5) (hd : f.done=false) : nw m f x (aB m f x):=by
 unfold aB
 by_cases h1 : f.pc=0
 ·rw [if_pos h1]
  rcases dA m (aa m f.c) x with ⟨h,hl⟩ | h
  ·rw [h]
   exact ⟨rfl,.inr (.inl ⟨hl,rfl,.inr (.inr ⟨hk,by simp⟩),hd⟩)⟩
  ·rw [h]
   refine ⟨rfl,.inl ⟨rfl,fun y=>?_⟩⟩
   unfold bI at y
   omega
 rw [if_neg h1]
 by_cases h7 : f.pc=6
 ·rw [if_neg (by omega),if_neg (by omega),if_neg (by omega),if_neg (by omega),if_neg (by omega),if_neg (by omega),if_neg (by omega),if_pos h7]
  exact ⟨rfl,.inr (.inr rfl)⟩
 have hold : ∀ g : Frm,g.c=f.c→g.pc≠0→g.done=f.done→(bI f→bI g∧g.done=false):=fun g c1 c2 c4 _=>⟨.inr (.inr ⟨by rw [c1];exact hk,c2⟩),by rw [c4];exact hd⟩
 repeat' split
 all_goals first
  | exact absurd (by assumption) h7
  | exact ⟨rfl,.inl ⟨by first | rfl | exact fP _ _ | exact iV _ _ _ _,fun y=>by refine hold _ rfl ?_ rfl y <;> simp <;> (try split) <;> (try split) <;> decide⟩⟩
def lE (w : Wrd) (b : Nat) (t : Int) : Prop:=0≤t∧t < w.ts.length∧(tsk w t).busy=true∧bI (tsk w t).f∧aa w.m (tsk w t).f.c=b
def dW (w : Wrd) : Prop:=∀ b : Nat,b < w.m.ae.length→w.m.ae.getD b 0=-1∨lE w b (w.m.ae.getD b 0)
theorem eT {w : Wrd} {y : Mem} {x t : Int} {F : Tsk→Tsk} (hx0 : 0≤x) (hx : x < w.ts.length) (ht : 0≤t) : tsk ⟨y,w.ts.modify x.toNat F⟩ t=if t=x then F (tsk w x) else tsk w t:=by
 unfold tsk
 simp only [List.getD_eq_getElem?_getD,List.getElem?_modify]
 by_cases h : t=x
 ·subst h
  rw [if_pos rfl]
  have : t.toNat < w.ts.length:=by omega
  simp [this]
 ·rw [if_neg h]
  have : ¬ x.toNat=t.toNat:=by omega
  simp [this]
theorem ck {m y : Mem} (c : Cal) (h : y.heads.length=m.heads.length) : aa y c=aa m c:=by
 unfold aa;rw [h]
theorem kh {w : Wrd} {y : Mem} {x t : Int} {b : Nat} {F : Tsk→Tsk} (hx0 : 0≤x) (hx : x < w.ts.length) (hy : y.heads.length=w.m.heads.length) (h : lE w b t) (hne : t≠x) : lE ⟨y,w.ts.modify x.toNat F⟩ b t:=by
 obtain ⟨h1,h2,h3,h4,h5⟩:=h
 have e : tsk ⟨y,w.ts.modify x.toNat F⟩ t=tsk w t:=by rw [eT hx0 hx h1,if_neg hne]
 exact ⟨h1,by simpa using h2,by rw [e];exact h3,by rw [e];exact h4,by rw [e,← h5];exact ck _ hy⟩
theorem kZ {w : Wrd} {y : Mem} {x : Int} {F : Tsk→Tsk} (h : dW w) (hx0 : 0≤x) (hx : x < w.ts.length) (hy : y.heads.length=w.m.heads.length) (hl : y.ae=w.m.ae) (hno : ¬ ((tsk w x).busy=true∧bI (tsk w x).f)) : dW ⟨y,w.ts.modify x.toNat F⟩:=by
 intro b hb
 have hb : b < y.ae.length:=hb
 show y.ae.getD b 0=-1∨lE _ b (y.ae.getD b 0)
 rw [hl] at hb ⊢
 rcases h b hb with h | h
 ·exact .inl h
 ·refine .inr (kh hx0 hx hy h fun e=>hno ?_)
  rw [e] at h
  exact ⟨h.2.2.1,h.2.2.2.1⟩
theorem H3 {w : Wrd} {r : Frm × Mem} {x : Int} {F : Tsk→Tsk} (h : dW w) (hx0 : 0≤x) (hx : x < w.ts.length) (hbu : (tsk w x).busy=true) (hs : nw w.m (tsk w x).f x r) (hy : r.2.heads.length=w.m.heads.length)
  (hr : 0≤aa w.m (tsk w x).f.c∧aa w.m (tsk w x).f.c < w.m.heads.length) (hF : ∀ t,(F t).f=r.1∧(F t).busy=!r.1.done) : dW ⟨r.2,w.ts.modify x.toNat F⟩:=by
 obtain ⟨g,y⟩:=r
 obtain ⟨hc,hs⟩:=hs
 have hc : g.c=(tsk w x).f.c:=hc
 have hy : y.heads.length=w.m.heads.length:=hy
 have ex : tsk ⟨y,w.ts.modify x.toNat F⟩ x=F (tsk w x):=by rw [eT hx0 hx hx0,if_pos rfl]
 obtain ⟨q,hq⟩ : ∃ q : Nat,aa w.m (tsk w x).f.c=q:=⟨(aa w.m (tsk w x).f.c).toNat,by omega⟩
 have me : ∀ b : Nat,bI g→g.done=false→(b : Int)=aa w.m (tsk w x).f.c→lE ⟨y,w.ts.modify x.toNat F⟩ b x:=fun b k1 k2 k3 =>
  ⟨hx0,by simpa using hx,by rw [ex,(hF _).2,show (g,y).1.done=false from k2];rfl,by rw [ex,(hF _).1];exact k1,by rw [ex,(hF _).1];show aa y g.c=b;rw [ck _ hy,hc,k3]⟩
 have only : ∀ b : Nat,b < w.m.ae.length→w.m.ae.getD b 0=x→(b : Int)=aa w.m (tsk w x).f.c∧bI (tsk w x).f:=fun b hb he=>by
  rcases h b hb with h | h
  ·omega
  ·rw [he] at h
   exact ⟨h.2.2.2.2.symm,h.2.2.2.1⟩
 intro b hb
 have hb : b < y.ae.length:=hb
 show y.ae.getD b 0=-1∨lE _ b (y.ae.getD b 0)
 rcases hs with ⟨hl,hk⟩ | ⟨hl,hs,k1,k2⟩ | hs
 ·have hl : y.ae=w.m.ae:=hl
  rw [hl] at hb ⊢
  by_cases he : w.m.ae.getD b 0=x
  ·obtain ⟨o1,o2⟩:=only b hb he
   obtain ⟨k1,k2⟩:=hk o2
   rw [he]
   exact .inr (me b k1 k2 o1)
  ·rcases h b hb with h | h
   ·exact .inl h
   ·exact .inr (kh hx0 hx hy h he)
 ·have hs : y.ae=w.m.ae.set (aa w.m (tsk w x).f.c).toNat x:=hs
  rw [hq,Int.toNat_natCast] at hs
  rw [hs] at hb ⊢
  rw [List.length_set] at hb
  by_cases hbq : b=q
  ·subst hbq
   rw [show (w.m.ae.set b x).getD b 0=x from by simp [List.getD_eq_getElem?_getD,hb]]
   exact .inr (me b k1 k2 hq.symm)
  ·rw [show (w.m.ae.set q x).getD b 0=w.m.ae.getD b 0 from by simp only [List.getD_eq_getElem?_getD];rw [List.getElem?_set_ne (by omega)]]
   rcases h b hb with h | h
   ·exact .inl h
   ·refine .inr (kh hx0 hx hy h fun he=>?_)
    have:=(only b hb he).1
    omega
 ·have hs : y.ae=(unlock w.m (aa w.m (tsk w x).f.c) x).ae:=hs
  rw [hq] at hs
  unfold unlock at hs
  rw [Int.toNat_natCast] at hs
  split at hs
  ·have hs : y.ae=w.m.ae.set q (-1):=hs
   rw [hs] at hb ⊢
   rw [List.length_set] at hb
   by_cases hbq : b=q
   ·subst hbq
    exact .inl (by simp [List.getD_eq_getElem?_getD,hb])
   ·rw [show (w.m.ae.set q (-1)).getD b 0=w.m.ae.getD b 0 from by simp only [List.getD_eq_getElem?_getD];rw [List.getElem?_set_ne (by omega)]]
    rcases h b hb with h | h
    ·exact .inl h
    ·refine .inr (kh hx0 hx hy h fun he=>?_)
     have:=(only b hb he).1
     omega
  ·rename_i hnq
   rw [hs] at hb ⊢
   rcases h b hb with h | h
   ·exact .inl h
   ·refine .inr (kh hx0 hx hy h fun he=>hnq ?_)
    have:=(only b hb he).1
    have : b=q:=by omega
    rw [← this];exact he
theorem vS {f : Frm} (h : f.c.kind=1∨f.c.kind=6) : ¬ bI f:=fun y=>by unfold bI at y;omega
theorem Ia {w : Wrd} {t : Int} (h0 : 0≤t) (h : t < w.ts.length) : tsk w.bm t=(tsk w t).bm:=by
 unfold tsk Wrd.bm
 have : t.toNat < w.ts.length:=by omega
 simp only [List.getD_eq_getElem?_getD,List.getElem?_map]
 rw [List.getElem?_eq_getElem this];rfl
theorem BV {a b n : Int} (h : (iw a b n).2=0) : dW (iw a b n).1:=by
 unfold iw at h ⊢
 split at h
 ·rename_i h1;exact absurd h h1
 ·rename_i h1
  rw [if_neg h1]
  split at h
  ·cases h
  ·rename_i h2
   rw [if_neg h2]
   have h1 : (dx a b).2=0:=Classical.not_not.1 h1
   unfold dx at h1 ⊢
   split at h1
   ·cases h1
   ·rename_i h3
    rw [if_neg h3]
    intro i hi
    have hi : i < b.toNat:=by simpa using hi
    left
    simp [List.getD_eq_getElem?_getD,hi]
end Go.Proofs.Ytpmamacjepcdmaa

namespace Go.Proofs.Ytpmamacjepcdmaa
open Go Go.Sy Go.RowKit
set_option linter.unusedSimpArgs false
set_option linter.unusedVariables false
def cr (t : Tsk) : Int:=if t.busy=true∧¬ (t.f.c.kind=2∧t.f.pc=7) then t.f.slot else -1
def fv (k : Int) (t : Tsk) : Int:=(t.held.count k : Int) + (if cr t=k then 1 else 0)
def iF (k : Int) : List Tsk→Int
 | []=>0
 | t :: l=>fv k t + iF k l
theorem xr (k : Int) (t : Tsk) : 0≤fv k t:=by
 unfold fv
 split <;> omega
theorem Af (k : Int) : ∀ l,0≤iF k l
 | []=>Int.le_refl _
 | t :: l=>by
  have:=xr k t
  have:=Af k l
  simp only [iF];omega
theorem vD {k : Int} {t : Tsk} : ∀ {l : List Tsk},t∈l→fv k t≤iF k l
 | u :: l,h=>by
  have h1:=xr k u
  have h2:=Af k l
  simp only [iF]
  rcases List.mem_cons.1 h with rfl | h
  ·omega
  ·have:=vD (k:=k) h;omega
theorem Ag (k : Int) (F : Tsk→Tsk) : ∀ (l : List Tsk) (i : Nat),i < l.length→iF k (l.modify i F)=iF k l - fv k (l.getD i default) + fv k (F (l.getD i default))
 | [],i,h=>by simp at h
 | t :: l,0,_=>by simp [iF];omega
 | t :: l,i + 1,h=>by
  have:=Ag k F l i (by simpa using h)
  simp only [List.modify_succ_cons,iF,this,List.getD_cons_succ]
  omega
def chF (m : Mem) (f : Frm) : List Int:=chL m (aa m f.c).toNat
def Bn (m : Mem) (f : Frm) : Prop:=∃ l1 l2,chF m f=l1 ++ l2∧f.cur=ig (aa m f.c) l2∧∀ a∈l1,kys m a≠f.c.k
def qD (m : Mem) (f : Frm) : Prop:=∃ l1 l2,chF m f=l1 ++ l2∧f.cur=ig (aa m f.c) l2∧f.prev=jJ l1
structure FI (m : Mem) (f : Frm) : Prop where
 look : f.c.kind=1→f.pc≤6∧(4≤f.pc→0≤f.slot)∧(f.pc≤3→f.slot=-1)
 add : f.c.kind=2→f.pc≤7∧(f.pc=0→f.slot=-1)
 add1 : f.c.kind=2→1≤f.pc→f.pc≤6→0≤f.slot∧kys m f.slot=f.c.k∧(msl m f.slot.toNat).inn=false
 add3 : f.c.kind=2→f.pc=3∨f.pc=4→Bn m f
 add4 : f.c.kind=2→f.pc=4→0 < f.cur∧f.cur - 1∈chF m f∧kys m (f.cur - 1)≠f.c.k
 add5 : f.c.kind=2→f.pc=5→∀ a∈chF m f,kys m a≠f.c.k
 drop : f.c.kind=3→f.pc≤6∧(f.pc≤4→f.slot=-1)
 drop2 : f.c.kind=3→2≤f.pc→f.pc≤4→qD m f∧(3≤f.pc→0 < f.cur)
 sweep : f.c.kind=4∨f.c.kind=5→f.pc≤6∧(f.pc≠5→f.slot=-1)∧(f.pc=5→0≤f.slot)
 sweep2 : f.c.kind=4∨f.c.kind=5→2≤f.pc→f.pc≤5→qD m f∧(f.pc=3∨f.pc=4→0 < f.cur)
 leave : f.c.kind=6→f.slot=-1∧f.pc=0
theorem FI.other {m y : Mem} {f : Frm} (h : FI m f) (hh : y.heads.length=m.heads.length) (hc : bI f→chF y f=chF m f∧∀ a∈chF m f,kys y a=kys m a)
  (ho : f.c.kind=2→1≤f.pc→f.pc≤6→kys y f.slot=kys m f.slot∧(msl y f.slot.toNat).inn=(msl m f.slot.toNat).inn) : FI y f:=by
 have hb : aa y f.c=aa m f.c:=ck f.c hh
 have stands : bI f→qD m f→qD y f:=fun hf ⟨l1,l2,e1,e2,e3⟩=>⟨l1,l2,by rw [(hc hf).1];exact e1,by rw [hb];exact e2,e3⟩
 refine ⟨h.look,h.add,fun k p q=>?_,fun k p=>?_,fun k p=>?_,fun k p=>?_,h.drop,fun k p q=>?_,h.sweep,fun k p q=>?_,h.leave⟩
 ·obtain ⟨a1,a2,a3⟩:=h.add1 k p q
  obtain ⟨o1,o2⟩:=ho k p q
  exact ⟨a1,by rw [o1];exact a2,by rw [o2];exact a3⟩
 ·have hf : bI f:=.inl ⟨k,by omega,by omega⟩
  obtain ⟨l1,l2,e1,e2,e3⟩:=h.add3 k p
  obtain ⟨c1,c2⟩:=hc hf
  exact ⟨l1,l2,by rw [c1];exact e1,by rw [hb];exact e2,fun a ha=>by rw [c2 a (by rw [e1];exact List.mem_append_left _ ha)];exact e3 a ha⟩
 ·have hf : bI f:=.inl ⟨k,by omega,by omega⟩
  obtain ⟨a1,a2,a3⟩:=h.add4 k p
  obtain ⟨c1,c2⟩:=hc hf
  exact ⟨a1,by rw [c1];exact a2,by rw [c2 _ a2];exact a3⟩
 ·have hf : bI f:=.inl ⟨k,by omega,by omega⟩
  obtain ⟨c1,c2⟩:=hc hf
  intro a ha
  rw [c1] at ha
  rw [c2 a ha];exact h.add5 k p a ha
 ·have hf : bI f:=.inr (.inl ⟨k,by omega,by omega⟩)
  obtain ⟨s1,s2⟩:=h.drop2 k p q
  exact ⟨stands hf s1,s2⟩
 ·have hf : bI f:=.inr (.inr ⟨k,by omega⟩)
  obtain ⟨s1,s2⟩:=h.sweep2 k p q
  exact ⟨stands hf s1,s2⟩
def ft (t : Tsk) : Prop:=t.busy=true∧t.f.c.kind=2∧1≤t.f.pc∧t.f.pc≤6
def gP (n : Nat) (t : Tsk) : Prop:=t.held.length≤100∧(t.busy=true→t.f.c.kind=1→t.held.length < 100)∧∀ a∈t.held,0≤a∧a < n
def HE (w : Wrd) : Prop:=∀ t : Int,0≤t→t < w.ts.length→(tsk w t).busy=true→bI (tsk w t).f→w.m.ae.getD (aa w.m (tsk w t).f.c).toNat 0=t
structure Inv (w : Wrd) : Prop where
 ch : aK w.m
 lo : 1≤w.ts.length∧w.ts.length≤5
 lk : dW w
 lk2 : HE w
 fo : ∀ t∈w.ts,t.busy=true→bV w.m t.f
 fi : ∀ t∈w.ts,t.busy=true→FI w.m t.f
 un : ∀ t u : Int,0≤t→t < w.ts.length→0≤u→u < w.ts.length→t≠u→ft (tsk w t)→ft (tsk w u)→(tsk w t).f.slot≠(tsk w u).f.slot
 hd : ∀ t∈w.ts,gP w.m.slots.length t
 rf : ∀ k : Nat,k < w.m.slots.length→(msl w.m k).refs=fK w.m k + iF k w.ts
theorem Hf {w : Wrd} {t : Int} (h0 : 0≤t) (h : t < w.ts.length) : tsk w t∈w.ts:=fc (by omega)
theorem pf {w : Wrd} {t : Tsk} (h : t∈w.ts) : ∃ i : Int,0≤i∧i < w.ts.length∧tsk w i=t:=by
 obtain ⟨i,hi⟩:=List.getElem?_of_mem h
 obtain ⟨hl,he⟩:=List.getElem?_eq_some_iff.1 hi
 refine ⟨i,by omega,by omega,?_⟩
 unfold tsk
 rw [Int.toNat_natCast,List.getD_eq_getElem?_getD,hi];rfl
theorem Inv.apart {w : Wrd} (h : Inv w) {t u : Int} (t0 : 0≤t) (t1 : t < w.ts.length) (u0 : 0≤u) (u1 : u < w.ts.length) (hne : t≠u) (tb : (tsk w t).busy=true) (ub : (tsk w u).busy=true) (th : bI (tsk w t).f) (uh : bI (tsk w u).f) : aa w.m (tsk w t).f.c≠aa w.m (tsk w u).f.c:=fun e=>by
 have h1:=h.lk2 t t0 t1 tb th
 have h2:=h.lk2 u u0 u1 ub uh
 rw [e,h2] at h1
 exact hne h1.symm
theorem Inv.cU {w : Wrd} {y : Mem} {x : Int} {F : Tsk→Tsk} (h : Inv w) (hx0 : 0≤x) (hx : x < w.ts.length) (hC : aK y) (hl : y.slots.length=w.m.slots.length) (hh : y.heads.length=w.m.heads.length)
  (hk : dW ⟨y,w.ts.modify x.toNat F⟩) (hk2 : HE ⟨y,w.ts.modify x.toNat F⟩)
  (ho : ∀ u : Int,0≤u→u < w.ts.length→u≠x→(tsk w u).busy=true→(bI (tsk w u).f→chF y (tsk w u).f=chF w.m (tsk w u).f∧∀ a∈chF w.m (tsk w u).f,kys y a=kys w.m a) ∧
   (ft (tsk w u)→kys y (tsk w u).f.slot=kys w.m (tsk w u).f.slot∧(msl y (tsk w u).f.slot.toNat).inn=(msl w.m (tsk w u).f.slot.toNat).inn))
  (hm : (F (tsk w x)).busy=true→bV y (F (tsk w x)).f∧FI y (F (tsk w x)).f)
  (hu : ft (F (tsk w x))→∀ u : Int,0≤u→u < w.ts.length→u≠x→ft (tsk w u)→(F (tsk w x)).f.slot≠(tsk w u).f.slot)
  (hd : gP w.m.slots.length (F (tsk w x)))
  (hr : ∀ k : Nat,k < w.m.slots.length→(msl y k).refs - (msl w.m k).refs=((fK y k : Int) - fK w.m k) + (fv k (F (tsk w x)) - fv k (tsk w x))) : Inv ⟨y,w.ts.modify x.toNat F⟩:=by
 have hlen : (Wrd.mk y (w.ts.modify x.toNat F)).ts.length=w.ts.length:=by simp
 have ht : ∀ t : Int,0≤t→tsk ⟨y,w.ts.modify x.toNat F⟩ t=if t=x then F (tsk w x) else tsk w t:=fun t h0=>eT hx0 hx h0
 refine ⟨hC,by rw [hlen];exact h.lo,hk,hk2,fun t hin hb=>?_,fun t hin hb=>?_,fun t u t0 t1 u0 u1 hne ta ua=>?_,fun t hin=>?_,fun k hk=>?_⟩
 ·obtain ⟨i,i0,i1,rfl⟩:=pf hin
  rw [hlen] at i1
  rw [ht i i0] at hb ⊢
  by_cases e : i=x
  ·rw [if_pos e] at hb ⊢;exact (hm hb).1
  ·rw [if_neg e] at hb ⊢;exact (h.fo _ (Hf i0 i1) hb).len hl hh
 ·obtain ⟨i,i0,i1,rfl⟩:=pf hin
  rw [hlen] at i1
  rw [ht i i0] at hb ⊢
  by_cases e : i=x
  ·rw [if_pos e] at hb ⊢;exact (hm hb).2
  ·rw [if_neg e] at hb ⊢
   obtain ⟨o1,o2⟩:=ho i i0 i1 e hb
   exact (h.fi _ (Hf i0 i1) hb).other hh o1 fun k p q=>o2 ⟨hb,k,p,q⟩
 ·rw [hlen] at t1 u1
  rw [ht t t0] at ta ⊢
  rw [ht u u0] at ua ⊢
  by_cases e : t=x
  ·have e2 : u≠x:=fun e2=>hne (e.trans e2.symm)
   rw [if_pos e] at ta ⊢
   rw [if_neg e2] at ua ⊢
   exact hu ta u u0 u1 e2 ua
  ·rw [if_neg e] at ta ⊢
   by_cases e2 : u=x
   ·rw [if_pos e2] at ua ⊢
    exact (hu ua t t0 t1 e ta).symm
   ·rw [if_neg e2] at ua ⊢
    exact h.un t u t0 t1 u0 u1 hne ta ua
 ·obtain ⟨i,i0,i1,rfl⟩:=pf hin
  rw [hlen] at i1
  rw [ht i i0,show (Wrd.mk y (w.ts.modify x.toNat F)).m.slots.length=w.m.slots.length from hl]
  by_cases e : i=x
  ·rw [if_pos e];exact hd
  ·rw [if_neg e];exact h.hd _ (Hf i0 i1)
 ·have hk : k < w.m.slots.length:=by rw [← hl];exact hk
  have h1:=h.rf k hk
  have h2:=hr k hk
  have h3:=Ag (k : Int) F w.ts x.toNat (by omega)
  show (msl y k).refs=fK y k + iF k (w.ts.modify x.toNat F)
  have h3 : iF k (w.ts.modify x.toNat F)=iF k w.ts - fv k (tsk w x) + fv k (F (tsk w x)):=h3
  omega
def J5 (m : Mem) (f : Frm) (x : Int) (r : Frm × Mem) : Prop :=
 r.1.c=f.c∧(bI r.1→r.1.done=false→(bI f∧r.2.ae=m.ae)∨r.2.ae=m.ae.set (aa m f.c).toNat x) ∧
  (r.2.ae=m.ae∨(m.ae.getD (aa m f.c).toNat 0=-1∧r.2.ae=m.ae.set (aa m f.c).toNat x)∨r.2.ae=(unlock m (aa m f.c) x).ae)
theorem tE {w : Wrd} {r : Frm × Mem} {x : Int} {F : Tsk→Tsk} (h : HE w) (hx0 : 0≤x) (hx : x < w.ts.length) (hbu : (tsk w x).busy=true) (hs : J5 w.m (tsk w x).f x r) (hy : r.2.heads.length=w.m.heads.length)
  (hr : bI r.1→(aa w.m (tsk w x).f.c).toNat < w.m.ae.length) (hF : (F (tsk w x)).f=r.1∧(F (tsk w x)).busy=!r.1.done) : HE ⟨r.2,w.ts.modify x.toNat F⟩:=by
 obtain ⟨g,y⟩:=r
 obtain ⟨hc,hs,hl⟩:=hs
 intro t t0 t9 tb th
 have t1 : t < w.ts.length:=by simpa using t9
 clear t9
 rw [eT hx0 hx t0] at tb th
 show y.ae.getD (aa y (tsk ⟨y,w.ts.modify x.toNat F⟩ t).f.c).toNat 0=t
 rw [eT hx0 hx t0,ck _ hy]
 by_cases e : t=x
 ·subst e
  rw [if_pos rfl] at tb th ⊢
  rw [hF.1] at th ⊢
  rw [hF.2] at tb
  have hd : g.done=false:=by simpa using tb
  rw [show g.c=(tsk w t).f.c from hc]
  rcases hs th hd with ⟨k1,k2⟩ | k2
  ·have k2 : y.ae=w.m.ae:=k2
   rw [k2]
   exact h t t0 t1 hbu k1
  ·have k2 : y.ae=w.m.ae.set (aa w.m (tsk w t).f.c).toNat t:=k2
   rw [k2]
   simp [List.getD_eq_getElem?_getD,hr th]
 ·rw [if_neg e] at tb th ⊢
  have hb:=h t t0 t1 tb th
  rcases hl with hl | ⟨h1,hl⟩ | hl
  ·have hl : y.ae=w.m.ae:=hl
   rw [hl];exact hb
  ·have hl : y.ae=w.m.ae.set (aa w.m (tsk w x).f.c).toNat x:=hl
   rw [hl]
   have hne : (aa w.m (tsk w x).f.c).toNat≠(aa w.m (tsk w t).f.c).toNat:=fun e2=>by
    rw [e2,hb] at h1;omega
   rw [List.getD_eq_getElem?_getD,List.getElem?_set_ne hne,← List.getD_eq_getElem?_getD]
   exact hb
  ·have hl : y.ae=(unlock w.m (aa w.m (tsk w x).f.c) x).ae:=hl
   unfold unlock at hl
   split at hl
   ·rename_i h1
    have hl : y.ae=w.m.ae.set (aa w.m (tsk w x).f.c).toNat (-1):=hl
    rw [hl]
    have hne : (aa w.m (tsk w x).f.c).toNat≠(aa w.m (tsk w t).f.c).toNat:=fun e2=>by
     rw [e2,hb] at h1;exact e h1
    rw [List.getD_eq_getElem?_getD,List.getElem?_set_ne hne,← List.getD_eq_getElem?_getD]
    exact hb
   ·rw [hl];exact hb
end Go.Proofs.Ytpmamacjepcdmaa
