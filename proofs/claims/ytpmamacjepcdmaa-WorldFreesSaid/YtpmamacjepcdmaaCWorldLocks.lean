import Derived.Test.YtpmamacjepcdmaaCWorld5
import Derived.Test.YtpmamacjepcdmaaCPlayed
namespace Go.Proofs.Ytpmamacjepcdmaa
open Go Go.Sy Go.RowKit
set_option linter.unusedSimpArgs false
set_option linter.unusedVariables false
theorem di (w : Wrd) : w.bH.aS=w.aS:=by
 simp only [Wrd.bH,Wrd.aS,List.map_map];rfl
end Go.Proofs.Ytpmamacjepcdmaa

namespace Go.Proofs.Ytpmamacjepcdmaa
open Go Go.Sy Go.RowKit
set_option linter.unusedSimpArgs false
set_option linter.unusedVariables false
def bq (f : Frm) : Prop:=(f.c.kind=2∧f.pc≠0∧f.pc≠1)∨(f.c.kind=3∧f.pc≠0∧f.pc≠6)∨((f.c.kind=4∨f.c.kind=5)∧f.pc≠0)
def mZ (m : Mem) (f : Frm) (x : Int) (r : Frm × Mem) : Prop :=
 r.1.c=f.c∧((r.2.af=m.af∧(bq f→bq r.1∧r.1.done=false))∨(m.af.getD (aa m f.c).toNat 0=-1∧r.2.af=m.af.set (aa m f.c).toNat x∧bq r.1∧r.1.done=false)∨r.2.af=(unlock m (aa m f.c) x).af)
theorem eJ (m : Mem) (a : Int) : (put m a).af=m.af:=by
 unfold put
 repeat' split
 all_goals rfl
theorem iO (m : Mem) (p a b : Int) : (cut m p a b).af=m.af:=by
 unfold cut
 repeat' split
 all_goals rfl
theorem rR (m : Mem) (k : Key) (t : Int) : (take m k t).1.af=m.af:=by
 unfold take
 repeat' split
 all_goals rfl
theorem cK (m : Mem) (b x : Int) : (lock m b x=({ m with af:=m.af.set b.toNat x},true)∧m.af.getD b.toNat 0=-1)∨lock m b x=(m,false):=by
 unfold lock
 split
 ·exact .inl ⟨rfl,by assumption⟩
 ·exact .inr rfl
theorem tN {m : Mem} {f : Frm} (x : Int) (hk : f.c.kind=2) (hd : f.done=false) : mZ m f x (bx m f x):=by
 unfold bx
 by_cases h1 : f.pc=1
 ·rw [if_neg (by omega),if_pos h1]
  rcases cK m (aa m f.c) x with ⟨h,hl⟩ | h
  ·rw [h]
   exact ⟨rfl,.inr (.inl ⟨hl,rfl,.inl ⟨hk,by simp,by simp⟩,hd⟩)⟩
  ·rw [h]
   refine ⟨rfl,.inl ⟨rfl,fun y=>?_⟩⟩
   unfold bq at y
   omega
 by_cases h7 : f.pc=7
 ·rw [if_neg (by omega),if_neg (by omega),if_neg (by omega),if_neg (by omega),if_neg (by omega),if_neg (by omega),if_neg (by omega),if_pos h7]
  exact ⟨rfl,.inr (.inr rfl)⟩
 have hold : ∀ g : Frm,g.c=f.c→g.pc≠0→g.pc≠1→g.done=f.done→(f.pc≠0→bq g∧g.done=false):=fun g c1 c2 c3 c4 _=>⟨.inl ⟨by rw [c1];exact hk,c2,c3⟩,by rw [c4];exact hd⟩
 have nz : bq f→f.pc≠0:=fun y=>by unfold bq at y;omega
 rw [if_neg h1]
 repeat' split
 all_goals first
  | exact absurd (by assumption) h7
  | exact ⟨rfl,.inl ⟨by first | rfl | exact rR _ _ _ | exact eJ _ _,fun y=>by first | (exfalso;exact nz y (by assumption)) | (refine hold _ rfl ?_ ?_ rfl (nz y) <;> simp <;> (try split) <;> (try split) <;> decide)⟩⟩
theorem tf {m : Mem} {f : Frm} (x : Int) (hk : f.c.kind=3) (hd : f.done=false) : mZ m f x (aQ m f x):=by
 unfold aQ
 by_cases h1 : f.pc=0
 ·rw [if_pos h1]
  rcases cK m (aa m f.c) x with ⟨h,hl⟩ | h
  ·rw [h]
   exact ⟨rfl,.inr (.inl ⟨hl,rfl,.inr (.inl ⟨hk,by simp,by simp⟩),hd⟩)⟩
  ·rw [h]
   refine ⟨rfl,.inl ⟨rfl,fun y=>?_⟩⟩
   unfold bq at y
   omega
 rw [if_neg h1]
 by_cases h7 : f.pc=5
 ·rw [if_neg (by omega),if_neg (by omega),if_neg (by omega),if_neg (by omega),if_pos h7]
  exact ⟨rfl,.inr (.inr rfl)⟩
 have hold : ∀ g : Frm,g.c=f.c→g.pc≠0→g.pc≠6→g.done=f.done→(bq f→bq g∧g.done=false):=fun g c1 c2 c3 c4 _=>⟨.inr (.inl ⟨by rw [c1];exact hk,c2,c3⟩),by rw [c4];exact hd⟩
 have nz : bq f→f.pc≠6:=fun y=>by unfold bq at y;omega
 repeat' split
 all_goals first
  | exact absurd (by assumption) h7
  | exact ⟨rfl,.inl ⟨by first | rfl | exact eJ _ _ | exact iO _ _ _ _,fun y=>by first | (exfalso;exact nz y (by assumption)) | (refine hold _ rfl ?_ ?_ rfl y <;> simp <;> (try split) <;> (try split) <;> decide)⟩⟩
theorem re {m : Mem} {f : Frm} (x : Int) (hk : f.c.kind=4∨f.c.kind=5) (hd : f.done=false) : mZ m f x (aU m f x):=by
 unfold aU
 by_cases h1 : f.pc=0
 ·rw [if_pos h1]
  rcases cK m (aa m f.c) x with ⟨h,hl⟩ | h
  ·rw [h]
   exact ⟨rfl,.inr (.inl ⟨hl,rfl,.inr (.inr ⟨hk,by simp⟩),hd⟩)⟩
  ·rw [h]
   refine ⟨rfl,.inl ⟨rfl,fun y=>?_⟩⟩
   unfold bq at y
   omega
 rw [if_neg h1]
 by_cases h7 : f.pc=6
 ·rw [if_neg (by omega),if_neg (by omega),if_neg (by omega),if_neg (by omega),if_neg (by omega),if_neg (by omega),if_neg (by omega),if_pos h7]
  exact ⟨rfl,.inr (.inr rfl)⟩
 have hold : ∀ g : Frm,g.c=f.c→g.pc≠0→g.done=f.done→(bq f→bq g∧g.done=false):=fun g c1 c2 c4 _=>⟨.inr (.inr ⟨by rw [c1];exact hk,c2⟩),by rw [c4];exact hd⟩
 repeat' split
 all_goals first
  | exact absurd (by assumption) h7
  | exact ⟨rfl,.inl ⟨by first | rfl | exact eJ _ _ | exact iO _ _ _ _,fun y=>by refine hold _ rfl ?_ rfl y <;> simp <;> (try split) <;> (try split) <;> decide⟩⟩
def ld (w : Wrd) (b : Nat) (t : Int) : Prop:=0≤t∧t < w.ts.length∧(tsk w t).busy=true∧bq (tsk w t).f∧aa w.m (tsk w t).f.c=b
def dU (w : Wrd) : Prop:=∀ b : Nat,b < w.m.af.length→w.m.af.getD b 0=-1∨ld w b (w.m.af.getD b 0)
theorem eI {w : Wrd} {y : Mem} {x t : Int} {F : Tsk→Tsk} (hx0 : 0≤x) (hx : x < w.ts.length) (ht : 0≤t) : tsk ⟨y,w.ts.modify x.toNat F⟩ t=if t=x then F (tsk w x) else tsk w t:=by
 unfold tsk
 simp only [List.getD_eq_getElem?_getD,List.getElem?_modify]
 by_cases h : t=x
 ·subst h
  rw [if_pos rfl]
  have : t.toNat < w.ts.length:=by omega
  simp [this]
 ·rw [if_neg h]
  have : ¬ x.toNat=t.toNat:=by omega
  simp [this]
theorem bw {m y : Mem} (c : Cal) (h : y.heads.length=m.heads.length) : aa y c=aa m c:=by
 unfold aa;rw [h]
theorem jW {w : Wrd} {y : Mem} {x t : Int} {b : Nat} {F : Tsk→Tsk} (hx0 : 0≤x) (hx : x < w.ts.length) (hy : y.heads.length=w.m.heads.length) (h : ld w b t) (hne : t≠x) : ld ⟨y,w.ts.modify x.toNat F⟩ b t:=by
 obtain ⟨h1,h2,h3,h4,h5⟩:=h
 have e : tsk ⟨y,w.ts.modify x.toNat F⟩ t=tsk w t:=by rw [eI hx0 hx h1,if_neg hne]
 exact ⟨h1,by simpa using h2,by rw [e];exact h3,by rw [e];exact h4,by rw [e,← h5];exact bw _ hy⟩
theorem kE {w : Wrd} {y : Mem} {x : Int} {F : Tsk→Tsk} (h : dU w) (hx0 : 0≤x) (hx : x < w.ts.length) (hy : y.heads.length=w.m.heads.length) (hl : y.af=w.m.af) (hno : ¬ ((tsk w x).busy=true∧bq (tsk w x).f)) : dU ⟨y,w.ts.modify x.toNat F⟩:=by
 intro b hb
 have hb : b < y.af.length:=hb
 show y.af.getD b 0=-1∨ld _ b (y.af.getD b 0)
 rw [hl] at hb ⊢
 rcases h b hb with h | h
 ·exact .inl h
 ·refine .inr (jW hx0 hx hy h fun e=>hno ?_)
  rw [e] at h
  exact ⟨h.2.2.1,h.2.2.2.1⟩
theorem nW {w : Wrd} {r : Frm × Mem} {x : Int} {F : Tsk→Tsk} (h : dU w) (hx0 : 0≤x) (hx : x < w.ts.length) (hbu : (tsk w x).busy=true) (hs : mZ w.m (tsk w x).f x r) (hy : r.2.heads.length=w.m.heads.length)
  (hr : 0≤aa w.m (tsk w x).f.c∧aa w.m (tsk w x).f.c < w.m.heads.length) (hF : ∀ t,(F t).f=r.1∧(F t).busy=!r.1.done) : dU ⟨r.2,w.ts.modify x.toNat F⟩:=by
 obtain ⟨g,y⟩:=r
 obtain ⟨hc,hs⟩:=hs
 have hc : g.c=(tsk w x).f.c:=hc
 have hy : y.heads.length=w.m.heads.length:=hy
 have ex : tsk ⟨y,w.ts.modify x.toNat F⟩ x=F (tsk w x):=by rw [eI hx0 hx hx0,if_pos rfl]
 obtain ⟨q,hq⟩ : ∃ q : Nat,aa w.m (tsk w x).f.c=q:=⟨(aa w.m (tsk w x).f.c).toNat,by omega⟩
 have me : ∀ b : Nat,bq g→g.done=false→(b : Int)=aa w.m (tsk w x).f.c→ld ⟨y,w.ts.modify x.toNat F⟩ b x:=fun b k1 k2 k3 =>
  ⟨hx0,by simpa using hx,by rw [ex,(hF _).2,show (g,y).1.done=false from k2];rfl,by rw [ex,(hF _).1];exact k1,by rw [ex,(hF _).1];show aa y g.c=b;rw [bw _ hy,hc,k3]⟩
 have only : ∀ b : Nat,b < w.m.af.length→w.m.af.getD b 0=x→(b : Int)=aa w.m (tsk w x).f.c∧bq (tsk w x).f:=fun b hb he=>by
  rcases h b hb with h | h
  ·omega
  ·rw [he] at h
   exact ⟨h.2.2.2.2.symm,h.2.2.2.1⟩
 intro b hb
 have hb : b < y.af.length:=hb
 show y.af.getD b 0=-1∨ld _ b (y.af.getD b 0)
 rcases hs with ⟨hl,hk⟩ | ⟨hl,hs,k1,k2⟩ | hs
 ·have hl : y.af=w.m.af:=hl
  rw [hl] at hb ⊢
  by_cases he : w.m.af.getD b 0=x
  ·obtain ⟨o1,o2⟩:=only b hb he
   obtain ⟨k1,k2⟩:=hk o2
   rw [he]
   exact .inr (me b k1 k2 o1)
  ·rcases h b hb with h | h
   ·exact .inl h
   ·exact .inr (jW hx0 hx hy h he)
 ·have hs : y.af=w.m.af.set (aa w.m (tsk w x).f.c).toNat x:=hs
  rw [hq,Int.toNat_natCast] at hs
  rw [hs] at hb ⊢
  rw [List.length_set] at hb
  by_cases hbq : b=q
  ·subst hbq
   rw [show (w.m.af.set b x).getD b 0=x from by simp [List.getD_eq_getElem?_getD,hb]]
   exact .inr (me b k1 k2 hq.symm)
  ·rw [show (w.m.af.set q x).getD b 0=w.m.af.getD b 0 from by simp only [List.getD_eq_getElem?_getD];rw [List.getElem?_set_ne (by omega)]]
   rcases h b hb with h | h
   ·exact .inl h
   ·refine .inr (jW hx0 hx hy h fun he=>?_)
    have:=(only b hb he).1
    omega
 ·have hs : y.af=(unlock w.m (aa w.m (tsk w x).f.c) x).af:=hs
  rw [hq] at hs
  unfold unlock at hs
  rw [Int.toNat_natCast] at hs
  split at hs
  ·have hs : y.af=w.m.af.set q (-1):=hs
   rw [hs] at hb ⊢
   rw [List.length_set] at hb
   by_cases hbq : b=q
   ·subst hbq
    exact .inl (by simp [List.getD_eq_getElem?_getD,hb])
   ·rw [show (w.m.af.set q (-1)).getD b 0=w.m.af.getD b 0 from by simp only [List.getD_eq_getElem?_getD];rw [List.getElem?_set_ne (by omega)]]
    rcases h b hb with h | h
    ·exact .inl h
    ·refine .inr (jW hx0 hx hy h fun he=>?_)
     have:=(only b hb he).1
     omega
  ·rename_i hnq
   rw [hs] at hb ⊢
   rcases h b hb with h | h
   ·exact .inl h
   ·refine .inr (jW hx0 hx hy h fun he=>hnq ?_)
    have:=(only b hb he).1
    have : b=q:=by omega
    rw [← this];exact he
theorem vb {f : Frm} (h : f.c.kind=1∨f.c.kind=6) : ¬ bq f:=fun y=>by unfold bq at y;omega
theorem oC {w : Wrd} {t : Int} (h0 : 0≤t) (h : t < w.ts.length) : tsk w.aS t=(tsk w t).aS:=by
 unfold tsk Wrd.aS
 have : t.toNat < w.ts.length:=by omega
 simp only [List.getD_eq_getElem?_getD,List.getElem?_map]
 rw [List.getElem?_eq_getElem this];rfl
theorem AP {a b n : Int} (h : (oU a b n).2=0) : dU (oU a b n).1:=by
 unfold oU at h ⊢
 split at h
 ·rename_i h1;exact absurd h h1
 ·rename_i h1
  rw [if_neg h1]
  split at h
  ·cases h
  ·rename_i h2
   rw [if_neg h2]
   have h1 : (dO a b).2=0:=Classical.not_not.1 h1
   unfold dO at h1 ⊢
   split at h1
   ·cases h1
   ·rename_i h3
    rw [if_neg h3]
    intro i hi
    have hi : i < b.toNat:=by simpa using hi
    left
    simp [List.getD_eq_getElem?_getD,hi]
end Go.Proofs.Ytpmamacjepcdmaa
