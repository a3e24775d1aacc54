import Derived.Test.YtpmamacjepcdmaaCWorldIn
import Derived.Test.YtpmamacjepcdmaaCSame
namespace Go.Proofs.Ytpmamacjepcdmaa
open Go Go.Sy Go.RowKit
set_option linter.unusedSimpArgs false
set_option linter.unusedVariables false
def bI (f : Frm) : Prop:=(f.c.kind=2∧f.pc≠0∧f.pc≠1)∨(f.c.kind=3∧f.pc≠0∧f.pc≠6)∨((f.c.kind=4∨f.c.kind=5)∧f.pc≠0)
def nw (m : Mem) (f : Frm) (x : Int) (r : Frm × Mem) : Prop :=
 r.1.c=f.c∧((r.2.locks=m.locks∧(bI f→bI r.1∧r.1.done=false))∨(m.locks.getD (aa m f.c).toNat 0=-1∧r.2.locks=m.locks.set (aa m f.c).toNat x∧bI r.1∧r.1.done=false)∨r.2.locks=(unlock m (aa m f.c) x).locks)
theorem fP (m : Mem) (a : Int) : (put m a).locks=m.locks:=by
 unfold put
 repeat' split
 all_goals rfl
theorem iV (m : Mem) (p a b : Int) : (cut m p a b).locks=m.locks:=by
 unfold cut
 repeat' split
 all_goals rfl
theorem sy (m : Mem) (k : Key) (t : Int) : (take m k t).1.locks=m.locks:=by
 unfold take
 repeat' split
 all_goals rfl
theorem dA (m : Mem) (b x : Int) : (lock m b x=({ m with locks:=m.locks.set b.toNat x},true)∧m.locks.getD b.toNat 0=-1)∨lock m b x=(m,false):=by
 unfold lock
 split
 ·exact .inl ⟨rfl,by assumption⟩
 ·exact .inr rfl
theorem uC {m : Mem} {f : Frm} (x : Int) (hk : f.c.kind=2) (hd : f.done=false) : nw m f x (G3 m f x):=by
 unfold G3
 by_cases h1 : f.pc=1
 ·rw [if_neg (by omega),if_pos h1]
  rcases dA m (aa m f.c) x with ⟨h,hl⟩ | h
  ·rw [h]
   exact ⟨rfl,.inr (.inl ⟨hl,rfl,.inl ⟨hk,by simp,by simp⟩,hd⟩)⟩
  ·rw [h]
   refine ⟨rfl,.inl ⟨rfl,fun y=>?_⟩⟩
   unfold bI at y
   omega
 by_cases h7 : f.pc=7
 ·rw [if_neg (by omega),if_neg (by omega),if_neg (by omega),if_neg (by omega),if_neg (by omega),if_neg (by omega),if_neg (by omega),if_pos h7]
  exact ⟨rfl,.inr (.inr rfl)⟩
 have hold : ∀ g : Frm,g.c=f.c→g.pc≠0→g.pc≠1→g.done=f.done→(f.pc≠0→bI g∧g.done=false):=fun g c1 c2 c3 c4 _=>⟨.inl ⟨by rw [c1];exact hk,c2,c3⟩,by rw [c4];exact hd⟩
 have nz : bI f→f.pc≠0:=fun y=>by unfold bI at y;omega
 rw [if_neg h1]
 repeat' split
 all_goals first
  | exact absurd (by assumption) h7
  | exact ⟨rfl,.inl ⟨by first | rfl | exact sy _ _ _ | exact fP _ _,fun y=>by first | (exfalso;exact nz y (by assumption)) | (refine hold _ rfl ?_ ?_ rfl (nz y) <;> simp <;> (try split) <;> (try split) <;> decide)⟩⟩
theorem tP {m : Mem} {f : Frm} (x : Int) (hk : f.c.kind=3) (hd : f.done=false) : nw m f x (aL m f x):=by
 unfold aL
 by_cases h1 : f.pc=0
 ·rw [if_pos h1]
  rcases dA m (aa m f.c) x with ⟨h,hl⟩ | h
  ·rw [h]
   exact ⟨rfl,.inr (.inl ⟨hl,rfl,.inr (.inl ⟨hk,by simp,by simp⟩),hd⟩)⟩
  ·rw [h]
   refine ⟨rfl,.inl ⟨rfl,fun y=>?_⟩⟩
   unfold bI at y
   omega
 rw [if_neg h1]
 by_cases h7 : f.pc=5
 ·rw [if_neg (by omega),if_neg (by omega),if_neg (by omega),if_neg (by omega),if_pos h7]
  exact ⟨rfl,.inr (.inr rfl)⟩
 have hold : ∀ g : Frm,g.c=f.c→g.pc≠0→g.pc≠6→g.done=f.done→(bI f→bI g∧g.done=false):=fun g c1 c2 c3 c4 _=>⟨.inr (.inl ⟨by rw [c1];exact hk,c2,c3⟩),by rw [c4];exact hd⟩
 have nz : bI f→f.pc≠6:=fun y=>by unfold bI at y;omega
 repeat' split
 all_goals first
  | exact absurd (by assumption) h7
  | exact ⟨rfl,.inl ⟨by first | rfl | exact fP _ _ | exact iV _ _ _ _,fun y=>by first | (exfalso;exact nz y (by assumption)) | (refine hold _ rfl ?_ ?_ rfl y <;> simp <;> (try split) <;> (try split) <;> decide)⟩⟩
theorem rG {m : Mem} {f : Frm} (x : Int) (hk : f.c.kind=4∨f.c.kind=5) (hd : f.done=false) : nw m f x (aB m f x):=by
 unfold aB
 by_cases h1 : f.pc=0
 ·rw [if_pos h1]
  rcases dA m (aa m f.c) x with ⟨h,hl⟩ | h
  ·rw [h]
   exact ⟨rfl,.inr (.inl ⟨hl,rfl,.inr (.inr ⟨hk,by simp⟩),hd⟩)⟩
  ·rw [h]
   refine ⟨rfl,.inl ⟨rfl,fun y=>?_⟩⟩
   unfold bI at y
   omega
 rw [if_neg h1]
 by_cases h7 : f.pc=6
 ·rw [if_neg (by omega),if_neg (by omega),if_neg (by omega),if_neg (by omega),if_neg (by omega),if_neg (by omega),if_neg (by omega),if_pos h7]
  exact ⟨rfl,.inr (.inr rfl)⟩
 have hold : ∀ g : Frm,g.c=f.c→g.pc≠0→g.done=f.done→(bI f→bI g∧g.done=false):=fun g c1 c2 c4 _=>⟨.inr (.inr ⟨by rw [c1];exact hk,c2⟩),by rw [c4];exact hd⟩
 repeat' split
 all_goals first
  | exact absurd (by assumption) h7
  | exact ⟨rfl,.inl ⟨by first | rfl | exact fP _ _ | exact iV _ _ _ _,fun y=>by refine hold _ rfl ?_ rfl y <;> simp <;> (try split) <;> (try split) <;> decide⟩⟩
def lE (w : Wrd) (b : Nat) (t : Int) : Prop:=0≤t∧t < w.ts.length∧(tsk w t).busy=true∧bI (tsk w t).f∧aa w.m (tsk w t).f.c=b
def dW (w : Wrd) : Prop:=∀ b : Nat,b < w.m.locks.length→w.m.locks.getD b 0=-1∨lE w b (w.m.locks.getD b 0)
theorem eT {w : Wrd} {y : Mem} {x t : Int} {F : Tsk→Tsk} (hx0 : 0≤x) (hx : x < w.ts.length) (ht : 0≤t) : tsk ⟨y,w.ts.modify x.toNat F⟩ t=if t=x then F (tsk w x) else tsk w t:=by
 unfold tsk
 simp only [List.getD_eq_getElem?_getD,List.getElem?_modify]
 by_cases h : t=x
 ·subst h
  rw [if_pos rfl]
  have : t.toNat < w.ts.length:=by omega
  simp [this]
 ·rw [if_neg h]
  have : ¬ x.toNat=t.toNat:=by omega
  simp [this]
theorem ck {m y : Mem} (c : Cal) (h : y.heads.length=m.heads.length) : aa y c=aa m c:=by
 unfold aa;rw [h]
theorem kh {w : Wrd} {y : Mem} {x t : Int} {b : Nat} {F : Tsk→Tsk} (hx0 : 0≤x) (hx : x < w.ts.length) (hy : y.heads.length=w.m.heads.length) (h : lE w b t) (hne : t≠x) : lE ⟨y,w.ts.modify x.toNat F⟩ b t:=by
 obtain ⟨h1,h2,h3,h4,h5⟩:=h
 have e : tsk ⟨y,w.ts.modify x.toNat F⟩ t=tsk w t:=by rw [eT hx0 hx h1,if_neg hne]
 exact ⟨h1,by simpa using h2,by rw [e];exact h3,by rw [e];exact h4,by rw [e,← h5];exact ck _ hy⟩
theorem kZ {w : Wrd} {y : Mem} {x : Int} {F : Tsk→Tsk} (h : dW w) (hx0 : 0≤x) (hx : x < w.ts.length) (hy : y.heads.length=w.m.heads.length) (hl : y.locks=w.m.locks) (hno : ¬ ((tsk w x).busy=true∧bI (tsk w x).f)) : dW ⟨y,w.ts.modify x.toNat F⟩:=by
 intro b hb
 have hb : b < y.locks.length:=hb
 show y.locks.getD b 0=-1∨lE _ b (y.locks.getD b 0)
 rw [hl] at hb ⊢
 rcases h b hb with h | h
 ·exact .inl h
 ·refine .inr (kh hx0 hx hy h fun e=>hno ?_)
  rw [e] at h
  exact ⟨h.2.2.1,h.2.2.2.1⟩
theorem H3 {w : Wrd} {r : Frm × Mem} {x : Int} {F : Tsk→Tsk} (h : dW w) (hx0 : 0≤x) (hx : x < w.ts.length) (hbu : (tsk w x).busy=true) (hs : nw w.m (tsk w x).f x r) (hy : r.2.heads.length=w.m.heads.length)
  (hr : 0≤aa w.m (tsk w x).f.c∧aa w.m (tsk w x).f.c < w.m.heads.length) (hF : ∀ t,(F t).f=r.1∧(F t).busy=!r.1.done) : dW ⟨r.2,w.ts.modify x.toNat F⟩:=by
 obtain ⟨g,y⟩:=r
 obtain ⟨hc,hs⟩:=hs
 have hc : g.c=(tsk w x).f.c:=hc
 have hy : y.heads.length=w.m.heads.length:=hy
 have ex : tsk ⟨y,w.ts.modify x.toNat F⟩ x=F (tsk w x):=by rw [eT hx0 hx hx0,if_pos rfl]
 obtain ⟨q,hq⟩ : ∃ q : Nat,aa w.m (tsk w x).f.c=q:=⟨(aa w.m (tsk w x).f.c).toNat,by omega⟩
 have me : ∀ b : Nat,bI g→g.done=false→(b : Int)=aa w.m (tsk w x).f.c→lE ⟨y,w.ts.modify x.toNat F⟩ b x:=fun b k1 k2 k3 =>
  ⟨hx0,by simpa using hx,by rw [ex,(hF _).2,show (g,y).1.done=false from k2];rfl,by rw [ex,(hF _).1];exact k1,by rw [ex,(hF _).1];show aa y g.c=b;rw [ck _ hy,hc,k3]⟩
 have only : ∀ b : Nat,b < w.m.locks.length→w.m.locks.getD b 0=x→(b : Int)=aa w.m (tsk w x).f.c∧bI (tsk w x).f:=fun b hb he=>by
  rcases h b hb with h | h
  ·omega
  ·rw [he] at h
   exact ⟨h.2.2.2.2.symm,h.2.2.2.1⟩
 intro b hb
 have hb : b < y.locks.length:=hb
 show y.locks.getD b 0=-1∨lE _ b (y.locks.getD b 0)
 rcases hs with ⟨hl,hk⟩ | ⟨hl,hs,k1,k2⟩ | hs
 ·have hl : y.locks=w.m.locks:=hl
  rw [hl] at hb ⊢
  by_cases he : w.m.locks.getD b 0=x
  ·obtain ⟨o1,o2⟩:=only b hb he
   obtain ⟨k1,k2⟩:=hk o2
   rw [he]
   exact .inr (me b k1 k2 o1)
  ·rcases h b hb with h | h
   ·exact .inl h
   ·exact .inr (kh hx0 hx hy h he)
 ·have hs : y.locks=w.m.locks.set (aa w.m (tsk w x).f.c).toNat x:=hs
  rw [hq,Int.toNat_natCast] at hs
  rw [hs] at hb ⊢
  rw [List.length_set] at hb
  by_cases hbq : b=q
  ·subst hbq
   rw [show (w.m.locks.set b x).getD b 0=x from by simp [List.getD_eq_getElem?_getD,hb]]
   exact .inr (me b k1 k2 hq.symm)
  ·rw [show (w.m.locks.set q x).getD b 0=w.m.locks.getD b 0 from by simp only [List.getD_eq_getElem?_getD];rw [List.getElem?_set_ne (by omega)]]
   rcases h b hb with h | h
   ·exact .inl h
   ·refine .inr (kh hx0 hx hy h fun he=>?_)
    have:=(only b hb he).1
    omega
 ·have hs : y.locks=(unlock w.m (aa w.m (tsk w x).f.c) x).locks:=hs
  rw [hq] at hs
  unfold unlock at hs
  rw [Int.toNat_natCast] at hs
  split at hs
  ·have hs : y.locks=w.m.locks.set q (-1):=hs
   rw [hs] at hb ⊢
   rw [List.length_set] at hb
   by_cases hbq : b=q
   ·subst hbq
    exact .inl (by simp [List.getD_eq_getElem?_getD,hb])
   ·rw [show (w.m.locks.set q (-1)).getD b 0=w.m.locks.getD b 0 from by simp only [List.getD_eq_getElem?_getD];rw [List.getElem?_set_ne (by omega)]]
    rcases h b hb with h | h
    ·exact .inl h
    ·refine .inr (kh hx0 hx hy h fun he=>?_)
     have:=(only b hb he).1
     omega
  ·rename_i hnq
   rw [hs] at hb ⊢
   rcases h b hb with h | h
   ·exact .inl h
   ·refine .inr (kh hx0 hx hy h fun he=>hnq ?_)
    have:=(only b hb he).1
    have : b=q:=by omega
    rw [← this];exact he
theorem vS {f : Frm} (h : f.c.kind=1∨f.c.kind=6) : ¬ bI f:=fun y=>by unfold bI at y;omega
theorem LB {w : Wrd} (hw : WIn w) (h : dW w) (x : Pik) : dW (bN w x).1:=by
 unfold bN
 split
 ·split
  ·exact h
  ·exact h
 split
 ·exact h
 rename_i hr
 have hx0 : 0≤x.task:=by omega
 have hx : x.task < w.ts.length:=by omega
 split
 ·unfold cN
  split
  ·exact h
  rename_i hb
  have hb : (tsk w x.task).busy=true:=by simpa using hb
  obtain ⟨k1,k2,k3⟩:=hw.t _ (show tsk w x.task∈w.ts from fc (by omega))
  have hf:=k3 hb
  have hm:=hw.m
  have hd : (tsk w x.task).f.done=false:=hf.nd
  split
  ·rename_i hk
   have ht:=mg (m:=w.m) (f:=(tsk w x.task).f)
   split
   ·exact kZ h hx0 hx ht.1.hl ht.2.2.2 (fun y=>vS (.inl hk) y.2)
   ·exact kZ h hx0 hx ht.1.hl ht.2.2.2 (fun y=>vS (.inl hk) y.2)
  split
  ·rename_i _ hk
   exact H3 h hx0 hx hb (uC x.task hk hd) (gW x.task hm hf hk).hl (aQ hm hf.call (by omega)) fun t=>⟨rfl,rfl⟩
  split
  ·rename_i _ _ hk
   exact H3 h hx0 hx hb (tP x.task hk hd) (gz x.task hm hf hk).hl (aQ hm hf.call (by omega)) fun t=>⟨rfl,rfl⟩
  split
  ·rename_i _ _ _ hk
   exact H3 h hx0 hx hb (rG x.task hk hd) (fF x.task hm hf hk).hl (aQ hm hf.call (by omega)) fun t=>⟨rfl,rfl⟩
  have h6 : (tsk w x.task).f.c.kind=6:=by
   have:=hf.call
   unfold bf at this
   rw [if_neg (by omega),if_neg (by omega),if_neg (by omega)] at this
   split at this
   ·assumption
   ·cases this
  split
  ·exact kZ h hx0 hx (by rw [(jw w.m (tsk w x.task).f.c.slot).2.1]) (fP _ _) (fun y=>vS (.inr h6) y.2)
  ·exact kZ h hx0 hx rfl rfl (fun y=>vS (.inr h6) y.2)
 ·unfold eR
  split
  ·exact h
  rename_i hb
  repeat' split
  all_goals first
   | exact h
   | exact kZ h hx0 hx rfl rfl (fun y=>hb y.1)
theorem Ia {w : Wrd} {t : Int} (h0 : 0≤t) (h : t < w.ts.length) : tsk w.bm t=(tsk w t).bm:=by
 unfold tsk Wrd.bm
 have : t.toNat < w.ts.length:=by omega
 simp only [List.getD_eq_getElem?_getD,List.getElem?_map]
 rw [List.getElem?_eq_getElem this];rfl
theorem MR {w : Wrd} {b : Nat} {t : Int} (h : lE w b t) : lE w.bm b t:=by
 obtain ⟨h1,h2,h3,h4,h5⟩:=h
 have e:=Ia h1 h2
 exact ⟨h1,by rw [kb];exact h2,by rw [e];exact h3,by rw [e];exact h4,by rw [e];exact h5⟩
theorem Kj {w : Wrd} (h : dW w) : dW w.bm:=fun b hb=>(h b hb).imp id MR
theorem BV {a b n : Int} (h : (iw a b n).2=0) : dW (iw a b n).1:=by
 unfold iw at h ⊢
 split at h
 ·rename_i h1;exact absurd h h1
 ·rename_i h1
  rw [if_neg h1]
  split at h
  ·cases h
  ·rename_i h2
   rw [if_neg h2]
   have h1 : (dx a b).2=0:=Classical.not_not.1 h1
   unfold dx at h1 ⊢
   split at h1
   ·cases h1
   ·rename_i h3
    rw [if_neg h3]
    intro i hi
    have hi : i < b.toNat:=by simpa using hi
    left
    simp [List.getD_eq_getElem?_getD,hi]
def s30 : Sig:=⟨[.one (.int .i64),.one (.int .i64),.one (.int .i64),.one (.fz kQ)],[.one (.bool)]⟩
def d30 : DC:=⟨s30,fun _=>True,fun _=>[.b true]⟩
def l30 : List (Nat × Ct):=[(79,d79.ct),(78,d78.ct),(140,d140.ct),(98,d98.ct),(48,d48.ct)]
noncomputable def z30 : Cx:={ T:=ttA,C:=sigs l30,F:=[(132,Try.f132),(136,Try.f136),(98,Try.f98)],hints:=[⟨132,5,false,[(32,.lt)],[(0,0,.fz kS),(0,1,.fz kI),(0,2,.fz kI),(0,3,.fz kI),(0,4,.lt),(0,5,.fz kT)],[],[],0,0,false⟩,⟨136,3,false,[(13,.lt),(5,.own 3 kI)],[(4,5,.fz kT)],[],[],0,0,false⟩],sig:=s30}
def t30 : Tree :=
 (.call 79 [] 4
 (.ite (.var 4)
 (.call 78 [.var 0,.var 1,.var 2] 5
 (.ite (.not (.eq (.var 11) (.int 0)))
 (.ret [.bool true])
 (.need (.le (.int 0) (.min (.len (.var 3)) (.int 300)))
 (.need (.le (.min (.len (.var 3)) (.int 300)) (.len (.var 3)))
 (.need (.clean (.var 10) 15)
 (.loop 12 [.int .i64,.sl 48 [.int .i64,.int .i64,.int .i64,.int .i64,.bool,.int .i64],.sl 8 [.int .i64],.sl 8 [.int .i64],.sl 8 [.int .i64],.int .i64,.sl 160 [.bool,.int .i64,.int .i64,.int .i64,.int .i64,.int .i64,.int .i64,.int .i64,.int .i64,.int .i64,.int .i64,.int .i64,.sl 16 [.int .i64,.int .i64],.bool,.int .i64,.sl 8 [.int .i64]]] [.int 0,.var 5,.var 6,.var 7,.var 8,.var 9,.shuts (.var 10) 15]
 (.ite (.lt (.var 13) (.len (.take (.min (.len (.var 3)) (.int 300)) (.var 3))))
 (.need (.le (.int 0) (.var 13))
 (.call 140 [.var 14,.var 15,.var 16,.var 17,.var 18,.var 19,.cell (.take (.min (.len (.var 3)) (.int 300)) (.var 3)) (.var 13) 0,.cell (.take (.min (.len (.var 3)) (.int 300)) (.var 3)) (.var 13) 1,.cell (.take (.min (.len (.var 3)) (.int 300)) (.var 3)) (.var 13) 2,.cell (.take (.min (.len (.var 3)) (.int 300)) (.var 3)) (.var 13) 3,.cell (.take (.min (.len (.var 3)) (.int 300)) (.var 3)) (.var 13) 4,.cell (.take (.min (.len (.var 3)) (.int 300)) (.var 3)) (.var 13) 5,.cell (.take (.min (.len (.var 3)) (.int 300)) (.var 3)) (.var 13) 6,.cell (.take (.min (.len (.var 3)) (.int 300)) (.var 3)) (.var 13) 7,.cell (.take (.min (.len (.var 3)) (.int 300)) (.var 3)) (.var 13) 8] 20
 (.ite (.eq (.var 26) (.int 0))
 (.need (.clean (.var 25) 15)
 (.loop 27 [.sl 8 [.int .i64],.int .i64,.sl 160 [.bool,.int .i64,.int .i64,.int .i64,.int .i64,.int .i64,.int .i64,.int .i64,.int .i64,.int .i64,.int .i64,.int .i64,.sl 16 [.int .i64,.int .i64],.bool,.int .i64,.sl 8 [.int .i64]]] [.nil,.int 0,.shuts (.var 25) 15]
 (.ite (.lt (.var 29) (.len (.var 23)))
 (.need (.le (.int 0) (.var 29))
 (.ite (.eq (.cell (.var 23) (.var 29) 0) (.int (-1)))
 (.need (.fit (.add (.var 29) (.int 1)))
 (.back 27 [.var 28,.add (.var 29) (.int 1),.var 30]))
 (.ite (.lt (.cell (.var 23) (.var 29) 0) (.int 0))
 (.ret [.bool false])
 (.ite (.le (.len (.var 30)) (.cell (.var 23) (.var 29) 0))
 (.ret [.bool false])
 (.call 98 [.var 28,.cell (.var 23) (.var 29) 0] 31
 (.ite (.var 31)
 (.ret [.bool false])
 (.need (.le (.add (.len (.var 28)) (.int 1)) (.int 17592186044416))
 (.need (.le (.int 0) (.cell (.var 23) (.var 29) 0))
 (.need (.lt (.cell (.var 23) (.var 29) 0) (.len (.var 30)))
 (.ite (.not (.cell (.var 30) (.cell (.var 23) (.var 29) 0) 0))
 (.ret [.bool false])
 (.ite (.eq (.cell (.var 30) (.cell (.var 23) (.var 29) 0) 1) (.int 1))
 (.ret [.bool false])
 (.ite (.eq (.cell (.var 30) (.cell (.var 23) (.var 29) 0) 1) (.int 6))
 (.ret [.bool false])
 (.call 48 [.var 20,.var 21,.var 22,.var 23,.var 24,.cell (.var 30) (.cell (.var 23) (.var 29) 0) 1,.cell (.var 30) (.cell (.var 23) (.var 29) 0) 2,.cell (.var 30) (.cell (.var 23) (.var 29) 0) 3,.cell (.var 30) (.cell (.var 23) (.var 29) 0) 4,.cell (.var 30) (.cell (.var 23) (.var 29) 0) 5,.cell (.var 30) (.cell (.var 23) (.var 29) 0) 6] 32
 (.ite (.not (.eq (.var 32) (.var 29)))
 (.ret [.bool false])
 (.need (.fit (.add (.var 29) (.int 1)))
 (.back 27 [.app (.var 28) (.cons (.cell (.var 23) (.var 29) 0) .row0),.add (.var 29) (.int 1),.var 30]))))))))))))))))
 (.need (.fit (.add (.var 13) (.int 1)))
 (.back 12 [.add (.var 13) (.int 1),.var 20,.var 21,.var 22,.var 23,.var 24,.shuts (.var 25) 15])))))
 (.need (.fit (.add (.var 13) (.int 1)))
 (.need (.clean (.var 25) 15)
 (.back 12 [.add (.var 13) (.int 1),.var 14,.var 15,.var 16,.var 17,.var 18,.var 19]))))))
 (.ret [.bool true]))))))))
 (.ret [.bool false])))
theorem run30 : run z30 6000 [.code (Try.f30.body.getD .skip),.fin (bt z30 Try.f30.results.toList 50)] { fn:=30,tmps:=z30.sig.aM ++ List.replicate (Try.f30.ntmps - z30.sig.aM.length) (.v (.one .undef)),stk:=[],h:=z30.sig.h0,nx:=z30.sig.ins.length,known:=[]}=t30:=by kernel_rfl
theorem ok30 : cB Try.prog 30 d30.ct:=by
 refine aD (d:=d30) (Z:=z30) (Γ:=gam l30) (fn:=Try.f30) (c:=Try.f30.body.getD .skip) (bg tok mixed (all_cons ok79 (all_cons ok78 (all_cons ok140 (all_cons ok98 (all_cons ok48 all_nil))))) (dX (c:=Try.f132.body.getD .skip) Try.func132 (by kernel_rfl) (by kernel_rfl) (dX (c:=Try.f136.body.getD .skip) Try.func136 (by kernel_rfl) (by kernel_rfl) (dX (c:=Try.f98.body.getD .skip) Try.func98 (by kernel_rfl) (by kernel_rfl) bh)))) Try.func30 (by kernel_rfl) (by kernel_rfl) rfl run30 fun E hk hp=>?_
 obtain ⟨hk0,hk1,hk2,hk3,_⟩:=hk
 obtain ⟨x,e0⟩:=ok_int (d:=E 0) hk0
 obtain ⟨x2,e1⟩:=ok_int (d:=E 1) hk1
 obtain ⟨x3,e2⟩:=ok_int (d:=E 2) hk2
 obtain ⟨l,e3,b3⟩:=Dc (d:=E 3) hk3
 have b3 : l.length * 64≤140737488355328:=b3
 have el : aH E d30.sig.ins.length=[.i x,.i x2,.i x3,eD l]:=by
  show [E 0,E 1,E 2,E 3]=_
  rw [e0,e1,e2,e3]
 rw [el] at hp
 rw [el]
 rw [Env.bJ el]
 clear el e0 e1 e2 e3
 unfold t30
 refine ai d79 [.b true] rfl trivial rfl (G0 (fun _=>?_) (fun hn=>?_))
 rotate_left
 ·skip
  simp only [nrm,xdn,reduceIte,Nat.reduceLT,Nat.reduceSub,Nat.reduceAdd] at hn
  simp at hn
 obtain ⟨N,hN⟩ : ∃ N,iw x x2 x3=N:=⟨_,rfl⟩
 refine ai d78 [au N.1.m.slots,af N.1.m.heads,af N.1.m.free,af N.1.m.locks,.i N.1.m.now,az N.1.ts,.i N.2] rfl trivial (by simp only [nrm,xdn,reduceIte,Nat.reduceLT,Nat.reduceSub,Nat.reduceAdd,d78,hN];rfl) (G0 (fun _=>aj (by simp only [nrm,xdn,reduceIte,Nat.reduceLT,Nat.reduceSub,Nat.reduceAdd];rfl)) (fun h0=>?_))
 simp only [nrm,xdn,reduceIte,Nat.reduceLT,Nat.reduceSub,Nat.reduceAdd] at h0
 have h0 : N.2=0:=by simpa using h0
 have hL0 : dW N.1:=by rw [← hN] at h0 ⊢;exact BV h0
 refine ag (by simp only [nrm,xdn,reduceIte,Nat.reduceLT,Nat.reduceSub,Nat.reduceAdd,nc];omega) (ag (by simp only [nrm,xdn,reduceIte,Nat.reduceLT,Nat.reduceSub,Nat.reduceAdd,nc];omega) (ag (by simp only [nrm,xdn,reduceIte,Nat.reduceLT,Nat.reduceSub,Nat.reduceAdd];exact aI _) ?_))
 refine bO (fun ds=>∃ (i : Nat) (w : Wrd),ds=[.i i,au w.m.slots,af w.m.heads,af w.m.free,af w.m.locks,.i w.m.now,G2 w.ts]∧dW w.bm) (fun ds=>(min l.length 300) - (ds.getD 0 .u).int.toNat) ⟨0,N.1,?_,Kj hL0⟩ ?_
 ·simp only [nrm,xdn,reduceIte,Nat.reduceLT,Nat.reduceSub,Nat.reduceAdd,cg];rfl
 rintro ds - ⟨i,w,rfl,hL⟩
 obtain ⟨mn,hmn⟩ : ∃ mn : Nat,(if (300 : Int) < (l.length : Int) then (300 : Int) else (l.length : Int))=mn∧mn=min l.length 300:=⟨min l.length 300,by split <;> omega,rfl⟩
 refine G0 (fun hlt=>?_) (fun _=>aj (by simp only [nrm,xdn,reduceIte,Nat.reduceLT,Nat.reduceSub,Nat.reduceAdd];rfl))
 simp only [nrm,xdn,reduceIte,Nat.reduceLT,Nat.reduceSub,Nat.reduceAdd,nc,hmn.1,Int.toNat_natCast,List.length_take] at hlt
 obtain ⟨q,hq⟩ : ∃ q,l.getD i default=q:=⟨_,rfl⟩
 have hcell : ∀ o,(((eD l).rows.take mn).getD i []).getD o .u=q.row.getD o .u:=fun o=>by
  have ht : ((eD l).rows.take mn).getD i []=(eD l).rows.getD i []:=by
   rw [List.getD_eq_getElem?_getD (l:=(eD l).rows.take mn),List.getElem?_take,if_pos (by omega),← List.getD_eq_getElem?_getD]
  rw [← hq,ht]
  exact dh Pik.row l i o (by omega)
 have c0 : (((eD l).rows.take mn).getD i []).getD 0 .u=.i q.task:=hcell 0
 have c1 : (((eD l).rows.take mn).getD i []).getD 1 .u=.b q.step:=hcell 1
 have c2 : (((eD l).rows.take mn).getD i []).getD 2 .u=.b q.tick:=hcell 2
 have c3 : (((eD l).rows.take mn).getD i []).getD 3 .u=.i q.c.kind:=hcell 3
 have c4 : (((eD l).rows.take mn).getD i []).getD 4 .u=.i q.c.k.a:=hcell 4
 have c5 : (((eD l).rows.take mn).getD i []).getD 5 .u=.i q.c.k.b:=hcell 5
 have c6 : (((eD l).rows.take mn).getD i []).getD 6 .u=.i q.c.time:=hcell 6
 have c7 : (((eD l).rows.take mn).getD i []).getD 7 .u=.i q.c.bucket:=hcell 7
 have c8 : (((eD l).rows.take mn).getD i []).getD 8 .u=.i q.c.slot:=hcell 8
 obtain ⟨v,hv⟩ : ∃ v,doW w.G4 q=v:=⟨_,rfl⟩
 refine ag (by simp only [nrm,xdn,reduceIte,Nat.reduceLT,Nat.reduceSub,Nat.reduceAdd];omega) (ai d140 [au v.1.m.slots,af v.1.m.heads,af v.1.m.free,af v.1.m.locks,.i v.1.m.now,az v.1.ts,.i v.2] rfl trivial ?_ (G0 (fun h1=>?_) (fun _=>?_)))
 ·simp only [nrm,xdn,reduceIte,Nat.reduceLT,Nat.reduceSub,Nat.reduceAdd,nc,hmn.1,Int.toNat_natCast,c0,c1,c2,c3,c4,c5,c6,c7,c8,d140,fY,aA,List.drop_succ_cons,List.drop_zero,oe,cz]
  rw [← hv];rfl
 rotate_left
 ·refine G1 (by simp only [nrm,xdn,reduceIte,Nat.reduceLT,Nat.reduceSub,Nat.reduceAdd];omega) (ag (by simp only [nrm,xdn,reduceIte,Nat.reduceLT,Nat.reduceSub,Nat.reduceAdd];exact aI _) (aV ⟨⟨i + 1,w,?_,hL⟩,?_⟩))
  ·simp only [nrm,xdn,reduceIte,Nat.reduceLT,Nat.reduceSub,Nat.reduceAdd];rfl
  ·simp only [nrm,xdn,reduceIte,Nat.reduceLT,Nat.reduceSub,Nat.reduceAdd];omega
 simp only [nrm,xdn,reduceIte,Nat.reduceLT,Nat.reduceSub,Nat.reduceAdd] at h1
 have h1 : v.2=0:=by simpa using h1
 have hw : bL w.G4=0∧v.1=(bN w.bm q).1:=by
  rw [← hv] at h1 ⊢
  unfold doW at h1 ⊢
  split at h1
  ·rename_i h2;exact absurd h1 h2
  ·rename_i h2
   rw [if_neg h2]
   refine ⟨Classical.not_not.1 h2,?_⟩
   rw [iQ] at h1 ⊢
   split at h1
   ·rename_i h3;exact absurd h1 h3
   ·rename_i h3
    rw [if_neg h3]
 have hwb:=EB hw.1
 rw [iQ] at hwb
 have hvL : dW v.1:=by rw [hw.2];exact LB (hwb.in (by omega)) hL q
 have hvm : aZ v.1.m:=by rw [hw.2];exact (EJ hwb q).m
 have h4:=hvm.nh4
 have hnl:=hvm.nl
 refine ag (by simp only [nrm,xdn,reduceIte,Nat.reduceLT,Nat.reduceSub,Nat.reduceAdd];exact aI _) (bO (fun ds=>∃ (j : Nat) (H : List Int),ds=[af H,.i j,G2 v.1.ts]∧H.length≤j∧j≤v.1.m.locks.length∧∀ t∈H,∃ b : Nat,b < j∧lE v.1 b t) (fun ds=>v.1.m.locks.length - (ds.getD 1 .u).int.toNat) ⟨0,[],?_,by simp,by omega,fun t ht=>by cases ht⟩ ?_)
 ·simp only [nrm,xdn,reduceIte,Nat.reduceLT,Nat.reduceSub,Nat.reduceAdd,cg];rfl
 rintro ds - ⟨j,H,rfl,hH,hj,hh⟩
 refine G0 (fun hjt=>?_) (fun _=>?_)
 rotate_left
 ·refine G1 (by simp only [nrm,xdn,reduceIte,Nat.reduceLT,Nat.reduceSub,Nat.reduceAdd];omega) (fj (by decide) ⟨⟨i + 1,v.1,?_,Kj hvL⟩,?_⟩)
  ·simp only [nrm,xdn,reduceIte,Nat.reduceLT,Nat.reduceSub,Nat.reduceAdd,cg];rfl
  ·simp only [nrm,xdn,reduceIte,Nat.reduceLT,Nat.reduceSub,Nat.reduceAdd];omega
 simp only [nrm,xdn,reduceIte,Nat.reduceLT,Nat.reduceSub,Nat.reduceAdd,aw] at hjt
 obtain ⟨t,ht⟩ : ∃ t,v.1.m.locks.getD j 0=t:=⟨_,rfl⟩
 have ec : ((af v.1.m.locks).rows.getD j []).getD 0 .u=.i t:=by rw [← ht];exact iK (by omega)
 have hj2:=hvL j (by omega)
 rw [ht] at hj2
 refine ag (by simp only [nrm,xdn,reduceIte,Nat.reduceLT,Nat.reduceSub,Nat.reduceAdd];omega) (G0 (fun h2=>?_) (fun h2=>?_))
 ·refine G1 (by simp only [nrm,xdn,reduceIte,Nat.reduceLT,Nat.reduceSub,Nat.reduceAdd];omega) (aV ⟨⟨j + 1,H,?_,by omega,by omega,fun u hu=>?_⟩,?_⟩)
  ·simp only [nrm,xdn,reduceIte,Nat.reduceLT,Nat.reduceSub,Nat.reduceAdd];rfl
  ·obtain ⟨b,k1,k2⟩:=hh u hu
   exact ⟨b,by omega,k2⟩
  ·simp only [nrm,xdn,reduceIte,Nat.reduceLT,Nat.reduceSub,Nat.reduceAdd];omega
 simp only [nrm,xdn,reduceIte,Nat.reduceLT,Nat.reduceSub,Nat.reduceAdd,Int.toNat_natCast,ec] at h2
 have hl : lE v.1 j t:=hj2.resolve_left (by simpa using h2)
 obtain ⟨k1,k2,k3,k4,k5⟩:=id hl
 have hlt2 : t.toNat < v.1.ts.length:=by omega
 obtain ⟨T,hT⟩ : ∃ T,tsk v.1 t=T:=⟨_,rfl⟩
 rw [hT] at k3 k4 k5
 have hT' : v.1.ts.getD t.toNat default=T:=hT
 have e0 : ((G2 v.1.ts).rows.getD t.toNat []).getD 0 .u=.b T.busy:=by rw [iB 0 hlt2,hT'];rfl
 have e1 : ((G2 v.1.ts).rows.getD t.toNat []).getD 1 .u=.i T.f.c.kind:=by rw [iB 1 hlt2,hT'];rfl
 have e2 : ((G2 v.1.ts).rows.getD t.toNat []).getD 2 .u=.i T.f.c.k.a:=by rw [iB 2 hlt2,hT'];rfl
 have e3 : ((G2 v.1.ts).rows.getD t.toNat []).getD 3 .u=.i T.f.c.k.b:=by rw [iB 3 hlt2,hT'];rfl
 have e4 : ((G2 v.1.ts).rows.getD t.toNat []).getD 4 .u=.i T.f.c.time:=by rw [iB 4 hlt2,hT'];rfl
 have e5 : ((G2 v.1.ts).rows.getD t.toNat []).getD 5 .u=.i T.f.c.bucket:=by rw [iB 5 hlt2,hT'];rfl
 have e6 : ((G2 v.1.ts).rows.getD t.toNat []).getD 6 .u=.i T.f.c.slot:=by rw [iB 6 hlt2,hT'];rfl
 have hnot : t ∉ H:=fun hm=>by
  obtain ⟨b,b1,b2,b3,b4,b5,b6⟩:=hh t hm
  rw [hT] at b6
  omega
 have hkind : ¬ T.f.c.kind=1∧¬ T.f.c.kind=6:=by unfold bI at k4;omega
 refine G0 (fun hn=>?_) (fun _=>G0 (fun hn=>?_) (fun _=>?_))
 ·simp only [nrm,xdn,reduceIte,Nat.reduceLT,Nat.reduceSub,Nat.reduceAdd,Int.toNat_natCast,ec] at hn
  omega
 ·simp only [nrm,xdn,reduceIte,Nat.reduceLT,Nat.reduceSub,Nat.reduceAdd,Int.toNat_natCast,ec,cJ] at hn
  omega
 refine ai d98 [.b false] rfl trivial (by simp only [nrm,xdn,reduceIte,Nat.reduceLT,Nat.reduceSub,Nat.reduceAdd,Int.toNat_natCast,ec,d98,bY];rw [decide_eq_false hnot]) (G0 (fun hn=>?_) (fun _=>?_))
 ·skip
  simp only [nrm,xdn,reduceIte,Nat.reduceLT,Nat.reduceSub,Nat.reduceAdd] at hn
  simp at hn
 refine ag (by simp only [nrm,xdn,reduceIte,Nat.reduceLT,Nat.reduceSub,Nat.reduceAdd,aw];omega) (ag (by simp only [nrm,xdn,reduceIte,Nat.reduceLT,Nat.reduceSub,Nat.reduceAdd,Int.toNat_natCast,ec];omega) (ag (by simp only [nrm,xdn,reduceIte,Nat.reduceLT,Nat.reduceSub,Nat.reduceAdd,Int.toNat_natCast,ec,cJ];omega) ?_))
 refine G0 (fun hn=>?_) (fun _=>G0 (fun hn=>?_) (fun _=>G0 (fun hn=>?_) (fun _=>?_)))
 ·simp only [nrm,xdn,reduceIte,Nat.reduceLT,Nat.reduceSub,Nat.reduceAdd,Int.toNat_natCast,ec,e0,k3] at hn
  simp at hn
 ·simp only [nrm,xdn,reduceIte,Nat.reduceLT,Nat.reduceSub,Nat.reduceAdd,Int.toNat_natCast,ec,e1] at hn
  exact absurd hn hkind.1
 ·simp only [nrm,xdn,reduceIte,Nat.reduceLT,Nat.reduceSub,Nat.reduceAdd,Int.toNat_natCast,ec,e1] at hn
  exact absurd hn hkind.2
 refine ai d48 [.i (aa v.1.m T.f.c)] rfl trivial (by simp only [nrm,xdn,reduceIte,Nat.reduceLT,Nat.reduceSub,Nat.reduceAdd,Int.toNat_natCast,ec,e1,e2,e3,e4,e5,e6,Fa]) (G0 (fun hn=>?_) (fun _=>?_))
 ·simp only [nrm,xdn,reduceIte,Nat.reduceLT,Nat.reduceSub,Nat.reduceAdd,k5] at hn
  simp at hn
 refine G1 (by simp only [nrm,xdn,reduceIte,Nat.reduceLT,Nat.reduceSub,Nat.reduceAdd];omega) (aV ⟨⟨j + 1,H ++ [t],?_,by simp;omega,by omega,fun u hu=>?_⟩,?_⟩)
 ·simp only [nrm,xdn,reduceIte,Nat.reduceLT,Nat.reduceSub,Nat.reduceAdd,Int.toNat_natCast,ec,CD.row,List.headD_cons,gV];rfl
 ·rcases List.mem_append.1 hu with hu | hu
  ·obtain ⟨b,r1,r2⟩:=hh u hu
   exact ⟨b,by omega,r2⟩
  ·rw [List.mem_singleton.1 hu]
   exact ⟨j,by omega,hl⟩
 ·simp only [nrm,xdn,reduceIte,Nat.reduceLT,Nat.reduceSub,Nat.reduceAdd];omega
end Go.Proofs.Ytpmamacjepcdmaa
