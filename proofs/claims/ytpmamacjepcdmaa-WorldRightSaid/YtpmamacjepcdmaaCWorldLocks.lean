import Derived.Test.YtpmamacjepcdmaaCWorld5
import Derived.Test.YtpmamacjepcdmaaCPlayed
namespace Go.Proofs.Ytpmamacjepcdmaa
open Go Go.Sy Go.RowKit
set_option linter.unusedSimpArgs false
set_option linter.unusedVariables false
theorem zi (w : Wrd) : w.cU.bU=w.bU:=by
 simp only [Wrd.cU,Wrd.bU,List.map_map];rfl
end Go.Proofs.Ytpmamacjepcdmaa

namespace Go.Proofs.Ytpmamacjepcdmaa
open Go Go.Sy Go.RowKit
set_option linter.unusedSimpArgs false
set_option linter.unusedVariables false
def a8 (f : Frm) : Prop:=(f.c.kind=2∧f.pc≠0∧f.pc≠1)∨(f.c.kind=3∧f.pc≠0∧f.pc≠6)∨((f.c.kind=4∨f.c.kind=5)∧f.pc≠0)
def Ba (m : Mem) (f : Frm) (x : Int) (r : Frm × Mem) : Prop :=
 r.1.c=f.c∧((r.2.kM=m.kM∧(a8 f→a8 r.1∧r.1.done=false))∨(m.kM.getD (ay m f.c).toNat 0=-1∧r.2.kM=m.kM.set (ay m f.c).toNat x∧a8 r.1∧r.1.done=false)∨r.2.kM=(unlock m (ay m f.c) x).kM)
theorem eL (m : Mem) (a : Int) : (put m a).kM=m.kM:=by
 unfold put
 repeat' split
 all_goals rfl
theorem zj (m : Mem) (p a b : Int) : (cut m p a b).kM=m.kM:=by
 unfold cut
 repeat' split
 all_goals rfl
theorem zk (m : Mem) (k : Key) (t : Int) : (take m k t).1.kM=m.kM:=by
 unfold take
 repeat' split
 all_goals rfl
theorem yY (m : Mem) (b x : Int) : (lock m b x=({ m with kM:=m.kM.set b.toNat x},true)∧m.kM.getD b.toNat 0=-1)∨lock m b x=(m,false):=by
 unfold lock
 split
 ·exact .inl ⟨rfl,by assumption⟩
 ·exact .inr rfl
theorem zh {m : Mem} {f : Frm} (x : Int) (hk : f.c.kind=2) (hd : f.done=false) : Ba m f x (cx m f x):=by
 unfold cx
 by_cases h1 : f.pc=1
 ·rw [if_neg (by omega),if_pos h1]
  rcases yY m (ay m f.c) x with ⟨h,hl⟩ | h
  ·rw [h]
   exact ⟨rfl,.inr (.inl ⟨hl,rfl,.inl ⟨hk,by simp,by simp⟩,hd⟩)⟩
  ·rw [h]
   refine ⟨rfl,.inl ⟨rfl,fun y=>?_⟩⟩
   unfold a8 at y
   omega
 by_cases h7 : f.pc=7
 ·rw [if_neg (by omega),if_neg (by omega),if_neg (by omega),if_neg (by omega),if_neg (by omega),if_neg (by omega),if_neg (by omega),if_pos h7]
  exact ⟨rfl,.inr (.inr rfl)⟩
 have hold : ∀ g : Frm,g.c=f.c→g.pc≠0→g.pc≠1→g.done=f.done→(f.pc≠0→a8 g∧g.done=false):=fun g c1 c2 c3 c4 _=>⟨.inl ⟨by rw [c1];exact hk,c2,c3⟩,by rw [c4];exact hd⟩
 have nz : a8 f→f.pc≠0:=fun y=>by unfold a8 at y;omega
 rw [if_neg h1]
 repeat' split
 all_goals first
  | exact absurd (by assumption) h7
  | exact ⟨rfl,.inl ⟨by first | rfl | exact zk _ _ _ | exact eL _ _,fun y=>by first | (exfalso;exact nz y (by assumption)) | (refine hold _ rfl ?_ ?_ rfl (nz y) <;> simp <;> (try split) <;> (try split) <;> decide)⟩⟩
theorem zg {m : Mem} {f : Frm} (x : Int) (hk : f.c.kind=3) (hd : f.done=false) : Ba m f x (bS m f x):=by
 unfold bS
 by_cases h1 : f.pc=0
 ·rw [if_pos h1]
  rcases yY m (ay m f.c) x with ⟨h,hl⟩ | h
  ·rw [h]
   exact ⟨rfl,.inr (.inl ⟨hl,rfl,.inr (.inl ⟨hk,by simp,by simp⟩),hd⟩)⟩
  ·rw [h]
   refine ⟨rfl,.inl ⟨rfl,fun y=>?_⟩⟩
   unfold a8 at y
   omega
 rw [if_neg h1]
 by_cases h7 : f.pc=5
 ·rw [if_neg (by omega),if_neg (by omega),if_neg (by omega),if_neg (by omega),if_pos h7]
  exact ⟨rfl,.inr (.inr rfl)⟩
 have hold : ∀ g : Frm,g.c=f.c→g.pc≠0→g.pc≠6→g.done=f.done→(a8 f→a8 g∧g.done=false):=fun g c1 c2 c3 c4 _=>⟨.inr (.inl ⟨by rw [c1];exact hk,c2,c3⟩),by rw [c4];exact hd⟩
 have nz : a8 f→f.pc≠6:=fun y=>by unfold a8 at y;omega
 repeat' split
 all_goals first
  | exact absurd (by assumption) h7
  | exact ⟨rfl,.inl ⟨by first | rfl | exact eL _ _ | exact zj _ _ _ _,fun y=>by first | (exfalso;exact nz y (by assumption)) | (refine hold _ rfl ?_ ?_ rfl y <;> simp <;> (try split) <;> (try split) <;> decide)⟩⟩
theorem zb {m : Mem} {f : Frm} (x : Int) (hk : f.c.kind=4∨f.c.kind=5) (hd : f.done=false) : Ba m f x (bB m f x):=by
 unfold bB
 by_cases h1 : f.pc=0
 ·rw [if_pos h1]
  rcases yY m (ay m f.c) x with ⟨h,hl⟩ | h
  ·rw [h]
   exact ⟨rfl,.inr (.inl ⟨hl,rfl,.inr (.inr ⟨hk,by simp⟩),hd⟩)⟩
  ·rw [h]
   refine ⟨rfl,.inl ⟨rfl,fun y=>?_⟩⟩
   unfold a8 at y
   omega
 rw [if_neg h1]
 by_cases h7 : f.pc=6
 ·rw [if_neg (by omega),if_neg (by omega),if_neg (by omega),if_neg (by omega),if_neg (by omega),if_neg (by omega),if_neg (by omega),if_pos h7]
  exact ⟨rfl,.inr (.inr rfl)⟩
 have hold : ∀ g : Frm,g.c=f.c→g.pc≠0→g.done=f.done→(a8 f→a8 g∧g.done=false):=fun g c1 c2 c4 _=>⟨.inr (.inr ⟨by rw [c1];exact hk,c2⟩),by rw [c4];exact hd⟩
 repeat' split
 all_goals first
  | exact absurd (by assumption) h7
  | exact ⟨rfl,.inl ⟨by first | rfl | exact eL _ _ | exact zj _ _ _ _,fun y=>by refine hold _ rfl ?_ rfl y <;> simp <;> (try split) <;> (try split) <;> decide⟩⟩
def b7 (w : Wrd) (b : Nat) (t : Int) : Prop:=0≤t∧t < w.ts.length∧(tsk w t).busy=true∧a8 (tsk w t).f∧ay w.m (tsk w t).f.c=b
def a9 (w : Wrd) : Prop:=∀ b : Nat,b < w.m.kM.length→w.m.kM.getD b 0=-1∨b7 w b (w.m.kM.getD b 0)
theorem zm {w : Wrd} {y : Mem} {x t : Int} {F : Tsk→Tsk} (hx0 : 0≤x) (hx : x < w.ts.length) (ht : 0≤t) : tsk ⟨y,w.ts.modify x.toNat F⟩ t=if t=x then F (tsk w x) else tsk w t:=by
 unfold tsk
 simp only [List.getD_eq_getElem?_getD,List.getElem?_modify]
 by_cases h : t=x
 ·subst h
  rw [if_pos rfl]
  have : t.toNat < w.ts.length:=by omega
  simp [this]
 ·rw [if_neg h]
  have : ¬ x.toNat=t.toNat:=by omega
  simp [this]
theorem y0 {m y : Mem} (c : Cal) (h : y.heads.length=m.heads.length) : ay y c=ay m c:=by
 unfold ay;rw [h]
theorem b9 {w : Wrd} {y : Mem} {x t : Int} {b : Nat} {F : Tsk→Tsk} (hx0 : 0≤x) (hx : x < w.ts.length) (hy : y.heads.length=w.m.heads.length) (h : b7 w b t) (hne : t≠x) : b7 ⟨y,w.ts.modify x.toNat F⟩ b t:=by
 obtain ⟨h1,h2,h3,h4,h5⟩:=h
 have e : tsk ⟨y,w.ts.modify x.toNat F⟩ t=tsk w t:=by rw [zm hx0 hx h1,if_neg hne]
 exact ⟨h1,by simpa using h2,by rw [e];exact h3,by rw [e];exact h4,by rw [e,← h5];exact y0 _ hy⟩
theorem b8 {w : Wrd} {y : Mem} {x : Int} {F : Tsk→Tsk} (h : a9 w) (hx0 : 0≤x) (hx : x < w.ts.length) (hy : y.heads.length=w.m.heads.length) (hl : y.kM=w.m.kM) (hno : ¬ ((tsk w x).busy=true∧a8 (tsk w x).f)) : a9 ⟨y,w.ts.modify x.toNat F⟩:=by
 intro b hb
 have hb : b < y.kM.length:=hb
 show y.kM.getD b 0=-1∨b7 _ b (y.kM.getD b 0)
 rw [hl] at hb ⊢
 rcases h b hb with h | h
 ·exact .inl h
 ·refine .inr (b9 hx0 hx hy h fun e=>hno ?_)
  rw [e] at h
  exact ⟨h.2.2.1,h.2.2.2.1⟩
theorem xt {w : Wrd} {r : Frm × Mem} {x : Int} {F : Tsk→Tsk} (h : a9 w) (hx0 : 0≤x) (hx : x < w.ts.length) (hbu : (tsk w x).busy=true) (hs : Ba w.m (tsk w x).f x r) (hy : r.2.heads.length=w.m.heads.length)
  (hr : 0≤ay w.m (tsk w x).f.c∧ay w.m (tsk w x).f.c < w.m.heads.length) (hF : ∀ t,(F t).f=r.1∧(F t).busy=!r.1.done) : a9 ⟨r.2,w.ts.modify x.toNat F⟩:=by
 obtain ⟨g,y⟩:=r
 obtain ⟨hc,hs⟩:=hs
 have hc : g.c=(tsk w x).f.c:=hc
 have hy : y.heads.length=w.m.heads.length:=hy
 have ex : tsk ⟨y,w.ts.modify x.toNat F⟩ x=F (tsk w x):=by rw [zm hx0 hx hx0,if_pos rfl]
 obtain ⟨q,hq⟩ : ∃ q : Nat,ay w.m (tsk w x).f.c=q:=⟨(ay w.m (tsk w x).f.c).toNat,by omega⟩
 have me : ∀ b : Nat,a8 g→g.done=false→(b : Int)=ay w.m (tsk w x).f.c→b7 ⟨y,w.ts.modify x.toNat F⟩ b x:=fun b k1 k2 k3 =>
  ⟨hx0,by simpa using hx,by rw [ex,(hF _).2,show (g,y).1.done=false from k2];rfl,by rw [ex,(hF _).1];exact k1,by rw [ex,(hF _).1];show ay y g.c=b;rw [y0 _ hy,hc,k3]⟩
 have only : ∀ b : Nat,b < w.m.kM.length→w.m.kM.getD b 0=x→(b : Int)=ay w.m (tsk w x).f.c∧a8 (tsk w x).f:=fun b hb he=>by
  rcases h b hb with h | h
  ·omega
  ·rw [he] at h
   exact ⟨h.2.2.2.2.symm,h.2.2.2.1⟩
 intro b hb
 have hb : b < y.kM.length:=hb
 show y.kM.getD b 0=-1∨b7 _ b (y.kM.getD b 0)
 rcases hs with ⟨hl,hk⟩ | ⟨hl,hs,k1,k2⟩ | hs
 ·have hl : y.kM=w.m.kM:=hl
  rw [hl] at hb ⊢
  by_cases he : w.m.kM.getD b 0=x
  ·obtain ⟨o1,o2⟩:=only b hb he
   obtain ⟨k1,k2⟩:=hk o2
   rw [he]
   exact .inr (me b k1 k2 o1)
  ·rcases h b hb with h | h
   ·exact .inl h
   ·exact .inr (b9 hx0 hx hy h he)
 ·have hs : y.kM=w.m.kM.set (ay w.m (tsk w x).f.c).toNat x:=hs
  rw [hq,Int.toNat_natCast] at hs
  rw [hs] at hb ⊢
  rw [List.length_set] at hb
  by_cases hbq : b=q
  ·subst hbq
   rw [show (w.m.kM.set b x).getD b 0=x from by simp [List.getD_eq_getElem?_getD,hb]]
   exact .inr (me b k1 k2 hq.symm)
  ·rw [show (w.m.kM.set q x).getD b 0=w.m.kM.getD b 0 from by simp only [List.getD_eq_getElem?_getD];rw [List.getElem?_set_ne (by omega)]]
   rcases h b hb with h | h
   ·exact .inl h
   ·refine .inr (b9 hx0 hx hy h fun he=>?_)
    have:=(only b hb he).1
    omega
 ·have hs : y.kM=(unlock w.m (ay w.m (tsk w x).f.c) x).kM:=hs
  rw [hq] at hs
  unfold unlock at hs
  rw [Int.toNat_natCast] at hs
  split at hs
  ·have hs : y.kM=w.m.kM.set q (-1):=hs
   rw [hs] at hb ⊢
   rw [List.length_set] at hb
   by_cases hbq : b=q
   ·subst hbq
    exact .inl (by simp [List.getD_eq_getElem?_getD,hb])
   ·rw [show (w.m.kM.set q (-1)).getD b 0=w.m.kM.getD b 0 from by simp only [List.getD_eq_getElem?_getD];rw [List.getElem?_set_ne (by omega)]]
    rcases h b hb with h | h
    ·exact .inl h
    ·refine .inr (b9 hx0 hx hy h fun he=>?_)
     have:=(only b hb he).1
     omega
  ·rename_i hnq
   rw [hs] at hb ⊢
   rcases h b hb with h | h
   ·exact .inl h
   ·refine .inr (b9 hx0 hx hy h fun he=>hnq ?_)
    have:=(only b hb he).1
    have : b=q:=by omega
    rw [← this];exact he
theorem ze {f : Frm} (h : f.c.kind=1∨f.c.kind=6) : ¬ a8 f:=fun y=>by unfold a8 at y;omega
theorem zl {w : Wrd} (hw : WIn w) (h : a9 w) (x : Pik) : a9 (cJ w x).1:=by
 unfold cJ
 split
 ·split
  ·exact h
  ·exact h
 split
 ·exact h
 rename_i hr
 have hx0 : 0≤x.task:=by omega
 have hx : x.task < w.ts.length:=by omega
 split
 ·unfold jo
  split
  ·exact h
  rename_i hb
  have hb : (tsk w x.task).busy=true:=by simpa using hb
  obtain ⟨k1,k2,k3⟩:=hw.t _ (show tsk w x.task∈w.ts from dn (by omega))
  have hf:=k3 hb
  have hm:=hw.m
  have hd : (tsk w x.task).f.done=false:=hf.nd
  split
  ·rename_i hk
   have ht:=oZ (m:=w.m) (f:=(tsk w x.task).f)
   split
   ·exact b8 h hx0 hx ht.1.hl ht.2.2.2 (fun y=>ze (.inl hk) y.2)
   ·exact b8 h hx0 hx ht.1.hl ht.2.2.2 (fun y=>ze (.inl hk) y.2)
  split
  ·rename_i _ hk
   exact xt h hx0 hx hb (zh x.task hk hd) (pW x.task hm hf hk).hl (bl hm hf.call (by omega)) fun t=>⟨rfl,rfl⟩
  split
  ·rename_i _ _ hk
   exact xt h hx0 hx hb (zg x.task hk hd) (py x.task hm hf hk).hl (bl hm hf.call (by omega)) fun t=>⟨rfl,rfl⟩
  split
  ·rename_i _ _ _ hk
   exact xt h hx0 hx hb (zb x.task hk hd) (nJ x.task hm hf hk).hl (bl hm hf.call (by omega)) fun t=>⟨rfl,rfl⟩
  have h6 : (tsk w x.task).f.c.kind=6:=by
   have:=hf.call
   unfold bg at this
   rw [if_neg (by omega),if_neg (by omega),if_neg (by omega)] at this
   split at this
   ·assumption
   ·cases this
  split
  ·exact b8 h hx0 hx (by rw [(qO w.m (tsk w x.task).f.c.slot).2.1]) (eL _ _) (fun y=>ze (.inr h6) y.2)
  ·exact b8 h hx0 hx rfl rfl (fun y=>ze (.inr h6) y.2)
 ·unfold gy
  split
  ·exact h
  rename_i hb
  repeat' split
  all_goals first
   | exact h
   | exact b8 h hx0 hx rfl rfl (fun y=>hb y.1)
theorem zo {w : Wrd} {t : Int} (h0 : 0≤t) (h : t < w.ts.length) : tsk w.bU t=(tsk w t).bU:=by
 unfold tsk Wrd.bU
 have : t.toNat < w.ts.length:=by omega
 simp only [List.getD_eq_getElem?_getD,List.getElem?_map]
 rw [List.getElem?_eq_getElem this];rfl
theorem zp {w : Wrd} {b : Nat} {t : Int} (h : b7 w b t) : b7 w.bU b t:=by
 obtain ⟨h1,h2,h3,h4,h5⟩:=h
 have e:=zo h1 h2
 exact ⟨h1,by rw [lX];exact h2,by rw [e];exact h3,by rw [e];exact h4,by rw [e];exact h5⟩
theorem zf {w : Wrd} (h : a9 w) : a9 w.bU:=fun b hb=>(h b hb).imp id zp
theorem zn {a b n : Int} (h : (sd a b n).2=0) : a9 (sd a b n).1:=by
 unfold sd at h ⊢
 split at h
 ·rename_i h1;exact absurd h h1
 ·rename_i h1
  rw [if_neg h1]
  split at h
  ·cases h
  ·rename_i h2
   rw [if_neg h2]
   have h1 : (bZ a b).2=0:=Classical.not_not.1 h1
   unfold bZ at h1 ⊢
   split at h1
   ·cases h1
   ·rename_i h3
    rw [if_neg h3]
    intro i hi
    have hi : i < b.toNat:=by simpa using hi
    left
    simp [List.getD_eq_getElem?_getD,hi]
def s30 : Sig:=⟨[.one (.int .i64),.one (.int .i64),.one (.int .i64),.one (.fz kQ)],[.one (.bool)]⟩
def d30 : DC:=⟨s30,fun _=>True,fun _=>[.b true]⟩
def l30 : List (Nat × Ct):=[(79,d79.ct),(78,d78.ct),(140,d140.ct),(98,d98.ct),(48,d48.ct)]
noncomputable def z30 : Cx:={ T:=ttA,C:=sigs l30,F:=[(132,Try.f132),(136,Try.f136),(98,Try.f98)],hints:=[⟨132,5,false,[(32,.lt)],[(0,0,.fz kS),(0,1,.fz kI),(0,2,.fz kI),(0,3,.fz kI),(0,4,.lt),(0,5,.fz kT)],[],[],0⟩,⟨136,3,false,[(13,.lt),(5,.own 3 kI)],[(4,5,.fz kT)],[],[],0⟩],sig:=s30}
def t30 : Tree :=
 (.call 79 [] 4
 (.ite (.var 4)
 (.call 78 [.var 0,.var 1,.var 2] 5
 (.ite (.not (.eq (.var 11) (.int 0)))
 (.ret [.bool true])
 (.need (.le (.int 0) (.min (.len (.var 3)) (.int 300)))
 (.need (.le (.min (.len (.var 3)) (.int 300)) (.len (.var 3)))
 (.need (.clean (.var 10) 15)
 (.loop 12 [.int .i64,.sl 48 [.int .i64,.int .i64,.int .i64,.int .i64,.bool,.int .i64],.sl 8 [.int .i64],.sl 8 [.int .i64],.sl 8 [.int .i64],.int .i64,.sl 160 [.bool,.int .i64,.int .i64,.int .i64,.int .i64,.int .i64,.int .i64,.int .i64,.int .i64,.int .i64,.int .i64,.int .i64,.sl 16 [.int .i64,.int .i64],.bool,.int .i64,.sl 8 [.int .i64]]] [.int 0,.var 5,.var 6,.var 7,.var 8,.var 9,.shuts (.var 10) 15]
 (.ite (.lt (.var 13) (.len (.take (.min (.len (.var 3)) (.int 300)) (.var 3))))
 (.need (.le (.int 0) (.var 13))
 (.call 140 [.var 14,.var 15,.var 16,.var 17,.var 18,.var 19,.cell (.take (.min (.len (.var 3)) (.int 300)) (.var 3)) (.var 13) 0,.cell (.take (.min (.len (.var 3)) (.int 300)) (.var 3)) (.var 13) 1,.cell (.take (.min (.len (.var 3)) (.int 300)) (.var 3)) (.var 13) 2,.cell (.take (.min (.len (.var 3)) (.int 300)) (.var 3)) (.var 13) 3,.cell (.take (.min (.len (.var 3)) (.int 300)) (.var 3)) (.var 13) 4,.cell (.take (.min (.len (.var 3)) (.int 300)) (.var 3)) (.var 13) 5,.cell (.take (.min (.len (.var 3)) (.int 300)) (.var 3)) (.var 13) 6,.cell (.take (.min (.len (.var 3)) (.int 300)) (.var 3)) (.var 13) 7,.cell (.take (.min (.len (.var 3)) (.int 300)) (.var 3)) (.var 13) 8] 20
 (.ite (.eq (.var 26) (.int 0))
 (.need (.clean (.var 25) 15)
 (.loop 27 [.sl 8 [.int .i64],.int .i64,.sl 160 [.bool,.int .i64,.int .i64,.int .i64,.int .i64,.int .i64,.int .i64,.int .i64,.int .i64,.int .i64,.int .i64,.int .i64,.sl 16 [.int .i64,.int .i64],.bool,.int .i64,.sl 8 [.int .i64]]] [.nil,.int 0,.shuts (.var 25) 15]
 (.ite (.lt (.var 29) (.len (.var 23)))
 (.need (.le (.int 0) (.var 29))
 (.ite (.eq (.cell (.var 23) (.var 29) 0) (.int (-1)))
 (.need (.fit (.add (.var 29) (.int 1)))
 (.back 27 [.var 28,.add (.var 29) (.int 1),.var 30]))
 (.ite (.lt (.cell (.var 23) (.var 29) 0) (.int 0))
 (.ret [.bool false])
 (.ite (.le (.len (.var 30)) (.cell (.var 23) (.var 29) 0))
 (.ret [.bool false])
 (.call 98 [.var 28,.cell (.var 23) (.var 29) 0] 31
 (.ite (.var 31)
 (.ret [.bool false])
 (.need (.le (.add (.len (.var 28)) (.int 1)) (.int 17592186044416))
 (.need (.le (.int 0) (.cell (.var 23) (.var 29) 0))
 (.need (.lt (.cell (.var 23) (.var 29) 0) (.len (.var 30)))
 (.ite (.not (.cell (.var 30) (.cell (.var 23) (.var 29) 0) 0))
 (.ret [.bool false])
 (.ite (.eq (.cell (.var 30) (.cell (.var 23) (.var 29) 0) 1) (.int 1))
 (.ret [.bool false])
 (.ite (.eq (.cell (.var 30) (.cell (.var 23) (.var 29) 0) 1) (.int 6))
 (.ret [.bool false])
 (.call 48 [.var 20,.var 21,.var 22,.var 23,.var 24,.cell (.var 30) (.cell (.var 23) (.var 29) 0) 1,.cell (.var 30) (.cell (.var 23) (.var 29) 0) 2,.cell (.var 30) (.cell (.var 23) (.var 29) 0) 3,.cell (.var 30) (.cell (.var 23) (.var 29) 0) 4,.cell (.var 30) (.cell (.var 23) (.var 29) 0) 5,.cell (.var 30) (.cell (.var 23) (.var 29) 0) 6] 32
 (.ite (.not (.eq (.var 32) (.var 29)))
 (.ret [.bool false])
 (.need (.fit (.add (.var 29) (.int 1)))
 (.back 27 [.app (.var 28) (.cons (.cell (.var 23) (.var 29) 0) .row0),.add (.var 29) (.int 1),.var 30]))))))))))))))))
 (.need (.fit (.add (.var 13) (.int 1)))
 (.back 12 [.add (.var 13) (.int 1),.var 20,.var 21,.var 22,.var 23,.var 24,.shuts (.var 25) 15])))))
 (.need (.fit (.add (.var 13) (.int 1)))
 (.need (.clean (.var 25) 15)
 (.back 12 [.add (.var 13) (.int 1),.var 14,.var 15,.var 16,.var 17,.var 18,.var 19]))))))
 (.ret [.bool true]))))))))
 (.ret [.bool false])))
theorem run30 : run z30 6000 [.code (Try.f30.body.getD .skip),.fin (aP z30 Try.f30.results.toList 50)] { fn:=30,tmps:=z30.sig.aE ++ List.replicate (Try.f30.ntmps - z30.sig.aE.length) (.v (.one .undef)),stk:=[],h:=z30.sig.h0,nx:=z30.sig.ins.length,known:=[]}=t30:=by kernel_rfl
theorem ok30 : bJ Try.prog 30 d30.ct:=by
 refine ax (d:=d30) (Z:=z30) (Γ:=gam l30) (fn:=Try.f30) (c:=Try.f30.body.getD .skip) (aJ tok mixed (all_cons ok79 (all_cons ok78 (all_cons ok140 (all_cons ok98 (all_cons ok48 all_nil))))) (cv (c:=Try.f132.body.getD .skip) Try.func132 (by kernel_rfl) (by kernel_rfl) (cv (c:=Try.f136.body.getD .skip) Try.func136 (by kernel_rfl) (by kernel_rfl) (cv (c:=Try.f98.body.getD .skip) Try.func98 (by kernel_rfl) (by kernel_rfl) aK)))) Try.func30 (by kernel_rfl) (by kernel_rfl) rfl run30 fun E hk hp=>?_
 obtain ⟨hk0,hk1,hk2,hk3,_⟩:=hk
 obtain ⟨x,e0⟩:=ok_int (d:=E 0) hk0
 obtain ⟨x2,e1⟩:=ok_int (d:=E 1) hk1
 obtain ⟨x3,e2⟩:=ok_int (d:=E 2) hk2
 obtain ⟨l,e3,b3⟩:=w8 (d:=E 3) hk3
 have b3 : l.length * 64≤140737488355328:=b3
 have el : aG E d30.sig.ins.length=[.i x,.i x2,.i x3,dM l]:=by
  show [E 0,E 1,E 2,E 3]=_
  rw [e0,e1,e2,e3]
 rw [el] at hp
 rw [el]
 rw [Env.aU el]
 clear el e0 e1 e2 e3
 unfold t30
 refine ah d79 [.b true] rfl trivial rfl (ae (fun _=>?_) (fun hn=>?_))
 rotate_left
 ·skip
  simp only [nrm,xdn,reduceIte,Nat.reduceLT,Nat.reduceSub,Nat.reduceAdd] at hn
  simp at hn
 obtain ⟨N,hN⟩ : ∃ N,sd x x2 x3=N:=⟨_,rfl⟩
 refine ah d78 [ai N.1.m.slots,aa N.1.m.heads,aa N.1.m.free,aa N.1.m.kM,.i N.1.m.now,ar N.1.ts,.i N.2] rfl trivial (by simp only [nrm,xdn,reduceIte,Nat.reduceLT,Nat.reduceSub,Nat.reduceAdd,d78,hN];rfl) (ae (fun _=>ag (by simp only [nrm,xdn,reduceIte,Nat.reduceLT,Nat.reduceSub,Nat.reduceAdd];rfl)) (fun h0=>?_))
 simp only [nrm,xdn,reduceIte,Nat.reduceLT,Nat.reduceSub,Nat.reduceAdd] at h0
 have h0 : N.2=0:=by simpa using h0
 have hL0 : a9 N.1:=by rw [← hN] at h0 ⊢;exact zn h0
 refine af (by simp only [nrm,xdn,reduceIte,Nat.reduceLT,Nat.reduceSub,Nat.reduceAdd,kb];omega) (af (by simp only [nrm,xdn,reduceIte,Nat.reduceLT,Nat.reduceSub,Nat.reduceAdd,kb];omega) (af (by simp only [nrm,xdn,reduceIte,Nat.reduceLT,Nat.reduceSub,Nat.reduceAdd];exact az _) ?_))
 refine bD (fun ds=>∃ (i : Nat) (w : Wrd),ds=[.i i,ai w.m.slots,aa w.m.heads,aa w.m.free,aa w.m.kM,.i w.m.now,aA w.ts]∧a9 w.bU) (fun ds=>(min l.length 300) - (ds.getD 0 .u).int.toNat) ⟨0,N.1,?_,zf hL0⟩ ?_
 ·simp only [nrm,xdn,reduceIte,Nat.reduceLT,Nat.reduceSub,Nat.reduceAdd,aD];rfl
 rintro ds - ⟨i,w,rfl,hL⟩
 obtain ⟨mn,hmn⟩ : ∃ mn : Nat,(if (300 : Int) < (l.length : Int) then (300 : Int) else (l.length : Int))=mn∧mn=min l.length 300:=⟨min l.length 300,by split <;> omega,rfl⟩
 refine ae (fun hlt=>?_) (fun _=>ag (by simp only [nrm,xdn,reduceIte,Nat.reduceLT,Nat.reduceSub,Nat.reduceAdd];rfl))
 simp only [nrm,xdn,reduceIte,Nat.reduceLT,Nat.reduceSub,Nat.reduceAdd,kb,hmn.1,Int.toNat_natCast,List.length_take] at hlt
 obtain ⟨q,hq⟩ : ∃ q,l.getD i default=q:=⟨_,rfl⟩
 have hcell : ∀ o,(((dM l).rows.take mn).getD i []).getD o .u=q.row.getD o .u:=fun o=>by
  have ht : ((dM l).rows.take mn).getD i []=(dM l).rows.getD i []:=by
   rw [List.getD_eq_getElem?_getD (l:=(dM l).rows.take mn),List.getElem?_take,if_pos (by omega),← List.getD_eq_getElem?_getD]
  rw [← hq,ht]
  exact fy Pik.row l i o (by omega)
 have c0 : (((dM l).rows.take mn).getD i []).getD 0 .u=.i q.task:=hcell 0
 have c1 : (((dM l).rows.take mn).getD i []).getD 1 .u=.b q.step:=hcell 1
 have c2 : (((dM l).rows.take mn).getD i []).getD 2 .u=.b q.tick:=hcell 2
 have c3 : (((dM l).rows.take mn).getD i []).getD 3 .u=.i q.c.kind:=hcell 3
 have c4 : (((dM l).rows.take mn).getD i []).getD 4 .u=.i q.c.k.a:=hcell 4
 have c5 : (((dM l).rows.take mn).getD i []).getD 5 .u=.i q.c.k.b:=hcell 5
 have c6 : (((dM l).rows.take mn).getD i []).getD 6 .u=.i q.c.time:=hcell 6
 have c7 : (((dM l).rows.take mn).getD i []).getD 7 .u=.i q.c.bucket:=hcell 7
 have c8 : (((dM l).rows.take mn).getD i []).getD 8 .u=.i q.c.slot:=hcell 8
 obtain ⟨v,hv⟩ : ∃ v,doW w.cU q=v:=⟨_,rfl⟩
 refine af (by simp only [nrm,xdn,reduceIte,Nat.reduceLT,Nat.reduceSub,Nat.reduceAdd];omega) (ah d140 [ai v.1.m.slots,aa v.1.m.heads,aa v.1.m.free,aa v.1.m.kM,.i v.1.m.now,ar v.1.ts,.i v.2] rfl trivial ?_ (ae (fun h1=>?_) (fun _=>?_)))
 ·simp only [nrm,xdn,reduceIte,Nat.reduceLT,Nat.reduceSub,Nat.reduceAdd,kb,hmn.1,Int.toNat_natCast,c0,c1,c2,c3,c4,c5,c6,c7,c8,d140,oe,aq,List.drop_succ_cons,List.drop_zero,eW,bF]
  rw [← hv];rfl
 rotate_left
 ·refine aH (by simp only [nrm,xdn,reduceIte,Nat.reduceLT,Nat.reduceSub,Nat.reduceAdd];omega) (af (by simp only [nrm,xdn,reduceIte,Nat.reduceLT,Nat.reduceSub,Nat.reduceAdd];exact az _) (bx ⟨⟨i + 1,w,?_,hL⟩,?_⟩))
  ·simp only [nrm,xdn,reduceIte,Nat.reduceLT,Nat.reduceSub,Nat.reduceAdd];rfl
  ·simp only [nrm,xdn,reduceIte,Nat.reduceLT,Nat.reduceSub,Nat.reduceAdd];omega
 simp only [nrm,xdn,reduceIte,Nat.reduceLT,Nat.reduceSub,Nat.reduceAdd] at h1
 have h1 : v.2=0:=by simpa using h1
 have hw : bE w.cU=0∧v.1=(cJ w.bU q).1:=by
  rw [← hv] at h1 ⊢
  unfold doW at h1 ⊢
  split at h1
  ·rename_i h2;exact absurd h1 h2
  ·rename_i h2
   rw [if_neg h2]
   refine ⟨Classical.not_not.1 h2,?_⟩
   rw [zi] at h1 ⊢
   split at h1
   ·rename_i h3;exact absurd h1 h3
   ·rename_i h3
    rw [if_neg h3]
 have hwb:=yw hw.1
 rw [zi] at hwb
 have hvL : a9 v.1:=by rw [hw.2];exact zl (hwb.in (by omega)) hL q
 have hvm : aO v.1.m:=by rw [hw.2];exact (yB hwb q).m
 have h4:=hvm.nh4
 have hnl:=hvm.nl
 refine af (by simp only [nrm,xdn,reduceIte,Nat.reduceLT,Nat.reduceSub,Nat.reduceAdd];exact az _) (bD (fun ds=>∃ (j : Nat) (H : List Int),ds=[aa H,.i j,aA v.1.ts]∧H.length≤j∧j≤v.1.m.kM.length∧∀ t∈H,∃ b : Nat,b < j∧b7 v.1 b t) (fun ds=>v.1.m.kM.length - (ds.getD 1 .u).int.toNat) ⟨0,[],?_,by simp,by omega,fun t ht=>by cases ht⟩ ?_)
 ·simp only [nrm,xdn,reduceIte,Nat.reduceLT,Nat.reduceSub,Nat.reduceAdd,aD];rfl
 rintro ds - ⟨j,H,rfl,hH,hj,hh⟩
 refine ae (fun hjt=>?_) (fun _=>?_)
 rotate_left
 ·refine aH (by simp only [nrm,xdn,reduceIte,Nat.reduceLT,Nat.reduceSub,Nat.reduceAdd];omega) (gf (by decide) ⟨⟨i + 1,v.1,?_,zf hvL⟩,?_⟩)
  ·simp only [nrm,xdn,reduceIte,Nat.reduceLT,Nat.reduceSub,Nat.reduceAdd,aD];rfl
  ·simp only [nrm,xdn,reduceIte,Nat.reduceLT,Nat.reduceSub,Nat.reduceAdd];omega
 simp only [nrm,xdn,reduceIte,Nat.reduceLT,Nat.reduceSub,Nat.reduceAdd,aj] at hjt
 obtain ⟨t,ht⟩ : ∃ t,v.1.m.kM.getD j 0=t:=⟨_,rfl⟩
 have ec : ((aa v.1.m.kM).rows.getD j []).getD 0 .u=.i t:=by rw [← ht];exact cL (by omega)
 have hj2:=hvL j (by omega)
 rw [ht] at hj2
 refine af (by simp only [nrm,xdn,reduceIte,Nat.reduceLT,Nat.reduceSub,Nat.reduceAdd];omega) (ae (fun h2=>?_) (fun h2=>?_))
 ·refine aH (by simp only [nrm,xdn,reduceIte,Nat.reduceLT,Nat.reduceSub,Nat.reduceAdd];omega) (bx ⟨⟨j + 1,H,?_,by omega,by omega,fun u hu=>?_⟩,?_⟩)
  ·simp only [nrm,xdn,reduceIte,Nat.reduceLT,Nat.reduceSub,Nat.reduceAdd];rfl
  ·obtain ⟨b,k1,k2⟩:=hh u hu
   exact ⟨b,by omega,k2⟩
  ·simp only [nrm,xdn,reduceIte,Nat.reduceLT,Nat.reduceSub,Nat.reduceAdd];omega
 simp only [nrm,xdn,reduceIte,Nat.reduceLT,Nat.reduceSub,Nat.reduceAdd,Int.toNat_natCast,ec] at h2
 have hl : b7 v.1 j t:=hj2.resolve_left (by simpa using h2)
 obtain ⟨k1,k2,k3,k4,k5⟩:=id hl
 have hlt2 : t.toNat < v.1.ts.length:=by omega
 obtain ⟨T,hT⟩ : ∃ T,tsk v.1 t=T:=⟨_,rfl⟩
 rw [hT] at k3 k4 k5
 have hT' : v.1.ts.getD t.toNat default=T:=hT
 have e0 : ((aA v.1.ts).rows.getD t.toNat []).getD 0 .u=.b T.busy:=by rw [aZ 0 hlt2,hT'];rfl
 have e1 : ((aA v.1.ts).rows.getD t.toNat []).getD 1 .u=.i T.f.c.kind:=by rw [aZ 1 hlt2,hT'];rfl
 have e2 : ((aA v.1.ts).rows.getD t.toNat []).getD 2 .u=.i T.f.c.k.a:=by rw [aZ 2 hlt2,hT'];rfl
 have e3 : ((aA v.1.ts).rows.getD t.toNat []).getD 3 .u=.i T.f.c.k.b:=by rw [aZ 3 hlt2,hT'];rfl
 have e4 : ((aA v.1.ts).rows.getD t.toNat []).getD 4 .u=.i T.f.c.time:=by rw [aZ 4 hlt2,hT'];rfl
 have e5 : ((aA v.1.ts).rows.getD t.toNat []).getD 5 .u=.i T.f.c.bucket:=by rw [aZ 5 hlt2,hT'];rfl
 have e6 : ((aA v.1.ts).rows.getD t.toNat []).getD 6 .u=.i T.f.c.slot:=by rw [aZ 6 hlt2,hT'];rfl
 have hnot : t ∉ H:=fun hm=>by
  obtain ⟨b,b1,b2,b3,b4,b5,b6⟩:=hh t hm
  rw [hT] at b6
  omega
 have hkind : ¬ T.f.c.kind=1∧¬ T.f.c.kind=6:=by unfold a8 at k4;omega
 refine ae (fun hn=>?_) (fun _=>ae (fun hn=>?_) (fun _=>?_))
 ·simp only [nrm,xdn,reduceIte,Nat.reduceLT,Nat.reduceSub,Nat.reduceAdd,Int.toNat_natCast,ec] at hn
  omega
 ·simp only [nrm,xdn,reduceIte,Nat.reduceLT,Nat.reduceSub,Nat.reduceAdd,Int.toNat_natCast,ec,bO] at hn
  omega
 refine ah d98 [.b false] rfl trivial (by simp only [nrm,xdn,reduceIte,Nat.reduceLT,Nat.reduceSub,Nat.reduceAdd,Int.toNat_natCast,ec,d98,bz];rw [decide_eq_false hnot]) (ae (fun hn=>?_) (fun _=>?_))
 ·skip
  simp only [nrm,xdn,reduceIte,Nat.reduceLT,Nat.reduceSub,Nat.reduceAdd] at hn
  simp at hn
 refine af (by simp only [nrm,xdn,reduceIte,Nat.reduceLT,Nat.reduceSub,Nat.reduceAdd,aj];omega) (af (by simp only [nrm,xdn,reduceIte,Nat.reduceLT,Nat.reduceSub,Nat.reduceAdd,Int.toNat_natCast,ec];omega) (af (by simp only [nrm,xdn,reduceIte,Nat.reduceLT,Nat.reduceSub,Nat.reduceAdd,Int.toNat_natCast,ec,bO];omega) ?_))
 refine ae (fun hn=>?_) (fun _=>ae (fun hn=>?_) (fun _=>ae (fun hn=>?_) (fun _=>?_)))
 ·simp only [nrm,xdn,reduceIte,Nat.reduceLT,Nat.reduceSub,Nat.reduceAdd,Int.toNat_natCast,ec,e0,k3] at hn
  simp at hn
 ·simp only [nrm,xdn,reduceIte,Nat.reduceLT,Nat.reduceSub,Nat.reduceAdd,Int.toNat_natCast,ec,e1] at hn
  exact absurd hn hkind.1
 ·simp only [nrm,xdn,reduceIte,Nat.reduceLT,Nat.reduceSub,Nat.reduceAdd,Int.toNat_natCast,ec,e1] at hn
  exact absurd hn hkind.2
 refine ah d48 [.i (ay v.1.m T.f.c)] rfl trivial (by simp only [nrm,xdn,reduceIte,Nat.reduceLT,Nat.reduceSub,Nat.reduceAdd,Int.toNat_natCast,ec,e1,e2,e3,e4,e5,e6,yO]) (ae (fun hn=>?_) (fun _=>?_))
 ·simp only [nrm,xdn,reduceIte,Nat.reduceLT,Nat.reduceSub,Nat.reduceAdd,k5] at hn
  simp at hn
 refine aH (by simp only [nrm,xdn,reduceIte,Nat.reduceLT,Nat.reduceSub,Nat.reduceAdd];omega) (bx ⟨⟨j + 1,H ++ [t],?_,by simp;omega,by omega,fun u hu=>?_⟩,?_⟩)
 ·simp only [nrm,xdn,reduceIte,Nat.reduceLT,Nat.reduceSub,Nat.reduceAdd,Int.toNat_natCast,ec,CD.row,List.headD_cons,dZ];rfl
 ·rcases List.mem_append.1 hu with hu | hu
  ·obtain ⟨b,r1,r2⟩:=hh u hu
   exact ⟨b,by omega,r2⟩
  ·rw [List.mem_singleton.1 hu]
   exact ⟨j,by omega,hl⟩
 ·simp only [nrm,xdn,reduceIte,Nat.reduceLT,Nat.reduceSub,Nat.reduceAdd];omega
end Go.Proofs.Ytpmamacjepcdmaa
