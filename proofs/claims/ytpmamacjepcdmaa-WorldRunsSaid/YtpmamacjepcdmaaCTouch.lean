import Derived.Test.YtpmamacjepcdmaaCStep
import Derived.Test.YtpmamacjepcdmaaCMemLaws
namespace Go.Proofs.Ytpmamacjepcdmaa
open Go Go.Sy Go.RowKit
set_option linter.unusedSimpArgs false
set_option linter.unusedVariables false
theorem qj {m x : Mem} (h1 : x.slots.length=m.slots.length) (h2 : x.heads.length=m.heads.length) (c : Cal) : bg x c=bg m c:=by
 unfold bg
 rw [h1,h2]
theorem bO.with {m x : Mem} {f g : Frm} (h : bO m f) (h1 : x.slots.length=m.slots.length) (h2 : x.heads.length=m.heads.length) (hc : g.c=f.c) (hd : g.done=false)
  (pc : 0≤g.pc∧g.pc≤9) (n : 0≤g.n∧g.n≤1000000) (cur : -(m.heads.length : Int)≤g.cur∧g.cur≤m.slots.length) (prev : 0≤g.prev∧g.prev≤m.slots.length)
  (slot : -1≤g.slot∧g.slot < m.slots.length) (keys : g.keys.length≤100) : bO x g :=
 ⟨by rw [hc,qj h1 h2];exact h.call,pc.1,pc.2,n.1,n.2,hd,by rw [h2];exact cur.1,by rw [h1];exact cur.2,prev.1,by rw [h1];exact prev.2,slot.1,by rw [h1];exact slot.2,keys⟩
theorem sL (m : Mem) (a : Int) : (hold m a).1.slots.length=m.slots.length∧(hold m a).1.heads=m.heads∧(hold m a).1.locks=m.locks∧(hold m a).1.now=m.now:=by
 unfold hold
 split
 ·exact ⟨rfl,rfl,rfl,rfl⟩
 ·exact ⟨by simp,rfl,rfl,rfl⟩
theorem rf (m : Mem) (a : Int) : (put m a).slots.length=m.slots.length∧(put m a).heads=m.heads∧(put m a).locks=m.locks∧(put m a).now=m.now:=by
 unfold put
 split
 ·exact ⟨rfl,rfl,rfl,rfl⟩
 ·split <;> exact ⟨by simp,rfl,rfl,rfl⟩
theorem zm (m : Mem) (a : Int) : fix (put m a)=put (fix m) a:=by
 have e : msl (fix m) a.toNat=msl m a.toNat:=rfl
 unfold put
 rw [e]
 split
 ·rfl
 ·split <;> rfl
theorem ye (m : Mem) (a : Int) : fix (hold m a).1=(hold (fix m) a).1:=by
 have e : msl (fix m) a.toNat=msl m a.toNat:=rfl
 unfold hold
 rw [e]
 split <;> rfl
theorem zg {m : Mem} (hm : cm m) {a : Int} (h0 : 0≤a) (h1 : a < m.slots.length) : cm (hold m a).1:=by
 unfold hold
 split
 ·exact hm
 ·rename_i h
  have hs:=hm.sl (i:=a.toNat) (by omega)
  have r0:=hs.r0
  have r1:=hs.r1
  exact u7 hm (a:=a.toNat) (n:=1) (by omega) (by omega) (by omega) (by omega)
theorem put_ok {m : Mem} (hm : cm m) {a : Int} (h0 : 0≤a) (h1 : a < m.slots.length) : cm (put m a):=by
 unfold put
 split
 ·exact hm
 ·rename_i h
  have hs:=hm.sl (i:=a.toNat) (by omega)
  have r0:=hs.r0
  have r1:=hs.r1
  split
  ·rename_i h'
   exact yb hm h0 h1 h'
  ·rename_i h'
   exact u7 hm (a:=a.toNat) (n:=-1) (by omega) (by omega) (by omega) (by omega)
theorem w7 {m : Mem} (hm : cm m) {k : Key} {t : Int} (hk : Key.Ok k) (h0 : 0≤t) (h1 : t≤2000000) : cm (take m k t).1:=by
 unfold take
 split
 ·exact hm
 ·rename_i h;exact yO hm h hk h0 h1
theorem vl {m : Mem} (hm : cm m) {a : Nat} {f : bx→bx} (ha : a < m.slots.length) (h1 : ∀ s,(f s).refs=s.refs) (hs : ko m.slots.length m.heads.length (f (msl m a))) : cm (eP m a f m.free):=by
 refine cm.eP hm ha hs (fun b hb=>?_) hm.nodup fun i hi hr=>?_
 ·obtain ⟨k1,k2,k3⟩:=hm.free b hb
  refine ⟨k1,k2,?_⟩
  split
  ·rename_i e;rw [h1,e];exact k3
  ·exact k3
 ·refine hm.leak i hi ?_
  split at hr
  ·rename_i e;rw [h1,e] at hr;exact hr
  ·exact hr
theorem aN.put {m : Mem} (hm : aN m) {a : Int} (h0 : 0≤a) (h1 : a < m.slots.length) : aN (put m a):=by
 obtain ⟨e1,e2,e3,_⟩:=rf m a
 exact ⟨by rw [zm];exact put_ok hm.fx h0 h1,by rw [e2,e3];exact hm.nl,by rw [e1,e2];exact hm.hd⟩
theorem aN.hold {m : Mem} (hm : aN m) {a : Int} (h0 : 0≤a) (h1 : a < m.slots.length) : aN (hold m a).1:=by
 obtain ⟨e1,e2,e3,_⟩:=sL m a
 exact ⟨by rw [ye];exact zg hm.fx h0 h1,by rw [e2,e3];exact hm.nl,by rw [e1,e2];exact hm.hd⟩
theorem aN.take {m : Mem} (hm : aN m) {k : Key} {t : Int} (hk : Key.Ok k) (h0 : 0≤t) (h1 : t≤2000000) : aN (take m k t).1:=by
 have e : fix (Ytpmamacjepcdmaa.take m k t).1=(Ytpmamacjepcdmaa.take (fix m) k t).1:=by
  unfold Ytpmamacjepcdmaa.take
  show _=(if m.free.length=0 then _ else _ : Mem × Int × Int).1
  split <;> rfl
 have e2 : (Ytpmamacjepcdmaa.take m k t).1.slots.length=m.slots.length∧(Ytpmamacjepcdmaa.take m k t).1.heads=m.heads∧(Ytpmamacjepcdmaa.take m k t).1.locks=m.locks:=by
  unfold Ytpmamacjepcdmaa.take
  split
  ·exact ⟨rfl,rfl,rfl⟩
  ·exact ⟨by simp,rfl,rfl⟩
 exact ⟨by rw [e];exact w7 hm.fx hk h0 h1,by rw [e2.2.1,e2.2.2];exact hm.nl,by rw [e2.1,e2.2.1];exact hm.hd⟩
theorem aN.lock {m : Mem} (hm : aN m) (b t : Int) : aN (lock m b t).1:=by
 unfold Ytpmamacjepcdmaa.lock
 split
 ·exact ⟨hm.fx,by simp [hm.nl],hm.hd⟩
 ·exact hm
theorem aN.unlock {m : Mem} (hm : aN m) (b t : Int) : aN (unlock m b t):=by
 unfold Ytpmamacjepcdmaa.unlock
 split
 ·exact ⟨hm.fx,by simp [hm.nl],hm.hd⟩
 ·exact hm
theorem vD (m : Mem) (s : List bx) (b : Nat) (v : Int) : fix { m with slots:=s,heads:=m.heads.set b v}={ fix m with slots:=s}:=by
 simp [fix]
theorem xh {m : Mem} (hm : aN m) {b : Nat} {v : Int} (h0 : -(m.heads.length : Int)≤v) (h1 : v≤m.slots.length) (i : Nat) (hi : i < m.heads.length) : -(m.heads.length : Int)≤(m.heads.set b v).getD i 0∧(m.heads.set b v).getD i 0≤m.slots.length:=by
 by_cases e : b=i
 ·subst e
  rw [List.getD_eq_getElem?_getD,List.getElem?_set_self hi]
  exact ⟨h0,h1⟩
 ·rw [List.getD_eq_getElem?_getD,List.getElem?_set_ne e,← List.getD_eq_getElem?_getD]
  exact hm.hd i hi
theorem mE {m : Mem} (hm : aN m) {b : Int} (h0 : 0≤b) (h1 : b < m.heads.length) : -(m.heads.length : Int)≤cQ m b∧cQ m b≤m.slots.length:=hm.hd b.toNat (by omega)
theorem mq {m : Mem} (hm : aN m) {a : Nat} (h : a < m.slots.length) : -(m.heads.length : Int)≤(msl m a).next∧(msl m a).next≤m.slots.length:=by
 have:=hm.sl h
 exact ⟨this.n1,this.n0⟩
theorem aN.link {m : Mem} (hm : aN m) {a b : Int} (h0 : 0≤a) (h1 : a < m.slots.length) (h2 : 0≤b) (h3 : b < m.heads.length) : aN (link m a b):=by
 have hs:=hm.fx.sl (i:=a.toNat) (by show _ < m.slots.length;omega)
 have hh:=mE hm h2 h3
 have l1 : (Ytpmamacjepcdmaa.link m a b).slots.length=m.slots.length:=by simp [Ytpmamacjepcdmaa.link]
 have l2 : (Ytpmamacjepcdmaa.link m a b).heads.length=m.heads.length:=by simp [Ytpmamacjepcdmaa.link]
 refine ⟨?_,by rw [l2];exact hm.nl,?_⟩
 ·show cm (fix { m with slots:=_,heads:=m.heads.set b.toNat (a + 1)})
  rw [vD]
  exact vl hm.fx (a:=a.toNat) (f:=pw (cQ m b)) (by show _ < m.slots.length;omega) (fun _=>rfl) ⟨hs.r0,hs.r1,hs.t0,hs.t1,hs.k,hh.2,by rw [ez];exact hh.1⟩
 ·rw [l1,l2];exact xh hm (by omega) (by omega)
theorem aN.cut {m : Mem} (hm : aN m) {p a b : Int} (h0 : 0≤a) (h1 : a < m.slots.length) (hp : p≤m.slots.length) : aN (cut m p a b):=by
 have hn:=mq hm (a:=a.toNat) (by omega)
 unfold Ytpmamacjepcdmaa.cut
 split
 ·have hs:=hm.fx.sl (i:=(p - 1).toNat) (by show _ < m.slots.length;omega)
  refine ⟨?_,hm.nl,by simpa using hm.hd⟩
  exact vl hm.fx (a:=(p - 1).toNat) (f:=xC (msl m a.toNat).next) (by show _ < m.slots.length;omega) (fun _=>rfl) ⟨hs.r0,hs.r1,hs.t0,hs.t1,hs.k,hn.2,by rw [ez];exact hn.1⟩
 ·refine ⟨?_,by simp [hm.nl],by simpa using xh hm hn.1 hn.2⟩
  have:=vD m m.slots b.toNat (msl m a.toNat).next
  rw [this]
  exact hm.fx
end Go.Proofs.Ytpmamacjepcdmaa

namespace Go.Proofs.Ytpmamacjepcdmaa
open Go Go.Sy Go.RowKit
set_option linter.unusedSimpArgs false
set_option linter.unusedVariables false
structure Touch (m x : Mem) (b : Int) (free : Int) : Prop where
 sl : ∃ i g,x.slots=m.slots.modify i g
 hl : x.heads.length=m.heads.length
 ll : x.locks.length=m.locks.length
 hd : ∀ i : Nat,(i : Int)≠b→x.heads.getD i 0=m.heads.getD i 0
 lk : ∀ i : Nat,(i : Int)≠b→x.locks.getD i 0=m.locks.getD i 0
 now : x.now=m.now
 f0 : (m.free.length : Int) - free≤x.free.length
 f1 : x.free.length≤m.free.length + 1
def tC (m x : Mem) : Prop:=∀ i : Nat,(msl x i).k=(msl m i).k∧(msl x i).till=(msl m i).till∧(msl x i).inn=(msl m i).inn
theorem eX {α : Type} : ∀ (l : List α) (i : Nat),l.modify i (fun a=>a)=l
 | [],_=>by simp
 | a :: l,0=>by simp
 | a :: l,i + 1=>by simp [eX l i]
theorem kH (l : List Int) {a : Int} (v : Int) {i : Nat} (h0 : 0≤a) (h : (i : Int)≠a) : (l.set a.toNat v).getD i 0=l.getD i 0:=by
 rw [List.getD_eq_getElem?_getD,List.getElem?_set_ne (by omega),← List.getD_eq_getElem?_getD]
theorem mz {m x : Mem} {i : Nat} {g : bx→bx} (h : x.slots=m.slots.modify i g) (hg : ∀ s,(g s).k=s.k∧(g s).till=s.till∧(g s).inn=s.inn) : tC m x:=fun j=>by
 have e : msl x j=if i=j∧i < m.slots.length then g (msl m j) else msl m j:=by
  show x.slots.getD j default=_
  rw [h];exact getD_modify g m.slots i j
 rw [e]
 split
 ·exact hg _
 ·exact ⟨rfl,rfl,rfl⟩
theorem nb (m : Mem) : tC m m:=fun _=>⟨rfl,rfl,rfl⟩
theorem eV (m : Mem) (b : Int) : Touch m m b 0:=⟨⟨0,fun s=>s,(eX _ _).symm⟩,rfl,rfl,fun _ _=>rfl,fun _ _=>rfl,rfl,by omega,by omega⟩
theorem kt (m : Mem) (a b : Int) : Touch m (put m a) b 0:=by
 unfold put
 split
 ·exact eV m b
 ·split
  ·exact ⟨⟨_,_,rfl⟩,rfl,rfl,fun _ _=>rfl,fun _ _=>rfl,rfl,by simp;omega,by simp⟩
  ·exact ⟨⟨_,_,rfl⟩,rfl,rfl,fun _ _=>rfl,fun _ _=>rfl,rfl,by simp,by simp⟩
theorem wD (m : Mem) (a : Int) : tC m (put m a):=by
 unfold put
 split
 ·exact nb m
 ·split <;> exact mz rfl fun _=>⟨rfl,rfl,rfl⟩
theorem lC (m : Mem) (a b : Int) : Touch m (hold m a).1 b 0:=by
 unfold hold
 split
 ·exact eV m b
 ·exact ⟨⟨_,_,rfl⟩,rfl,rfl,fun _ _=>rfl,fun _ _=>rfl,rfl,by simp,by simp⟩
theorem uw (m : Mem) (a : Int) : tC m (hold m a).1:=by
 unfold hold
 split
 ·exact nb m
 ·exact mz rfl fun _=>⟨rfl,rfl,rfl⟩
theorem lA (m : Mem) {b : Int} (t : Int) (h0 : 0≤b) : Touch m (lock m b t).1 b 0:=by
 unfold lock
 split
 ·exact ⟨⟨0,fun s=>s,(eX _ _).symm⟩,rfl,by simp,fun _ _=>rfl,fun _ h=>kH _ _ h0 h,rfl,by simp,by simp⟩
 ·exact eV m b
theorem iN (m : Mem) {b : Int} (t : Int) (h0 : 0≤b) : Touch m (unlock m b t) b 0:=by
 unfold unlock
 split
 ·exact ⟨⟨0,fun s=>s,(eX _ _).symm⟩,rfl,by simp,fun _ _=>rfl,fun _ h=>kH _ _ h0 h,rfl,by simp,by simp⟩
 ·exact eV m b
theorem lB (m : Mem) (a : Int) {b : Int} (h0 : 0≤b) : Touch m (link m a b) b 0 :=
 ⟨⟨_,_,rfl⟩,by simp [link],rfl,fun _ h=>kH _ _ h0 h,fun _ _=>rfl,rfl,by simp [link],by simp [link]⟩
theorem qp (m : Mem) (p a : Int) {b : Int} (h0 : 0≤b) : Touch m (cut m p a b) b 0:=by
 unfold cut
 split
 ·exact ⟨⟨_,_,rfl⟩,by simp,rfl,fun _ _=>rfl,fun _ _=>rfl,rfl,by simp,by simp⟩
 ·exact ⟨⟨0,fun s=>s,(eX _ _).symm⟩,by simp,rfl,fun _ h=>kH _ _ h0 h,fun _ _=>rfl,rfl,by simp,by simp⟩
theorem tL (m : Mem) (k : Key) (t b : Int) : Touch m (take m k t).1 b 1:=by
 unfold take
 split
 ·exact ⟨⟨0,fun s=>s,(eX _ _).symm⟩,rfl,rfl,fun _ _=>rfl,fun _ _=>rfl,rfl,by omega,by dsimp only;omega⟩
 ·exact ⟨⟨_,_,rfl⟩,rfl,rfl,fun _ _=>rfl,fun _ _=>rfl,rfl,by simp;omega,by simp;omega⟩
structure qX (m : Mem) (f g : Frm) : Prop where
 c : g.c=f.c
 pc : 0≤g.pc∧g.pc≤9
 n : f.n≤g.n∧g.n≤1000000
 cur : -(m.heads.length : Int)≤g.cur∧g.cur≤m.slots.length
 prev : 0≤g.prev∧g.prev≤m.slots.length
 slot : -1≤g.slot∧g.slot < m.slots.length
 keys : g.keys.length≤100
theorem Touch.len {m x : Mem} {b n : Int} (h : Touch m x b n) : x.slots.length=m.slots.length:=by
 obtain ⟨i,g,e⟩:=h.sl
 rw [e,List.length_modify]
theorem qX.ok {m x : Mem} {f g : Frm} {b n : Int} (h : qX m f g) (hf : bO m f) (ht : Touch m x b n) (hd : g.done=false) : bO x g :=
 hf.with ht.len ht.hl h.c hd h.pc ⟨by have:=h.n.1;have:=hf.n0;omega,h.n.2⟩ h.cur h.prev h.slot h.keys
theorem sH {m : Mem} {f : Frm} (hm : aN m) (hf : bO m f) (hk : f.c.kind=1) : qX m f (bC m f).1:=by
 have hb:=bn hm hf.call (by omega)
 have hh:=mE hm hb.1 hb.2
 have hn : 0 < f.cur→-(m.heads.length : Int)≤(at1 m f).next∧(at1 m f).next≤m.slots.length:=fun h=>mq hm (by have:=hf.cur1;omega)
 obtain ⟨f1,f2,f3,f4,f5,f6,f7,f8,f9,f10,f11,f12,f13⟩:=id hf
 unfold bC
 repeat' split
 all_goals refine ⟨rfl,?_,?_,?_,?_,?_,?_⟩
 all_goals first
  | exact ⟨by omega,by omega⟩
  | exact hh
  | exact hn (by omega)
  | exact f13
  | (show (f.keys ++ [(at1 m f).k]).length≤100;simp only [List.length_append,List.length_singleton];omega)
  | (dsimp only [aF];exact ⟨by omega,by omega⟩)
theorem pv {m : Mem} {f : Frm} : Touch m (bC m f).2 (az m f.c) 0∧tC m (bC m f).2∧(bC m f).2.heads=m.heads∧(bC m f).2.locks=m.locks:=by
 unfold bC
 have hH:=sL m (f.cur - 1)
 have hP:=rf m f.slot
 repeat' split
 all_goals first
  | exact ⟨eV m _,nb m,rfl,rfl⟩
  | exact ⟨kt m _ _,wD m _,hP.2.1,hP.2.2.1⟩
  | exact ⟨lC m _ _,uw m _,hH.2.1,hH.2.2.1⟩
theorem sW {m : Mem} {f : Frm} (t : Int) (hm : aN m) (hf : bO m f) (hk : f.c.kind=3) : qX m f (bW m f t).1:=by
 have hb:=bn hm hf.call (by omega)
 have hh:=mE hm hb.1 hb.2
 have hn : 0 < f.cur→-(m.heads.length : Int)≤(at1 m f).next∧(at1 m f).next≤m.slots.length:=fun h=>mq hm (by have:=hf.cur1;omega)
 obtain ⟨f1,f2,f3,f4,f5,f6,f7,f8,f9,f10,f11,f12,f13⟩:=id hf
 unfold bW
 repeat' split
 all_goals refine ⟨rfl,?_,?_,?_,?_,?_,?_⟩
 all_goals first
  | exact ⟨by omega,by omega⟩
  | exact hh
  | exact hn (by omega)
  | exact f13
  | (show (f.keys ++ [(at1 m f).k]).length≤100;simp only [List.length_append,List.length_singleton];omega)
  | (dsimp only [aF];exact ⟨by omega,by omega⟩)
theorem pU {m : Mem} {f : Frm} (t : Int) (hm : aN m) (hf : bO m f) (hk : f.c.kind=3) : Touch m (bW m f t).2 (az m f.c) 0:=by
 have hb:=bn hm hf.call (by omega)
 unfold bW
 repeat' split
 all_goals first
  | exact eV m _
  | exact kt m _ _
  | exact lC m _ _
  | exact lA m _ hb.1
  | exact iN m _ hb.1
  | exact lB m _ hb.1
  | exact qp m _ _ hb.1
theorem q7 {m : Mem} {f : Frm} (t : Int) (hm : aN m) (hf : bO m f) (hk : f.c.kind=4∨f.c.kind=5) : qX m f (bE m f t).1:=by
 have hb:=bn hm hf.call (by omega)
 have hh:=mE hm hb.1 hb.2
 have hn : 0 < f.cur→-(m.heads.length : Int)≤(at1 m f).next∧(at1 m f).next≤m.slots.length:=fun h=>mq hm (by have:=hf.cur1;omega)
 obtain ⟨f1,f2,f3,f4,f5,f6,f7,f8,f9,f10,f11,f12,f13⟩:=id hf
 unfold bE
 repeat' split
 all_goals refine ⟨rfl,?_,?_,?_,?_,?_,?_⟩
 all_goals first
  | exact ⟨by omega,by omega⟩
  | exact hh
  | exact hn (by omega)
  | exact f13
  | (show (f.keys ++ [(at1 m f).k]).length≤100;simp only [List.length_append,List.length_singleton];omega)
  | (dsimp only [aF];exact ⟨by omega,by omega⟩)
theorem om {m : Mem} {f : Frm} (t : Int) (hm : aN m) (hf : bO m f) (hk : f.c.kind=4∨f.c.kind=5) : Touch m (bE m f t).2 (az m f.c) 0:=by
 have hb:=bn hm hf.call (by omega)
 unfold bE
 repeat' split
 all_goals first
  | exact eV m _
  | exact kt m _ _
  | exact lC m _ _
  | exact lA m _ hb.1
  | exact iN m _ hb.1
  | exact lB m _ hb.1
  | exact qp m _ _ hb.1
theorem uR {m : Mem} {f : Frm} (t : Int) (hm : aN m) (hf : bO m f) (hk : f.c.kind=2) : qX m f (cx m f t).1:=by
 have hb:=bn hm hf.call (by omega)
 have hh:=mE hm hb.1 hb.2
 have hn : 0 < f.cur→-(m.heads.length : Int)≤(at1 m f).next∧(at1 m f).next≤m.slots.length:=fun h=>mq hm (by have:=hf.cur1;omega)
 obtain ⟨f1,f2,f3,f4,f5,f6,f7,f8,f9,f10,f11,f12,f13⟩:=id hf
 have ht : (take m f.c.k (ck m f)).2.2=0→0≤(take m f.c.k (ck m f)).2.1∧(take m f.c.k (ck m f)).2.1 < m.slots.length:=by
  unfold take
  split
  ·intro h;cases h
  ·rename_i h;exact fun _=>nM hm h
 unfold cx
 repeat' split
 all_goals refine ⟨rfl,?_,?_,?_,?_,?_,?_⟩
 all_goals first
  | exact ⟨by omega,by omega⟩
  | exact hh
  | exact hn (by omega)
  | exact f13
  | (rename_i h;exact ⟨by have:=ht (Classical.not_not.1 h);dsimp only;omega,(ht (Classical.not_not.1 h)).2⟩)
  | (dsimp only [aF];exact ⟨by omega,by omega⟩)
theorem ql {m : Mem} {f : Frm} (t : Int) (hm : aN m) (hf : bO m f) (hk : f.c.kind=2) : Touch m (cx m f t).2 (az m f.c) 1:=by
 have hb:=bn hm hf.call (by omega)
 have up : ∀ {x : Mem},Touch m x (az m f.c) 0→Touch m x (az m f.c) 1:=fun h=>⟨h.sl,h.hl,h.ll,h.hd,h.lk,h.now,by have:=h.f0;omega,h.f1⟩
 unfold cx
 repeat' split
 all_goals first
  | exact up (eV m _)
  | exact tL m _ _ _
  | exact up (kt m _ _)
  | exact up (lA m _ hb.1)
  | exact up (iN m _ hb.1)
  | exact up (lB m _ hb.1)
theorem ld {m : Mem} {f : Frm} (hm : aN m) (hf : bO m f) : aN (bC m f).2:=by
 obtain ⟨f1,f2,f3,f4,f5,f6,f7,f8,f9,f10,f11,f12,f13⟩:=id hf
 unfold bC
 repeat' split
 all_goals first
  | exact hm
  | exact hm.hold (by omega) (by omega)
  | exact hm.put (by omega) (by omega)
theorem qh {m : Mem} {f : Frm} (t : Int) (hm : aN m) (hf : bO m f) : aN (bW m f t).2:=by
 obtain ⟨f1,f2,f3,f4,f5,f6,f7,f8,f9,f10,f11,f12,f13⟩:=id hf
 unfold bW
 repeat' split
 all_goals first
  | exact hm
  | exact hm.lock _ _
  | exact hm.unlock _ _
  | exact hm.put (by omega) (by omega)
  | exact hm.cut (by omega) (by omega) (by omega)
theorem oS {m : Mem} {f : Frm} (t : Int) (hm : aN m) (hf : bO m f) : aN (bE m f t).2:=by
 obtain ⟨f1,f2,f3,f4,f5,f6,f7,f8,f9,f10,f11,f12,f13⟩:=id hf
 unfold bE
 repeat' split
 all_goals first
  | exact hm
  | exact hm.lock _ _
  | exact hm.unlock _ _
  | exact hm.put (by omega) (by omega)
  | exact hm.cut (by omega) (by omega) (by omega)
theorem rQ {m : Mem} {f : Frm} (t : Int) (hm : aN m) (hf : bO m f) (hk : f.c.kind=2) : aN (cx m f t).2:=by
 have hb:=bn hm hf.call (by omega)
 have hK:=tc hf.call (by omega)
 have ht:=nt hf.call hk
 have n0:=hm.pd
 have n1:=hm.pb
 obtain ⟨f1,f2,f3,f4,f5,f6,f7,f8,f9,f10,f11,f12,f13⟩:=id hf
 unfold cx
 repeat' split
 all_goals first
  | exact hm
  | exact hm.lock _ _
  | exact hm.unlock _ _
  | exact hm.put (by omega) (by omega)
  | exact hm.link (by omega) (by omega) hb.1 hb.2
  | (refine hm.take hK ?_ ?_ <;> unfold ck <;> split <;> omega)
end Go.Proofs.Ytpmamacjepcdmaa
