import Derived.Test.YtpmamacjepcdmaaCRef
import Derived.Test.YtpmamacjepcdmaaCStep
namespace Go.Proofs.Ytpmamacjepcdmaa
open Go Go.Sy Go.RowKit
theorem getD_modify {α : Type} [Inhabited α] (f : α→α) : ∀ (l : List α) (a i : Nat),(l.modify a f).getD i default=if a=i∧a < l.length then f (l.getD i default) else l.getD i default
 | [],a,i=>by simp
 | x :: l,0,0=>by simp
 | x :: l,0,i + 1=>by simp
 | x :: l,a + 1,0=>by simp
 | x :: l,a + 1,i + 1=>by
  have:=getD_modify f l a i
  simp only [List.modify_succ_cons,List.getD_cons_succ,this,List.length_cons,Nat.add_lt_add_iff_right,Nat.add_right_cancel_iff]
theorem yw {α : Type} [Inhabited α] {P : α→Prop} {l : List α} (h : ∀ i,i < l.length→P (l.getD i default)) : ∀ s∈l,P s:=fun s hs=>by
 obtain ⟨i,hi,rfl⟩:=List.getElem_of_mem hs
 have:=h i hi
 rwa [List.getD_eq_getElem?_getD,List.getElem?_eq_getElem hi,Option.getD_some] at this
theorem DV {α : Type} [Inhabited α] {l m : List α} (hl : l.length=m.length) (h : ∀ i,i < l.length→l.getD i default=m.getD i default) : l=m:=by
 apply List.ext_getElem hl
 intro i h1 h2
 have:=h i h1
 rwa [List.getD_eq_getElem?_getD,List.getD_eq_getElem?_getD,List.getElem?_eq_getElem h1,List.getElem?_eq_getElem h2,Option.getD_some,Option.getD_some] at this
theorem modify_id {α : Type} [Inhabited α] (f : α→α) (l : List α) (a : Nat) (h : f (l.getD a default)=l.getD a default) : l.modify a f=l:=by
 refine DV (by simp) fun i _=>?_
 rw [getD_modify]
 split
 ·rename_i hx;rw [← hx.1,h]
 ·rfl
theorem w9 (s : bp) : bx 0 s=s:=by unfold bx;rw [Int.add_zero]
theorem ur (a b : Int) (s : bp) : bx a (bx b s)=bx (b + a) s:=by unfold bx;simp only [Int.add_assoc]
def cm (m : Mem) (a : Nat) (f : bp→bp) (free : List Int) : Mem:={ m with slots:=m.slots.modify a f,free:=free}
theorem gJ (m : Mem) (a : Nat) (f : bp→bp) (free : List Int) (i : Nat) : msl (cm m a f free) i=if a=i∧a < m.slots.length then f (msl m i) else msl m i:=getD_modify f m.slots a i
theorem nB (m : Mem) (a : Nat) (f : bp→bp) (free : List Int) : (cm m a f free).slots.length=m.slots.length:=by simp [cm]
theorem bB.cm {m : Mem} (h : bB m) {a : Nat} {f : bp→bp} {free : List Int} (ha : a < m.slots.length) (hs : mR m.slots.length m.heads.length (f (msl m a)))
  (hf : ∀ b∈free,0≤b∧b < m.slots.length∧(if a=b.toNat then (f (msl m a)).refs=0 else (msl m b.toNat).refs=0)) (hn : free.Nodup)
  (hl : ∀ i,i < m.slots.length→(if a=i then (f (msl m a)).refs=0 else (msl m i).refs=0)→(i : Int)∈free) : bB (cm m a f free):=by
 have e:=nB m a f free
 refine ⟨by rw [e];exact h.ns,h.nh1,h.nh4,h.nl,h.ma,h.Ik,?_,by rw [e];exact h.head,fun b hb=>?_,hn,fun i hi hr=>?_⟩
 ·rw [e]
  refine yw fun i hi=>?_
  have : i < m.slots.length:=by rw [e] at hi;exact hi
  show mR _ _ (msl (Ytpmamacjepcdmaa.cm m a f free) i)
  rw [gJ]
  split
  ·rename_i hx;rw [← hx.1];exact hs
  ·exact h.sl this
 ·obtain ⟨h1,h2,h3⟩:=hf b hb
  refine ⟨h1,by rw [e];exact h2,?_⟩
  rw [gJ]
  by_cases hx : a=b.toNat
  ·rw [if_pos hx] at h3
   rw [if_pos ⟨hx,ha⟩,← hx];exact h3
  ·rw [if_neg hx] at h3
   rw [if_neg (fun y=>hx y.1)];exact h3
 ·rw [e] at hi
  rw [gJ] at hr
  refine hl i hi ?_
  by_cases hx : a=i
  ·rw [if_pos hx]
   rw [if_pos ⟨hx,ha⟩,← hx] at hr;exact hr
  ·rw [if_neg hx]
   rw [if_neg (fun y=>hx y.1)] at hr;exact hr
theorem tL {m : Mem} (h : m.free.length≠0) : m.free=m.free.take (m.free.length - 1) ++ [bc m]:=by
 have h1 : m.free.length - 1 < m.free.length:=by omega
 have e : m.free.take (m.free.length - 1 + 1)=m.free:=by rw [List.take_of_length_le (by omega)]
 rw [List.take_succ_eq_append_getElem h1] at e
 unfold bc
 rw [List.getD_eq_getElem?_getD,List.getElem?_eq_getElem h1,Option.getD_some,e]
theorem Ai {m : Mem} (h : bB m) {k : Key} {till : Int} (hn : m.free.length≠0) (hk : Key.Ok k) (h0 : 0≤till) (h1 : till≤2000000) : bB (cm m (bc m).toNat (cp k till) (m.free.take (m.free.length - 1))):=by
 have hl:=h.free _ (pj hn)
 have hlt : (bc m).toNat < m.slots.length:=by omega
 have hs:=h.sl hlt
 have hsp:=tL hn
 have hnd:=h.nodup
 rw [hsp] at hnd
 have hnd:=List.nodup_append.1 hnd
 have hnot : ∀ b∈m.free.take (m.free.length - 1),b≠bc m:=fun b hb=>hnd.2.2 b hb (bc m) (by simp)
 refine h.cm hlt ⟨?_,?_,h0,h1,hk,hs.n0,hs.n1⟩ (fun b hb=>?_) hnd.1 (fun i hi hr=>?_)
 ·simp [cp]
 ·simp [cp]
 ·have:=h.free b (by rw [hsp];simp [hb])
  refine ⟨this.1,this.2.1,?_⟩
  rw [if_neg]
  ·exact this.2.2
  ·intro e
   exact hnot b hb (by omega)
 ·split at hr
  ·simp [cp] at hr
  ·rename_i hne
   have:=h.leak i hi hr
   rw [hsp,List.mem_append,List.mem_singleton] at this
   rcases this with h2 | h2
   ·exact h2
   ·exact absurd (by omega) hne
theorem AA {m : Mem} (hm : bB m) {a : Nat} {n : Int} (h1 : a < m.slots.length) (h0 : 1≤(msl m a).refs) (h2 : 1≤(msl m a).refs + n) (h3 : (msl m a).refs + n≤1000) : bB (cm m a (bx n) m.free):=by
 have hs:=hm.sl h1
 refine hm.cm h1 ⟨by show 0≤(msl m a).refs + n;omega,h3,hs.t0,hs.t1,hs.k,hs.n0,hs.n1⟩ (fun b hb=>?_) hm.nodup (fun i hi hr=>?_)
 ·have:=hm.free b hb
  refine ⟨this.1,this.2.1,?_⟩
  rw [if_neg (fun e=>by rw [e] at h0;omega)]
  exact this.2.2
 ·split at hr
  ·have hr : (msl m a).refs + n=0:=hr
   omega
  ·exact hm.leak i hi hr
theorem DQ {m : Mem} (hm : bB m) {a : Int} (h0 : 0≤a) (h1 : a < m.slots.length) (h2 : (msl m a.toNat).refs=1) : bB (cm m a.toNat (bx (-1)) (m.free ++ [a])):=by
 have hlt : a.toNat < m.slots.length:=by omega
 have hs:=hm.sl hlt
 have hna : a ∉ m.free:=fun h=>by have:=(hm.free a h).2.2;omega
 refine hm.cm hlt ⟨by show 0≤(msl m a.toNat).refs + -1;omega,by show (msl m a.toNat).refs + -1≤1000;omega,hs.t0,hs.t1,hs.k,hs.n0,hs.n1⟩ (fun b hb=>?_) ?_ (fun i hi hr=>?_)
 ·rcases List.mem_append.1 hb with hb | hb
  ·have:=hm.free b hb
   refine ⟨this.1,this.2.1,?_⟩
   rw [if_neg (fun e=>by
    have : a=b:=by omega
    exact hna (by rw [this];exact hb))]
   exact this.2.2
  ·rw [List.mem_singleton] at hb
   subst hb
   refine ⟨h0,h1,?_⟩
   rw [if_pos rfl]
   show (msl m b.toNat).refs + -1=0
   omega
 ·exact List.nodup_append.2 ⟨hm.nodup,by simp,fun x hx y hy=>by
   rw [List.mem_singleton] at hy
   subst hy
   intro e
   exact hna (by rw [← e];exact hx)⟩
 ·split at hr
  ·rename_i e
   rw [List.mem_append,List.mem_singleton]
   right;omega
  ·rw [List.mem_append]
   exact .inl (hm.leak i hi hr)
theorem uj (m : Mem) (a : Nat) (f g : bp→bp) (x y : List Int) : cm (cm m a f x) a g y=cm m a (fun s=>g (f s)) y:=by
 simp only [cm,aC]
theorem wO (m : Mem) (a : Nat) (i j : Int) (x y : List Int) : cm (cm m a (bx i) x) a (bx j) y=cm m a (bx (i + j)) y:=by
 rw [uj]
 congr 1
 funext s
 exact ur j i s
theorem wN (m : Mem) (a : Nat) : cm m a (bx 0) m.free=m:=by
 simp only [cm]
 rw [modify_id (bx 0) m.slots a (w9 _)]
end Go.Proofs.Ytpmamacjepcdmaa

namespace Go.Proofs.Ytpmamacjepcdmaa
open Go Go.Sy Go.RowKit
set_option linter.unusedSimpArgs false
set_option linter.unusedVariables false
theorem uA {m x : Mem} (h1 : x.slots.length=m.slots.length) (h2 : x.heads.length=m.heads.length) (c : Cal) : bf x c=bf m c:=by
 unfold bf
 rw [h1,h2]
theorem bV.with {m x : Mem} {f g : Frm} (h : bV m f) (h1 : x.slots.length=m.slots.length) (h2 : x.heads.length=m.heads.length) (hc : g.c=f.c) (hd : g.done=false)
  (pc : 0≤g.pc∧g.pc≤9) (n : 0≤g.n∧g.n≤1000000) (cur : -(m.heads.length : Int)≤g.cur∧g.cur≤m.slots.length) (prev : 0≤g.prev∧g.prev≤m.slots.length)
  (slot : -1≤g.slot∧g.slot < m.slots.length) (keys : g.keys.length≤100) : bV x g :=
 ⟨by rw [hc,uA h1 h2];exact h.call,pc.1,pc.2,n.1,n.2,hd,by rw [h2];exact cur.1,by rw [h1];exact cur.2,prev.1,by rw [h1];exact prev.2,slot.1,by rw [h1];exact slot.2,keys⟩
theorem pv (m : Mem) (a : Int) : (hold m a).1.slots.length=m.slots.length∧(hold m a).1.heads=m.heads∧(hold m a).1.ae=m.ae∧(hold m a).1.now=m.now:=by
 unfold hold
 split
 ·exact ⟨rfl,rfl,rfl,rfl⟩
 ·exact ⟨by simp,rfl,rfl,rfl⟩
theorem jw (m : Mem) (a : Int) : (put m a).slots.length=m.slots.length∧(put m a).heads=m.heads∧(put m a).ae=m.ae∧(put m a).now=m.now:=by
 unfold put
 split
 ·exact ⟨rfl,rfl,rfl,rfl⟩
 ·split <;> exact ⟨by simp,rfl,rfl,rfl⟩
theorem Fe (m : Mem) (a : Int) : fix (put m a)=put (fix m) a:=by
 have e : msl (fix m) a.toNat=msl m a.toNat:=rfl
 unfold put
 rw [e]
 split
 ·rfl
 ·split <;> rfl
theorem DT (m : Mem) (a : Int) : fix (hold m a).1=(hold (fix m) a).1:=by
 have e : msl (fix m) a.toNat=msl m a.toNat:=rfl
 unfold hold
 rw [e]
 split <;> rfl
theorem we {m : Mem} (hm : bB m) {a : Int} (h0 : 0≤a) (h1 : a < m.slots.length) : bB (hold m a).1:=by
 unfold hold
 split
 ·exact hm
 ·rename_i h
  have hs:=hm.sl (i:=a.toNat) (by omega)
  have r0:=hs.r0
  have r1:=hs.r1
  exact AA hm (a:=a.toNat) (n:=1) (by omega) (by omega) (by omega) (by omega)
theorem iY {m : Mem} (hm : bB m) {a : Int} (h0 : 0≤a) (h1 : a < m.slots.length) : bB (put m a):=by
 unfold put
 split
 ·exact hm
 ·rename_i h
  have hs:=hm.sl (i:=a.toNat) (by omega)
  have r0:=hs.r0
  have r1:=hs.r1
  split
  ·rename_i h'
   exact DQ hm h0 h1 h'
  ·rename_i h'
   exact AA hm (a:=a.toNat) (n:=-1) (by omega) (by omega) (by omega) (by omega)
theorem wS {m : Mem} (hm : bB m) {k : Key} {t : Int} (hk : Key.Ok k) (h0 : 0≤t) (h1 : t≤2000000) : bB (take m k t).1:=by
 unfold take
 split
 ·exact hm
 ·rename_i h;exact Ai hm h hk h0 h1
theorem AO {m : Mem} (hm : bB m) {a : Nat} {f : bp→bp} (ha : a < m.slots.length) (h1 : ∀ s,(f s).refs=s.refs) (hs : mR m.slots.length m.heads.length (f (msl m a))) : bB (cm m a f m.free):=by
 refine bB.cm hm ha hs (fun b hb=>?_) hm.nodup fun i hi hr=>?_
 ·obtain ⟨k1,k2,k3⟩:=hm.free b hb
  refine ⟨k1,k2,?_⟩
  split
  ·rename_i e;rw [h1,e];exact k3
  ·exact k3
 ·refine hm.leak i hi ?_
  split at hr
  ·rename_i e;rw [h1,e] at hr;exact hr
  ·exact hr
theorem aZ.put {m : Mem} (hm : aZ m) {a : Int} (h0 : 0≤a) (h1 : a < m.slots.length) : aZ (put m a):=by
 obtain ⟨e1,e2,e3,_⟩:=jw m a
 exact ⟨by rw [Fe];exact iY hm.fx h0 h1,by rw [e2,e3];exact hm.nl,by rw [e1,e2];exact hm.hd⟩
theorem aZ.hold {m : Mem} (hm : aZ m) {a : Int} (h0 : 0≤a) (h1 : a < m.slots.length) : aZ (hold m a).1:=by
 obtain ⟨e1,e2,e3,_⟩:=pv m a
 exact ⟨by rw [DT];exact we hm.fx h0 h1,by rw [e2,e3];exact hm.nl,by rw [e1,e2];exact hm.hd⟩
theorem aZ.take {m : Mem} (hm : aZ m) {k : Key} {t : Int} (hk : Key.Ok k) (h0 : 0≤t) (h1 : t≤2000000) : aZ (take m k t).1:=by
 have e : fix (Ytpmamacjepcdmaa.take m k t).1=(Ytpmamacjepcdmaa.take (fix m) k t).1:=by
  unfold Ytpmamacjepcdmaa.take
  show _=(if m.free.length=0 then _ else _ : Mem × Int × Int).1
  split <;> rfl
 have e2 : (Ytpmamacjepcdmaa.take m k t).1.slots.length=m.slots.length∧(Ytpmamacjepcdmaa.take m k t).1.heads=m.heads∧(Ytpmamacjepcdmaa.take m k t).1.ae=m.ae:=by
  unfold Ytpmamacjepcdmaa.take
  split
  ·exact ⟨rfl,rfl,rfl⟩
  ·exact ⟨by simp,rfl,rfl⟩
 exact ⟨by rw [e];exact wS hm.fx hk h0 h1,by rw [e2.2.1,e2.2.2];exact hm.nl,by rw [e2.1,e2.2.1];exact hm.hd⟩
theorem aZ.lock {m : Mem} (hm : aZ m) (b t : Int) : aZ (lock m b t).1:=by
 unfold Ytpmamacjepcdmaa.lock
 split
 ·exact ⟨hm.fx,by simp [hm.nl],hm.hd⟩
 ·exact hm
theorem aZ.unlock {m : Mem} (hm : aZ m) (b t : Int) : aZ (unlock m b t):=by
 unfold Ytpmamacjepcdmaa.unlock
 split
 ·exact ⟨hm.fx,by simp [hm.nl],hm.hd⟩
 ·exact hm
theorem A9 (m : Mem) (s : List bp) (b : Nat) (v : Int) : fix { m with slots:=s,heads:=m.heads.set b v}={ fix m with slots:=s}:=by
 simp [fix]
theorem CX {m : Mem} (hm : aZ m) {b : Nat} {v : Int} (h0 : -(m.heads.length : Int)≤v) (h1 : v≤m.slots.length) (i : Nat) (hi : i < m.heads.length) : -(m.heads.length : Int)≤(m.heads.set b v).getD i 0∧(m.heads.set b v).getD i 0≤m.slots.length:=by
 by_cases e : b=i
 ·subst e
  rw [List.getD_eq_getElem?_getD,List.getElem?_set_self hi]
  exact ⟨h0,h1⟩
 ·rw [List.getD_eq_getElem?_getD,List.getElem?_set_ne e,← List.getD_eq_getElem?_getD]
  exact hm.hd i hi
theorem px {m : Mem} (hm : aZ m) {b : Int} (h0 : 0≤b) (h1 : b < m.heads.length) : -(m.heads.length : Int)≤aO m b∧aO m b≤m.slots.length:=hm.hd b.toNat (by omega)
theorem pd {m : Mem} (hm : aZ m) {a : Nat} (h : a < m.slots.length) : -(m.heads.length : Int)≤(msl m a).next∧(msl m a).next≤m.slots.length:=by
 have:=hm.sl h
 exact ⟨this.n1,this.n0⟩
theorem aZ.link {m : Mem} (hm : aZ m) {a b : Int} (h0 : 0≤a) (h1 : a < m.slots.length) (h2 : 0≤b) (h3 : b < m.heads.length) : aZ (link m a b):=by
 have hs:=hm.fx.sl (i:=a.toNat) (by show _ < m.slots.length;omega)
 have hh:=px hm h2 h3
 have l1 : (Ytpmamacjepcdmaa.link m a b).slots.length=m.slots.length:=by simp [Ytpmamacjepcdmaa.link]
 have l2 : (Ytpmamacjepcdmaa.link m a b).heads.length=m.heads.length:=by simp [Ytpmamacjepcdmaa.link]
 refine ⟨?_,by rw [l2];exact hm.nl,?_⟩
 ·show bB (fix { m with slots:=_,heads:=m.heads.set b.toNat (a + 1)})
  rw [A9]
  exact AO hm.fx (a:=a.toNat) (f:=jc (aO m b)) (by show _ < m.slots.length;omega) (fun _=>rfl) ⟨hs.r0,hs.r1,hs.t0,hs.t1,hs.k,hh.2,by rw [ff];exact hh.1⟩
 ·rw [l1,l2];exact CX hm (by omega) (by omega)
theorem aZ.cut {m : Mem} (hm : aZ m) {p a b : Int} (h0 : 0≤a) (h1 : a < m.slots.length) (hp : p≤m.slots.length) : aZ (cut m p a b):=by
 have hn:=pd hm (a:=a.toNat) (by omega)
 unfold Ytpmamacjepcdmaa.cut
 split
 ·have hs:=hm.fx.sl (i:=(p - 1).toNat) (by show _ < m.slots.length;omega)
  refine ⟨?_,hm.nl,by simpa using hm.hd⟩
  exact AO hm.fx (a:=(p - 1).toNat) (f:=og (msl m a.toNat).next) (by show _ < m.slots.length;omega) (fun _=>rfl) ⟨hs.r0,hs.r1,hs.t0,hs.t1,hs.k,hn.2,by rw [ff];exact hn.1⟩
 ·refine ⟨?_,by simp [hm.nl],by simpa using CX hm hn.1 hn.2⟩
  have:=A9 m m.slots b.toNat (msl m a.toNat).next
  rw [this]
  exact hm.fx
end Go.Proofs.Ytpmamacjepcdmaa

namespace Go.Proofs.Ytpmamacjepcdmaa
open Go Go.Sy Go.RowKit
set_option linter.unusedSimpArgs false
set_option linter.unusedVariables false
structure Touch (m x : Mem) (b : Int) (free : Int) : Prop where
 sl : ∃ i g,x.slots=m.slots.modify i g
 hl : x.heads.length=m.heads.length
 ll : x.ae.length=m.ae.length
 hd : ∀ i : Nat,(i : Int)≠b→x.heads.getD i 0=m.heads.getD i 0
 lk : ∀ i : Nat,(i : Int)≠b→x.ae.getD i 0=m.ae.getD i 0
 now : x.now=m.now
 f0 : (m.free.length : Int) - free≤x.free.length
 f1 : x.free.length≤m.free.length + 1
def yE (m x : Mem) : Prop:=∀ i : Nat,(msl x i).k=(msl m i).k∧(msl x i).till=(msl m i).till∧(msl x i).inn=(msl m i).inn
theorem fR {α : Type} : ∀ (l : List α) (i : Nat),l.modify i (fun a=>a)=l
 | [],_=>by simp
 | a :: l,0=>by simp
 | a :: l,i + 1=>by simp [fR l i]
theorem np (l : List Int) {a : Int} (v : Int) {i : Nat} (h0 : 0≤a) (h : (i : Int)≠a) : (l.set a.toNat v).getD i 0=l.getD i 0:=by
 rw [List.getD_eq_getElem?_getD,List.getElem?_set_ne (by omega),← List.getD_eq_getElem?_getD]
theorem pk {m x : Mem} {i : Nat} {g : bp→bp} (h : x.slots=m.slots.modify i g) (hg : ∀ s,(g s).k=s.k∧(g s).till=s.till∧(g s).inn=s.inn) : yE m x:=fun j=>by
 have e : msl x j=if i=j∧i < m.slots.length then g (msl m j) else msl m j:=by
  show x.slots.getD j default=_
  rw [h];exact getD_modify g m.slots i j
 rw [e]
 split
 ·exact hg _
 ·exact ⟨rfl,rfl,rfl⟩
theorem qo (m : Mem) : yE m m:=fun _=>⟨rfl,rfl,rfl⟩
theorem fO (m : Mem) (b : Int) : Touch m m b 0:=⟨⟨0,fun s=>s,(fR _ _).symm⟩,rfl,rfl,fun _ _=>rfl,fun _ _=>rfl,rfl,by omega,by omega⟩
theorem mW (m : Mem) (a b : Int) : Touch m (put m a) b 0:=by
 unfold put
 split
 ·exact fO m b
 ·split
  ·exact ⟨⟨_,_,rfl⟩,rfl,rfl,fun _ _=>rfl,fun _ _=>rfl,rfl,by simp;omega,by simp⟩
  ·exact ⟨⟨_,_,rfl⟩,rfl,rfl,fun _ _=>rfl,fun _ _=>rfl,rfl,by simp,by simp⟩
theorem B7 (m : Mem) (a : Int) : yE m (put m a):=by
 unfold put
 split
 ·exact qo m
 ·split <;> exact pk rfl fun _=>⟨rfl,rfl,rfl⟩
theorem nX (m : Mem) (a b : Int) : Touch m (hold m a).1 b 0:=by
 unfold hold
 split
 ·exact fO m b
 ·exact ⟨⟨_,_,rfl⟩,rfl,rfl,fun _ _=>rfl,fun _ _=>rfl,rfl,by simp,by simp⟩
theorem zH (m : Mem) (a : Int) : yE m (hold m a).1:=by
 unfold hold
 split
 ·exact qo m
 ·exact pk rfl fun _=>⟨rfl,rfl,rfl⟩
theorem nV (m : Mem) {b : Int} (t : Int) (h0 : 0≤b) : Touch m (lock m b t).1 b 0:=by
 unfold lock
 split
 ·exact ⟨⟨0,fun s=>s,(fR _ _).symm⟩,rfl,by simp,fun _ _=>rfl,fun _ h=>np _ _ h0 h,rfl,by simp,by simp⟩
 ·exact fO m b
theorem ku (m : Mem) {b : Int} (t : Int) (h0 : 0≤b) : Touch m (unlock m b t) b 0:=by
 unfold unlock
 split
 ·exact ⟨⟨0,fun s=>s,(fR _ _).symm⟩,rfl,by simp,fun _ _=>rfl,fun _ h=>np _ _ h0 h,rfl,by simp,by simp⟩
 ·exact fO m b
theorem nW (m : Mem) (a : Int) {b : Int} (h0 : 0≤b) : Touch m (link m a b) b 0 :=
 ⟨⟨_,_,rfl⟩,by simp [link],rfl,fun _ h=>np _ _ h0 h,fun _ _=>rfl,rfl,by simp [link],by simp [link]⟩
theorem uG (m : Mem) (p a : Int) {b : Int} (h0 : 0≤b) : Touch m (cut m p a b) b 0:=by
 unfold cut
 split
 ·exact ⟨⟨_,_,rfl⟩,by simp,rfl,fun _ _=>rfl,fun _ _=>rfl,rfl,by simp,by simp⟩
 ·exact ⟨⟨0,fun s=>s,(fR _ _).symm⟩,by simp,rfl,fun _ h=>np _ _ h0 h,fun _ _=>rfl,rfl,by simp,by simp⟩
theorem yM (m : Mem) (k : Key) (t b : Int) : Touch m (take m k t).1 b 1:=by
 unfold take
 split
 ·exact ⟨⟨0,fun s=>s,(fR _ _).symm⟩,rfl,rfl,fun _ _=>rfl,fun _ _=>rfl,rfl,by omega,by dsimp only;omega⟩
 ·exact ⟨⟨_,_,rfl⟩,rfl,rfl,fun _ _=>rfl,fun _ _=>rfl,rfl,by simp;omega,by simp;omega⟩
structure vz (m : Mem) (f g : Frm) : Prop where
 c : g.c=f.c
 pc : 0≤g.pc∧g.pc≤9
 n : f.n≤g.n∧g.n≤1000000
 cur : -(m.heads.length : Int)≤g.cur∧g.cur≤m.slots.length
 prev : 0≤g.prev∧g.prev≤m.slots.length
 slot : -1≤g.slot∧g.slot < m.slots.length
 keys : g.keys.length≤100
theorem Touch.len {m x : Mem} {b n : Int} (h : Touch m x b n) : x.slots.length=m.slots.length:=by
 obtain ⟨i,g,e⟩:=h.sl
 rw [e,List.length_modify]
theorem vz.ok {m x : Mem} {f g : Frm} {b n : Int} (h : vz m f g) (hf : bV m f) (ht : Touch m x b n) (hd : g.done=false) : bV x g :=
 hf.with ht.len ht.hl h.c hd h.pc ⟨by have:=h.n.1;have:=hf.n0;omega,h.n.2⟩ h.cur h.prev h.slot h.keys
theorem qV {m : Mem} {f : Frm} (hm : aZ m) (hf : bV m f) (hk : f.c.kind=1) : vz m f (ar m f).1:=by
 have hb:=aQ hm hf.call (by omega)
 have hh:=px hm hb.1 hb.2
 have hn : 0 < f.cur→-(m.heads.length : Int)≤(at1 m f).next∧(at1 m f).next≤m.slots.length:=fun h=>pd hm (by have:=hf.cur1;omega)
 obtain ⟨f1,f2,f3,f4,f5,f6,f7,f8,f9,f10,f11,f12,f13⟩:=id hf
 unfold ar
 repeat' split
 all_goals refine ⟨rfl,?_,?_,?_,?_,?_,?_⟩
 all_goals first
  | exact ⟨by omega,by omega⟩
  | exact hh
  | exact hn (by omega)
  | exact f13
  | (show (f.keys ++ [(at1 m f).k]).length≤100;simp only [List.length_append,List.length_singleton];omega)
  | (dsimp only [ay];exact ⟨by omega,by omega⟩)
theorem mg {m : Mem} {f : Frm} : Touch m (ar m f).2 (aa m f.c) 0∧yE m (ar m f).2∧(ar m f).2.heads=m.heads∧(ar m f).2.ae=m.ae:=by
 unfold ar
 have hH:=pv m (f.cur - 1)
 have hP:=jw m f.slot
 repeat' split
 all_goals first
  | exact ⟨fO m _,qo m,rfl,rfl⟩
  | exact ⟨mW m _ _,B7 m _,hP.2.1,hP.2.2.1⟩
  | exact ⟨nX m _ _,zH m _,hH.2.1,hH.2.2.1⟩
theorem rk {m : Mem} {f : Frm} (t : Int) (hm : aZ m) (hf : bV m f) (hk : f.c.kind=3) : vz m f (aL m f t).1:=by
 have hb:=aQ hm hf.call (by omega)
 have hh:=px hm hb.1 hb.2
 have hn : 0 < f.cur→-(m.heads.length : Int)≤(at1 m f).next∧(at1 m f).next≤m.slots.length:=fun h=>pd hm (by have:=hf.cur1;omega)
 obtain ⟨f1,f2,f3,f4,f5,f6,f7,f8,f9,f10,f11,f12,f13⟩:=id hf
 unfold aL
 repeat' split
 all_goals refine ⟨rfl,?_,?_,?_,?_,?_,?_⟩
 all_goals first
  | exact ⟨by omega,by omega⟩
  | exact hh
  | exact hn (by omega)
  | exact f13
  | (show (f.keys ++ [(at1 m f).k]).length≤100;simp only [List.length_append,List.length_singleton];omega)
  | (dsimp only [ay];exact ⟨by omega,by omega⟩)
theorem gz {m : Mem} {f : Frm} (t : Int) (hm : aZ m) (hf : bV m f) (hk : f.c.kind=3) : Touch m (aL m f t).2 (aa m f.c) 0:=by
 have hb:=aQ hm hf.call (by omega)
 unfold aL
 repeat' split
 all_goals first
  | exact fO m _
  | exact mW m _ _
  | exact nX m _ _
  | exact nV m _ hb.1
  | exact ku m _ hb.1
  | exact nW m _ hb.1
  | exact uG m _ _ hb.1
theorem oT {m : Mem} {f : Frm} (t : Int) (hm : aZ m) (hf : bV m f) (hk : f.c.kind=4∨f.c.kind=5) : vz m f (aB m f t).1:=by
 have hb:=aQ hm hf.call (by omega)
 have hh:=px hm hb.1 hb.2
 have hn : 0 < f.cur→-(m.heads.length : Int)≤(at1 m f).next∧(at1 m f).next≤m.slots.length:=fun h=>pd hm (by have:=hf.cur1;omega)
 obtain ⟨f1,f2,f3,f4,f5,f6,f7,f8,f9,f10,f11,f12,f13⟩:=id hf
 unfold aB
 repeat' split
 all_goals refine ⟨rfl,?_,?_,?_,?_,?_,?_⟩
 all_goals first
  | exact ⟨by omega,by omega⟩
  | exact hh
  | exact hn (by omega)
  | exact f13
  | (show (f.keys ++ [(at1 m f).k]).length≤100;simp only [List.length_append,List.length_singleton];omega)
  | (dsimp only [ay];exact ⟨by omega,by omega⟩)
theorem fF {m : Mem} {f : Frm} (t : Int) (hm : aZ m) (hf : bV m f) (hk : f.c.kind=4∨f.c.kind=5) : Touch m (aB m f t).2 (aa m f.c) 0:=by
 have hb:=aQ hm hf.call (by omega)
 unfold aB
 repeat' split
 all_goals first
  | exact fO m _
  | exact mW m _ _
  | exact nX m _ _
  | exact nV m _ hb.1
  | exact ku m _ hb.1
  | exact nW m _ hb.1
  | exact uG m _ _ hb.1
theorem ud {m : Mem} {f : Frm} (t : Int) (hm : aZ m) (hf : bV m f) (hk : f.c.kind=2) : vz m f (G3 m f t).1:=by
 have hb:=aQ hm hf.call (by omega)
 have hh:=px hm hb.1 hb.2
 have hn : 0 < f.cur→-(m.heads.length : Int)≤(at1 m f).next∧(at1 m f).next≤m.slots.length:=fun h=>pd hm (by have:=hf.cur1;omega)
 obtain ⟨f1,f2,f3,f4,f5,f6,f7,f8,f9,f10,f11,f12,f13⟩:=id hf
 have ht : (take m f.c.k (bE m f)).2.2=0→0≤(take m f.c.k (bE m f)).2.1∧(take m f.c.k (bE m f)).2.1 < m.slots.length:=by
  unfold take
  split
  ·intro h;cases h
  ·rename_i h;exact fun _=>qZ hm h
 unfold G3
 repeat' split
 all_goals refine ⟨rfl,?_,?_,?_,?_,?_,?_⟩
 all_goals first
  | exact ⟨by omega,by omega⟩
  | exact hh
  | exact hn (by omega)
  | exact f13
  | (rename_i h;exact ⟨by have:=ht (Classical.not_not.1 h);dsimp only;omega,(ht (Classical.not_not.1 h)).2⟩)
  | (dsimp only [ay];exact ⟨by omega,by omega⟩)
theorem gW {m : Mem} {f : Frm} (t : Int) (hm : aZ m) (hf : bV m f) (hk : f.c.kind=2) : Touch m (G3 m f t).2 (aa m f.c) 1:=by
 have hb:=aQ hm hf.call (by omega)
 have up : ∀ {x : Mem},Touch m x (aa m f.c) 0→Touch m x (aa m f.c) 1:=fun h=>⟨h.sl,h.hl,h.ll,h.hd,h.lk,h.now,by have:=h.f0;omega,h.f1⟩
 unfold G3
 repeat' split
 all_goals first
  | exact up (fO m _)
  | exact yM m _ _ _
  | exact up (mW m _ _)
  | exact up (nV m _ hb.1)
  | exact up (ku m _ hb.1)
  | exact up (nW m _ hb.1)
theorem nI {m : Mem} {f : Frm} (hm : aZ m) (hf : bV m f) : aZ (ar m f).2:=by
 obtain ⟨f1,f2,f3,f4,f5,f6,f7,f8,f9,f10,f11,f12,f13⟩:=id hf
 unfold ar
 repeat' split
 all_goals first
  | exact hm
  | exact hm.hold (by omega) (by omega)
  | exact hm.put (by omega) (by omega)
theorem uy {m : Mem} {f : Frm} (t : Int) (hm : aZ m) (hf : bV m f) : aZ (aL m f t).2:=by
 obtain ⟨f1,f2,f3,f4,f5,f6,f7,f8,f9,f10,f11,f12,f13⟩:=id hf
 unfold aL
 repeat' split
 all_goals first
  | exact hm
  | exact hm.lock _ _
  | exact hm.unlock _ _
  | exact hm.put (by omega) (by omega)
  | exact hm.cut (by omega) (by omega) (by omega)
theorem sB {m : Mem} {f : Frm} (t : Int) (hm : aZ m) (hf : bV m f) : aZ (aB m f t).2:=by
 obtain ⟨f1,f2,f3,f4,f5,f6,f7,f8,f9,f10,f11,f12,f13⟩:=id hf
 unfold aB
 repeat' split
 all_goals first
  | exact hm
  | exact hm.lock _ _
  | exact hm.unlock _ _
  | exact hm.put (by omega) (by omega)
  | exact hm.cut (by omega) (by omega) (by omega)
theorem wE {m : Mem} {f : Frm} (t : Int) (hm : aZ m) (hf : bV m f) (hk : f.c.kind=2) : aZ (G3 m f t).2:=by
 have hb:=aQ hm hf.call (by omega)
 have hK:=mH hf.call (by omega)
 have ht:=nv hf.call hk
 have n0:=hm.ma
 have n1:=hm.Ik
 obtain ⟨f1,f2,f3,f4,f5,f6,f7,f8,f9,f10,f11,f12,f13⟩:=id hf
 unfold G3
 repeat' split
 all_goals first
  | exact hm
  | exact hm.lock _ _
  | exact hm.unlock _ _
  | exact hm.put (by omega) (by omega)
  | exact hm.link (by omega) (by omega) hb.1 hb.2
  | (refine hm.take hK ?_ ?_ <;> unfold bE <;> split <;> omega)
end Go.Proofs.Ytpmamacjepcdmaa
