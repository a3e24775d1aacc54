import Derived.Test.YtpmamacjepcdmaaCRef
import Derived.Test.YtpmamacjepcdmaaCStep
namespace Go.Proofs.Ytpmamacjepcdmaa
open Go Go.Sy Go.RowKit
theorem getD_modify {α : Type} [Inhabited α] (f : α→α) : ∀ (l : List α) (a i : Nat),(l.modify a f).getD i default=if a=i∧a < l.length then f (l.getD i default) else l.getD i default
 | [],a,i=>by simp
 | x :: l,0,0=>by simp
 | x :: l,0,i + 1=>by simp
 | x :: l,a + 1,0=>by simp
 | x :: l,a + 1,i + 1=>by
  have:=getD_modify f l a i
  simp only [List.modify_succ_cons,List.getD_cons_succ,this,List.length_cons,Nat.add_lt_add_iff_right,Nat.add_right_cancel_iff]
theorem sV {α : Type} [Inhabited α] {P : α→Prop} {l : List α} (h : ∀ i,i < l.length→P (l.getD i default)) : ∀ s∈l,P s:=fun s hs=>by
 obtain ⟨i,hi,rfl⟩:=List.getElem_of_mem hs
 have:=h i hi
 rwa [List.getD_eq_getElem?_getD,List.getElem?_eq_getElem hi,Option.getD_some] at this
theorem xO {α : Type} [Inhabited α] {l m : List α} (hl : l.length=m.length) (h : ∀ i,i < l.length→l.getD i default=m.getD i default) : l=m:=by
 apply List.ext_getElem hl
 intro i h1 h2
 have:=h i h1
 rwa [List.getD_eq_getElem?_getD,List.getD_eq_getElem?_getD,List.getElem?_eq_getElem h1,List.getElem?_eq_getElem h2,Option.getD_some,Option.getD_some] at this
theorem modify_id {α : Type} [Inhabited α] (f : α→α) (l : List α) (a : Nat) (h : f (l.getD a default)=l.getD a default) : l.modify a f=l:=by
 refine xO (by simp) fun i _=>?_
 rw [getD_modify]
 split
 ·rename_i hx;rw [← hx.1,h]
 ·rfl
def ez (m : Mem) (a : Nat) (f : bq→bq) (free : List Int) : Mem:={ m with slots:=m.slots.modify a f,free:=free}
theorem lf (m : Mem) (a : Nat) (f : bq→bq) (free : List Int) (i : Nat) : msl (ez m a f free) i=if a=i∧a < m.slots.length then f (msl m i) else msl m i:=getD_modify f m.slots a i
theorem pM (m : Mem) (a : Nat) (f : bq→bq) (free : List Int) : (ez m a f free).slots.length=m.slots.length:=by simp [ez]
theorem cr.ez {m : Mem} (h : cr m) {a : Nat} {f : bq→bq} {free : List Int} (ha : a < m.slots.length) (hs : jR m.slots.length m.heads.length (f (msl m a)))
  (hf : ∀ b∈free,0≤b∧b < m.slots.length∧(if a=b.toNat then (f (msl m a)).refs=0 else (msl m b.toNat).refs=0)) (hn : free.Nodup)
  (hl : ∀ i,i < m.slots.length→(if a=i then (f (msl m a)).refs=0 else (msl m i).refs=0)→(i : Int)∈free) : cr (ez m a f free):=by
 have e:=pM m a f free
 refine ⟨by rw [e];exact h.ns,h.nh1,h.nh4,h.nl,h.oN,h.oM,?_,by rw [e];exact h.head,fun b hb=>?_,hn,fun i hi hr=>?_⟩
 ·rw [e]
  refine sV fun i hi=>?_
  have : i < m.slots.length:=by rw [e] at hi;exact hi
  show jR _ _ (msl (Ytpmamacjepcdmaa.ez m a f free) i)
  rw [lf]
  split
  ·rename_i hx;rw [← hx.1];exact hs
  ·exact h.sl this
 ·obtain ⟨h1,h2,h3⟩:=hf b hb
  refine ⟨h1,by rw [e];exact h2,?_⟩
  rw [lf]
  by_cases hx : a=b.toNat
  ·rw [if_pos hx] at h3
   rw [if_pos ⟨hx,ha⟩,← hx];exact h3
  ·rw [if_neg hx] at h3
   rw [if_neg (fun y=>hx y.1)];exact h3
 ·rw [e] at hi
  rw [lf] at hr
  refine hl i hi ?_
  by_cases hx : a=i
  ·rw [if_pos hx]
   rw [if_pos ⟨hx,ha⟩,← hx] at hr;exact hr
  ·rw [if_neg hx]
   rw [if_neg (fun y=>hx y.1)] at hr;exact hr
theorem ud {m : Mem} (h : m.free.length≠0) : m.free=m.free.take (m.free.length - 1) ++ [bG m]:=by
 have h1 : m.free.length - 1 < m.free.length:=by omega
 have e : m.free.take (m.free.length - 1 + 1)=m.free:=by rw [List.take_of_length_le (by omega)]
 rw [List.take_succ_eq_append_getElem h1] at e
 unfold bG
 rw [List.getD_eq_getElem?_getD,List.getElem?_eq_getElem h1,Option.getD_some,e]
theorem yx {m : Mem} (h : cr m) {k : Key} {till : Int} (hn : m.free.length≠0) (hk : Key.Ok k) (h0 : 0≤till) (h1 : till≤2000000) : cr (ez m (bG m).toNat (gj k till) (m.free.take (m.free.length - 1))):=by
 have hl:=h.free _ (qX hn)
 have hlt : (bG m).toNat < m.slots.length:=by omega
 have hs:=h.sl hlt
 have hsp:=ud hn
 have hnd:=h.nodup
 rw [hsp] at hnd
 have hnd:=List.nodup_append.1 hnd
 have hnot : ∀ b∈m.free.take (m.free.length - 1),b≠bG m:=fun b hb=>hnd.2.2 b hb (bG m) (by simp)
 refine h.ez hlt ⟨?_,?_,h0,h1,hk,hs.n0,hs.n1⟩ (fun b hb=>?_) hnd.1 (fun i hi hr=>?_)
 ·simp [gj]
 ·simp [gj]
 ·have:=h.free b (by rw [hsp];simp [hb])
  refine ⟨this.1,this.2.1,?_⟩
  rw [if_neg]
  ·exact this.2.2
  ·intro e
   exact hnot b hb (by omega)
 ·split at hr
  ·simp [gj] at hr
  ·rename_i hne
   have:=h.leak i hi hr
   rw [hsp,List.mem_append,List.mem_singleton] at this
   rcases this with h2 | h2
   ·exact h2
   ·exact absurd (by omega) hne
theorem uG {m : Mem} (hm : cr m) {a : Nat} {n : Int} (h1 : a < m.slots.length) (h0 : 1≤(msl m a).refs) (h2 : 1≤(msl m a).refs + n) (h3 : (msl m a).refs + n≤1000) : cr (ez m a (eg n) m.free):=by
 have hs:=hm.sl h1
 refine hm.ez h1 ⟨by show 0≤(msl m a).refs + n;omega,h3,hs.t0,hs.t1,hs.k,hs.n0,hs.n1⟩ (fun b hb=>?_) hm.nodup (fun i hi hr=>?_)
 ·have:=hm.free b hb
  refine ⟨this.1,this.2.1,?_⟩
  rw [if_neg (fun e=>by rw [e] at h0;omega)]
  exact this.2.2
 ·split at hr
  ·have hr : (msl m a).refs + n=0:=hr
   omega
  ·exact hm.leak i hi hr
theorem xK {m : Mem} (hm : cr m) {a : Int} (h0 : 0≤a) (h1 : a < m.slots.length) (h2 : (msl m a.toNat).refs=1) : cr (ez m a.toNat (eg (-1)) (m.free ++ [a])):=by
 have hlt : a.toNat < m.slots.length:=by omega
 have hs:=hm.sl hlt
 have hna : a ∉ m.free:=fun h=>by have:=(hm.free a h).2.2;omega
 refine hm.ez hlt ⟨by show 0≤(msl m a.toNat).refs + -1;omega,by show (msl m a.toNat).refs + -1≤1000;omega,hs.t0,hs.t1,hs.k,hs.n0,hs.n1⟩ (fun b hb=>?_) ?_ (fun i hi hr=>?_)
 ·rcases List.mem_append.1 hb with hb | hb
  ·have:=hm.free b hb
   refine ⟨this.1,this.2.1,?_⟩
   rw [if_neg (fun e=>by
    have : a=b:=by omega
    exact hna (by rw [this];exact hb))]
   exact this.2.2
  ·rw [List.mem_singleton] at hb
   subst hb
   refine ⟨h0,h1,?_⟩
   rw [if_pos rfl]
   show (msl m b.toNat).refs + -1=0
   omega
 ·exact List.nodup_append.2 ⟨hm.nodup,by simp,fun x hx y hy=>by
   rw [List.mem_singleton] at hy
   subst hy
   intro e
   exact hna (by rw [← e];exact hx)⟩
 ·split at hr
  ·rename_i e
   rw [List.mem_append,List.mem_singleton]
   right;omega
  ·rw [List.mem_append]
   exact .inl (hm.leak i hi hr)
end Go.Proofs.Ytpmamacjepcdmaa

namespace Go.Proofs.Ytpmamacjepcdmaa
open Go Go.Sy Go.RowKit
set_option linter.unusedSimpArgs false
set_option linter.unusedVariables false
theorem pU {m x : Mem} (h1 : x.slots.length=m.slots.length) (h2 : x.heads.length=m.heads.length) (c : Cal) : bg x c=bg m c:=by
 unfold bg
 rw [h1,h2]
theorem bL.with {m x : Mem} {f g : Frm} (h : bL m f) (h1 : x.slots.length=m.slots.length) (h2 : x.heads.length=m.heads.length) (hc : g.c=f.c) (hd : g.done=false)
  (pc : 0≤g.pc∧g.pc≤9) (n : 0≤g.n∧g.n≤1000000) (cur : -(m.heads.length : Int)≤g.cur∧g.cur≤m.slots.length) (prev : 0≤g.prev∧g.prev≤m.slots.length)
  (slot : -1≤g.slot∧g.slot < m.slots.length) (keys : g.keys.length≤100) : bL x g :=
 ⟨by rw [hc,pU h1 h2];exact h.call,pc.1,pc.2,n.1,n.2,hd,by rw [h2];exact cur.1,by rw [h1];exact cur.2,prev.1,by rw [h1];exact prev.2,slot.1,by rw [h1];exact slot.2,keys⟩
theorem sq (m : Mem) (a : Int) : (hold m a).1.slots.length=m.slots.length∧(hold m a).1.heads=m.heads∧(hold m a).1.kM=m.kM∧(hold m a).1.now=m.now:=by
 unfold hold
 split
 ·exact ⟨rfl,rfl,rfl,rfl⟩
 ·exact ⟨by simp,rfl,rfl,rfl⟩
theorem qO (m : Mem) (a : Int) : (put m a).slots.length=m.slots.length∧(put m a).heads=m.heads∧(put m a).kM=m.kM∧(put m a).now=m.now:=by
 unfold put
 split
 ·exact ⟨rfl,rfl,rfl,rfl⟩
 ·split <;> exact ⟨by simp,rfl,rfl,rfl⟩
theorem yR (m : Mem) (a : Int) : fix (put m a)=put (fix m) a:=by
 have e : msl (fix m) a.toNat=msl m a.toNat:=rfl
 unfold put
 rw [e]
 split
 ·rfl
 ·split <;> rfl
theorem xM (m : Mem) (a : Int) : fix (hold m a).1=(hold (fix m) a).1:=by
 have e : msl (fix m) a.toNat=msl m a.toNat:=rfl
 unfold hold
 rw [e]
 split <;> rfl
theorem yM {m : Mem} (hm : cr m) {a : Int} (h0 : 0≤a) (h1 : a < m.slots.length) : cr (hold m a).1:=by
 unfold hold
 split
 ·exact hm
 ·rename_i h
  have hs:=hm.sl (i:=a.toNat) (by omega)
  have r0:=hs.r0
  have r1:=hs.r1
  exact uG hm (a:=a.toNat) (n:=1) (by omega) (by omega) (by omega) (by omega)
theorem A6 {m : Mem} (hm : cr m) {a : Int} (h0 : 0≤a) (h1 : a < m.slots.length) : cr (put m a):=by
 unfold put
 split
 ·exact hm
 ·rename_i h
  have hs:=hm.sl (i:=a.toNat) (by omega)
  have r0:=hs.r0
  have r1:=hs.r1
  split
  ·rename_i h'
   exact xK hm h0 h1 h'
  ·rename_i h'
   exact uG hm (a:=a.toNat) (n:=-1) (by omega) (by omega) (by omega) (by omega)
theorem wJ {m : Mem} (hm : cr m) {k : Key} {t : Int} (hk : Key.Ok k) (h0 : 0≤t) (h1 : t≤2000000) : cr (take m k t).1:=by
 unfold take
 split
 ·exact hm
 ·rename_i h;exact yx hm h hk h0 h1
theorem uQ {m : Mem} (hm : cr m) {a : Nat} {f : bq→bq} (ha : a < m.slots.length) (h1 : ∀ s,(f s).refs=s.refs) (hs : jR m.slots.length m.heads.length (f (msl m a))) : cr (ez m a f m.free):=by
 refine cr.ez hm ha hs (fun b hb=>?_) hm.nodup fun i hi hr=>?_
 ·obtain ⟨k1,k2,k3⟩:=hm.free b hb
  refine ⟨k1,k2,?_⟩
  split
  ·rename_i e;rw [h1,e];exact k3
  ·exact k3
 ·refine hm.leak i hi ?_
  split at hr
  ·rename_i e;rw [h1,e] at hr;exact hr
  ·exact hr
theorem aO.put {m : Mem} (hm : aO m) {a : Int} (h0 : 0≤a) (h1 : a < m.slots.length) : aO (put m a):=by
 obtain ⟨e1,e2,e3,_⟩:=qO m a
 exact ⟨by rw [yR];exact A6 hm.fx h0 h1,by rw [e2,e3];exact hm.nl,by rw [e1,e2];exact hm.hd⟩
theorem aO.hold {m : Mem} (hm : aO m) {a : Int} (h0 : 0≤a) (h1 : a < m.slots.length) : aO (hold m a).1:=by
 obtain ⟨e1,e2,e3,_⟩:=sq m a
 exact ⟨by rw [xM];exact yM hm.fx h0 h1,by rw [e2,e3];exact hm.nl,by rw [e1,e2];exact hm.hd⟩
theorem aO.take {m : Mem} (hm : aO m) {k : Key} {t : Int} (hk : Key.Ok k) (h0 : 0≤t) (h1 : t≤2000000) : aO (take m k t).1:=by
 have e : fix (Ytpmamacjepcdmaa.take m k t).1=(Ytpmamacjepcdmaa.take (fix m) k t).1:=by
  unfold Ytpmamacjepcdmaa.take
  show _=(if m.free.length=0 then _ else _ : Mem × Int × Int).1
  split <;> rfl
 have e2 : (Ytpmamacjepcdmaa.take m k t).1.slots.length=m.slots.length∧(Ytpmamacjepcdmaa.take m k t).1.heads=m.heads∧(Ytpmamacjepcdmaa.take m k t).1.kM=m.kM:=by
  unfold Ytpmamacjepcdmaa.take
  split
  ·exact ⟨rfl,rfl,rfl⟩
  ·exact ⟨by simp,rfl,rfl⟩
 exact ⟨by rw [e];exact wJ hm.fx hk h0 h1,by rw [e2.2.1,e2.2.2];exact hm.nl,by rw [e2.1,e2.2.1];exact hm.hd⟩
theorem aO.lock {m : Mem} (hm : aO m) (b t : Int) : aO (lock m b t).1:=by
 unfold Ytpmamacjepcdmaa.lock
 split
 ·exact ⟨hm.fx,by simp [hm.nl],hm.hd⟩
 ·exact hm
theorem aO.unlock {m : Mem} (hm : aO m) (b t : Int) : aO (unlock m b t):=by
 unfold Ytpmamacjepcdmaa.unlock
 split
 ·exact ⟨hm.fx,by simp [hm.nl],hm.hd⟩
 ·exact hm
theorem vc (m : Mem) (s : List bq) (b : Nat) (v : Int) : fix { m with slots:=s,heads:=m.heads.set b v}={ fix m with slots:=s}:=by
 simp [fix]
theorem wS {m : Mem} (hm : aO m) {b : Nat} {v : Int} (h0 : -(m.heads.length : Int)≤v) (h1 : v≤m.slots.length) (i : Nat) (hi : i < m.heads.length) : -(m.heads.length : Int)≤(m.heads.set b v).getD i 0∧(m.heads.set b v).getD i 0≤m.slots.length:=by
 by_cases e : b=i
 ·subst e
  rw [List.getD_eq_getElem?_getD,List.getElem?_set_self hi]
  exact ⟨h0,h1⟩
 ·rw [List.getD_eq_getElem?_getD,List.getElem?_set_ne e,← List.getD_eq_getElem?_getD]
  exact hm.hd i hi
theorem ma {m : Mem} (hm : aO m) {b : Int} (h0 : 0≤b) (h1 : b < m.heads.length) : -(m.heads.length : Int)≤cV m b∧cV m b≤m.slots.length:=hm.hd b.toNat (by omega)
theorem lU {m : Mem} (hm : aO m) {a : Nat} (h : a < m.slots.length) : -(m.heads.length : Int)≤(msl m a).next∧(msl m a).next≤m.slots.length:=by
 have:=hm.sl h
 exact ⟨this.n1,this.n0⟩
theorem aO.link {m : Mem} (hm : aO m) {a b : Int} (h0 : 0≤a) (h1 : a < m.slots.length) (h2 : 0≤b) (h3 : b < m.heads.length) : aO (link m a b):=by
 have hs:=hm.fx.sl (i:=a.toNat) (by show _ < m.slots.length;omega)
 have hh:=ma hm h2 h3
 have l1 : (Ytpmamacjepcdmaa.link m a b).slots.length=m.slots.length:=by simp [Ytpmamacjepcdmaa.link]
 have l2 : (Ytpmamacjepcdmaa.link m a b).heads.length=m.heads.length:=by simp [Ytpmamacjepcdmaa.link]
 refine ⟨?_,by rw [l2];exact hm.nl,?_⟩
 ·show cr (fix { m with slots:=_,heads:=m.heads.set b.toNat (a + 1)})
  rw [vc]
  exact uQ hm.fx (a:=a.toNat) (f:=o0 (cV m b)) (by show _ < m.slots.length;omega) (fun _=>rfl) ⟨hs.r0,hs.r1,hs.t0,hs.t1,hs.k,hh.2,by rw [dV];exact hh.1⟩
 ·rw [l1,l2];exact wS hm (by omega) (by omega)
theorem aO.cut {m : Mem} (hm : aO m) {p a b : Int} (h0 : 0≤a) (h1 : a < m.slots.length) (hp : p≤m.slots.length) : aO (cut m p a b):=by
 have hn:=lU hm (a:=a.toNat) (by omega)
 unfold Ytpmamacjepcdmaa.cut
 split
 ·have hs:=hm.fx.sl (i:=(p - 1).toNat) (by show _ < m.slots.length;omega)
  refine ⟨?_,hm.nl,by simpa using hm.hd⟩
  exact uQ hm.fx (a:=(p - 1).toNat) (f:=xg (msl m a.toNat).next) (by show _ < m.slots.length;omega) (fun _=>rfl) ⟨hs.r0,hs.r1,hs.t0,hs.t1,hs.k,hn.2,by rw [dV];exact hn.1⟩
 ·refine ⟨?_,by simp [hm.nl],by simpa using wS hm hn.1 hn.2⟩
  have:=vc m m.slots b.toNat (msl m a.toNat).next
  rw [this]
  exact hm.fx
end Go.Proofs.Ytpmamacjepcdmaa
