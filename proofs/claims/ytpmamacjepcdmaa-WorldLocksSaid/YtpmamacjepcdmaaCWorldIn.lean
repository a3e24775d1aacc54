import Derived.Test.YtpmamacjepcdmaaCStepLaws
import Derived.Test.YtpmamacjepcdmaaCWorld4
namespace Go.Proofs.Ytpmamacjepcdmaa
open Go Go.Sy Go.RowKit
set_option linter.unusedSimpArgs false
set_option linter.unusedVariables false
structure Touch (m x : Mem) (b : Int) (free : Int) : Prop where
 sl : ∃ i g,x.slots=m.slots.modify i g
 hl : x.heads.length=m.heads.length
 ll : x.kM.length=m.kM.length
 hd : ∀ i : Nat,(i : Int)≠b→x.heads.getD i 0=m.heads.getD i 0
 lk : ∀ i : Nat,(i : Int)≠b→x.kM.getD i 0=m.kM.getD i 0
 now : x.now=m.now
 f0 : (m.free.length : Int) - free≤x.free.length
 f1 : x.free.length≤m.free.length + 1
def tc (m x : Mem) : Prop:=∀ i : Nat,(msl x i).k=(msl m i).k∧(msl x i).till=(msl m i).till∧(msl x i).inn=(msl m i).inn
theorem eJ {α : Type} : ∀ (l : List α) (i : Nat),l.modify i (fun a=>a)=l
 | [],_=>by simp
 | a :: l,0=>by simp
 | a :: l,i + 1=>by simp [eJ l i]
theorem kj (l : List Int) {a : Int} (v : Int) {i : Nat} (h0 : 0≤a) (h : (i : Int)≠a) : (l.set a.toNat v).getD i 0=l.getD i 0:=by
 rw [List.getD_eq_getElem?_getD,List.getElem?_set_ne (by omega),← List.getD_eq_getElem?_getD]
theorem Bo {m x : Mem} {i : Nat} {g : bq→bq} (h : x.slots=m.slots.modify i g) (hg : ∀ s,(g s).k=s.k∧(g s).till=s.till∧(g s).inn=s.inn) : tc m x:=fun j=>by
 have e : msl x j=if i=j∧i < m.slots.length then g (msl m j) else msl m j:=by
  show x.slots.getD j default=_
  rw [h];exact getD_modify g m.slots i j
 rw [e]
 split
 ·exact hg _
 ·exact ⟨rfl,rfl,rfl⟩
theorem mL (m : Mem) : tc m m:=fun _=>⟨rfl,rfl,rfl⟩
theorem eG (m : Mem) (b : Int) : Touch m m b 0:=⟨⟨0,fun s=>s,(eJ _ _).symm⟩,rfl,rfl,fun _ _=>rfl,fun _ _=>rfl,rfl,by omega,by omega⟩
theorem jV (m : Mem) (a b : Int) : Touch m (put m a) b 0:=by
 unfold put
 split
 ·exact eG m b
 ·split
  ·exact ⟨⟨_,_,rfl⟩,rfl,rfl,fun _ _=>rfl,fun _ _=>rfl,rfl,by simp;omega,by simp⟩
  ·exact ⟨⟨_,_,rfl⟩,rfl,rfl,fun _ _=>rfl,fun _ _=>rfl,rfl,by simp,by simp⟩
theorem v9 (m : Mem) (a : Int) : tc m (put m a):=by
 unfold put
 split
 ·exact mL m
 ·split <;> exact Bo rfl fun _=>⟨rfl,rfl,rfl⟩
theorem kX (m : Mem) (a b : Int) : Touch m (hold m a).1 b 0:=by
 unfold hold
 split
 ·exact eG m b
 ·exact ⟨⟨_,_,rfl⟩,rfl,rfl,fun _ _=>rfl,fun _ _=>rfl,rfl,by simp,by simp⟩
theorem tV (m : Mem) (a : Int) : tc m (hold m a).1:=by
 unfold hold
 split
 ·exact mL m
 ·exact Bo rfl fun _=>⟨rfl,rfl,rfl⟩
theorem kU (m : Mem) {b : Int} (t : Int) (h0 : 0≤b) : Touch m (lock m b t).1 b 0:=by
 unfold lock
 split
 ·exact ⟨⟨0,fun s=>s,(eJ _ _).symm⟩,rfl,by simp,fun _ _=>rfl,fun _ h=>kj _ _ h0 h,rfl,by simp,by simp⟩
 ·exact eG m b
theorem iv (m : Mem) {b : Int} (t : Int) (h0 : 0≤b) : Touch m (unlock m b t) b 0:=by
 unfold unlock
 split
 ·exact ⟨⟨0,fun s=>s,(eJ _ _).symm⟩,rfl,by simp,fun _ _=>rfl,fun _ h=>kj _ _ h0 h,rfl,by simp,by simp⟩
 ·exact eG m b
theorem kV (m : Mem) (a : Int) {b : Int} (h0 : 0≤b) : Touch m (link m a b) b 0 :=
 ⟨⟨_,_,rfl⟩,by simp [link],rfl,fun _ h=>kj _ _ h0 h,fun _ _=>rfl,rfl,by simp [link],by simp [link]⟩
theorem qa (m : Mem) (p a : Int) {b : Int} (h0 : 0≤b) : Touch m (cut m p a b) b 0:=by
 unfold cut
 split
 ·exact ⟨⟨_,_,rfl⟩,by simp,rfl,fun _ _=>rfl,fun _ _=>rfl,rfl,by simp,by simp⟩
 ·exact ⟨⟨0,fun s=>s,(eJ _ _).symm⟩,by simp,rfl,fun _ h=>kj _ _ h0 h,fun _ _=>rfl,rfl,by simp,by simp⟩
theorem tq (m : Mem) (k : Key) (t b : Int) : Touch m (take m k t).1 b 1:=by
 unfold take
 split
 ·exact ⟨⟨0,fun s=>s,(eJ _ _).symm⟩,rfl,rfl,fun _ _=>rfl,fun _ _=>rfl,rfl,by omega,by dsimp only;omega⟩
 ·exact ⟨⟨_,_,rfl⟩,rfl,rfl,fun _ _=>rfl,fun _ _=>rfl,rfl,by simp;omega,by simp;omega⟩
structure qE (m : Mem) (f g : Frm) : Prop where
 c : g.c=f.c
 pc : 0≤g.pc∧g.pc≤9
 n : f.n≤g.n∧g.n≤1000000
 cur : -(m.heads.length : Int)≤g.cur∧g.cur≤m.slots.length
 prev : 0≤g.prev∧g.prev≤m.slots.length
 slot : -1≤g.slot∧g.slot < m.slots.length
 keys : g.keys.length≤100
theorem Touch.len {m x : Mem} {b n : Int} (h : Touch m x b n) : x.slots.length=m.slots.length:=by
 obtain ⟨i,g,e⟩:=h.sl
 rw [e,List.length_modify]
theorem qE.ok {m x : Mem} {f g : Frm} {b n : Int} (h : qE m f g) (hf : bL m f) (ht : Touch m x b n) (hd : g.done=false) : bL x g :=
 hf.with ht.len ht.hl h.c hd h.pc ⟨by have:=h.n.1;have:=hf.n0;omega,h.n.2⟩ h.cur h.prev h.slot h.keys
theorem sj {m : Mem} {f : Frm} (hm : aO m) (hf : bL m f) (hk : f.c.kind=1) : qE m f (bw m f).1:=by
 have hb:=bl hm hf.call (by omega)
 have hh:=ma hm hb.1 hb.2
 have hn : 0 < f.cur→-(m.heads.length : Int)≤(at1 m f).next∧(at1 m f).next≤m.slots.length:=fun h=>lU hm (by have:=hf.cur1;omega)
 obtain ⟨f1,f2,f3,f4,f5,f6,f7,f8,f9,f10,f11,f12,f13⟩:=id hf
 unfold bw
 repeat' split
 all_goals refine ⟨rfl,?_,?_,?_,?_,?_,?_⟩
 all_goals first
  | exact ⟨by omega,by omega⟩
  | exact hh
  | exact hn (by omega)
  | exact f13
  | (show (f.keys ++ [(at1 m f).k]).length≤100;simp only [List.length_append,List.length_singleton];omega)
  | (dsimp only [aF];exact ⟨by omega,by omega⟩)
theorem oZ {m : Mem} {f : Frm} : Touch m (bw m f).2 (ay m f.c) 0∧tc m (bw m f).2∧(bw m f).2.heads=m.heads∧(bw m f).2.kM=m.kM:=by
 unfold bw
 have hH:=sq m (f.cur - 1)
 have hP:=qO m f.slot
 repeat' split
 all_goals first
  | exact ⟨eG m _,mL m,rfl,rfl⟩
  | exact ⟨jV m _ _,v9 m _,hP.2.1,hP.2.2.1⟩
  | exact ⟨kX m _ _,tV m _,hH.2.1,hH.2.2.1⟩
theorem sE {m : Mem} {f : Frm} (t : Int) (hm : aO m) (hf : bL m f) (hk : f.c.kind=3) : qE m f (bS m f t).1:=by
 have hb:=bl hm hf.call (by omega)
 have hh:=ma hm hb.1 hb.2
 have hn : 0 < f.cur→-(m.heads.length : Int)≤(at1 m f).next∧(at1 m f).next≤m.slots.length:=fun h=>lU hm (by have:=hf.cur1;omega)
 obtain ⟨f1,f2,f3,f4,f5,f6,f7,f8,f9,f10,f11,f12,f13⟩:=id hf
 unfold bS
 repeat' split
 all_goals refine ⟨rfl,?_,?_,?_,?_,?_,?_⟩
 all_goals first
  | exact ⟨by omega,by omega⟩
  | exact hh
  | exact hn (by omega)
  | exact f13
  | (show (f.keys ++ [(at1 m f).k]).length≤100;simp only [List.length_append,List.length_singleton];omega)
  | (dsimp only [aF];exact ⟨by omega,by omega⟩)
theorem py {m : Mem} {f : Frm} (t : Int) (hm : aO m) (hf : bL m f) (hk : f.c.kind=3) : Touch m (bS m f t).2 (ay m f.c) 0:=by
 have hb:=bl hm hf.call (by omega)
 unfold bS
 repeat' split
 all_goals first
  | exact eG m _
  | exact jV m _ _
  | exact kX m _ _
  | exact kU m _ hb.1
  | exact iv m _ hb.1
  | exact kV m _ hb.1
  | exact qa m _ _ hb.1
theorem qJ {m : Mem} {f : Frm} (t : Int) (hm : aO m) (hf : bL m f) (hk : f.c.kind=4∨f.c.kind=5) : qE m f (bB m f t).1:=by
 have hb:=bl hm hf.call (by omega)
 have hh:=ma hm hb.1 hb.2
 have hn : 0 < f.cur→-(m.heads.length : Int)≤(at1 m f).next∧(at1 m f).next≤m.slots.length:=fun h=>lU hm (by have:=hf.cur1;omega)
 obtain ⟨f1,f2,f3,f4,f5,f6,f7,f8,f9,f10,f11,f12,f13⟩:=id hf
 unfold bB
 repeat' split
 all_goals refine ⟨rfl,?_,?_,?_,?_,?_,?_⟩
 all_goals first
  | exact ⟨by omega,by omega⟩
  | exact hh
  | exact hn (by omega)
  | exact f13
  | (show (f.keys ++ [(at1 m f).k]).length≤100;simp only [List.length_append,List.length_singleton];omega)
  | (dsimp only [aF];exact ⟨by omega,by omega⟩)
theorem nJ {m : Mem} {f : Frm} (t : Int) (hm : aO m) (hf : bL m f) (hk : f.c.kind=4∨f.c.kind=5) : Touch m (bB m f t).2 (ay m f.c) 0:=by
 have hb:=bl hm hf.call (by omega)
 unfold bB
 repeat' split
 all_goals first
  | exact eG m _
  | exact jV m _ _
  | exact kX m _ _
  | exact kU m _ hb.1
  | exact iv m _ hb.1
  | exact kV m _ hb.1
  | exact qa m _ _ hb.1
theorem uu {m : Mem} {f : Frm} (t : Int) (hm : aO m) (hf : bL m f) (hk : f.c.kind=2) : qE m f (cx m f t).1:=by
 have hb:=bl hm hf.call (by omega)
 have hh:=ma hm hb.1 hb.2
 have hn : 0 < f.cur→-(m.heads.length : Int)≤(at1 m f).next∧(at1 m f).next≤m.slots.length:=fun h=>lU hm (by have:=hf.cur1;omega)
 obtain ⟨f1,f2,f3,f4,f5,f6,f7,f8,f9,f10,f11,f12,f13⟩:=id hf
 have ht : (take m f.c.k (ck m f)).2.2=0→0≤(take m f.c.k (ck m f)).2.1∧(take m f.c.k (ck m f)).2.1 < m.slots.length:=by
  unfold take
  split
  ·intro h;cases h
  ·rename_i h;exact fun _=>nk hm h
 unfold cx
 repeat' split
 all_goals refine ⟨rfl,?_,?_,?_,?_,?_,?_⟩
 all_goals first
  | exact ⟨by omega,by omega⟩
  | exact hh
  | exact hn (by omega)
  | exact f13
  | (rename_i h;exact ⟨by have:=ht (Classical.not_not.1 h);dsimp only;omega,(ht (Classical.not_not.1 h)).2⟩)
  | (dsimp only [aF];exact ⟨by omega,by omega⟩)
theorem pW {m : Mem} {f : Frm} (t : Int) (hm : aO m) (hf : bL m f) (hk : f.c.kind=2) : Touch m (cx m f t).2 (ay m f.c) 1:=by
 have hb:=bl hm hf.call (by omega)
 have up : ∀ {x : Mem},Touch m x (ay m f.c) 0→Touch m x (ay m f.c) 1:=fun h=>⟨h.sl,h.hl,h.ll,h.hd,h.lk,h.now,by have:=h.f0;omega,h.f1⟩
 unfold cx
 repeat' split
 all_goals first
  | exact up (eG m _)
  | exact tq m _ _ _
  | exact up (jV m _ _)
  | exact up (kU m _ hb.1)
  | exact up (iv m _ hb.1)
  | exact up (kV m _ hb.1)
theorem kD {m : Mem} {f : Frm} (hm : aO m) (hf : bL m f) : aO (bw m f).2:=by
 obtain ⟨f1,f2,f3,f4,f5,f6,f7,f8,f9,f10,f11,f12,f13⟩:=id hf
 unfold bw
 repeat' split
 all_goals first
  | exact hm
  | exact hm.hold (by omega) (by omega)
  | exact hm.put (by omega) (by omega)
theorem pS {m : Mem} {f : Frm} (t : Int) (hm : aO m) (hf : bL m f) : aO (bS m f t).2:=by
 obtain ⟨f1,f2,f3,f4,f5,f6,f7,f8,f9,f10,f11,f12,f13⟩:=id hf
 unfold bS
 repeat' split
 all_goals first
  | exact hm
  | exact hm.lock _ _
  | exact hm.unlock _ _
  | exact hm.put (by omega) (by omega)
  | exact hm.cut (by omega) (by omega) (by omega)
theorem oz {m : Mem} {f : Frm} (t : Int) (hm : aO m) (hf : bL m f) : aO (bB m f t).2:=by
 obtain ⟨f1,f2,f3,f4,f5,f6,f7,f8,f9,f10,f11,f12,f13⟩:=id hf
 unfold bB
 repeat' split
 all_goals first
  | exact hm
  | exact hm.lock _ _
  | exact hm.unlock _ _
  | exact hm.put (by omega) (by omega)
  | exact hm.cut (by omega) (by omega) (by omega)
theorem ru {m : Mem} {f : Frm} (t : Int) (hm : aO m) (hf : bL m f) (hk : f.c.kind=2) : aO (cx m f t).2:=by
 have hb:=bl hm hf.call (by omega)
 have hK:=sM hf.call (by omega)
 have ht:=mT hf.call hk
 have n0:=hm.oN
 have n1:=hm.oM
 obtain ⟨f1,f2,f3,f4,f5,f6,f7,f8,f9,f10,f11,f12,f13⟩:=id hf
 unfold cx
 repeat' split
 all_goals first
  | exact hm
  | exact hm.lock _ _
  | exact hm.unlock _ _
  | exact hm.put (by omega) (by omega)
  | exact hm.link (by omega) (by omega) hb.1 hb.2
  | (refine hm.take hK ?_ ?_ <;> unfold ck <;> split <;> omega)
end Go.Proofs.Ytpmamacjepcdmaa

namespace Go.Proofs.Ytpmamacjepcdmaa
open Go Go.Sy Go.RowKit
set_option linter.unusedSimpArgs false
set_option linter.unusedVariables false
structure ij (n : Nat) (w : Wrd) : Prop where
 m : aO w.m
 t : ∀ t∈w.ts,t.own=true∧t.held.length≤n∧(t.busy=true→bL w.m t.f)
theorem ij.in {n : Nat} {w : Wrd} (h : ij n w) (hn : n≤10000) : WIn w:=⟨h.m,fun t ht=>⟨(h.t t ht).1,by have:=(h.t t ht).2.1;omega,(h.t t ht).2.2⟩⟩
theorem ij.mono {n k : Nat} {w : Wrd} (h : ij n w) (hn : n≤k) : ij k w:=⟨h.m,fun t ht=>⟨(h.t t ht).1,by have:=(h.t t ht).2.1;omega,(h.t t ht).2.2⟩⟩
theorem yw {w : Wrd} (h : bE w=0) : ij 100 w.bU:=by
 unfold bE at h
 split at h
 ·rename_i h1;exact absurd h h1
 ·rename_i h1
  split at h
  ·cases h
  ·refine ⟨((fW w.m).1 (Classical.not_not.1 h1)).BU,fun t ht=>?_⟩
   obtain ⟨u,hu,rfl⟩:=List.mem_map.1 ht
   obtain ⟨k1,_,k2⟩:=ou (jm h u hu)
   exact ⟨rfl,k1,k2⟩
theorem bL.len {m x : Mem} {f : Frm} (h : bL m f) (h1 : x.slots.length=m.slots.length) (h2 : x.heads.length=m.heads.length) : bL x f :=
 h.with h1 h2 rfl h.nd ⟨h.pc0,h.pc9⟩ ⟨h.n0,h.n9⟩ ⟨h.cur0,h.cur1⟩ ⟨h.prev0,h.prev1⟩ ⟨h.slot0,h.slot1⟩ h.keys
theorem uU {g : Tsk→Tsk} {u : Tsk} : ∀ {l : List Tsk} {i : Nat},u∈l.modify i g→u∈l∨(i < l.length∧u=g (l.getD i default))
 | [],i,h=>by simp at h
 | a :: l,0,h=>by
  rcases List.mem_cons.1 (by simpa using h : u∈g a :: l) with e | h
  ·exact .inr ⟨by simp,e⟩
  ·exact .inl (List.mem_cons_of_mem _ h)
 | a :: l,i + 1,h=>by
  rcases List.mem_cons.1 (by simpa using h : u∈a :: l.modify i g) with e | h
  ·exact .inl (by rw [e];exact List.mem_cons_self)
  ·rcases uU h with h | ⟨h1,h2⟩
   ·exact .inl (List.mem_cons_of_mem _ h)
   ·exact .inr ⟨by simpa using h1,by simpa using h2⟩
theorem vn {n : Nat} {w : Wrd} (h : ij n w) (x : Int) {m' : Mem} (hm : aO m') (l1 : m'.slots.length=w.m.slots.length) (l2 : m'.heads.length=w.m.heads.length) {g : Tsk→Tsk}
  (hg : tsk w x∈w.ts→(g (tsk w x)).own=true∧(g (tsk w x)).held.length≤n + 1∧((g (tsk w x)).busy=true→bL m' (g (tsk w x)).f)) : ij (n + 1) ⟨m',w.ts.modify x.toNat g⟩ :=
 ⟨hm,fun u hu=>by
  rcases uU hu with hu | ⟨hl,rfl⟩
  ·obtain ⟨k1,k2,k3⟩:=h.t u hu
   exact ⟨k1,by omega,fun hb=>(k3 hb).len l1 l2⟩
  ·exact hg (dn hl)⟩
theorem mb {n : Nat} {w : Wrd} (h : ij n w) (x : Int) {r : Frm × Mem} (hm : aO r.2) (l1 : r.2.slots.length=w.m.slots.length) (l2 : r.2.heads.length=w.m.heads.length) (hf : r.1.done=false→bL r.2 r.1) : ij (n + 1) (w.gone x r) :=
 vn h x hm l1 l2 fun ht=>⟨(h.t _ ht).1,by have:=(h.t _ ht).2.1;exact Nat.le_succ_of_le this,fun hb=>hf (by simpa using hb)⟩
theorem Cz {m : Mem} {c : Cal} (hc : bg m c=0) : bL m (dm c) :=
 ⟨hc,(by decide : (0 : Int)≤0),(by decide : (0 : Int)≤9),(by decide : (0 : Int)≤0),(by decide : (0 : Int)≤1000000),rfl,by show -(m.heads.length : Int)≤0;omega,by show (0 : Int)≤_;omega,(by decide : (0 : Int)≤0),by show (0 : Int)≤_;omega,(by decide : (-1 : Int)≤-1),by show (-1 : Int) < _;omega,by show 0≤100;omega⟩
theorem xW {n : Nat} {w : Wrd} (h : ij n w) (x : Int) (c : Cal) : ij (n + 1) (gy w x c).1:=by
 unfold gy
 split
 ·exact h.mono (by omega)
 ·split
  ·exact h.mono (by omega)
  ·rename_i hc
   split
   ·exact h.mono (by omega)
   ·split
    ·exact h.mono (by omega)
    ·have hc : bg w.m c=0:=Classical.not_not.1 hc
     refine vn h x h.m rfl rfl fun ht=>⟨(h.t _ ht).1,by have:=(h.t _ ht).2.1;exact Nat.le_succ_of_le this,fun _=>?_⟩
     exact Cz hc
theorem yy {n : Nat} {w : Wrd} (h : ij n w) {x : Int} (hx : tsk w x∈w.ts) : ij (n + 1) (jo w x).1:=by
 unfold jo
 split
 ·exact h.mono (by omega)
 rename_i hb
 obtain ⟨k1,k2,k3⟩:=h.t _ hx
 have hf:=k3 (by simpa using hb)
 have hm:=h.m
 split
 ·rename_i hk
  have ht:=(oZ (m:=w.m) (f:=(tsk w x).f)).1
  split
  ·rename_i hd
   refine vn h x (kD hm hf) ht.len ht.hl fun _=>⟨k1,by simp only [List.length_append,List.length_cons,List.length_nil];omega,fun hb=>?_⟩
   rw [hd.1] at hb;cases hb
  ·exact mb h x (kD hm hf) ht.len ht.hl fun hd=>(sj hm hf hk).ok hf ht hd
 split
 ·rename_i _ hk
  have ht:=pW x hm hf hk
  exact mb h x (ru x hm hf hk) ht.len ht.hl fun hd=>(uu x hm hf hk).ok hf ht hd
 split
 ·rename_i _ _ hk
  have ht:=py x hm hf hk
  exact mb h x (pS x hm hf) ht.len ht.hl fun hd=>(sE x hm hf hk).ok hf ht hd
 split
 ·rename_i _ _ _ hk
  have ht:=nJ x hm hf hk
  exact mb h x (oz x hm hf) ht.len ht.hl fun hd=>(qJ x hm hf hk).ok hf ht hd
 rename_i q1 q2 q3 q4
 split
 ·have h6 : (tsk w x).f.c.kind=6∧0≤(tsk w x).f.c.slot∧(tsk w x).f.c.slot < w.m.slots.length:=by
   have:=hf.call
   unfold bg at this
   rw [if_neg (by omega),if_neg (by omega),if_neg (by omega)] at this
   split at this
   ·split at this
    ·cases this
    ·exact ⟨by assumption,by omega,by omega⟩
   ·cases this
  obtain ⟨l1,l2,_⟩:=qO w.m (tsk w x).f.c.slot
  refine vn h x (hm.put h6.2.1 h6.2.2) l1 (by rw [l2]) fun _=>⟨k1,?_,fun hb=>?_⟩
  ·simp only [List.length_append,List.length_take,List.length_drop]
   omega
  ·cases hb
 ·exact mb h x hm rfl rfl fun hd=>by cases hd
theorem aO.tick {m : Mem} (hm : aO m) {n : Int} (h0 : 0≤n) (h1 : n≤1000000) : aO { m with now:=n} :=
 ⟨⟨hm.fx.ns,hm.fx.nh1,hm.fx.nh4,hm.fx.nl,h0,h1,hm.fx.slot,hm.fx.head,hm.fx.free,hm.fx.nodup,hm.fx.leak⟩,hm.nl,hm.hd⟩
theorem yB {n : Nat} {w : Wrd} (h : ij n w) (x : Pik) : ij (n + 1) (cJ w x).1:=by
 unfold cJ
 split
 ·split
  ·exact h.mono (by omega)
  ·have h0:=h.m.oN
   have h1:=h.m.oM
   refine ⟨h.m.tick (by omega) (by omega),fun t ht=>?_⟩
   obtain ⟨k1,k2,k3⟩:=h.t t ht
   exact ⟨k1,by omega,fun hb=>(k3 hb).len rfl rfl⟩
 ·split
  ·exact h.mono (by omega)
  ·rename_i hx
   split
   ·exact yy h (dn (by omega))
   ·exact xW h _ _
end Go.Proofs.Ytpmamacjepcdmaa
