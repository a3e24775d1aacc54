import Derived.Test.YtpmamacjepcdmaaCWorld4
import Derived.Test.YtpmamacjepcdmaaCTouch
import Derived.Test.YtpmamacjepcdmaaCRef3
namespace Go.Proofs.Ytpmamacjepcdmaa
open Go Go.Sy Go.RowKit
set_option linter.unusedSimpArgs false
set_option linter.unusedVariables false
structure ij (n : Nat) (w : Wrd) : Prop where
 m : aO w.m
 t : ∀ t∈w.ts,t.own=true∧t.held.length≤n∧(t.busy=true→bL w.m t.f)
theorem ij.in {n : Nat} {w : Wrd} (h : ij n w) (hn : n≤10000) : WIn w:=⟨h.m,fun t ht=>⟨(h.t t ht).1,by have:=(h.t t ht).2.1;omega,(h.t t ht).2.2⟩⟩
theorem ij.mono {n k : Nat} {w : Wrd} (h : ij n w) (hn : n≤k) : ij k w:=⟨h.m,fun t ht=>⟨(h.t t ht).1,by have:=(h.t t ht).2.1;omega,(h.t t ht).2.2⟩⟩
theorem yw {w : Wrd} (h : bE w=0) : ij 100 w.bU:=by
 unfold bE at h
 split at h
 ·rename_i h1;exact absurd h h1
 ·rename_i h1
  split at h
  ·cases h
  ·refine ⟨((fW w.m).1 (Classical.not_not.1 h1)).BU,fun t ht=>?_⟩
   obtain ⟨u,hu,rfl⟩:=List.mem_map.1 ht
   obtain ⟨k1,_,k2⟩:=ou (jm h u hu)
   exact ⟨rfl,k1,k2⟩
theorem bL.len {m x : Mem} {f : Frm} (h : bL m f) (h1 : x.slots.length=m.slots.length) (h2 : x.heads.length=m.heads.length) : bL x f :=
 h.with h1 h2 rfl h.nd ⟨h.pc0,h.pc9⟩ ⟨h.n0,h.n9⟩ ⟨h.cur0,h.cur1⟩ ⟨h.prev0,h.prev1⟩ ⟨h.slot0,h.slot1⟩ h.keys
theorem uU {g : Tsk→Tsk} {u : Tsk} : ∀ {l : List Tsk} {i : Nat},u∈l.modify i g→u∈l∨(i < l.length∧u=g (l.getD i default))
 | [],i,h=>by simp at h
 | a :: l,0,h=>by
  rcases List.mem_cons.1 (by simpa using h : u∈g a :: l) with e | h
  ·exact .inr ⟨by simp,e⟩
  ·exact .inl (List.mem_cons_of_mem _ h)
 | a :: l,i + 1,h=>by
  rcases List.mem_cons.1 (by simpa using h : u∈a :: l.modify i g) with e | h
  ·exact .inl (by rw [e];exact List.mem_cons_self)
  ·rcases uU h with h | ⟨h1,h2⟩
   ·exact .inl (List.mem_cons_of_mem _ h)
   ·exact .inr ⟨by simpa using h1,by simpa using h2⟩
theorem vn {n : Nat} {w : Wrd} (h : ij n w) (x : Int) {m' : Mem} (hm : aO m') (l1 : m'.slots.length=w.m.slots.length) (l2 : m'.heads.length=w.m.heads.length) {g : Tsk→Tsk}
  (hg : tsk w x∈w.ts→(g (tsk w x)).own=true∧(g (tsk w x)).held.length≤n + 1∧((g (tsk w x)).busy=true→bL m' (g (tsk w x)).f)) : ij (n + 1) ⟨m',w.ts.modify x.toNat g⟩ :=
 ⟨hm,fun u hu=>by
  rcases uU hu with hu | ⟨hl,rfl⟩
  ·obtain ⟨k1,k2,k3⟩:=h.t u hu
   exact ⟨k1,by omega,fun hb=>(k3 hb).len l1 l2⟩
  ·exact hg (dn hl)⟩
theorem mb {n : Nat} {w : Wrd} (h : ij n w) (x : Int) {r : Frm × Mem} (hm : aO r.2) (l1 : r.2.slots.length=w.m.slots.length) (l2 : r.2.heads.length=w.m.heads.length) (hf : r.1.done=false→bL r.2 r.1) : ij (n + 1) (w.gone x r) :=
 vn h x hm l1 l2 fun ht=>⟨(h.t _ ht).1,by have:=(h.t _ ht).2.1;exact Nat.le_succ_of_le this,fun hb=>hf (by simpa using hb)⟩
theorem Cz {m : Mem} {c : Cal} (hc : bg m c=0) : bL m (dm c) :=
 ⟨hc,(by decide : (0 : Int)≤0),(by decide : (0 : Int)≤9),(by decide : (0 : Int)≤0),(by decide : (0 : Int)≤1000000),rfl,by show -(m.heads.length : Int)≤0;omega,by show (0 : Int)≤_;omega,(by decide : (0 : Int)≤0),by show (0 : Int)≤_;omega,(by decide : (-1 : Int)≤-1),by show (-1 : Int) < _;omega,by show 0≤100;omega⟩
theorem xW {n : Nat} {w : Wrd} (h : ij n w) (x : Int) (c : Cal) : ij (n + 1) (gy w x c).1:=by
 unfold gy
 split
 ·exact h.mono (by omega)
 ·split
  ·exact h.mono (by omega)
  ·rename_i hc
   split
   ·exact h.mono (by omega)
   ·split
    ·exact h.mono (by omega)
    ·have hc : bg w.m c=0:=Classical.not_not.1 hc
     refine vn h x h.m rfl rfl fun ht=>⟨(h.t _ ht).1,by have:=(h.t _ ht).2.1;exact Nat.le_succ_of_le this,fun _=>?_⟩
     exact Cz hc
theorem yy {n : Nat} {w : Wrd} (h : ij n w) {x : Int} (hx : tsk w x∈w.ts) : ij (n + 1) (jo w x).1:=by
 unfold jo
 split
 ·exact h.mono (by omega)
 rename_i hb
 obtain ⟨k1,k2,k3⟩:=h.t _ hx
 have hf:=k3 (by simpa using hb)
 have hm:=h.m
 split
 ·rename_i hk
  have ht:=(oZ (m:=w.m) (f:=(tsk w x).f)).1
  split
  ·rename_i hd
   refine vn h x (kD hm hf) ht.len ht.hl fun _=>⟨k1,by simp only [List.length_append,List.length_cons,List.length_nil];omega,fun hb=>?_⟩
   rw [hd.1] at hb;cases hb
  ·exact mb h x (kD hm hf) ht.len ht.hl fun hd=>(sj hm hf hk).ok hf ht hd
 split
 ·rename_i _ hk
  have ht:=pW x hm hf hk
  exact mb h x (ru x hm hf hk) ht.len ht.hl fun hd=>(uu x hm hf hk).ok hf ht hd
 split
 ·rename_i _ _ hk
  have ht:=py x hm hf hk
  exact mb h x (pS x hm hf) ht.len ht.hl fun hd=>(sE x hm hf hk).ok hf ht hd
 split
 ·rename_i _ _ _ hk
  have ht:=nJ x hm hf hk
  exact mb h x (oz x hm hf) ht.len ht.hl fun hd=>(qJ x hm hf hk).ok hf ht hd
 rename_i q1 q2 q3 q4
 split
 ·have h6 : (tsk w x).f.c.kind=6∧0≤(tsk w x).f.c.slot∧(tsk w x).f.c.slot < w.m.slots.length:=by
   have:=hf.call
   unfold bg at this
   rw [if_neg (by omega),if_neg (by omega),if_neg (by omega)] at this
   split at this
   ·split at this
    ·cases this
    ·exact ⟨by assumption,by omega,by omega⟩
   ·cases this
  obtain ⟨l1,l2,_⟩:=qO w.m (tsk w x).f.c.slot
  refine vn h x (hm.put h6.2.1 h6.2.2) l1 (by rw [l2]) fun _=>⟨k1,?_,fun hb=>?_⟩
  ·simp only [List.length_append,List.length_take,List.length_drop]
   omega
  ·cases hb
 ·exact mb h x hm rfl rfl fun hd=>by cases hd
theorem aO.tick {m : Mem} (hm : aO m) {n : Int} (h0 : 0≤n) (h1 : n≤1000000) : aO { m with now:=n} :=
 ⟨⟨hm.fx.ns,hm.fx.nh1,hm.fx.nh4,hm.fx.nl,h0,h1,hm.fx.slot,hm.fx.head,hm.fx.free,hm.fx.nodup,hm.fx.leak⟩,hm.nl,hm.hd⟩
theorem yB {n : Nat} {w : Wrd} (h : ij n w) (x : Pik) : ij (n + 1) (cJ w x).1:=by
 unfold cJ
 split
 ·split
  ·exact h.mono (by omega)
  ·have h0:=h.m.oN
   have h1:=h.m.oM
   refine ⟨h.m.tick (by omega) (by omega),fun t ht=>?_⟩
   obtain ⟨k1,k2,k3⟩:=h.t t ht
   exact ⟨k1,by omega,fun hb=>(k3 hb).len rfl rfl⟩
 ·split
  ·exact h.mono (by omega)
  ·rename_i hx
   split
   ·exact yy h (dn (by omega))
   ·exact xW h _ _
end Go.Proofs.Ytpmamacjepcdmaa

namespace Go.Proofs.Ytpmamacjepcdmaa
open Go Go.Sy Go.RowKit
set_option linter.unusedSimpArgs false
set_option linter.unusedVariables false
deriving instance DecidableEq for Tsk
end Go.Proofs.Ytpmamacjepcdmaa
