import Derived.Test.YtpmamacjepcdmaaCWorld4
import Derived.Test.YtpmamacjepcdmaaCTouch
import Derived.Test.YtpmamacjepcdmaaCRef3
namespace Go.Proofs.Ytpmamacjepcdmaa
open Go Go.Sy Go.RowKit
set_option linter.unusedSimpArgs false
set_option linter.unusedVariables false
structure kc (n : Nat) (w : Wrd) : Prop where
 m : aY w.m
 t : ∀ t∈w.ts,t.own=true∧t.held.length≤n∧(t.busy=true→bN w.m t.f)
theorem kc.in {n : Nat} {w : Wrd} (h : kc n w) (hn : n≤10000) : WIn w:=⟨h.m,fun t ht=>⟨(h.t t ht).1,by have:=(h.t t ht).2.1;omega,(h.t t ht).2.2⟩⟩
theorem kc.mono {n k : Nat} {w : Wrd} (h : kc n w) (hn : n≤k) : kc k w:=⟨h.m,fun t ht=>⟨(h.t t ht).1,by have:=(h.t t ht).2.1;omega,(h.t t ht).2.2⟩⟩
theorem Dz {w : Wrd} (h : bz w=0) : kc 100 w.aS:=by
 unfold bz at h
 split at h
 ·rename_i h1;exact absurd h h1
 ·rename_i h1
  split at h
  ·cases h
  ·refine ⟨((dv w.m).1 (Classical.not_not.1 h1)).lu,fun t ht=>?_⟩
   obtain ⟨u,hu,rfl⟩:=List.mem_map.1 ht
   obtain ⟨k1,_,k2⟩:=rQ (lE h u hu)
   exact ⟨rfl,k1,k2⟩
theorem bN.len {m x : Mem} {f : Frm} (h : bN m f) (h1 : x.slots.length=m.slots.length) (h2 : x.heads.length=m.heads.length) : bN x f :=
 h.with h1 h2 rfl h.nd ⟨h.pc0,h.pc9⟩ ⟨h.n0,h.n9⟩ ⟨h.cur0,h.cur1⟩ ⟨h.prev0,h.prev1⟩ ⟨h.slot0,h.slot1⟩ h.keys
theorem zH {g : Tsk→Tsk} {u : Tsk} : ∀ {l : List Tsk} {i : Nat},u∈l.modify i g→u∈l∨(i < l.length∧u=g (l.getD i default))
 | [],i,h=>by simp at h
 | a :: l,0,h=>by
  rcases List.mem_cons.1 (by simpa using h : u∈g a :: l) with e | h
  ·exact .inr ⟨by simp,e⟩
  ·exact .inl (List.mem_cons_of_mem _ h)
 | a :: l,i + 1,h=>by
  rcases List.mem_cons.1 (by simpa using h : u∈a :: l.modify i g) with e | h
  ·exact .inl (by rw [e];exact List.mem_cons_self)
  ·rcases zH h with h | ⟨h1,h2⟩
   ·exact .inl (List.mem_cons_of_mem _ h)
   ·exact .inr ⟨by simpa using h1,by simpa using h2⟩
theorem Aa {n : Nat} {w : Wrd} (h : kc n w) (x : Int) {m' : Mem} (hm : aY m') (l1 : m'.slots.length=w.m.slots.length) (l2 : m'.heads.length=w.m.heads.length) {g : Tsk→Tsk}
  (hg : tsk w x∈w.ts→(g (tsk w x)).own=true∧(g (tsk w x)).held.length≤n + 1∧((g (tsk w x)).busy=true→bN m' (g (tsk w x)).f)) : kc (n + 1) ⟨m',w.ts.modify x.toNat g⟩ :=
 ⟨hm,fun u hu=>by
  rcases zH hu with hu | ⟨hl,rfl⟩
  ·obtain ⟨k1,k2,k3⟩:=h.t u hu
   exact ⟨k1,by omega,fun hb=>(k3 hb).len l1 l2⟩
  ·exact hg (eQ hl)⟩
theorem pa {n : Nat} {w : Wrd} (h : kc n w) (x : Int) {r : Frm × Mem} (hm : aY r.2) (l1 : r.2.slots.length=w.m.slots.length) (l2 : r.2.heads.length=w.m.heads.length) (hf : r.1.done=false→bN r.2 r.1) : kc (n + 1) (w.gone x r) :=
 Aa h x hm l1 l2 fun ht=>⟨(h.t _ ht).1,by have:=(h.t _ ht).2.1;exact Nat.le_succ_of_le this,fun hb=>hf (by simpa using hb)⟩
theorem Cb {m : Mem} {c : Cal} (hc : aV m c=0) : bN m (ck c) :=
 ⟨hc,(by decide : (0 : Int)≤0),(by decide : (0 : Int)≤9),(by decide : (0 : Int)≤0),(by decide : (0 : Int)≤1000000),rfl,by show -(m.heads.length : Int)≤0;omega,by show (0 : Int)≤_;omega,(by decide : (0 : Int)≤0),by show (0 : Int)≤_;omega,(by decide : (-1 : Int)≤-1),by show (-1 : Int) < _;omega,by show 0≤100;omega⟩
theorem C4 {n : Nat} {w : Wrd} (h : kc n w) (x : Int) (c : Cal) : kc (n + 1) (gp w x c).1:=by
 unfold gp
 split
 ·exact h.mono (by omega)
 ·split
  ·exact h.mono (by omega)
  ·rename_i hc
   split
   ·exact h.mono (by omega)
   ·split
    ·exact h.mono (by omega)
    ·have hc : aV w.m c=0:=Classical.not_not.1 hc
     refine Aa h x h.m rfl rfl fun ht=>⟨(h.t _ ht).1,by have:=(h.t _ ht).2.1;exact Nat.le_succ_of_le this,fun _=>?_⟩
     exact Cb hc
theorem DD {n : Nat} {w : Wrd} (h : kc n w) {x : Int} (hx : tsk w x∈w.ts) : kc (n + 1) (cG w x).1:=by
 unfold cG
 split
 ·exact h.mono (by omega)
 rename_i hb
 obtain ⟨k1,k2,k3⟩:=h.t _ hx
 have hf:=k3 (by simpa using hb)
 have hm:=h.m
 split
 ·rename_i hk
  have ht:=(lU (m:=w.m) (f:=(tsk w x).f)).1
  split
  ·rename_i hd
   refine Aa h x (nk hm hf) ht.len ht.hl fun _=>⟨k1,by simp only [List.length_append,List.length_cons,List.length_nil];omega,fun hb=>?_⟩
   rw [hd.1] at hb;cases hb
  ·exact pa h x (nk hm hf) ht.len ht.hl fun hd=>(qD hm hf hk).ok hf ht hd
 split
 ·rename_i _ hk
  have ht:=gP x hm hf hk
  exact pa h x (vF x hm hf hk) ht.len ht.hl fun hd=>(tx x hm hf hk).ok hf ht hd
 split
 ·rename_i _ _ hk
  have ht:=gj x hm hf hk
  exact pa h x (tJ x hm hf) ht.len ht.hl fun hd=>(qQ x hm hf hk).ok hf ht hd
 split
 ·rename_i _ _ _ hk
  have ht:=fj x hm hf hk
  exact pa h x (rT x hm hf) ht.len ht.hl fun hd=>(oF x hm hf hk).ok hf ht hd
 rename_i q1 q2 q3 q4
 split
 ·have h6 : (tsk w x).f.c.kind=6∧0≤(tsk w x).f.c.slot∧(tsk w x).f.c.slot < w.m.slots.length:=by
   have:=hf.call
   unfold aV at this
   rw [if_neg (by omega),if_neg (by omega),if_neg (by omega)] at this
   split at this
   ·split at this
    ·cases this
    ·exact ⟨by assumption,by omega,by omega⟩
   ·cases this
  obtain ⟨l1,l2,_⟩:=oK w.m (tsk w x).f.c.slot
  refine Aa h x (hm.put h6.2.1 h6.2.2) l1 (by rw [l2]) fun _=>⟨k1,?_,fun hb=>?_⟩
  ·simp only [List.length_append,List.length_take,List.length_drop]
   omega
  ·cases hb
 ·exact pa h x hm rfl rfl fun hd=>by cases hd
theorem aY.tick {m : Mem} (hm : aY m) {n : Int} (h0 : 0≤n) (h1 : n≤1000000) : aY { m with now:=n} :=
 ⟨⟨hm.fx.ns,hm.fx.nh1,hm.fx.nh4,hm.fx.nl,h0,h1,hm.fx.slot,hm.fx.head,hm.fx.free,hm.fx.nodup,hm.fx.leak⟩,hm.nl,hm.hd⟩
theorem DG {n : Nat} {w : Wrd} (h : kc n w) (x : Pik) : kc (n + 1) (b7 w x).1:=by
 unfold b7
 split
 ·split
  ·exact h.mono (by omega)
  ·have h0:=h.m.oR
   have h1:=h.m.oQ
   refine ⟨h.m.tick (by omega) (by omega),fun t ht=>?_⟩
   obtain ⟨k1,k2,k3⟩:=h.t t ht
   exact ⟨k1,by omega,fun hb=>(k3 hb).len rfl rfl⟩
 ·split
  ·exact h.mono (by omega)
  ·rename_i hx
   split
   ·exact DD h (eQ (by omega))
   ·exact C4 h _ _
end Go.Proofs.Ytpmamacjepcdmaa

namespace Go.Proofs.Ytpmamacjepcdmaa
open Go Go.Sy Go.RowKit
set_option linter.unusedSimpArgs false
set_option linter.unusedVariables false
deriving instance DecidableEq for Tsk
end Go.Proofs.Ytpmamacjepcdmaa
