import Derived.Test.YtpmamacjepcdmaaCMem3
namespace Go.Proofs.Ytpmamacjepcdmaa
open Go Go.Sy Go.RowKit
theorem getD_modify {α : Type} [Inhabited α] (f : α→α) : ∀ (l : List α) (a i : Nat),(l.modify a f).getD i default=if a=i∧a < l.length then f (l.getD i default) else l.getD i default
 | [],a,i=>by simp
 | x :: l,0,0=>by simp
 | x :: l,0,i + 1=>by simp
 | x :: l,a + 1,0=>by simp
 | x :: l,a + 1,i + 1=>by
  have:=getD_modify f l a i
  simp only [List.modify_succ_cons,List.getD_cons_succ,this,List.length_cons,Nat.add_lt_add_iff_right,Nat.add_right_cancel_iff]
theorem yw {α : Type} [Inhabited α] {P : α→Prop} {l : List α} (h : ∀ i,i < l.length→P (l.getD i default)) : ∀ s∈l,P s:=fun s hs=>by
 obtain ⟨i,hi,rfl⟩:=List.getElem_of_mem hs
 have:=h i hi
 rwa [List.getD_eq_getElem?_getD,List.getElem?_eq_getElem hi,Option.getD_some] at this
theorem DV {α : Type} [Inhabited α] {l m : List α} (hl : l.length=m.length) (h : ∀ i,i < l.length→l.getD i default=m.getD i default) : l=m:=by
 apply List.ext_getElem hl
 intro i h1 h2
 have:=h i h1
 rwa [List.getD_eq_getElem?_getD,List.getD_eq_getElem?_getD,List.getElem?_eq_getElem h1,List.getElem?_eq_getElem h2,Option.getD_some,Option.getD_some] at this
theorem modify_id {α : Type} [Inhabited α] (f : α→α) (l : List α) (a : Nat) (h : f (l.getD a default)=l.getD a default) : l.modify a f=l:=by
 refine DV (by simp) fun i _=>?_
 rw [getD_modify]
 split
 ·rename_i hx;rw [← hx.1,h]
 ·rfl
theorem w9 (s : bp) : bx 0 s=s:=by unfold bx;rw [Int.add_zero]
theorem ur (a b : Int) (s : bp) : bx a (bx b s)=bx (b + a) s:=by unfold bx;simp only [Int.add_assoc]
def cm (m : Mem) (a : Nat) (f : bp→bp) (free : List Int) : Mem:={ m with slots:=m.slots.modify a f,free:=free}
theorem gJ (m : Mem) (a : Nat) (f : bp→bp) (free : List Int) (i : Nat) : msl (cm m a f free) i=if a=i∧a < m.slots.length then f (msl m i) else msl m i:=getD_modify f m.slots a i
theorem nB (m : Mem) (a : Nat) (f : bp→bp) (free : List Int) : (cm m a f free).slots.length=m.slots.length:=by simp [cm]
theorem bB.cm {m : Mem} (h : bB m) {a : Nat} {f : bp→bp} {free : List Int} (ha : a < m.slots.length) (hs : mR m.slots.length m.heads.length (f (msl m a)))
  (hf : ∀ b∈free,0≤b∧b < m.slots.length∧(if a=b.toNat then (f (msl m a)).refs=0 else (msl m b.toNat).refs=0)) (hn : free.Nodup)
  (hl : ∀ i,i < m.slots.length→(if a=i then (f (msl m a)).refs=0 else (msl m i).refs=0)→(i : Int)∈free) : bB (cm m a f free):=by
 have e:=nB m a f free
 refine ⟨by rw [e];exact h.ns,h.nh1,h.nh4,h.nl,h.ma,h.Ik,?_,by rw [e];exact h.head,fun b hb=>?_,hn,fun i hi hr=>?_⟩
 ·rw [e]
  refine yw fun i hi=>?_
  have : i < m.slots.length:=by rw [e] at hi;exact hi
  show mR _ _ (msl (Ytpmamacjepcdmaa.cm m a f free) i)
  rw [gJ]
  split
  ·rename_i hx;rw [← hx.1];exact hs
  ·exact h.sl this
 ·obtain ⟨h1,h2,h3⟩:=hf b hb
  refine ⟨h1,by rw [e];exact h2,?_⟩
  rw [gJ]
  by_cases hx : a=b.toNat
  ·rw [if_pos hx] at h3
   rw [if_pos ⟨hx,ha⟩,← hx];exact h3
  ·rw [if_neg hx] at h3
   rw [if_neg (fun y=>hx y.1)];exact h3
 ·rw [e] at hi
  rw [gJ] at hr
  refine hl i hi ?_
  by_cases hx : a=i
  ·rw [if_pos hx]
   rw [if_pos ⟨hx,ha⟩,← hx] at hr;exact hr
  ·rw [if_neg hx]
   rw [if_neg (fun y=>hx y.1)] at hr;exact hr
theorem tL {m : Mem} (h : m.free.length≠0) : m.free=m.free.take (m.free.length - 1) ++ [bc m]:=by
 have h1 : m.free.length - 1 < m.free.length:=by omega
 have e : m.free.take (m.free.length - 1 + 1)=m.free:=by rw [List.take_of_length_le (by omega)]
 rw [List.take_succ_eq_append_getElem h1] at e
 unfold bc
 rw [List.getD_eq_getElem?_getD,List.getElem?_eq_getElem h1,Option.getD_some,e]
theorem Ai {m : Mem} (h : bB m) {k : Key} {till : Int} (hn : m.free.length≠0) (hk : Key.Ok k) (h0 : 0≤till) (h1 : till≤2000000) : bB (cm m (bc m).toNat (cp k till) (m.free.take (m.free.length - 1))):=by
 have hl:=h.free _ (pj hn)
 have hlt : (bc m).toNat < m.slots.length:=by omega
 have hs:=h.sl hlt
 have hsp:=tL hn
 have hnd:=h.nodup
 rw [hsp] at hnd
 have hnd:=List.nodup_append.1 hnd
 have hnot : ∀ b∈m.free.take (m.free.length - 1),b≠bc m:=fun b hb=>hnd.2.2 b hb (bc m) (by simp)
 refine h.cm hlt ⟨?_,?_,h0,h1,hk,hs.n0,hs.n1⟩ (fun b hb=>?_) hnd.1 (fun i hi hr=>?_)
 ·simp [cp]
 ·simp [cp]
 ·have:=h.free b (by rw [hsp];simp [hb])
  refine ⟨this.1,this.2.1,?_⟩
  rw [if_neg]
  ·exact this.2.2
  ·intro e
   exact hnot b hb (by omega)
 ·split at hr
  ·simp [cp] at hr
  ·rename_i hne
   have:=h.leak i hi hr
   rw [hsp,List.mem_append,List.mem_singleton] at this
   rcases this with h2 | h2
   ·exact h2
   ·exact absurd (by omega) hne
theorem J8 {m : Mem} (h : bB m) {k : Key} {till : Int} (hn : m.free.length≠0) (hk : Key.Ok k) (h0 : 0≤till) (h1 : till≤2000000) : taken m k till=(cm m (bc m).toNat (cp k till) (m.free.take (m.free.length - 1)),bc m,0):=by
 have e : take m k till=(cm m (bc m).toNat (cp k till) (m.free.take (m.free.length - 1)),bc m,0):=by unfold take;rw [if_neg hn];rfl
 unfold taken
 rw [(dT m).2 h,if_neg (fun x=>x rfl),(gA k).2 hk,if_neg (fun x=>x rfl),if_neg (by omega),e,if_neg (fun x=>x rfl)]
theorem FJ {m : Mem} (h : bB m) {k : Key} {till : Int} (hn : m.free.length=0) (hk : Key.Ok k) (h0 : 0≤till) (h1 : till≤2000000) : taken m k till=(Mem.none,0,7):=by
 have e : take m k till=(m,0,7):=by unfold take;rw [if_pos hn]
 unfold taken
 rw [(dT m).2 h,if_neg (fun x=>x rfl),(gA k).2 hk,if_neg (fun x=>x rfl),if_neg (by omega),e,if_pos (show (7 : Int)≠0 by decide)]
theorem FY {m : Mem} {k : Key} {till : Int} (h : (taken m k till).2.2=0) : bB m∧Key.Ok k∧0≤till∧till≤2000000∧m.free.length≠0:=by
 unfold taken at h
 split at h
 ·rename_i hx;exact absurd h hx
 ·rename_i hx
  split at h
  ·rename_i hy;exact absurd h hy
  ·rename_i hy
   split at h
   ·cases h
   ·rename_i hz
    split at h
    ·rename_i hw;exact absurd h hw
    ·rename_i hw
     refine ⟨(dT m).1 (by omega),(gA k).1 (by omega),by omega,by omega,fun e=>?_⟩
     unfold take at hw
     rw [if_pos e] at hw
     exact hw (show (7 : Int)≠0 by decide)
theorem FG {m : Mem} {a : Int} (h : (held m a).2=0) : bB m∧0≤a∧a < m.slots.length∧1≤(msl m a.toNat).refs∧(msl m a.toNat).refs < 1000:=by
 unfold held at h
 split at h
 ·rename_i hx;exact absurd h hx
 ·rename_i hx
  have hm:=(dT m).1 (by omega)
  split at h
  ·rename_i hy
   have hr:=hm.refs hy.1 hy.2
   unfold hold at h
   split at h
   ·split at h
    ·rename_i hz;cases hz
    ·cases h
   ·rename_i hz
    exact ⟨hm,hy.1,hy.2,by omega,by omega⟩
  ·cases h
theorem K4 {m : Mem} (hm : bB m) {a : Int} (h0 : 0≤a) (h1 : a < m.slots.length) (h2 : 1≤(msl m a.toNat).refs) (h3 : (msl m a.toNat).refs < 1000) : held m a=(cm m a.toNat (bx 1) m.free,0):=by
 have e : hold m a=(cm m a.toNat (bx 1) m.free,true):=by
  unfold hold
  rw [if_neg (by omega)];rfl
 unfold held
 rw [(dT m).2 hm,if_neg (fun x=>x rfl),if_pos ⟨h0,h1⟩,e,if_pos rfl]
theorem JM {m : Mem} (hm : bB m) {a : Int} (h0 : 0≤a) (h1 : a < m.slots.length) (h2 : (msl m a.toNat).refs=0∨(msl m a.toNat).refs=1000) : held m a=(Mem.none,8):=by
 have e : hold m a=(m,false):=by
  unfold hold
  rw [if_pos h2]
 unfold held
 rw [(dT m).2 hm,if_neg (fun x=>x rfl),if_pos ⟨h0,h1⟩,e,if_neg (show ¬ false=true by decide)]
theorem AA {m : Mem} (hm : bB m) {a : Nat} {n : Int} (h1 : a < m.slots.length) (h0 : 1≤(msl m a).refs) (h2 : 1≤(msl m a).refs + n) (h3 : (msl m a).refs + n≤1000) : bB (cm m a (bx n) m.free):=by
 have hs:=hm.sl h1
 refine hm.cm h1 ⟨by show 0≤(msl m a).refs + n;omega,h3,hs.t0,hs.t1,hs.k,hs.n0,hs.n1⟩ (fun b hb=>?_) hm.nodup (fun i hi hr=>?_)
 ·have:=hm.free b hb
  refine ⟨this.1,this.2.1,?_⟩
  rw [if_neg (fun e=>by rw [e] at h0;omega)]
  exact this.2.2
 ·split at hr
  ·have hr : (msl m a).refs + n=0:=hr
   omega
  ·exact hm.leak i hi hr
theorem F6 {m : Mem} (hm : bB m) {a : Int} (h0 : 0≤a) (h1 : a < m.slots.length) (h2 : 2≤(msl m a.toNat).refs) : Gt m a=(cm m a.toNat (bx (-1)) m.free,0):=by
 unfold Gt put
 rw [(dT m).2 hm,if_neg (fun x=>x rfl),if_pos ⟨h0,h1⟩,if_neg (by omega),if_neg (by omega),if_neg (by omega)]
 rfl
theorem FE {m : Mem} (hm : bB m) {a : Int} (h0 : 0≤a) (h1 : a < m.slots.length) (h2 : (msl m a.toNat).refs=1) : Gt m a=(cm m a.toNat (bx (-1)) (m.free ++ [a]),0):=by
 unfold Gt put
 rw [(dT m).2 hm,if_neg (fun x=>x rfl),if_pos ⟨h0,h1⟩,if_neg (by omega),if_neg (by omega),if_pos h2]
 rfl
theorem Lo {m : Mem} (hm : bB m) {a : Int} (h0 : 0≤a) (h1 : a < m.slots.length) (h2 : (msl m a.toNat).refs=0) : Gt m a=(Mem.none,8):=by
 unfold Gt
 rw [(dT m).2 hm,if_neg (fun x=>x rfl),if_pos ⟨h0,h1⟩,if_pos h2]
theorem DQ {m : Mem} (hm : bB m) {a : Int} (h0 : 0≤a) (h1 : a < m.slots.length) (h2 : (msl m a.toNat).refs=1) : bB (cm m a.toNat (bx (-1)) (m.free ++ [a])):=by
 have hlt : a.toNat < m.slots.length:=by omega
 have hs:=hm.sl hlt
 have hna : a ∉ m.free:=fun h=>by have:=(hm.free a h).2.2;omega
 refine hm.cm hlt ⟨by show 0≤(msl m a.toNat).refs + -1;omega,by show (msl m a.toNat).refs + -1≤1000;omega,hs.t0,hs.t1,hs.k,hs.n0,hs.n1⟩ (fun b hb=>?_) ?_ (fun i hi hr=>?_)
 ·rcases List.mem_append.1 hb with hb | hb
  ·have:=hm.free b hb
   refine ⟨this.1,this.2.1,?_⟩
   rw [if_neg (fun e=>by
    have : a=b:=by omega
    exact hna (by rw [this];exact hb))]
   exact this.2.2
  ·rw [List.mem_singleton] at hb
   subst hb
   refine ⟨h0,h1,?_⟩
   rw [if_pos rfl]
   show (msl m b.toNat).refs + -1=0
   omega
 ·exact List.nodup_append.2 ⟨hm.nodup,by simp,fun x hx y hy=>by
   rw [List.mem_singleton] at hy
   subst hy
   intro e
   exact hna (by rw [← e];exact hx)⟩
 ·split at hr
  ·rename_i e
   rw [List.mem_append,List.mem_singleton]
   right;omega
  ·rw [List.mem_append]
   exact .inl (hm.leak i hi hr)
theorem uj (m : Mem) (a : Nat) (f g : bp→bp) (x y : List Int) : cm (cm m a f x) a g y=cm m a (fun s=>g (f s)) y:=by
 simp only [cm,aC]
theorem wO (m : Mem) (a : Nat) (i j : Int) (x y : List Int) : cm (cm m a (bx i) x) a (bx j) y=cm m a (bx (i + j)) y:=by
 rw [uj]
 congr 1
 funext s
 exact ur j i s
theorem wN (m : Mem) (a : Nat) : cm m a (bx 0) m.free=m:=by
 simp only [cm]
 rw [modify_id (bx 0) m.slots a (w9 _)]
end Go.Proofs.Ytpmamacjepcdmaa
