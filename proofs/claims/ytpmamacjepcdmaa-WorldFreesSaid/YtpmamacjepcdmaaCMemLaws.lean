import Derived.Test.YtpmamacjepcdmaaCChain4
import Derived.Test.YtpmamacjepcdmaaCRef
namespace Go.Proofs.Ytpmamacjepcdmaa
open Go Go.Sy Go.RowKit
set_option linter.unusedSimpArgs false
set_option linter.unusedVariables false
structure bN (m : Mem) (f : Frm) : Prop where
 call : aV m f.c=0
 pc0 : 0≤f.pc
 pc9 : f.pc≤9
 n0 : 0≤f.n
 n9 : f.n≤1000000
 nd : f.done=false
 cur0 : -(m.heads.length : Int)≤f.cur
 cur1 : f.cur≤m.slots.length
 prev0 : 0≤f.prev
 prev1 : f.prev≤m.slots.length
 slot0 : -1≤f.slot
 slot1 : f.slot < m.slots.length
 keys : f.keys.length≤100
theorem mb (m : Mem) (f : Frm) : eD m f=0↔bN m f:=by
 unfold eD
 constructor
 ·intro h
  split at h
  ·rename_i h1;exact absurd h h1
  ·rename_i h1
   split at h
   ·cases h
   ·rename_i h2
    split at h
    ·cases h
    ·rename_i h3
     split at h
     ·cases h
     ·rename_i h4
      split at h
      ·cases h
      ·rename_i h5
       exact ⟨Classical.not_not.1 h1,by omega,by omega,by omega,by omega,by simpa using h3,by omega,by omega,by omega,by omega,by omega,by omega,by omega⟩
 ·intro h
  obtain ⟨h1,h2,h3,h4,h5,h6,h7,h8,h9,h10,h11,h12,h13⟩:=h
  rw [if_neg (fun x=>x h1),if_neg (by omega),if_neg (by rw [h6];exact Bool.false_ne_true),if_neg (by omega),if_neg (by omega)]
theorem w6 {m : Mem} {c : Cal} (h : aV m c=0) (hk : c.kind=1∨c.kind=2∨c.kind=3) : Key.Ok c.k:=by
 unfold aV at h
 refine (eU c.k).1 ?_
 rcases hk with hk | hk | hk
 ·rwa [if_pos (.inl hk)] at h
 ·rw [if_neg (by omega),if_pos hk] at h
  split at h
  ·cases h
  ·exact h
 ·rwa [if_pos (.inr hk)] at h
theorem mY {m : Mem} {c : Cal} (h : aV m c=0) (hk : c.kind=2) : 1≤c.time∧c.time≤1000000:=by
 unfold aV at h
 rw [if_neg (by omega),if_pos hk] at h
 split at h
 ·cases h
 ·omega
theorem w7 {m : Mem} {c : Cal} (h : aV m c=0) (hk : c.kind=4∨c.kind=5) : 0≤c.bucket∧c.bucket < m.heads.length:=by
 unfold aV at h
 rw [if_neg (by omega),if_neg (by omega),if_pos hk] at h
 split at h
 ·cases h
 ·omega
def fix (m : Mem) : Mem:={ m with heads:=List.replicate m.heads.length (-1),af:=List.replicate m.heads.length (-1)}
structure aY (m : Mem) : Prop where
 fx : bs (fix m)
 nl : m.af.length=m.heads.length
 hd : ∀ i,i < m.heads.length→-(m.heads.length : Int)≤m.heads.getD i 0∧m.heads.getD i 0≤m.slots.length
theorem eR (m : Mem) : (fix m).heads.length=m.heads.length:=List.length_replicate
theorem bs.lu {m : Mem} (h : bs m) : aY m:=by
 refine ⟨⟨h.ns,by rw [eR];exact h.nh1,by rw [eR];exact h.nh4,by simp [fix],h.oR,h.oQ,by rw [eR];exact h.slot,fun i hi=>?_,h.free,h.nodup,h.leak⟩,h.nl,fun i hi=>⟨(h.head i hi).n1,(h.head i hi).n0⟩⟩
 rw [eR] at hi ⊢
 have hn:=h.nh1
 have e : (List.replicate m.heads.length (-1 : Int)).getD i 0=-1:=by simp [List.getD_eq_getElem?_getD,hi]
 show vJ _ _ ((List.replicate m.heads.length (-1 : Int)).getD i 0) ((List.replicate m.heads.length (-1 : Int)).getD i 0)
 rw [e]
 exact ⟨by decide,by omega,by omega,by decide,by decide⟩
theorem aY.ns {m : Mem} (h : aY m) : m.slots.length≤12:=h.fx.ns
theorem aY.nh1 {m : Mem} (h : aY m) : 1≤m.heads.length:=by have:=h.fx.nh1;rwa [eR] at this
theorem aY.nh4 {m : Mem} (h : aY m) : m.heads.length≤4:=by have:=h.fx.nh4;rwa [eR] at this
theorem aY.oR {m : Mem} (h : aY m) : 0≤m.now:=h.fx.oR
theorem aY.oQ {m : Mem} (h : aY m) : m.now≤1000000:=h.fx.oQ
theorem aY.nf {m : Mem} (h : aY m) : m.free.length≤12:=h.fx.nf
theorem aY.sl {m : Mem} (h : aY m) {i : Nat} (hi : i < m.slots.length) : mz m.slots.length m.heads.length (msl m i):=by
 have:=h.fx.sl hi
 rwa [eR] at this
theorem aY.refs {m : Mem} (h : aY m) {a : Int} (h1 : 0≤a) (h2 : a < m.slots.length) : 0≤(msl m a.toNat).refs∧(msl m a.toNat).refs≤1000:=h.fx.refs h1 h2
theorem qH {m : Mem} (hm : aY m) (h : m.free.length≠0) : 0≤bg m∧bg m < m.slots.length:=by
 have:=hm.fx.free (bg m) (pb (by show _ < m.free.length;omega))
 exact ⟨this.1,this.2.1⟩
theorem aC {m : Mem} (hm : aY m) {c : Cal} (h : aV m c=0) (hk : 1≤c.kind∧c.kind≤5) : 0≤aa m c∧aa m c < m.heads.length:=by
 unfold aa
 by_cases h4 : c.kind=4∨c.kind=5
 ·rw [if_pos h4];exact w7 h h4
 ·rw [if_neg h4]
  have:=qg (w6 h (by omega)) (n:=m.heads.length) (by have:=hm.nh1;omega) (by have:=hm.nh4;omega)
  exact ⟨this.1,this.2.1⟩
def lock (m : Mem) (b task : Int) : Mem × Bool:=if m.af.getD b.toNat 0=-1 then ({ m with af:=m.af.set b.toNat task},true) else (m,false)
def unlock (m : Mem) (b task : Int) : Mem:=if m.af.getD b.toNat 0=task then { m with af:=m.af.set b.toNat (-1)} else m
def at1 (m : Mem) (f : Frm) : bp:=msl m (f.cur - 1).toNat
def at2 (m : Mem) (f : Frm) : bp:=msl m f.slot.toNat
def au (m : Mem) (f : Frm) : Frm × Mem :=
 if f.pc=0 then ({ f with cur:=aM m (aa m f.c),pc:=1},m)
 else if f.pc=1∧0 < f.cur then ({ f with pc:=if (at1 m f).k=f.c.k then 3 else 2},m)
 else if f.pc=1∧f.cur=-1 - aa m f.c then (aD f 5,m)
 else if f.pc=2∧0 < f.cur then ({ f with cur:=(at1 m f).next,pc:=1},m)
 else if f.pc=3∧0 < f.cur then (if (hold m (f.cur - 1)).2=true then ({ f with slot:=f.cur - 1,pc:=4},(hold m (f.cur - 1)).1) else ({ f with pc:=0},m))
 else if f.pc=4∧0≤f.slot then (if (at2 m f).k≠f.c.k∨(at2 m f).inn=false then ({ f with pc:=5},m) else if (at2 m f).till≤m.now then ({ f with pc:=6},m) else (aD f 0,m))
 else if f.pc=5∧0≤f.slot then ({ f with slot:=-1,pc:=0},put m f.slot)
 else if f.pc=6∧0≤f.slot then (aD { f with slot:=-1} 5,put m f.slot)
 else ({ f with pc:=0},m)
def cn (m : Mem) (f : Frm) : Int:=if m.now + f.c.time≤2000000 then m.now + f.c.time else 2000000
def bx (m : Mem) (f : Frm) (task : Int) : Frm × Mem :=
 if f.pc=0 then
  (if (take m f.c.k (cn m f)).2.2≠0 then (aD f 7,m)
   else ({ f with slot:=(take m f.c.k (cn m f)).2.1,pc:=1},(take m f.c.k (cn m f)).1))
 else if f.pc=1 then ({ f with pc:=if (lock m (aa m f.c) task).2=true then 2 else f.pc},(lock m (aa m f.c) task).1)
 else if f.pc=2 then ({ f with cur:=aM m (aa m f.c),pc:=3},m)
 else if f.pc=3 then ({ f with pc:=if f.cur≤0 then 5 else if (at1 m f).k=f.c.k then 6 else 4},m)
 else if f.pc=4∧0 < f.cur then ({ f with cur:=(at1 m f).next,pc:=3},m)
 else if f.pc=5∧0≤f.slot then ({ f with e:=0,pc:=7},link m f.slot (aa m f.c))
 else if f.pc=6∧0≤f.slot then ({ f with slot:=-1,e:=6,pc:=7},put m f.slot)
 else if f.pc=7 then (aD f f.e,unlock m (aa m f.c) task)
 else ({ f with e:=8,pc:=7},m)
def aQ (m : Mem) (f : Frm) (task : Int) : Frm × Mem :=
 if f.pc=0 then ({ f with pc:=if (lock m (aa m f.c) task).2=true then 1 else f.pc},(lock m (aa m f.c) task).1)
 else if f.pc=1 then ({ f with prev:=0,cur:=aM m (aa m f.c),pc:=2},m)
 else if f.pc=2 then (if f.cur≤0 then ({ f with e:=5,pc:=5},m) else ({ f with pc:=if (at1 m f).k=f.c.k then 4 else 3},m))
 else if f.pc=3∧0 < f.cur then ({ f with prev:=f.cur,cur:=(at1 m f).next,pc:=2},m)
 else if f.pc=4∧0 < f.cur then ({ f with slot:=f.cur - 1,e:=0,pc:=5},cut m f.prev (f.cur - 1) (aa m f.c))
 else if f.pc=5 then ({ f with pc:=6},unlock m (aa m f.c) task)
 else if f.pc=6 then (aD { f with slot:=if 0≤f.slot then -1 else f.slot} f.e,if 0≤f.slot then put m f.slot else m)
 else ({ f with e:=8,pc:=5},m)
def aU (m : Mem) (f : Frm) (task : Int) : Frm × Mem :=
 if f.pc=0 then ({ f with pc:=if (lock m (aa m f.c) task).2=true then 1 else f.pc},(lock m (aa m f.c) task).1)
 else if f.pc=1 then ({ f with prev:=0,cur:=aM m (aa m f.c),pc:=2},m)
 else if f.pc=2∧f.cur≤0 then ({ f with pc:=6},m)
 else if f.pc=2∧f.c.kind=5 then ({ f with keys:=if f.keys.length < 100 then f.keys ++ [(at1 m f).k] else f.keys,pc:=3},m)
 else if f.pc=2 then ({ f with pc:=if (at1 m f).till≤m.now then 4 else 3},m)
 else if f.pc=3∧0 < f.cur then ({ f with prev:=f.cur,cur:=(at1 m f).next,pc:=2},m)
 else if f.pc=4∧0 < f.cur then ({ f with slot:=f.cur - 1,cur:=(at1 m f).next,pc:=5},cut m f.prev (f.cur - 1) (aa m f.c))
 else if f.pc=5∧0≤f.slot then ({ f with slot:=-1,n:=if 1000000 < f.n + 1 then 1000000 else f.n + 1,pc:=2},put m f.slot)
 else if f.pc=6 then (aD f 0,unlock m (aa m f.c) task)
 else ({ f with pc:=6},m)
def jF (st : Mem→Frm→Frm × Mem) : Nat→Frm→Mem→Frm × Mem × Bool
 | 0,f,m=>(f,m,false)
 | n + 1,f,m=>if (st m f).1.done=true then ((st m f).1,(st m f).2,true) else jF st n (st m f).1 (st m f).2
theorem fg {st : Mem→Frm→Frm × Mem} {n : Nat} {f g : Frm} {m x : Mem} (h : st m f=(g,x)) (hd : g.done=false) : jF st (n + 1) f m=jF st n g x:=by
 rw [jF,h,hd];rfl
theorem qk {st : Mem→Frm→Frm × Mem} {n : Nat} {f g : Frm} {m x : Mem} (h : st m f=(g,x)) (hd : g.done=true) : jF st (n + 1) f m=(g,x,true):=by
 rw [jF,h,hd];rfl
theorem rF {m : Mem} {a : Int} (h : (hold m a).2=false) : (hold m a).1=m:=by
 unfold hold at h ⊢
 split
 ·rfl
 ·rename_i hc;rw [if_neg hc] at h;cases h
theorem rE {m : Mem} {b t : Int} (h : (lock m b t).2=false) : (lock m b t).1=m:=by
 unfold lock at h ⊢
 split
 ·rename_i hc;rw [if_pos hc] at h;cases h
 ·rfl
theorem za {m : Mem} {k : Key} {t : Int} (h : (take m k t).2.2≠0) : take m k t=(m,0,7):=by
 unfold take at h ⊢
 split
 ·rfl
 ·rename_i hc;rw [if_neg hc] at h;exact absurd rfl h
theorem zL {j k : Key} (h : ((j.a ==k.a) && ((j.b ==k.b) && true))=true) : j=k:=by
 simp only [Bool.and_true,Bool.and_eq_true,beq_iff_eq] at h
 cases j;cases k;simp only at h;rw [h.1,h.2]
theorem zN {j k : Key} (h : ((j.a ==k.a) && ((j.b ==k.b) && true))=false) : j≠k:=fun e=>by
 rw [e] at h;simp at h
theorem wM (f : Frm) (e : Int) : d44.fn [.i f.c.kind,.i f.c.k.a,.i f.c.k.b,.i f.c.time,.i f.c.bucket,.i f.c.slot,.i f.pc,.i f.cur,.i f.prev,.i f.slot,.i f.n,bK f.keys,.b f.done,.i f.e,.i e]=(aD f e).cds:=by
 simp only [d44,dH,List.getD_cons_zero,List.getD_cons_succ,CD.aP]
theorem DU (m : Mem) (c : Cal) : d48.fn [aq m.slots,ae m.heads,ae m.free,ae m.af,.i m.now,.i c.kind,.i c.k.a,.i c.k.b,.i c.time,.i c.bucket,.i c.slot]=[.i (aa m c)]:=by
 simp only [d48,mem_of,aw,List.drop_succ_cons,List.drop_zero,fq,cx]
theorem fs162 (m : Mem) (k : Key) (x : Int) : d162.fn [aq m.slots,ae m.heads,ae m.free,ae m.af,.i m.now,.i k.a,.i k.b,.i x]=(take m k x).1.cds ++ [.i (take m k x).2.1,.i (take m k x).2.2]:=by simp only [d162,mem_of,aw,List.drop_succ_cons,List.drop_zero,lW,ga,List.getD_cons_zero,List.getD_cons_succ,CD.aP]
theorem fs166 (m : Mem) (x : Int) : d166.fn [aq m.slots,ae m.heads,ae m.free,ae m.af,.i m.now,.i x]=(hold m x).1.cds ++ [.b (hold m x).2]:=by simp only [d166,mem_of,aw,List.getD_cons_zero,List.getD_cons_succ,CD.aP]
theorem zT (m : Mem) (x : Int) : d167.fn [aq m.slots,ae m.heads,ae m.free,ae m.af,.i m.now,.i x]=(put m x).cds:=by simp only [d167,mem_of,aw,List.getD_cons_zero,List.getD_cons_succ,CD.aP]
theorem pi166 {m : Mem} {x : Int} (hm : aY m) (h0 : 0≤x) (h1 : x < m.slots.length) : d166.pre [aq m.slots,ae m.heads,ae m.free,ae m.af,.i m.now,.i x]:=by
 simp only [d166,mem_of,aw,List.getD_cons_zero,List.getD_cons_succ,CD.aP]
 exact ⟨h0,h1,(hm.refs h0 h1).1,(hm.refs h0 h1).2⟩
theorem pi167 {m : Mem} {x : Int} (hm : aY m) (h0 : 0≤x) (h1 : x < m.slots.length) : d167.pre [aq m.slots,ae m.heads,ae m.free,ae m.af,.i m.now,.i x]:=by
 simp only [d167,mem_of,aw,List.getD_cons_zero,List.getD_cons_succ,CD.aP]
 exact ⟨h0,h1,(hm.refs h0 h1).1,(hm.refs h0 h1).2,by have:=hm.nf;omega⟩
theorem BC {m : Mem} (hm : aY m) : m.free.length=0∨(0≤bg m∧bg m < m.slots.length):=by
 by_cases h : m.free.length=0
 ·exact .inl h
 ·exact .inr (qH hm h)
theorem pi162 {m : Mem} {k : Key} {x : Int} (hm : aY m) : d162.pre [aq m.slots,ae m.heads,ae m.free,ae m.af,.i m.now,.i k.a,.i k.b,.i x]:=by
 simp only [d162,mem_of,aw]
 exact BC hm
end Go.Proofs.Ytpmamacjepcdmaa

namespace Go.Proofs.Ytpmamacjepcdmaa
open Go Go.Sy Go.RowKit
theorem getD_modify {α : Type} [Inhabited α] (f : α→α) : ∀ (l : List α) (a i : Nat),(l.modify a f).getD i default=if a=i∧a < l.length then f (l.getD i default) else l.getD i default
 | [],a,i=>by simp
 | x :: l,0,0=>by simp
 | x :: l,0,i + 1=>by simp
 | x :: l,a + 1,0=>by simp
 | x :: l,a + 1,i + 1=>by
  have:=getD_modify f l a i
  simp only [List.modify_succ_cons,List.getD_cons_succ,this,List.length_cons,Nat.add_lt_add_iff_right,Nat.add_right_cancel_iff]
theorem xj {α : Type} [Inhabited α] {P : α→Prop} {l : List α} (h : ∀ i,i < l.length→P (l.getD i default)) : ∀ s∈l,P s:=fun s hs=>by
 obtain ⟨i,hi,rfl⟩:=List.getElem_of_mem hs
 have:=h i hi
 rwa [List.getD_eq_getElem?_getD,List.getElem?_eq_getElem hi,Option.getD_some] at this
theorem CO {α : Type} [Inhabited α] {l m : List α} (hl : l.length=m.length) (h : ∀ i,i < l.length→l.getD i default=m.getD i default) : l=m:=by
 apply List.ext_getElem hl
 intro i h1 h2
 have:=h i h1
 rwa [List.getD_eq_getElem?_getD,List.getD_eq_getElem?_getD,List.getElem?_eq_getElem h1,List.getElem?_eq_getElem h2,Option.getD_some,Option.getD_some] at this
theorem modify_id {α : Type} [Inhabited α] (f : α→α) (l : List α) (a : Nat) (h : f (l.getD a default)=l.getD a default) : l.modify a f=l:=by
 refine CO (by simp) fun i _=>?_
 rw [getD_modify]
 split
 ·rename_i hx;rw [← hx.1,h]
 ·rfl
def fu (m : Mem) (a : Nat) (f : bp→bp) (free : List Int) : Mem:={ m with slots:=m.slots.modify a f,free:=free}
theorem nQ (m : Mem) (a : Nat) (f : bp→bp) (free : List Int) (i : Nat) : msl (fu m a f free) i=if a=i∧a < m.slots.length then f (msl m i) else msl m i:=getD_modify f m.slots a i
theorem tB (m : Mem) (a : Nat) (f : bp→bp) (free : List Int) : (fu m a f free).slots.length=m.slots.length:=by simp [fu]
theorem bs.fu {m : Mem} (h : bs m) {a : Nat} {f : bp→bp} {free : List Int} (ha : a < m.slots.length) (hs : mz m.slots.length m.heads.length (f (msl m a)))
  (hf : ∀ b∈free,0≤b∧b < m.slots.length∧(if a=b.toNat then (f (msl m a)).refs=0 else (msl m b.toNat).refs=0)) (hn : free.Nodup)
  (hl : ∀ i,i < m.slots.length→(if a=i then (f (msl m a)).refs=0 else (msl m i).refs=0)→(i : Int)∈free) : bs (fu m a f free):=by
 have e:=tB m a f free
 refine ⟨by rw [e];exact h.ns,h.nh1,h.nh4,h.nl,h.oR,h.oQ,?_,by rw [e];exact h.head,fun b hb=>?_,hn,fun i hi hr=>?_⟩
 ·rw [e]
  refine xj fun i hi=>?_
  have : i < m.slots.length:=by rw [e] at hi;exact hi
  show mz _ _ (msl (Ytpmamacjepcdmaa.fu m a f free) i)
  rw [nQ]
  split
  ·rename_i hx;rw [← hx.1];exact hs
  ·exact h.sl this
 ·obtain ⟨h1,h2,h3⟩:=hf b hb
  refine ⟨h1,by rw [e];exact h2,?_⟩
  rw [nQ]
  by_cases hx : a=b.toNat
  ·rw [if_pos hx] at h3
   rw [if_pos ⟨hx,ha⟩,← hx];exact h3
  ·rw [if_neg hx] at h3
   rw [if_neg (fun y=>hx y.1)];exact h3
 ·rw [e] at hi
  rw [nQ] at hr
  refine hl i hi ?_
  by_cases hx : a=i
  ·rw [if_pos hx]
   rw [if_pos ⟨hx,ha⟩,← hx] at hr;exact hr
  ·rw [if_neg hx]
   rw [if_neg (fun y=>hx y.1)] at hr;exact hr
theorem yG {m : Mem} (h : m.free.length≠0) : m.free=m.free.take (m.free.length - 1) ++ [bg m]:=by
 have h1 : m.free.length - 1 < m.free.length:=by omega
 have e : m.free.take (m.free.length - 1 + 1)=m.free:=by rw [List.take_of_length_le (by omega)]
 rw [List.take_succ_eq_append_getElem h1] at e
 unfold bg
 rw [List.getD_eq_getElem?_getD,List.getElem?_eq_getElem h1,Option.getD_some,e]
theorem DA {m : Mem} (h : bs m) {k : Key} {till : Int} (hn : m.free.length≠0) (hk : Key.Ok k) (h0 : 0≤till) (h1 : till≤2000000) : bs (fu m (bg m).toNat (c9 k till) (m.free.take (m.free.length - 1))):=by
 have hl:=h.free _ (vh hn)
 have hlt : (bg m).toNat < m.slots.length:=by omega
 have hs:=h.sl hlt
 have hsp:=yG hn
 have hnd:=h.nodup
 rw [hsp] at hnd
 have hnd:=List.nodup_append.1 hnd
 have hnot : ∀ b∈m.free.take (m.free.length - 1),b≠bg m:=fun b hb=>hnd.2.2 b hb (bg m) (by simp)
 refine h.fu hlt ⟨?_,?_,h0,h1,hk,hs.n0,hs.n1⟩ (fun b hb=>?_) hnd.1 (fun i hi hr=>?_)
 ·simp [c9]
 ·simp [c9]
 ·have:=h.free b (by rw [hsp];simp [hb])
  refine ⟨this.1,this.2.1,?_⟩
  rw [if_neg]
  ·exact this.2.2
  ·intro e
   exact hnot b hb (by omega)
 ·split at hr
  ·simp [c9] at hr
  ·rename_i hne
   have:=h.leak i hi hr
   rw [hsp,List.mem_append,List.mem_singleton] at this
   rcases this with h2 | h2
   ·exact h2
   ·exact absurd (by omega) hne
theorem zp {m : Mem} (hm : bs m) {a : Nat} {n : Int} (h1 : a < m.slots.length) (h0 : 1≤(msl m a).refs) (h2 : 1≤(msl m a).refs + n) (h3 : (msl m a).refs + n≤1000) : bs (fu m a (cB n) m.free):=by
 have hs:=hm.sl h1
 refine hm.fu h1 ⟨by show 0≤(msl m a).refs + n;omega,h3,hs.t0,hs.t1,hs.k,hs.n0,hs.n1⟩ (fun b hb=>?_) hm.nodup (fun i hi hr=>?_)
 ·have:=hm.free b hb
  refine ⟨this.1,this.2.1,?_⟩
  rw [if_neg (fun e=>by rw [e] at h0;omega)]
  exact this.2.2
 ·split at hr
  ·have hr : (msl m a).refs + n=0:=hr
   omega
  ·exact hm.leak i hi hr
theorem CG {m : Mem} (hm : bs m) {a : Int} (h0 : 0≤a) (h1 : a < m.slots.length) (h2 : (msl m a.toNat).refs=1) : bs (fu m a.toNat (cB (-1)) (m.free ++ [a])):=by
 have hlt : a.toNat < m.slots.length:=by omega
 have hs:=hm.sl hlt
 have hna : a ∉ m.free:=fun h=>by have:=(hm.free a h).2.2;omega
 refine hm.fu hlt ⟨by show 0≤(msl m a.toNat).refs + -1;omega,by show (msl m a.toNat).refs + -1≤1000;omega,hs.t0,hs.t1,hs.k,hs.n0,hs.n1⟩ (fun b hb=>?_) ?_ (fun i hi hr=>?_)
 ·rcases List.mem_append.1 hb with hb | hb
  ·have:=hm.free b hb
   refine ⟨this.1,this.2.1,?_⟩
   rw [if_neg (fun e=>by
    have : a=b:=by omega
    exact hna (by rw [this];exact hb))]
   exact this.2.2
  ·rw [List.mem_singleton] at hb
   subst hb
   refine ⟨h0,h1,?_⟩
   rw [if_pos rfl]
   show (msl m b.toNat).refs + -1=0
   omega
 ·exact List.nodup_append.2 ⟨hm.nodup,by simp,fun x hx y hy=>by
   rw [List.mem_singleton] at hy
   subst hy
   intro e
   exact hna (by rw [← e];exact hx)⟩
 ·split at hr
  ·rename_i e
   rw [List.mem_append,List.mem_singleton]
   right;omega
  ·rw [List.mem_append]
   exact .inl (hm.leak i hi hr)
end Go.Proofs.Ytpmamacjepcdmaa
