import Derived.Test.YtpmamacjepcdmaaCChain4
import Derived.Test.YtpmamacjepcdmaaCMemLaws
namespace Go.Proofs.Ytpmamacjepcdmaa
open Go Go.Sy Go.RowKit
set_option linter.unusedSimpArgs false
set_option linter.unusedVariables false
structure bV (m : Mem) (f : Frm) : Prop where
 call : bf m f.c=0
 pc0 : 0≤f.pc
 pc9 : f.pc≤9
 n0 : 0≤f.n
 n9 : f.n≤1000000
 nd : f.done=false
 cur0 : -(m.heads.length : Int)≤f.cur
 cur1 : f.cur≤m.slots.length
 prev0 : 0≤f.prev
 prev1 : f.prev≤m.slots.length
 slot0 : -1≤f.slot
 slot1 : f.slot < m.slots.length
 keys : f.keys.length≤100
theorem mD (m : Mem) (f : Frm) : eO m f=0↔bV m f:=by
 unfold eO
 constructor
 ·intro h
  split at h
  ·rename_i h1;exact absurd h h1
  ·rename_i h1
   split at h
   ·cases h
   ·rename_i h2
    split at h
    ·cases h
    ·rename_i h3
     split at h
     ·cases h
     ·rename_i h4
      split at h
      ·cases h
      ·rename_i h5
       exact ⟨Classical.not_not.1 h1,by omega,by omega,by omega,by omega,by simpa using h3,by omega,by omega,by omega,by omega,by omega,by omega,by omega⟩
 ·intro h
  obtain ⟨h1,h2,h3,h4,h5,h6,h7,h8,h9,h10,h11,h12,h13⟩:=h
  rw [if_neg (fun x=>x h1),if_neg (by omega),if_neg (by rw [h6];exact Bool.false_ne_true),if_neg (by omega),if_neg (by omega)]
theorem mH {m : Mem} {c : Cal} (h : bf m c=0) (hk : c.kind=1∨c.kind=2∨c.kind=3) : Key.Ok c.k:=by
 unfold bf at h
 refine (gA c.k).1 ?_
 rcases hk with hk | hk | hk
 ·rwa [if_pos (.inl hk)] at h
 ·rw [if_neg (by omega),if_pos hk] at h
  split at h
  ·cases h
  ·exact h
 ·rwa [if_pos (.inr hk)] at h
theorem nv {m : Mem} {c : Cal} (h : bf m c=0) (hk : c.kind=2) : 1≤c.time∧c.time≤1000000:=by
 unfold bf at h
 rw [if_neg (by omega),if_pos hk] at h
 split at h
 ·cases h
 ·omega
theorem mI {m : Mem} {c : Cal} (h : bf m c=0) (hk : c.kind=4∨c.kind=5) : 0≤c.bucket∧c.bucket < m.heads.length:=by
 unfold bf at h
 rw [if_neg (by omega),if_neg (by omega),if_pos hk] at h
 split at h
 ·cases h
 ·omega
def fix (m : Mem) : Mem:={ m with heads:=List.replicate m.heads.length (-1),locks:=List.replicate m.heads.length (-1)}
structure aZ (m : Mem) : Prop where
 fx : bB (fix m)
 nl : m.locks.length=m.heads.length
 hd : ∀ i,i < m.heads.length→-(m.heads.length : Int)≤m.heads.getD i 0∧m.heads.getD i 0≤m.slots.length
theorem ff (m : Mem) : (fix m).heads.length=m.heads.length:=List.length_replicate
theorem bB.rJ {m : Mem} (h : bB m) : aZ m:=by
 refine ⟨⟨h.ns,by rw [ff];exact h.nh1,by rw [ff];exact h.nh4,by simp [fix],h.ma,h.Ik,by rw [ff];exact h.slot,fun i hi=>?_,h.free,h.nodup,h.leak⟩,h.nl,fun i hi=>⟨(h.head i hi).n1,(h.head i hi).n0⟩⟩
 rw [ff] at hi ⊢
 have hn:=h.nh1
 have e : (List.replicate m.heads.length (-1 : Int)).getD i 0=-1:=by simp [List.getD_eq_getElem?_getD,hi]
 show ug _ _ ((List.replicate m.heads.length (-1 : Int)).getD i 0) ((List.replicate m.heads.length (-1 : Int)).getD i 0)
 rw [e]
 exact ⟨by decide,by omega,by omega,by decide,by decide⟩
theorem aZ.ns {m : Mem} (h : aZ m) : m.slots.length≤12:=h.fx.ns
theorem aZ.nh1 {m : Mem} (h : aZ m) : 1≤m.heads.length:=by have:=h.fx.nh1;rwa [ff] at this
theorem aZ.nh4 {m : Mem} (h : aZ m) : m.heads.length≤4:=by have:=h.fx.nh4;rwa [ff] at this
theorem aZ.ma {m : Mem} (h : aZ m) : 0≤m.now:=h.fx.ma
theorem aZ.Ik {m : Mem} (h : aZ m) : m.now≤1000000:=h.fx.Ik
theorem aZ.nf {m : Mem} (h : aZ m) : m.free.length≤12:=h.fx.nf
theorem aZ.sl {m : Mem} (h : aZ m) {i : Nat} (hi : i < m.slots.length) : mR m.slots.length m.heads.length (msl m i):=by
 have:=h.fx.sl hi
 rwa [ff] at this
theorem aZ.refs {m : Mem} (h : aZ m) {a : Int} (h1 : 0≤a) (h2 : a < m.slots.length) : 0≤(msl m a.toNat).refs∧(msl m a.toNat).refs≤1000:=h.fx.refs h1 h2
theorem qZ {m : Mem} (hm : aZ m) (h : m.free.length≠0) : 0≤bc m∧bc m < m.slots.length:=by
 have:=hm.fx.free (bc m) (pA (by show _ < m.free.length;omega))
 exact ⟨this.1,this.2.1⟩
theorem aQ {m : Mem} (hm : aZ m) {c : Cal} (h : bf m c=0) (hk : 1≤c.kind∧c.kind≤5) : 0≤aa m c∧aa m c < m.heads.length:=by
 unfold aa
 by_cases h4 : c.kind=4∨c.kind=5
 ·rw [if_pos h4];exact mI h h4
 ·rw [if_neg h4]
  have:=vr (mH h (by omega)) (n:=m.heads.length) (by have:=hm.nh1;omega) (by have:=hm.nh4;omega)
  exact ⟨this.1,this.2.1⟩
def lock (m : Mem) (b task : Int) : Mem × Bool:=if m.locks.getD b.toNat 0=-1 then ({ m with locks:=m.locks.set b.toNat task},true) else (m,false)
def unlock (m : Mem) (b task : Int) : Mem:=if m.locks.getD b.toNat 0=task then { m with locks:=m.locks.set b.toNat (-1)} else m
def at1 (m : Mem) (f : Frm) : bp:=msl m (f.cur - 1).toNat
def at2 (m : Mem) (f : Frm) : bp:=msl m f.slot.toNat
def ar (m : Mem) (f : Frm) : Frm × Mem :=
 if f.pc=0 then ({ f with cur:=aO m (aa m f.c),pc:=1},m)
 else if f.pc=1∧0 < f.cur then ({ f with pc:=if (at1 m f).k=f.c.k then 3 else 2},m)
 else if f.pc=1∧f.cur=-1 - aa m f.c then (ay f 5,m)
 else if f.pc=2∧0 < f.cur then ({ f with cur:=(at1 m f).next,pc:=1},m)
 else if f.pc=3∧0 < f.cur then (if (hold m (f.cur - 1)).2=true then ({ f with slot:=f.cur - 1,pc:=4},(hold m (f.cur - 1)).1) else ({ f with pc:=0},m))
 else if f.pc=4∧0≤f.slot then (if (at2 m f).k≠f.c.k∨(at2 m f).inn=false then ({ f with pc:=5},m) else if (at2 m f).till≤m.now then ({ f with pc:=6},m) else (ay f 0,m))
 else if f.pc=5∧0≤f.slot then ({ f with slot:=-1,pc:=0},put m f.slot)
 else if f.pc=6∧0≤f.slot then (ay { f with slot:=-1} 5,put m f.slot)
 else ({ f with pc:=0},m)
def bE (m : Mem) (f : Frm) : Int:=if m.now + f.c.time≤2000000 then m.now + f.c.time else 2000000
def G3 (m : Mem) (f : Frm) (task : Int) : Frm × Mem :=
 if f.pc=0 then
  (if (take m f.c.k (bE m f)).2.2≠0 then (ay f 7,m)
   else ({ f with slot:=(take m f.c.k (bE m f)).2.1,pc:=1},(take m f.c.k (bE m f)).1))
 else if f.pc=1 then ({ f with pc:=if (lock m (aa m f.c) task).2=true then 2 else f.pc},(lock m (aa m f.c) task).1)
 else if f.pc=2 then ({ f with cur:=aO m (aa m f.c),pc:=3},m)
 else if f.pc=3 then ({ f with pc:=if f.cur≤0 then 5 else if (at1 m f).k=f.c.k then 6 else 4},m)
 else if f.pc=4∧0 < f.cur then ({ f with cur:=(at1 m f).next,pc:=3},m)
 else if f.pc=5∧0≤f.slot then ({ f with e:=0,pc:=7},link m f.slot (aa m f.c))
 else if f.pc=6∧0≤f.slot then ({ f with slot:=-1,e:=6,pc:=7},put m f.slot)
 else if f.pc=7 then (ay f f.e,unlock m (aa m f.c) task)
 else ({ f with e:=8,pc:=7},m)
def aL (m : Mem) (f : Frm) (task : Int) : Frm × Mem :=
 if f.pc=0 then ({ f with pc:=if (lock m (aa m f.c) task).2=true then 1 else f.pc},(lock m (aa m f.c) task).1)
 else if f.pc=1 then ({ f with prev:=0,cur:=aO m (aa m f.c),pc:=2},m)
 else if f.pc=2 then (if f.cur≤0 then ({ f with e:=5,pc:=5},m) else ({ f with pc:=if (at1 m f).k=f.c.k then 4 else 3},m))
 else if f.pc=3∧0 < f.cur then ({ f with prev:=f.cur,cur:=(at1 m f).next,pc:=2},m)
 else if f.pc=4∧0 < f.cur then ({ f with slot:=f.cur - 1,e:=0,pc:=5},cut m f.prev (f.cur - 1) (aa m f.c))
 else if f.pc=5 then ({ f with pc:=6},unlock m (aa m f.c) task)
 else if f.pc=6 then (ay { f with slot:=if 0≤f.slot then -1 else f.slot} f.e,if 0≤f.slot then put m f.slot else m)
 else ({ f with e:=8,pc:=5},m)
def aB (m : Mem) (f : Frm) (task : Int) : Frm × Mem :=
 if f.pc=0 then ({ f with pc:=if (lock m (aa m f.c) task).2=true then 1 else f.pc},(lock m (aa m f.c) task).1)
 else if f.pc=1 then ({ f with prev:=0,cur:=aO m (aa m f.c),pc:=2},m)
 else if f.pc=2∧f.cur≤0 then ({ f with pc:=6},m)
 else if f.pc=2∧f.c.kind=5 then ({ f with keys:=if f.keys.length < 100 then f.keys ++ [(at1 m f).k] else f.keys,pc:=3},m)
 else if f.pc=2 then ({ f with pc:=if (at1 m f).till≤m.now then 4 else 3},m)
 else if f.pc=3∧0 < f.cur then ({ f with prev:=f.cur,cur:=(at1 m f).next,pc:=2},m)
 else if f.pc=4∧0 < f.cur then ({ f with slot:=f.cur - 1,cur:=(at1 m f).next,pc:=5},cut m f.prev (f.cur - 1) (aa m f.c))
 else if f.pc=5∧0≤f.slot then ({ f with slot:=-1,n:=if 1000000 < f.n + 1 then 1000000 else f.n + 1,pc:=2},put m f.slot)
 else if f.pc=6 then (ay f 0,unlock m (aa m f.c) task)
 else ({ f with pc:=6},m)
def bZ (st : Mem→Frm→Frm × Mem) : Nat→Frm→Mem→Frm × Mem × Bool
 | 0,f,m=>(f,m,false)
 | n + 1,f,m=>if (st m f).1.done=true then ((st m f).1,(st m f).2,true) else bZ st n (st m f).1 (st m f).2
theorem bd {st : Mem→Frm→Frm × Mem} {n : Nat} {f g : Frm} {m x : Mem} (h : st m f=(g,x)) (hd : g.done=false) : bZ st (n + 1) f m=bZ st n g x:=by
 rw [bZ,h,hd];rfl
theorem dm {st : Mem→Frm→Frm × Mem} {n : Nat} {f g : Frm} {m x : Mem} (h : st m f=(g,x)) (hd : g.done=true) : bZ st (n + 1) f m=(g,x,true):=by
 rw [bZ,h,hd];rfl
theorem sb {m : Mem} {a : Int} (h : (hold m a).2=false) : (hold m a).1=m:=by
 unfold hold at h ⊢
 split
 ·rfl
 ·rename_i hc;rw [if_neg hc] at h;cases h
theorem rX {m : Mem} {b t : Int} (h : (lock m b t).2=false) : (lock m b t).1=m:=by
 unfold lock at h ⊢
 split
 ·rename_i hc;rw [if_pos hc] at h;cases h
 ·rfl
theorem Aj {m : Mem} {k : Key} {t : Int} (h : (take m k t).2.2≠0) : take m k t=(m,0,7):=by
 unfold take at h ⊢
 split
 ·rfl
 ·rename_i hc;rw [if_neg hc] at h;exact absurd rfl h
theorem AW {j k : Key} (h : ((j.a ==k.a) && ((j.b ==k.b) && true))=true) : j=k:=by
 simp only [Bool.and_true,Bool.and_eq_true,beq_iff_eq] at h
 cases j;cases k;simp only at h;rw [h.1,h.2]
theorem AY {j k : Key} (h : ((j.a ==k.a) && ((j.b ==k.b) && true))=false) : j≠k:=fun e=>by
 rw [e] at h;simp at h
theorem Gj (a b c d e f : Int) : d41.fn [.i a,.i b,.i c,.i d,.i e,.i f]=(aX ⟨a,⟨b,c⟩,d,e,f⟩).cds:=rfl
theorem xR (f : Frm) (e : Int) : d44.fn [.i f.c.kind,.i f.c.k.a,.i f.c.k.b,.i f.c.time,.i f.c.bucket,.i f.c.slot,.i f.pc,.i f.cur,.i f.prev,.i f.slot,.i f.n,bS f.keys,.b f.done,.i f.e,.i e]=(ay f e).cds:=by
 simp only [d44,dJ,List.getD_cons_zero,List.getD_cons_succ,CD.aR]
theorem GN (m : Mem) (f : Frm) : d43.fn [au m.slots,af m.heads,af m.free,af m.locks,.i m.now,.i f.c.kind,.i f.c.k.a,.i f.c.k.b,.i f.c.time,.i f.c.bucket,.i f.c.slot,.i f.pc,.i f.cur,.i f.prev,.i f.slot,.i f.n,bS f.keys,.b f.done,.i f.e]=[.i (eO m f)]:=by
 simp only [d43,mem_of,aA,List.drop_succ_cons,List.drop_zero,dJ]
theorem Fa (m : Mem) (c : Cal) : d48.fn [au m.slots,af m.heads,af m.free,af m.locks,.i m.now,.i c.kind,.i c.k.a,.i c.k.b,.i c.time,.i c.bucket,.i c.slot]=[.i (aa m c)]:=by
 simp only [d48,mem_of,aA,List.drop_succ_cons,List.drop_zero,fG,cz]
theorem fs162 (m : Mem) (k : Key) (x : Int) : d162.fn [au m.slots,af m.heads,af m.free,af m.locks,.i m.now,.i k.a,.i k.b,.i x]=(take m k x).1.cds ++ [.i (take m k x).2.1,.i (take m k x).2.2]:=by simp only [d162,mem_of,aA,List.drop_succ_cons,List.drop_zero,jK,eZ,List.getD_cons_zero,List.getD_cons_succ,CD.aR]
theorem fs166 (m : Mem) (x : Int) : d166.fn [au m.slots,af m.heads,af m.free,af m.locks,.i m.now,.i x]=(hold m x).1.cds ++ [.b (hold m x).2]:=by simp only [d166,mem_of,aA,List.getD_cons_zero,List.getD_cons_succ,CD.aR]
theorem A6 (m : Mem) (x : Int) : d167.fn [au m.slots,af m.heads,af m.free,af m.locks,.i m.now,.i x]=(put m x).cds:=by simp only [d167,mem_of,aA,List.getD_cons_zero,List.getD_cons_succ,CD.aR]
theorem pi166 {m : Mem} {x : Int} (hm : aZ m) (h0 : 0≤x) (h1 : x < m.slots.length) : d166.pre [au m.slots,af m.heads,af m.free,af m.locks,.i m.now,.i x]:=by
 simp only [d166,mem_of,aA,List.getD_cons_zero,List.getD_cons_succ,CD.aR]
 exact ⟨h0,h1,(hm.refs h0 h1).1,(hm.refs h0 h1).2⟩
theorem pi67 {m : Mem} {x : Int} (hm : aZ m) (h0 : 0≤x) (h1 : x < m.slots.length) : d67.pre [au m.slots,af m.heads,af m.free,af m.locks,.i m.now,.i x]:=by
 simp only [d67,mem_of,aA,List.getD_cons_zero,List.getD_cons_succ,CD.aR]
 exact ⟨h0,h1,(hm.refs h0 h1).1,(hm.refs h0 h1).2⟩
theorem pi167 {m : Mem} {x : Int} (hm : aZ m) (h0 : 0≤x) (h1 : x < m.slots.length) : d167.pre [au m.slots,af m.heads,af m.free,af m.locks,.i m.now,.i x]:=by
 simp only [d167,mem_of,aA,List.getD_cons_zero,List.getD_cons_succ,CD.aR]
 exact ⟨h0,h1,(hm.refs h0 h1).1,(hm.refs h0 h1).2,by have:=hm.nf;omega⟩
theorem pi68 {m : Mem} {x : Int} (hm : aZ m) (h0 : 0≤x) (h1 : x < m.slots.length) : d68.pre [au m.slots,af m.heads,af m.free,af m.locks,.i m.now,.i x]:=by
 simp only [d68,mem_of,aA,List.getD_cons_zero,List.getD_cons_succ,CD.aR]
 exact ⟨h0,h1,(hm.refs h0 h1).1,(hm.refs h0 h1).2,by have:=hm.nf;omega⟩
theorem CF {m : Mem} (hm : aZ m) : m.free.length=0∨(0≤bc m∧bc m < m.slots.length):=by
 by_cases h : m.free.length=0
 ·exact .inl h
 ·exact .inr (qZ hm h)
theorem pi162 {m : Mem} {k : Key} {x : Int} (hm : aZ m) : d162.pre [au m.slots,af m.heads,af m.free,af m.locks,.i m.now,.i k.a,.i k.b,.i x]:=by
 simp only [d162,mem_of,aA]
 exact CF hm
theorem pi66 {m : Mem} {k : Key} {x : Int} (hm : aZ m) : d66.pre [au m.slots,af m.heads,af m.free,af m.locks,.i m.now,.i k.a,.i k.b,.i x]:=by
 simp only [d66,mem_of,aA]
 exact ⟨by have:=hm.nf;omega,CF hm⟩
end Go.Proofs.Ytpmamacjepcdmaa

namespace Go.Proofs.Ytpmamacjepcdmaa
open Go Go.Sy Go.RowKit
set_option linter.unusedSimpArgs false
set_option linter.unusedVariables false
theorem uA {m x : Mem} (h1 : x.slots.length=m.slots.length) (h2 : x.heads.length=m.heads.length) (c : Cal) : bf x c=bf m c:=by
 unfold bf
 rw [h1,h2]
theorem bV.with {m x : Mem} {f g : Frm} (h : bV m f) (h1 : x.slots.length=m.slots.length) (h2 : x.heads.length=m.heads.length) (hc : g.c=f.c) (hd : g.done=false)
  (pc : 0≤g.pc∧g.pc≤9) (n : 0≤g.n∧g.n≤1000000) (cur : -(m.heads.length : Int)≤g.cur∧g.cur≤m.slots.length) (prev : 0≤g.prev∧g.prev≤m.slots.length)
  (slot : -1≤g.slot∧g.slot < m.slots.length) (keys : g.keys.length≤100) : bV x g :=
 ⟨by rw [hc,uA h1 h2];exact h.call,pc.1,pc.2,n.1,n.2,hd,by rw [h2];exact cur.1,by rw [h1];exact cur.2,prev.1,by rw [h1];exact prev.2,slot.1,by rw [h1];exact slot.2,keys⟩
theorem pv (m : Mem) (a : Int) : (hold m a).1.slots.length=m.slots.length∧(hold m a).1.heads=m.heads∧(hold m a).1.locks=m.locks∧(hold m a).1.now=m.now:=by
 unfold hold
 split
 ·exact ⟨rfl,rfl,rfl,rfl⟩
 ·exact ⟨by simp,rfl,rfl,rfl⟩
theorem jw (m : Mem) (a : Int) : (put m a).slots.length=m.slots.length∧(put m a).heads=m.heads∧(put m a).locks=m.locks∧(put m a).now=m.now:=by
 unfold put
 split
 ·exact ⟨rfl,rfl,rfl,rfl⟩
 ·split <;> exact ⟨by simp,rfl,rfl,rfl⟩
theorem Fe (m : Mem) (a : Int) : fix (put m a)=put (fix m) a:=by
 have e : msl (fix m) a.toNat=msl m a.toNat:=rfl
 unfold put
 rw [e]
 split
 ·rfl
 ·split <;> rfl
theorem DT (m : Mem) (a : Int) : fix (hold m a).1=(hold (fix m) a).1:=by
 have e : msl (fix m) a.toNat=msl m a.toNat:=rfl
 unfold hold
 rw [e]
 split <;> rfl
theorem we {m : Mem} (hm : bB m) {a : Int} (h0 : 0≤a) (h1 : a < m.slots.length) : bB (hold m a).1:=by
 unfold hold
 split
 ·exact hm
 ·rename_i h
  have hs:=hm.sl (i:=a.toNat) (by omega)
  have r0:=hs.r0
  have r1:=hs.r1
  exact AA hm (a:=a.toNat) (n:=1) (by omega) (by omega) (by omega) (by omega)
theorem iY {m : Mem} (hm : bB m) {a : Int} (h0 : 0≤a) (h1 : a < m.slots.length) : bB (put m a):=by
 unfold put
 split
 ·exact hm
 ·rename_i h
  have hs:=hm.sl (i:=a.toNat) (by omega)
  have r0:=hs.r0
  have r1:=hs.r1
  split
  ·rename_i h'
   exact DQ hm h0 h1 h'
  ·rename_i h'
   exact AA hm (a:=a.toNat) (n:=-1) (by omega) (by omega) (by omega) (by omega)
theorem wS {m : Mem} (hm : bB m) {k : Key} {t : Int} (hk : Key.Ok k) (h0 : 0≤t) (h1 : t≤2000000) : bB (take m k t).1:=by
 unfold take
 split
 ·exact hm
 ·rename_i h;exact Ai hm h hk h0 h1
theorem AO {m : Mem} (hm : bB m) {a : Nat} {f : bp→bp} (ha : a < m.slots.length) (h1 : ∀ s,(f s).refs=s.refs) (hs : mR m.slots.length m.heads.length (f (msl m a))) : bB (cm m a f m.free):=by
 refine bB.cm hm ha hs (fun b hb=>?_) hm.nodup fun i hi hr=>?_
 ·obtain ⟨k1,k2,k3⟩:=hm.free b hb
  refine ⟨k1,k2,?_⟩
  split
  ·rename_i e;rw [h1,e];exact k3
  ·exact k3
 ·refine hm.leak i hi ?_
  split at hr
  ·rename_i e;rw [h1,e] at hr;exact hr
  ·exact hr
theorem aZ.put {m : Mem} (hm : aZ m) {a : Int} (h0 : 0≤a) (h1 : a < m.slots.length) : aZ (put m a):=by
 obtain ⟨e1,e2,e3,_⟩:=jw m a
 exact ⟨by rw [Fe];exact iY hm.fx h0 h1,by rw [e2,e3];exact hm.nl,by rw [e1,e2];exact hm.hd⟩
theorem aZ.hold {m : Mem} (hm : aZ m) {a : Int} (h0 : 0≤a) (h1 : a < m.slots.length) : aZ (hold m a).1:=by
 obtain ⟨e1,e2,e3,_⟩:=pv m a
 exact ⟨by rw [DT];exact we hm.fx h0 h1,by rw [e2,e3];exact hm.nl,by rw [e1,e2];exact hm.hd⟩
theorem aZ.take {m : Mem} (hm : aZ m) {k : Key} {t : Int} (hk : Key.Ok k) (h0 : 0≤t) (h1 : t≤2000000) : aZ (take m k t).1:=by
 have e : fix (Ytpmamacjepcdmaa.take m k t).1=(Ytpmamacjepcdmaa.take (fix m) k t).1:=by
  unfold Ytpmamacjepcdmaa.take
  show _=(if m.free.length=0 then _ else _ : Mem × Int × Int).1
  split <;> rfl
 have e2 : (Ytpmamacjepcdmaa.take m k t).1.slots.length=m.slots.length∧(Ytpmamacjepcdmaa.take m k t).1.heads=m.heads∧(Ytpmamacjepcdmaa.take m k t).1.locks=m.locks:=by
  unfold Ytpmamacjepcdmaa.take
  split
  ·exact ⟨rfl,rfl,rfl⟩
  ·exact ⟨by simp,rfl,rfl⟩
 exact ⟨by rw [e];exact wS hm.fx hk h0 h1,by rw [e2.2.1,e2.2.2];exact hm.nl,by rw [e2.1,e2.2.1];exact hm.hd⟩
theorem aZ.lock {m : Mem} (hm : aZ m) (b t : Int) : aZ (lock m b t).1:=by
 unfold Ytpmamacjepcdmaa.lock
 split
 ·exact ⟨hm.fx,by simp [hm.nl],hm.hd⟩
 ·exact hm
theorem aZ.unlock {m : Mem} (hm : aZ m) (b t : Int) : aZ (unlock m b t):=by
 unfold Ytpmamacjepcdmaa.unlock
 split
 ·exact ⟨hm.fx,by simp [hm.nl],hm.hd⟩
 ·exact hm
theorem A9 (m : Mem) (s : List bp) (b : Nat) (v : Int) : fix { m with slots:=s,heads:=m.heads.set b v}={ fix m with slots:=s}:=by
 simp [fix]
theorem CX {m : Mem} (hm : aZ m) {b : Nat} {v : Int} (h0 : -(m.heads.length : Int)≤v) (h1 : v≤m.slots.length) (i : Nat) (hi : i < m.heads.length) : -(m.heads.length : Int)≤(m.heads.set b v).getD i 0∧(m.heads.set b v).getD i 0≤m.slots.length:=by
 by_cases e : b=i
 ·subst e
  rw [List.getD_eq_getElem?_getD,List.getElem?_set_self hi]
  exact ⟨h0,h1⟩
 ·rw [List.getD_eq_getElem?_getD,List.getElem?_set_ne e,← List.getD_eq_getElem?_getD]
  exact hm.hd i hi
theorem px {m : Mem} (hm : aZ m) {b : Int} (h0 : 0≤b) (h1 : b < m.heads.length) : -(m.heads.length : Int)≤aO m b∧aO m b≤m.slots.length:=hm.hd b.toNat (by omega)
theorem pd {m : Mem} (hm : aZ m) {a : Nat} (h : a < m.slots.length) : -(m.heads.length : Int)≤(msl m a).next∧(msl m a).next≤m.slots.length:=by
 have:=hm.sl h
 exact ⟨this.n1,this.n0⟩
theorem aZ.link {m : Mem} (hm : aZ m) {a b : Int} (h0 : 0≤a) (h1 : a < m.slots.length) (h2 : 0≤b) (h3 : b < m.heads.length) : aZ (link m a b):=by
 have hs:=hm.fx.sl (i:=a.toNat) (by show _ < m.slots.length;omega)
 have hh:=px hm h2 h3
 have l1 : (Ytpmamacjepcdmaa.link m a b).slots.length=m.slots.length:=by simp [Ytpmamacjepcdmaa.link]
 have l2 : (Ytpmamacjepcdmaa.link m a b).heads.length=m.heads.length:=by simp [Ytpmamacjepcdmaa.link]
 refine ⟨?_,by rw [l2];exact hm.nl,?_⟩
 ·show bB (fix { m with slots:=_,heads:=m.heads.set b.toNat (a + 1)})
  rw [A9]
  exact AO hm.fx (a:=a.toNat) (f:=jc (aO m b)) (by show _ < m.slots.length;omega) (fun _=>rfl) ⟨hs.r0,hs.r1,hs.t0,hs.t1,hs.k,hh.2,by rw [ff];exact hh.1⟩
 ·rw [l1,l2];exact CX hm (by omega) (by omega)
theorem aZ.cut {m : Mem} (hm : aZ m) {p a b : Int} (h0 : 0≤a) (h1 : a < m.slots.length) (hp : p≤m.slots.length) : aZ (cut m p a b):=by
 have hn:=pd hm (a:=a.toNat) (by omega)
 unfold Ytpmamacjepcdmaa.cut
 split
 ·have hs:=hm.fx.sl (i:=(p - 1).toNat) (by show _ < m.slots.length;omega)
  refine ⟨?_,hm.nl,by simpa using hm.hd⟩
  exact AO hm.fx (a:=(p - 1).toNat) (f:=og (msl m a.toNat).next) (by show _ < m.slots.length;omega) (fun _=>rfl) ⟨hs.r0,hs.r1,hs.t0,hs.t1,hs.k,hn.2,by rw [ff];exact hn.1⟩
 ·refine ⟨?_,by simp [hm.nl],by simpa using CX hm hn.1 hn.2⟩
  have:=A9 m m.slots b.toNat (msl m a.toNat).next
  rw [this]
  exact hm.fx
end Go.Proofs.Ytpmamacjepcdmaa
