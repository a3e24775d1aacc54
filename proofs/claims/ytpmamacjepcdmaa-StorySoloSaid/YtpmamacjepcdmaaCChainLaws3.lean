import Derived.Test.YtpmamacjepcdmaaCChainLaws1
import Derived.Test.YtpmamacjepcdmaaCTouch
namespace Go.Proofs.Ytpmamacjepcdmaa
open Go Go.Sy Go.RowKit
set_option linter.unusedSimpArgs false
set_option linter.unusedVariables false
def nxt (m : Mem) (a : Int) : Int:=(msl m a.toNat).next
def Path (m : Mem) : Int→List Int→Int→Prop
 | n,[],e=>n=e∧n≤0
 | n,c :: l,e=>n=c + 1∧0 < n∧Path m (nxt m c) l e
def Seg (m : Mem) : Int→List Int→Int→Prop
 | n,[],q=>n=q
 | n,c :: l,q=>n=c + 1∧0 < n∧Seg m (nxt m c) l q
theorem sj {m : Mem} : ∀ {f : Nat} {n : Int} {l : List Int} {e : Int},walk m f n=some (l,e)↔Path m n l e∧l.length < f
 | 0,n,l,e=>by simp [walk]
 | f + 1,n,l,e=>by
  by_cases h0 : n≤0
  ·rw [oP h0]
   cases l with
   | nil=>simp only [Path,Option.some.injEq,Prod.mk.injEq,true_and,List.length_nil];exact ⟨fun h=>⟨⟨h,h0⟩,by omega⟩,fun h=>h.1.1⟩
   | cons c l=>simp only [Path,Option.some.injEq,Prod.mk.injEq];exact ⟨fun h=>(by cases h.1),fun h=>by omega⟩
  ·rw [oO h0]
   cases l with
   | nil =>
    simp only [Path]
    constructor
    ·intro h
     cases hw : walk m f (msl m (n - 1).toNat).next <;> rw [hw] at h <;> cases h
    ·intro h;omega
   | cons c l =>
    have ih:=sj (m:=m) (f:=f) (n:=(msl m (n - 1).toNat).next) (l:=l) (e:=e)
    simp only [Path,List.length_cons,Nat.add_lt_add_iff_right]
    constructor
    ·intro h
     cases hw : walk m f (msl m (n - 1).toNat).next with
     | none=>rw [hw] at h;cases h
     | some p =>
      rw [hw] at h
      cases h
      have:=ih.1 hw
      refine ⟨⟨by omega,by omega,?_⟩,this.2⟩
      exact this.1
    ·rintro ⟨⟨h1,h2,h3⟩,h4⟩
     have e1 : n - 1=c:=by omega
     have:=ih.2 ⟨by rw [e1];exact h3,h4⟩
     rw [this,Option.map_some,e1]
theorem br {m : Mem} {b : Int} {l : List Int} : cQ m b=some l↔Path m (aO m b) l (-1 - b)∧l.length≤m.slots.length:=by
 constructor
 ·intro h
  have:=sj.1 (mG h)
  exact ⟨this.1,by omega⟩
 ·rintro ⟨h1,h2⟩
  have : walked m b=some (l,-1 - b):=sj.2 ⟨h1,by omega⟩
  unfold cQ
  rw [this]
  simp
theorem Path.congr {m x : Mem} : ∀ {l : List Int} {n e : Int},(∀ c∈l,nxt x c=nxt m c)→Path m n l e→Path x n l e
 | [],_,_,_,h=>h
 | c :: l,n,e,hc,h=>⟨h.1,h.2.1,by rw [hc c (by simp)];exact Path.congr (fun d hd=>hc d (by simp [hd])) h.2.2⟩
theorem Seg.congr {m x : Mem} : ∀ {l : List Int} {n e : Int},(∀ c∈l,nxt x c=nxt m c)→Seg m n l e→Seg x n l e
 | [],_,_,_,h=>h
 | c :: l,n,e,hc,h=>⟨h.1,h.2.1,by rw [hc c (by simp)];exact Seg.congr (fun d hd=>hc d (by simp [hd])) h.2.2⟩
theorem eE {m : Mem} : ∀ {l1 l2 : List Int} {n e : Int},Path m n (l1 ++ l2) e↔∃ q,Seg m n l1 q∧Path m q l2 e
 | [],l2,n,e=>by simp [Seg]
 | c :: l1,l2,n,e=>by
  simp only [List.cons_append,Path,Seg,eE (l1:=l1) (l2:=l2)]
  constructor
  ·rintro ⟨h1,h2,q,h3,h4⟩;exact ⟨q,⟨h1,h2,h3⟩,h4⟩
  ·rintro ⟨q,⟨h1,h2,h3⟩,h4⟩;exact ⟨h1,h2,q,h3,h4⟩
theorem oa {m : Mem} : ∀ {l1 l2 : List Int} {n e : Int},Seg m n (l1 ++ l2) e↔∃ q,Seg m n l1 q∧Seg m q l2 e
 | [],l2,n,e=>by simp [Seg]
 | c :: l1,l2,n,e=>by
  simp only [List.cons_append,Seg,oa (l1:=l1) (l2:=l2)]
  constructor
  ·rintro ⟨h1,h2,q,h3,h4⟩;exact ⟨q,⟨h1,h2,h3⟩,h4⟩
  ·rintro ⟨q,⟨h1,h2,h3⟩,h4⟩;exact ⟨h1,h2,q,h3,h4⟩
theorem oq {m : Mem} {i j : Nat} {f : bp→bp} (hi : i < m.slots.length) : (m.slots.modify i f).getD j default=if i=j then f (msl m i) else msl m j:=by
 unfold msl
 simp only [List.getD_eq_getElem?_getD,List.getElem?_modify]
 by_cases h : i=j
 ·subst h
  rw [List.getElem?_eq_getElem hi]
  simp
 ·simp [h]
theorem xK {m : Mem} {b i v : Int} (hb : 0≤b) (hb' : b < m.heads.length) (hi : 0≤i) : (m.heads.set b.toNat v).getD i.toNat 0=if i=b then v else aO m i:=by
 unfold aO
 simp only [List.getD_eq_getElem?_getD,List.getElem?_set]
 by_cases h : i=b
 ·subst h
  have : i.toNat < m.heads.length:=by omega
  simp [this]
 ·have : b.toNat≠i.toNat:=by omega
  simp [this,h]
theorem bB.with {m x : Mem} (hm : bB m) (h1 : x.slots.length=m.slots.length) (h2 : x.heads.length=m.heads.length) (h3 : x.free=m.free) (h4 : x.ae=m.ae) (h5 : x.now=m.now)
  (hs : ∀ i,i < m.slots.length→(msl x i).refs=(msl m i).refs∧(msl x i).k=(msl m i).k∧(msl x i).till=(msl m i).till∧(msl x i).next≤m.slots.length∧-(m.heads.length : Int)≤(msl x i).next)
  (hh : ∀ i,i < m.heads.length→x.heads.getD i 0≠0∧x.heads.getD i 0≤m.slots.length∧-(m.heads.length : Int)≤x.heads.getD i 0) : bB x:=by
 refine ⟨by rw [h1];exact hm.ns,by rw [h2];exact hm.nh1,by rw [h2];exact hm.nh4,by rw [h4,h2];exact hm.nl,by rw [h5];exact hm.ma,by rw [h5];exact hm.Ik,fun s hs'=>?_,fun i hi=>?_,fun a ha=>?_,by rw [h3];exact hm.nodup,fun i hi hr=>?_⟩
 ·obtain ⟨i,hi,e⟩:=List.getElem_of_mem hs'
  have e : s=msl x i:=by unfold msl;rw [List.getD_eq_getElem?_getD,List.getElem?_eq_getElem hi,Option.getD_some,e]
  rw [h1] at hi
  obtain ⟨g1,g2,g3,g4,g5⟩:=hs i hi
  have ho:=hm.sl hi
  rw [e,h1,h2]
  exact ⟨by rw [g1];exact ho.r0,by rw [g1];exact ho.r1,by rw [g3];exact ho.t0,by rw [g3];exact ho.t1,by rw [g2];exact ho.k,g4,g5⟩
 ·rw [h2] at hi
  obtain ⟨g1,g2,g3⟩:=hh i hi
  have ho:=hm.head i hi
  rw [h1,h2,h4]
  exact ⟨g1,g2,g3,ho.k0,ho.k1⟩
 ·rw [h3] at ha
  have:=hm.free a ha
  rw [h1,(hs a.toNat (by omega)).1]
  exact this
 ·rw [h1] at hi
  rw [h3]
  exact hm.leak i hi (by rw [← (hs i hi).1];exact hr)
theorem bB.hd0 {m : Mem} (hm : bB m) {b : Int} (h1 : 0≤b) (h2 : b < m.heads.length) : aO m b≠0∧aO m b≤m.slots.length∧-(m.heads.length : Int)≤aO m b:=by
 have:=hm.head b.toNat (by omega)
 exact ⟨this.h0,this.n0,this.n1⟩
theorem fH.ndl {m : Mem} {b : Nat} {l : List Int} (h : fH m b l) : l.Nodup:=by
 have:=h.nd
 exact List.Pairwise.of_map (kys m) (fun a b hab e=>hab (by rw [e])) this
end Go.Proofs.Ytpmamacjepcdmaa

namespace Go.Proofs.Ytpmamacjepcdmaa
open Go Go.Sy Go.RowKit
set_option linter.unusedSimpArgs false
set_option linter.unusedVariables false
def lkF (k : Key) (pc cur slot : Int) : Frm:=⟨⟨1,k,0,0,0⟩,pc,cur,0,slot,0,[],false,0⟩
theorem lk0 {m : Mem} {k : Key} {c s : Int} : ar m (lkF k 0 c s)=(lkF k 1 (aO m (bk m k)) s,m):=rfl
theorem lk_no {m : Mem} {k : Key} {a s : Int} (h : 0≤a) (hk : kys m a≠k) : ar m (lkF k 1 (a + 1) s)=(lkF k 2 (a + 1) s,m):=by
 have e : at1 m (lkF k 1 (a + 1) s)=msl m a.toNat:=by unfold at1 lkF;rw [show a + 1 - 1=a from by omega]
 unfold ar
 rw [if_neg (by simp [lkF]),if_pos ⟨rfl,by simp only [lkF];omega⟩,e,if_neg (show ¬ (msl m a.toNat).k=(lkF k 1 (a + 1) s).c.k from hk)];rfl
theorem lk_yes {m : Mem} {k : Key} {a s : Int} (h : 0≤a) (hk : kys m a=k) : ar m (lkF k 1 (a + 1) s)=(lkF k 3 (a + 1) s,m):=by
 have e : at1 m (lkF k 1 (a + 1) s)=msl m a.toNat:=by unfold at1 lkF;rw [show a + 1 - 1=a from by omega]
 unfold ar
 rw [if_neg (by simp [lkF]),if_pos ⟨rfl,by simp only [lkF];omega⟩,e,if_pos (show (msl m a.toNat).k=(lkF k 1 (a + 1) s).c.k from hk)];rfl
theorem EY {m : Mem} {k : Key} {a s : Int} (h : 0≤a) : ar m (lkF k 2 (a + 1) s)=(lkF k 1 (nxt m a) s,m):=by
 have e : at1 m (lkF k 2 (a + 1) s)=msl m a.toNat:=by unfold at1 lkF;rw [show a + 1 - 1=a from by omega]
 unfold ar
 rw [if_neg (by simp [lkF]),if_neg (by simp [lkF]),if_neg (by simp [lkF]),if_pos ⟨rfl,by simp only [lkF];omega⟩,e];rfl
theorem EX {m : Mem} {k : Key} {s : Int} (h : 0≤bk m k) : ar m (lkF k 1 (-1 - bk m k) s)=(ay (lkF k 1 (-1 - bk m k) s) 5,m):=by
 have e : aa m (lkF k 1 (-1 - bk m k) s).c=bk m k:=rfl
 unfold ar
 rw [e,if_neg (by simp [lkF]),if_neg (by simp only [lkF];omega),if_pos ⟨rfl,rfl⟩]
theorem EZ {m : Mem} {k : Key} {a s : Int} (h : 0≤a) (h1 : (msl m a.toNat).refs≠0) (h2 : (msl m a.toNat).refs≠1000) : ar m (lkF k 3 (a + 1) s)=(lkF k 4 (a + 1) a,(hold m a).1):=by
 have e : a + 1 - 1=a:=by omega
 have e2 : (hold m a).2=true:=by unfold hold;rw [if_neg (by omega)]
 unfold ar
 rw [if_neg (by simp [lkF]),if_neg (by simp [lkF]),if_neg (by simp [lkF]),if_neg (by simp [lkF]),if_pos ⟨rfl,by simp only [lkF];omega⟩]
 simp only [lkF,e]
 rw [if_pos e2]
theorem lk_ok {m : Mem} {k : Key} {c a : Int} (h : 0≤a) (hk : (msl m a.toNat).k=k) (hi : (msl m a.toNat).inn=true) (ht : m.now < (msl m a.toNat).till) : ar m (lkF k 4 c a)=(ay (lkF k 4 c a) 0,m):=by
 have e : at2 m (lkF k 4 c a)=msl m a.toNat:=rfl
 unfold ar
 rw [if_neg (by simp [lkF]),if_neg (by simp [lkF]),if_neg (by simp [lkF]),if_neg (by simp [lkF]),if_neg (by simp [lkF]),if_pos ⟨rfl,by simp only [lkF];omega⟩,e,if_neg (by rw [hi];simp [lkF,hk]),if_neg (by omega)]
theorem EW {m : Mem} {k : Key} {c a : Int} (h : 0≤a) (hk : (msl m a.toNat).k=k) (hi : (msl m a.toNat).inn=true) (ht : (msl m a.toNat).till≤m.now) : ar m (lkF k 4 c a)=(lkF k 6 c a,m):=by
 have e : at2 m (lkF k 4 c a)=msl m a.toNat:=rfl
 unfold ar
 rw [if_neg (by simp [lkF]),if_neg (by simp [lkF]),if_neg (by simp [lkF]),if_neg (by simp [lkF]),if_neg (by simp [lkF]),if_pos ⟨rfl,by simp only [lkF];omega⟩,e,if_neg (by rw [hi];simp [lkF,hk]),if_pos ht];rfl
theorem lk_put {m : Mem} {k : Key} {c a : Int} (h : 0≤a) : ar m (lkF k 6 c a)=(ay (lkF k 6 c (-1)) 5,put m a):=by
 unfold ar
 rw [if_neg (by simp [lkF]),if_neg (by simp [lkF]),if_neg (by simp [lkF]),if_neg (by simp [lkF]),if_neg (by simp [lkF]),if_neg (by simp [lkF]),if_neg (by simp [lkF]),if_pos ⟨rfl,by simp only [lkF];omega⟩];rfl
theorem vX {m : Mem} {k : Key} {s : Int} : ∀ {l : List Int} {n q : Int} {N : Nat},Seg m n l q→(∀ a∈l,kys m a≠k)→bZ ar (2 * l.length + N) (lkF k 1 n s) m=bZ ar N (lkF k 1 q s) m
 | [],n,q,N,h,_=>by
  have h : n=q:=h
  subst h
  rw [List.length_nil,Nat.mul_zero,Nat.zero_add]
 | c :: l,n,q,N,h,hk=>by
  obtain ⟨h1,h2,h3⟩:=h
  subst h1
  rw [List.length_cons,show 2 * (l.length + 1) + N=2 * l.length + N + 1 + 1 from by omega,bd (lk_no (by omega) (hk c (by simp))) rfl,bd (EY (by omega)) rfl]
  exact vX h3 fun a ha=>hk a (by simp [ha])
theorem kN {m : Mem} {k : Key} : ∀ {l : List Int} {n e : Int},Path m n l e→(∀ a∈l,kys m a≠k)∧Seg m n l e∨∃ l1 a l2,l=l1 ++ a :: l2∧(∀ a∈l1,kys m a≠k)∧kys m a=k∧Seg m n l1 (a + 1)∧0≤a
 | [],n,e,h=>.inl ⟨fun _ h=>(by cases h),h.1⟩
 | c :: l,n,e,h=>by
  obtain ⟨h1,h2,h3⟩:=h
  by_cases hc : kys m c=k
  ·exact .inr ⟨[],c,l,rfl,fun _ h=>by (cases h),hc,h1,by omega⟩
  ·rcases kN h3 with ⟨k1,k2⟩ | ⟨l1,a,l2,e1,k1,k2,k3,k4⟩
   ·exact .inl ⟨fun a ha=>by rcases List.mem_cons.1 ha with rfl | ha;exact hc;exact k1 a ha,h1,h2,k2⟩
   ·exact .inr ⟨c :: l1,a,l2,by rw [e1];rfl,fun a ha=>by rcases List.mem_cons.1 ha with rfl | ha;exact hc;exact k1 a ha,k2,⟨h1,h2,k3⟩,k4⟩
theorem C6 {m : Mem} {a : Int} (h0 : 0≤a) (h1 : a < m.slots.length) (hr : 1≤(msl m a.toNat).refs) (h2 : (msl m a.toNat).refs≠1000) : put (hold m a).1 a=m:=by
 have e : hold m a=(cm m a.toNat (bx 1) m.free,true):=by unfold hold;rw [if_neg (by omega)];rfl
 have er : (msl (cm m a.toNat (bx 1) m.free) a.toNat).refs=(msl m a.toNat).refs + 1:=by rw [gJ,if_pos ⟨rfl,by omega⟩];rfl
 rw [e]
 unfold put
 rw [if_neg (by rw [er];omega),if_neg (by rw [er];omega)]
 have:=wO m a.toNat 1 (-1) m.free m.free
 have z:=wN m a.toNat
 rw [show (1 : Int) + -1=0 from rfl,z] at this
 exact this
theorem zu {m : Mem} (hC : aK m) {k : Key} (hk : Key.Ok k) (hr : ∀ i,i < m.slots.length→(msl m i).refs≠1000) :
  ∃ f x,bZ ar (2 * m.slots.length + 6) (aX ⟨1,k,0,0,0⟩) m=(f,x,true) ∧
   ((f.e=5∧x=m∧∀ a∈chL m (bk m k).toNat,kys m a=k→(msl m a.toNat).till≤m.now) ∨
    (f.e=0∧f.slot∈chL m (bk m k).toNat∧kys m f.slot=k∧m.now < (msl m f.slot.toNat).till∧x=(hold m f.slot).1)):=by
 have hb:=jq hC.mem hk
 obtain ⟨b,hbb⟩ : ∃ b : Nat,bk m k=b:=⟨(bk m k).toNat,by omega⟩
 have hch:=hC.ch (b:=b) (by omega)
 obtain ⟨hp,hl⟩:=br.1 hch.of
 have hst : aX ⟨1,k,0,0,0⟩=lkF k 0 0 (-1):=rfl
 rw [hst,show 2 * m.slots.length + 6=2 * m.slots.length + 5 + 1 from rfl,bd lk0 rfl,hbb,Int.toNat_natCast]
 rcases kN (k:=k) hp with ⟨k1,k2⟩ | ⟨l1,a,l2,e1,k1,k2,k3,k4⟩
 ·rw [show 2 * m.slots.length + 5=2 * (chL m b).length + ((2 * m.slots.length + 4 - 2 * (chL m b).length) + 1) from by omega,vX k2 k1,← hbb,dm (EX hb.1) rfl]
  exact ⟨_,_,rfl,.inl ⟨rfl,rfl,fun a ha e=>absurd e (k1 a ha)⟩⟩
 ·have ha : a∈chL m b:=by rw [e1];simp
  have hin:=cW hC ha
  have hok:=hch.ok a ha
  have hl1 : l1.length + 1≤(chL m b).length:=by rw [e1];simp
  have r0:=hC.mem.refs hin.1 hin.2
  have r1:=hok.refs
  have r2:=hr a.toNat (by omega)
  have hx : hold m a=(cm m a.toNat (bx 1) m.free,true):=by unfold hold;rw [if_neg (by omega)];rfl
  have hs : msl (hold m a).1 a.toNat=bx 1 (msl m a.toNat):=by rw [hx];show msl (cm m a.toNat (bx 1) m.free) a.toNat=_;rw [gJ,if_pos ⟨rfl,by omega⟩]
  have hn : (hold m a).1.now=m.now:=by rw [hx];rfl
  rw [show 2 * m.slots.length + 5=2 * l1.length + ((2 * m.slots.length + 1 - 2 * l1.length) + 1 + 1 + 1 + 1) from by omega,vX k3 k1,bd (lk_yes k4 k2) rfl,bd (EZ k4 r1 r2) rfl]
  by_cases ht : (msl m a.toNat).till≤m.now
  ·rw [bd (EW k4 (by rw [hs];exact k2) (by rw [hs];exact hok.inn) (by rw [hs,hn];exact ht)) rfl,dm (lk_put k4) rfl]
   refine ⟨_,_,rfl,.inl ⟨rfl,C6 hin.1 hin.2 (by omega) r2,fun c hc e=>?_⟩⟩
   have:=fw hch.nd hc ha (e.trans k2.symm)
   subst this
   exact ht
  ·rw [dm (lk_ok k4 (by rw [hs];exact k2) (by rw [hs];exact hok.inn) (by rw [hs,hn];show m.now < (msl m a.toNat).till;omega)) rfl]
   exact ⟨_,_,rfl,.inr ⟨rfl,ha,k2,by show _ < (msl m a.toNat).till;omega,rfl⟩⟩
end Go.Proofs.Ytpmamacjepcdmaa

namespace Go.Proofs.Ytpmamacjepcdmaa
open Go Go.Sy Go.RowKit
set_option linter.unusedSimpArgs false
set_option linter.unusedVariables false
theorem tV {m : Mem} {b : Nat} {l : List Int} (h : cQ m b=some l) : chL m b=l:=by unfold chL bP;rw [h]
theorem not_in {m : Mem} (hC : aK m) {a : Int} (hn : ∀ c∈chL m (bk m (kys m a)).toNat,kys m c≠kys m a) {i : Nat} (hi : i < m.heads.length) : a ∉ chL m i:=fun ha=>by
 have:=((hC.ch hi).ok a ha).bk
 rw [this] at hn
 exact hn a (by rw [show ((i : Int)).toNat=i from by omega];exact ha) rfl
theorem vZ {m : Mem} (hC : aK m) {a : Int} (h1 : 0≤a) (h2 : a < m.slots.length) (h3 : (msl m a.toNat).refs≠0) (hn : ∀ c∈chL m (bk m (kys m a)).toNat,kys m c≠kys m a) :
  aK (link m a (bk m (kys m a)))∧(∀ i,i < m.heads.length→chL (link m a (bk m (kys m a))) i=if (i : Int)=bk m (kys m a) then a :: chL m i else chL m i) ∧
   (∀ j,msl (link m a (bk m (kys m a))) j=if a.toNat=j then jc (aO m (bk m (kys m a))) (msl m j) else msl m j):=by
 have hm:=hC.mem
 have hka:=(hm.sl (i:=a.toNat) (by omega)).k
 obtain ⟨b1,b2,_⟩:=jq hm (k:=kys m a) hka
 have hni : ∀ i,i < m.heads.length→a ∉ chL m i:=fun i hi=>not_in hC hn hi
 generalize hb : bk m (kys m a)=b at *
 generalize hx : link m a b=x
 have xl : x.slots.length=m.slots.length:=by rw [← hx];simp [link]
 have xh : x.heads.length=m.heads.length:=by rw [← hx];simp [link]
 have xs : ∀ j,msl x j=if a.toNat=j then jc (aO m b) (msl m j) else msl m j:=fun j=>by
  rw [← hx]
  show (m.slots.modify a.toNat (jc (aO m b))).getD j default=_
  rw [oq (by omega)]
  by_cases e : a.toNat=j
  ·rw [if_pos e,if_pos e,e]
  ·rw [if_neg e,if_neg e]
 have xhd : ∀ i : Int,0≤i→aO x i=if i=b then a + 1 else aO m i:=fun i hi=>by
  rw [← hx]
  exact xK b1 b2 hi
 have xk : ∀ c,kys x c=kys m c:=fun c=>by
  unfold kys
  rw [xs]
  split <;> rfl
 have xbk : ∀ k,bk x k=bk m k:=fun k=>by unfold bk;rw [xh]
 have xn : ∀ c,0≤c→c≠a→nxt x c=nxt m c:=fun c hc hne=>by
  unfold nxt
  rw [xs,if_neg (by omega)]
 have hd:=hm.hd0 b1 b2
 have hmx : bB x:=by
  refine hm.with xl xh (by rw [← hx];rfl) (by rw [← hx];rfl) (by rw [← hx];rfl) (fun i hi=>?_) (fun i hi=>?_)
  ·rw [xs]
   have:=hm.sl hi
   split
   ·exact ⟨rfl,rfl,rfl,hd.2.1,hd.2.2⟩
   ·exact ⟨rfl,rfl,rfl,this.n0,this.n1⟩
  ·have:=xhd i (by omega)
   unfold aO at this
   rw [show ((i : Int)).toNat=i from by omega] at this
   rw [this]
   split
   ·omega
   ·have:=hm.head i hi
    exact ⟨this.h0,this.n0,this.n1⟩
 have inok : ∀ (i : Nat) c,Ab m i c→Ab x i c:=fun i c h=>by
  refine ⟨?_,?_,by rw [xbk,xk];exact h.bk⟩
  ·rw [xs];split
   ·exact h.refs
   ·exact h.refs
  ·rw [xs];split
   ·rfl
   ·exact h.inn
 have main : ∀ i,i < m.heads.length→fH x i (if (i : Int)=b then a :: chL m i else chL m i):=fun i hi=>by
  have hc:=hC.ch hi
  obtain ⟨p1,p2⟩:=br.1 hc.of
  have hcong : Path x (aO m i) (chL m i) (-1 - i):=p1.congr fun c hcm=>xn c (cW hC hcm).1 fun e=>hni i hi (by rw [← e];exact hcm)
  by_cases e : (i : Int)=b
  ·rw [if_pos e]
   refine ⟨br.2 ⟨?_,?_⟩,fun c hcm=>?_,?_⟩
   ·rw [xhd i (by omega),if_pos e]
    refine ⟨rfl,by omega,?_⟩
    have : nxt x a=aO m i:=by
     unfold nxt
     rw [xs,if_pos rfl,e]
     rfl
    rw [this];exact hcong
   ·rw [xl]
    have:=pa (l:=a :: chL m i) (n:=m.slots.length) (List.nodup_cons.2 ⟨hni i hi,hc.ndl⟩) fun c hcm=>by
     rcases List.mem_cons.1 hcm with rfl | hcm
     ·exact ⟨h1,h2⟩
     ·exact cW hC hcm
    exact this
   ·rcases List.mem_cons.1 hcm with rfl | hcm
    ·refine ⟨?_,?_,by rw [xbk,xk,hb,e]⟩
     ·rw [xs,if_pos rfl];exact h3
     ·rw [xs,if_pos rfl];rfl
    ·exact inok i c (hc.ok c hcm)
   ·rw [show kys x=kys m from funext xk,List.map_cons,List.nodup_cons]
    refine ⟨fun hmem=>?_,hc.nd⟩
    obtain ⟨c,hcm,e'⟩:=List.mem_map.1 hmem
    exact hn c (by rw [← e,show ((i : Int)).toNat=i from by omega];exact hcm) e'
  ·rw [if_neg e]
   refine ⟨br.2 ⟨?_,by rw [xl];exact p2⟩,fun c hcm=>inok i c (hc.ok c hcm),by rw [show kys x=kys m from funext xk];exact hc.nd⟩
   rw [xhd i (by omega),if_neg e]
   exact hcong
 exact ⟨⟨hmx,fun i hi=>⟨_,main i (by rw [← xh];exact hi)⟩⟩,fun i hi=>tV (main i hi).of,xs⟩
end Go.Proofs.Ytpmamacjepcdmaa
