import Derived.Test.YtpmamacjepcdmaaCFit
import Derived.Test.YtpmamacjepcdmaaCChainLaws3
namespace Go.Proofs.Ytpmamacjepcdmaa
open Go Go.Sy Go.RowKit
set_option linter.unusedSimpArgs false
set_option linter.unusedVariables false
def lkF (k : Key) (pc cur slot : Int) : Frm:=⟨⟨1,k,0,0,0⟩,pc,cur,0,slot,0,[],false,0⟩
theorem lk0 {m : Mem} {k : Key} {c s : Int} : ar m (lkF k 0 c s)=(lkF k 1 (aO m (bk m k)) s,m):=rfl
theorem lk_no {m : Mem} {k : Key} {a s : Int} (h : 0≤a) (hk : kys m a≠k) : ar m (lkF k 1 (a + 1) s)=(lkF k 2 (a + 1) s,m):=by
 have e : at1 m (lkF k 1 (a + 1) s)=msl m a.toNat:=by unfold at1 lkF;rw [show a + 1 - 1=a from by omega]
 unfold ar
 rw [if_neg (by simp [lkF]),if_pos ⟨rfl,by simp only [lkF];omega⟩,e,if_neg (show ¬ (msl m a.toNat).k=(lkF k 1 (a + 1) s).c.k from hk)];rfl
theorem lk_yes {m : Mem} {k : Key} {a s : Int} (h : 0≤a) (hk : kys m a=k) : ar m (lkF k 1 (a + 1) s)=(lkF k 3 (a + 1) s,m):=by
 have e : at1 m (lkF k 1 (a + 1) s)=msl m a.toNat:=by unfold at1 lkF;rw [show a + 1 - 1=a from by omega]
 unfold ar
 rw [if_neg (by simp [lkF]),if_pos ⟨rfl,by simp only [lkF];omega⟩,e,if_pos (show (msl m a.toNat).k=(lkF k 1 (a + 1) s).c.k from hk)];rfl
theorem EY {m : Mem} {k : Key} {a s : Int} (h : 0≤a) : ar m (lkF k 2 (a + 1) s)=(lkF k 1 (nxt m a) s,m):=by
 have e : at1 m (lkF k 2 (a + 1) s)=msl m a.toNat:=by unfold at1 lkF;rw [show a + 1 - 1=a from by omega]
 unfold ar
 rw [if_neg (by simp [lkF]),if_neg (by simp [lkF]),if_neg (by simp [lkF]),if_pos ⟨rfl,by simp only [lkF];omega⟩,e];rfl
theorem EX {m : Mem} {k : Key} {s : Int} (h : 0≤bk m k) : ar m (lkF k 1 (-1 - bk m k) s)=(ay (lkF k 1 (-1 - bk m k) s) 5,m):=by
 have e : aa m (lkF k 1 (-1 - bk m k) s).c=bk m k:=rfl
 unfold ar
 rw [e,if_neg (by simp [lkF]),if_neg (by simp only [lkF];omega),if_pos ⟨rfl,rfl⟩]
theorem EZ {m : Mem} {k : Key} {a s : Int} (h : 0≤a) (h1 : (msl m a.toNat).refs≠0) (h2 : (msl m a.toNat).refs≠1000) : ar m (lkF k 3 (a + 1) s)=(lkF k 4 (a + 1) a,(hold m a).1):=by
 have e : a + 1 - 1=a:=by omega
 have e2 : (hold m a).2=true:=by unfold hold;rw [if_neg (by omega)]
 unfold ar
 rw [if_neg (by simp [lkF]),if_neg (by simp [lkF]),if_neg (by simp [lkF]),if_neg (by simp [lkF]),if_pos ⟨rfl,by simp only [lkF];omega⟩]
 simp only [lkF,e]
 rw [if_pos e2]
theorem lk_ok {m : Mem} {k : Key} {c a : Int} (h : 0≤a) (hk : (msl m a.toNat).k=k) (hi : (msl m a.toNat).inn=true) (ht : m.now < (msl m a.toNat).till) : ar m (lkF k 4 c a)=(ay (lkF k 4 c a) 0,m):=by
 have e : at2 m (lkF k 4 c a)=msl m a.toNat:=rfl
 unfold ar
 rw [if_neg (by simp [lkF]),if_neg (by simp [lkF]),if_neg (by simp [lkF]),if_neg (by simp [lkF]),if_neg (by simp [lkF]),if_pos ⟨rfl,by simp only [lkF];omega⟩,e,if_neg (by rw [hi];simp [lkF,hk]),if_neg (by omega)]
theorem EW {m : Mem} {k : Key} {c a : Int} (h : 0≤a) (hk : (msl m a.toNat).k=k) (hi : (msl m a.toNat).inn=true) (ht : (msl m a.toNat).till≤m.now) : ar m (lkF k 4 c a)=(lkF k 6 c a,m):=by
 have e : at2 m (lkF k 4 c a)=msl m a.toNat:=rfl
 unfold ar
 rw [if_neg (by simp [lkF]),if_neg (by simp [lkF]),if_neg (by simp [lkF]),if_neg (by simp [lkF]),if_neg (by simp [lkF]),if_pos ⟨rfl,by simp only [lkF];omega⟩,e,if_neg (by rw [hi];simp [lkF,hk]),if_pos ht];rfl
theorem lk_put {m : Mem} {k : Key} {c a : Int} (h : 0≤a) : ar m (lkF k 6 c a)=(ay (lkF k 6 c (-1)) 5,put m a):=by
 unfold ar
 rw [if_neg (by simp [lkF]),if_neg (by simp [lkF]),if_neg (by simp [lkF]),if_neg (by simp [lkF]),if_neg (by simp [lkF]),if_neg (by simp [lkF]),if_neg (by simp [lkF]),if_pos ⟨rfl,by simp only [lkF];omega⟩];rfl
theorem vX {m : Mem} {k : Key} {s : Int} : ∀ {l : List Int} {n q : Int} {N : Nat},Seg m n l q→(∀ a∈l,kys m a≠k)→bZ ar (2 * l.length + N) (lkF k 1 n s) m=bZ ar N (lkF k 1 q s) m
 | [],n,q,N,h,_=>by
  have h : n=q:=h
  subst h
  rw [List.length_nil,Nat.mul_zero,Nat.zero_add]
 | c :: l,n,q,N,h,hk=>by
  obtain ⟨h1,h2,h3⟩:=h
  subst h1
  rw [List.length_cons,show 2 * (l.length + 1) + N=2 * l.length + N + 1 + 1 from by omega,bd (lk_no (by omega) (hk c (by simp))) rfl,bd (EY (by omega)) rfl]
  exact vX h3 fun a ha=>hk a (by simp [ha])
theorem kN {m : Mem} {k : Key} : ∀ {l : List Int} {n e : Int},Path m n l e→(∀ a∈l,kys m a≠k)∧Seg m n l e∨∃ l1 a l2,l=l1 ++ a :: l2∧(∀ a∈l1,kys m a≠k)∧kys m a=k∧Seg m n l1 (a + 1)∧0≤a
 | [],n,e,h=>.inl ⟨fun _ h=>(by cases h),h.1⟩
 | c :: l,n,e,h=>by
  obtain ⟨h1,h2,h3⟩:=h
  by_cases hc : kys m c=k
  ·exact .inr ⟨[],c,l,rfl,fun _ h=>by (cases h),hc,h1,by omega⟩
  ·rcases kN h3 with ⟨k1,k2⟩ | ⟨l1,a,l2,e1,k1,k2,k3,k4⟩
   ·exact .inl ⟨fun a ha=>by rcases List.mem_cons.1 ha with rfl | ha;exact hc;exact k1 a ha,h1,h2,k2⟩
   ·exact .inr ⟨c :: l1,a,l2,by rw [e1];rfl,fun a ha=>by rcases List.mem_cons.1 ha with rfl | ha;exact hc;exact k1 a ha,k2,⟨h1,h2,k3⟩,k4⟩
theorem C6 {m : Mem} {a : Int} (h0 : 0≤a) (h1 : a < m.slots.length) (hr : 1≤(msl m a.toNat).refs) (h2 : (msl m a.toNat).refs≠1000) : put (hold m a).1 a=m:=by
 have e : hold m a=(cm m a.toNat (bx 1) m.free,true):=by unfold hold;rw [if_neg (by omega)];rfl
 have er : (msl (cm m a.toNat (bx 1) m.free) a.toNat).refs=(msl m a.toNat).refs + 1:=by rw [gJ,if_pos ⟨rfl,by omega⟩];rfl
 rw [e]
 unfold put
 rw [if_neg (by rw [er];omega),if_neg (by rw [er];omega)]
 have:=wO m a.toNat 1 (-1) m.free m.free
 have z:=wN m a.toNat
 rw [show (1 : Int) + -1=0 from rfl,z] at this
 exact this
theorem zu {m : Mem} (hC : aK m) {k : Key} (hk : Key.Ok k) (hr : ∀ i,i < m.slots.length→(msl m i).refs≠1000) :
  ∃ f x,bZ ar (2 * m.slots.length + 6) (aX ⟨1,k,0,0,0⟩) m=(f,x,true) ∧
   ((f.e=5∧x=m∧∀ a∈chL m (bk m k).toNat,kys m a=k→(msl m a.toNat).till≤m.now) ∨
    (f.e=0∧f.slot∈chL m (bk m k).toNat∧kys m f.slot=k∧m.now < (msl m f.slot.toNat).till∧x=(hold m f.slot).1)):=by
 have hb:=jq hC.mem hk
 obtain ⟨b,hbb⟩ : ∃ b : Nat,bk m k=b:=⟨(bk m k).toNat,by omega⟩
 have hch:=hC.ch (b:=b) (by omega)
 obtain ⟨hp,hl⟩:=br.1 hch.of
 have hst : aX ⟨1,k,0,0,0⟩=lkF k 0 0 (-1):=rfl
 rw [hst,show 2 * m.slots.length + 6=2 * m.slots.length + 5 + 1 from rfl,bd lk0 rfl,hbb,Int.toNat_natCast]
 rcases kN (k:=k) hp with ⟨k1,k2⟩ | ⟨l1,a,l2,e1,k1,k2,k3,k4⟩
 ·rw [show 2 * m.slots.length + 5=2 * (chL m b).length + ((2 * m.slots.length + 4 - 2 * (chL m b).length) + 1) from by omega,vX k2 k1,← hbb,dm (EX hb.1) rfl]
  exact ⟨_,_,rfl,.inl ⟨rfl,rfl,fun a ha e=>absurd e (k1 a ha)⟩⟩
 ·have ha : a∈chL m b:=by rw [e1];simp
  have hin:=cW hC ha
  have hok:=hch.ok a ha
  have hl1 : l1.length + 1≤(chL m b).length:=by rw [e1];simp
  have r0:=hC.mem.refs hin.1 hin.2
  have r1:=hok.refs
  have r2:=hr a.toNat (by omega)
  have hx : hold m a=(cm m a.toNat (bx 1) m.free,true):=by unfold hold;rw [if_neg (by omega)];rfl
  have hs : msl (hold m a).1 a.toNat=bx 1 (msl m a.toNat):=by rw [hx];show msl (cm m a.toNat (bx 1) m.free) a.toNat=_;rw [gJ,if_pos ⟨rfl,by omega⟩]
  have hn : (hold m a).1.now=m.now:=by rw [hx];rfl
  rw [show 2 * m.slots.length + 5=2 * l1.length + ((2 * m.slots.length + 1 - 2 * l1.length) + 1 + 1 + 1 + 1) from by omega,vX k3 k1,bd (lk_yes k4 k2) rfl,bd (EZ k4 r1 r2) rfl]
  by_cases ht : (msl m a.toNat).till≤m.now
  ·rw [bd (EW k4 (by rw [hs];exact k2) (by rw [hs];exact hok.inn) (by rw [hs,hn];exact ht)) rfl,dm (lk_put k4) rfl]
   refine ⟨_,_,rfl,.inl ⟨rfl,C6 hin.1 hin.2 (by omega) r2,fun c hc e=>?_⟩⟩
   have:=fw hch.nd hc ha (e.trans k2.symm)
   subst this
   exact ht
  ·rw [dm (lk_ok k4 (by rw [hs];exact k2) (by rw [hs];exact hok.inn) (by rw [hs,hn];show m.now < (msl m a.toNat).till;omega)) rfl]
   exact ⟨_,_,rfl,.inr ⟨rfl,ha,k2,by show _ < (msl m a.toNat).till;omega,rfl⟩⟩
end Go.Proofs.Ytpmamacjepcdmaa
