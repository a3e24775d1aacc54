import Derived.Test.YtpmamacjepcdmaaCChainLaws3
import Derived.Test.YtpmamacjepcdmaaCChainLaws
namespace Go.Proofs.Ytpmamacjepcdmaa
open Go Go.Sy Go.RowKit
set_option linter.unusedSimpArgs false
set_option linter.unusedVariables false
theorem gj {t : Int} : ∀ {l1 l2 : List Int} {p : Int},t ∉ l1→gk t (l1 ++ t :: l2) p=(match l1.getLast? with | none=>p | some c=>c + 1)
 | [],l2,p,_=>by simp [gk]
 | a :: l1,l2,p,h=>by
  simp only [List.mem_cons,not_or] at h
  simp only [List.cons_append,gk]
  rw [if_neg (fun e=>h.1 e.symm),gj h.2]
  cases l1 with
  | nil=>simp
  | cons c l1 =>
   rw [List.getLast?_cons_cons]
   cases hx : (c :: l1).getLast? with
   | none=>simp at hx
   | some d=>rfl
def Fx (s t : bp) : Prop:=s.refs=t.refs∧s.k=t.k∧s.till=t.till∧s.inn=t.inn
theorem zW {m : Mem} (hC : aK m) {b : Nat} (hb : b < m.heads.length) {t : Int} (ht : t∈chL m b) :
  aK (cut m (gk t (chL m b) 0) t b)∧(∀ i,i < m.heads.length→chL (cut m (gk t (chL m b) 0) t b) i=if i=b then (chL m b).erase t else chL m i) ∧
   (∀ j,Fx (msl (cut m (gk t (chL m b) 0) t b) j) (msl m j))∧(cut m (gk t (chL m b) 0) t b).slots.length=m.slots.length∧(cut m (gk t (chL m b) 0) t b).heads.length=m.heads.length:=by
 have hm:=hC.mem
 have hc:=hC.ch hb
 have hnd:=hc.ndl
 have htr:=cW hC ht
 have hts:=hm.sl (i:=t.toNat) (by omega)
 obtain ⟨p1,p2⟩:=br.1 hc.of
 obtain ⟨l1,l2,hl⟩:=List.append_of_mem ht
 have hin : ∀ d∈chL m b,0≤d∧d < m.slots.length:=fun d hd=>cW hC hd
 rw [hl] at hnd p1 p2 hin
 have hd1:=List.nodup_append.1 hnd
 have ht1 : t ∉ l1:=fun h=>hd1.2.2 t h t (by simp) rfl
 have her : (chL m b).erase t=l1 ++ l2:=by
  rw [hl,List.erase_append_right _ ht1,List.erase_cons_head]
 have hpv : gk t (chL m b) 0=(match l1.getLast? with | none=>0 | some c=>c + 1):=by rw [hl];exact gj ht1
 obtain ⟨q,s1,s2⟩:=eE.1 p1
 obtain ⟨e1,_,s3⟩:=s2
 subst e1
 have disj : ∀ i,i < m.heads.length→i≠b→∀ d∈chL m i,d ∉ chL m b:=fun i hi hne d hd hd'=>by
  have h1:=((hC.ch hi).ok d hd).bk
  have h2:=(hc.ok d hd').bk
  rw [h1] at h2
  omega
 generalize hx : cut m (gk t (chL m b) 0) t b=x
 have core : x.slots.length=m.slots.length∧x.heads.length=m.heads.length∧x.free=m.free∧x.ae=m.ae∧x.now=m.now∧(∀ j,Fx (msl x j) (msl m j)) ∧
   (∀ j,j < m.slots.length→(msl x j).next≤m.slots.length∧-(m.heads.length : Int)≤(msl x j).next)∧(∀ i,i < m.heads.length→x.heads.getD i 0≠0∧x.heads.getD i 0≤m.slots.length∧-(m.heads.length : Int)≤x.heads.getD i 0) ∧
   Path x (aO x b) (l1 ++ l2) (-1 - b)∧(∀ i : Nat,i≠b→aO x i=aO m i)∧∀ i,i < m.heads.length→i≠b→∀ d∈chL m i,nxt x d=nxt m d:=by
  rcases List.eq_nil_or_concat l1 with h0 | ⟨l0,c,h0⟩
  ·subst h0
   rw [hpv] at hx
   have hx : ({ m with heads:=m.heads.set b (nxt m t)} : Mem)=x:=by
    rw [← hx]
    simp only [cut,List.getLast?_nil,Int.lt_irrefl,if_false]
    rw [show ((b : Int)).toNat=b from by omega];rfl
   have hms : ∀ j,msl x j=msl m j:=fun j=>by rw [← hx];rfl
   have hhd : ∀ i : Nat,aO x i=if (i : Int)=b then nxt m t else aO m i:=fun i=>by
    have:=xK (m:=m) (b:=b) (i:=i) (v:=nxt m t) (by omega) (by omega) (by omega)
    rw [← hx]
    rw [show ((b : Int)).toNat=b from by omega] at this
    exact this
   have hnn : ∀ d,nxt x d=nxt m d:=fun d=>by unfold nxt;rw [hms]
   refine ⟨by rw [← hx],by rw [← hx];simp,by rw [← hx],by rw [← hx],by rw [← hx],fun j=>by rw [hms];exact ⟨rfl,rfl,rfl,rfl⟩,fun j hj=>by rw [hms];exact ⟨(hm.sl hj).n0,(hm.sl hj).n1⟩,fun i hi=>?_,?_,fun i hne=>?_,fun i hi hne d hd=>hnn d⟩
   ·have:=hhd i
    unfold aO at this
    rw [show ((i : Int)).toNat=i from by omega] at this
    rw [this]
    split
    ·have hp : Path m (nxt m t) l2 (-1 - b):=s3
     refine ⟨?_,hts.n0,hts.n1⟩
     cases l2 with
     | nil=>have:=hp.1;omega
     | cons d l2=>have:=hp.2.1;omega
    ·have:=hm.head i hi
     exact ⟨this.h0,this.n0,this.n1⟩
   ·rw [hhd b,if_pos rfl]
    exact s3.congr fun d _=>hnn d
   ·rw [hhd i,if_neg (by omega)]
  ·rw [List.concat_eq_append] at h0
   subst h0
   have hcl : (l0 ++ [c]).getLast?=some c:=by simp
   have hcin : c∈l0 ++ [c]:=by simp
   have hcr:=hin c (List.mem_append_left _ hcin)
   rw [hpv,hcl] at hx
   have hx : ({ m with slots:=m.slots.modify c.toNat (og (nxt m t))} : Mem)=x:=by
    rw [← hx]
    simp only [cut]
    rw [if_pos (by omega),show c + 1 - 1=c from by omega];rfl
   have hms : ∀ j,msl x j=if c.toNat=j then og (nxt m t) (msl m j) else msl m j:=fun j=>by
    rw [← hx]
    show (m.slots.modify c.toNat (og (nxt m t))).getD j default=_
    rw [oq (by omega)]
    by_cases e : c.toNat=j
    ·rw [if_pos e,if_pos e,e]
    ·rw [if_neg e,if_neg e]
   have hnc : nxt x c=nxt m t:=by
    show (msl x c.toNat).next=_
    rw [hms,if_pos rfl];rfl
   have hnn : ∀ d,0≤d→d≠c→nxt x d=nxt m d:=fun d hd hne=>by
    unfold nxt
    rw [hms,if_neg (by omega)]
   have hhd : ∀ i : Int,aO x i=aO m i:=fun i=>by rw [← hx];rfl
   have hd0:=List.nodup_append.1 hd1.1
   have hc0 : c ∉ l0:=fun h=>hd0.2.2 c h c (by simp) rfl
   have hc2 : c ∉ l2:=fun h=>hd1.2.2 c hcin c (by simp [h]) rfl
   refine ⟨by rw [← hx];simp,by rw [← hx],by rw [← hx],by rw [← hx],by rw [← hx],fun j=>?_,fun j hj=>?_,fun i hi=>?_,?_,fun i hne=>hhd i,fun i hi hne d hd=>?_⟩
   ·rw [hms];split <;> exact ⟨rfl,rfl,rfl,rfl⟩
   ·rw [hms];split
    ·exact ⟨hts.n0,hts.n1⟩
    ·exact ⟨(hm.sl hj).n0,(hm.sl hj).n1⟩
   ·have:=hhd i
    unfold aO at this
    rw [show ((i : Int)).toNat=i from by omega] at this
    rw [this]
    have:=hm.head i hi
    exact ⟨this.h0,this.n0,this.n1⟩
   ·rw [hhd b]
    obtain ⟨q',s4,s5⟩:=oa.1 s1
    refine eE.2 ⟨nxt m t,oa.2 ⟨q',s4.congr fun d hd=>hnn d (hin d (by simp [hd])).1 fun e=>hc0 (by rw [← e];exact hd),s5.1,s5.2.1,hnc⟩,s3.congr fun d hd=>hnn d (hin d (by simp [hd])).1 fun e=>hc2 (by rw [← e];exact hd)⟩
   ·refine hnn d (cW hC hd).1 fun e=>disj i hi hne d hd ?_
    rw [hl,e]
    exact List.mem_append_left _ hcin
 obtain ⟨xl,xh,xf,xo,xw,xlk,xnb,xhb,xp,xhd,xnx⟩:=core
 have xk : ∀ d,kys x d=kys m d:=fun d=>(xlk d.toNat).2.1
 have xbk : ∀ k,bk x k=bk m k:=fun k=>by unfold bk;rw [xh]
 have inok : ∀ (i : Nat) d,Ab m i d→Ab x i d:=fun i d h=>⟨by rw [(xlk d.toNat).1];exact h.refs,by rw [(xlk d.toNat).2.2.2];exact h.inn,by rw [xbk,xk];exact h.bk⟩
 have hmx : bB x:=hm.with xl xh xf xo xw (fun i hi=>⟨(xlk i).1,(xlk i).2.1,(xlk i).2.2.1,(xnb i hi).1,(xnb i hi).2⟩) xhb
 have main : ∀ i,i < m.heads.length→fH x i (if i=b then (chL m b).erase t else chL m i):=fun i hi=>by
  by_cases e : i=b
  ·subst e
   rw [if_pos rfl,her]
   have hsub : ∀ d∈l1 ++ l2,d∈chL m i:=fun d hd=>by
    rw [hl]
    rcases List.mem_append.1 hd with h | h
    ·exact List.mem_append_left _ h
    ·exact List.mem_append_right _ (by simp [h])
   refine ⟨br.2 ⟨xp,?_⟩,fun d hd=>inok i d (hc.ok d (hsub d hd)),?_⟩
   ·rw [xl]
    simp only [List.length_append,List.length_cons] at p2 ⊢
    omega
   ·rw [show kys x=kys m from funext xk]
    have:=hc.nd
    rw [hl] at this
    refine this.sublist ?_
    exact List.Sublist.map _ (List.Sublist.append_left (List.sublist_cons_self t l2) l1)
  ·rw [if_neg e]
   have hci:=hC.ch hi
   obtain ⟨g1,g2⟩:=br.1 hci.of
   refine ⟨br.2 ⟨?_,by rw [xl];exact g2⟩,fun d hd=>inok i d (hci.ok d hd),by rw [show kys x=kys m from funext xk];exact hci.nd⟩
   rw [xhd i e]
   exact g1.congr fun d hd=>xnx i hi e d hd
 exact ⟨⟨hmx,fun i hi=>⟨_,main i (by rw [← xh];exact hi)⟩⟩,fun i hi=>tV (main i hi).of,xlk,xl,xh⟩
end Go.Proofs.Ytpmamacjepcdmaa

namespace Go.Proofs.Ytpmamacjepcdmaa
open Go Go.Sy Go.RowKit
set_option linter.unusedSimpArgs false
set_option linter.unusedVariables false
def iX (f : Nat→Nat) : Nat→Nat→Nat
 | 0,_=>0
 | n + 1,b=>f b + iX f n (b + 1)
theorem jQ {f g : Nat→Nat} : ∀ {n b : Nat},(∀ i,b≤i→i < b + n→f i=g i)→iX f n b=iX g n b
 | 0,_,_=>rfl
 | n + 1,b,h=>by
  simp only [iX]
  rw [h b (Nat.le_refl _) (by omega),jQ fun i h1 h2=>h i (by omega) (by omega)]
theorem sE {f g : Nat→Nat} {c : Nat} : ∀ {n b : Nat},b≤c→c < b + n→f c=g c + 1→(∀ i,b≤i→i < b + n→i≠c→f i=g i)→iX f n b=iX g n b + 1
 | 0,b,h1,h2,_,_=>by omega
 | n + 1,b,h1,h2,h3,h4=>by
  simp only [iX]
  by_cases e : b=c
  ·subst e
   rw [h3,jQ fun i g1 g2=>h4 i (by omega) (by omega) (by omega)]
   omega
  ·rw [h4 b (Nat.le_refl _) (by omega) e,sE (n:=n) (b:=b + 1) (by omega) (by omega) h3 fun i g1 g2 g3=>h4 i (by omega) (by omega) g3]
   omega
theorem ib {m x : Mem} {c : Int} (h1 : (msl x c.toNat).k=(msl m c.toNat).k) (h2 : (msl x c.toNat).till=(msl m c.toNat).till) : bu x c=bu m c:=by
 unfold bu
 rw [h1,h2]
end Go.Proofs.Ytpmamacjepcdmaa

namespace Go.Proofs.Ytpmamacjepcdmaa
open Go Go.Sy Go.RowKit
set_option linter.unusedSimpArgs false
set_option linter.unusedVariables false
structure bV (m : Mem) (f : Frm) : Prop where
 call : bf m f.c=0
 pc0 : 0≤f.pc
 pc9 : f.pc≤9
 n0 : 0≤f.n
 n9 : f.n≤1000000
 nd : f.done=false
 cur0 : -(m.heads.length : Int)≤f.cur
 cur1 : f.cur≤m.slots.length
 prev0 : 0≤f.prev
 prev1 : f.prev≤m.slots.length
 slot0 : -1≤f.slot
 slot1 : f.slot < m.slots.length
 keys : f.keys.length≤100
theorem mD (m : Mem) (f : Frm) : eO m f=0↔bV m f:=by
 unfold eO
 constructor
 ·intro h
  split at h
  ·rename_i h1;exact absurd h h1
  ·rename_i h1
   split at h
   ·cases h
   ·rename_i h2
    split at h
    ·cases h
    ·rename_i h3
     split at h
     ·cases h
     ·rename_i h4
      split at h
      ·cases h
      ·rename_i h5
       exact ⟨Classical.not_not.1 h1,by omega,by omega,by omega,by omega,by simpa using h3,by omega,by omega,by omega,by omega,by omega,by omega,by omega⟩
 ·intro h
  obtain ⟨h1,h2,h3,h4,h5,h6,h7,h8,h9,h10,h11,h12,h13⟩:=h
  rw [if_neg (fun x=>x h1),if_neg (by omega),if_neg (by rw [h6];exact Bool.false_ne_true),if_neg (by omega),if_neg (by omega)]
theorem mH {m : Mem} {c : Cal} (h : bf m c=0) (hk : c.kind=1∨c.kind=2∨c.kind=3) : Key.Ok c.k:=by
 unfold bf at h
 refine (gA c.k).1 ?_
 rcases hk with hk | hk | hk
 ·rwa [if_pos (.inl hk)] at h
 ·rw [if_neg (by omega),if_pos hk] at h
  split at h
  ·cases h
  ·exact h
 ·rwa [if_pos (.inr hk)] at h
theorem nv {m : Mem} {c : Cal} (h : bf m c=0) (hk : c.kind=2) : 1≤c.time∧c.time≤1000000:=by
 unfold bf at h
 rw [if_neg (by omega),if_pos hk] at h
 split at h
 ·cases h
 ·omega
theorem mI {m : Mem} {c : Cal} (h : bf m c=0) (hk : c.kind=4∨c.kind=5) : 0≤c.bucket∧c.bucket < m.heads.length:=by
 unfold bf at h
 rw [if_neg (by omega),if_neg (by omega),if_pos hk] at h
 split at h
 ·cases h
 ·omega
def fix (m : Mem) : Mem:={ m with heads:=List.replicate m.heads.length (-1),ae:=List.replicate m.heads.length (-1)}
structure aZ (m : Mem) : Prop where
 fx : bB (fix m)
 nl : m.ae.length=m.heads.length
 hd : ∀ i,i < m.heads.length→-(m.heads.length : Int)≤m.heads.getD i 0∧m.heads.getD i 0≤m.slots.length
theorem ff (m : Mem) : (fix m).heads.length=m.heads.length:=List.length_replicate
theorem bB.rJ {m : Mem} (h : bB m) : aZ m:=by
 refine ⟨⟨h.ns,by rw [ff];exact h.nh1,by rw [ff];exact h.nh4,by simp [fix],h.ma,h.Ik,by rw [ff];exact h.slot,fun i hi=>?_,h.free,h.nodup,h.leak⟩,h.nl,fun i hi=>⟨(h.head i hi).n1,(h.head i hi).n0⟩⟩
 rw [ff] at hi ⊢
 have hn:=h.nh1
 have e : (List.replicate m.heads.length (-1 : Int)).getD i 0=-1:=by simp [List.getD_eq_getElem?_getD,hi]
 show ug _ _ ((List.replicate m.heads.length (-1 : Int)).getD i 0) ((List.replicate m.heads.length (-1 : Int)).getD i 0)
 rw [e]
 exact ⟨by decide,by omega,by omega,by decide,by decide⟩
theorem aZ.ns {m : Mem} (h : aZ m) : m.slots.length≤12:=h.fx.ns
theorem aZ.nh1 {m : Mem} (h : aZ m) : 1≤m.heads.length:=by have:=h.fx.nh1;rwa [ff] at this
theorem aZ.nh4 {m : Mem} (h : aZ m) : m.heads.length≤4:=by have:=h.fx.nh4;rwa [ff] at this
theorem aZ.ma {m : Mem} (h : aZ m) : 0≤m.now:=h.fx.ma
theorem aZ.Ik {m : Mem} (h : aZ m) : m.now≤1000000:=h.fx.Ik
theorem aZ.nf {m : Mem} (h : aZ m) : m.free.length≤12:=h.fx.nf
theorem aZ.sl {m : Mem} (h : aZ m) {i : Nat} (hi : i < m.slots.length) : mR m.slots.length m.heads.length (msl m i):=by
 have:=h.fx.sl hi
 rwa [ff] at this
theorem aZ.refs {m : Mem} (h : aZ m) {a : Int} (h1 : 0≤a) (h2 : a < m.slots.length) : 0≤(msl m a.toNat).refs∧(msl m a.toNat).refs≤1000:=h.fx.refs h1 h2
theorem qZ {m : Mem} (hm : aZ m) (h : m.free.length≠0) : 0≤bc m∧bc m < m.slots.length:=by
 have:=hm.fx.free (bc m) (pA (by show _ < m.free.length;omega))
 exact ⟨this.1,this.2.1⟩
theorem aQ {m : Mem} (hm : aZ m) {c : Cal} (h : bf m c=0) (hk : 1≤c.kind∧c.kind≤5) : 0≤aa m c∧aa m c < m.heads.length:=by
 unfold aa
 by_cases h4 : c.kind=4∨c.kind=5
 ·rw [if_pos h4];exact mI h h4
 ·rw [if_neg h4]
  have:=vr (mH h (by omega)) (n:=m.heads.length) (by have:=hm.nh1;omega) (by have:=hm.nh4;omega)
  exact ⟨this.1,this.2.1⟩
def lock (m : Mem) (b task : Int) : Mem × Bool:=if m.ae.getD b.toNat 0=-1 then ({ m with ae:=m.ae.set b.toNat task},true) else (m,false)
def unlock (m : Mem) (b task : Int) : Mem:=if m.ae.getD b.toNat 0=task then { m with ae:=m.ae.set b.toNat (-1)} else m
def at1 (m : Mem) (f : Frm) : bp:=msl m (f.cur - 1).toNat
def at2 (m : Mem) (f : Frm) : bp:=msl m f.slot.toNat
def ar (m : Mem) (f : Frm) : Frm × Mem :=
 if f.pc=0 then ({ f with cur:=aO m (aa m f.c),pc:=1},m)
 else if f.pc=1∧0 < f.cur then ({ f with pc:=if (at1 m f).k=f.c.k then 3 else 2},m)
 else if f.pc=1∧f.cur=-1 - aa m f.c then (ay f 5,m)
 else if f.pc=2∧0 < f.cur then ({ f with cur:=(at1 m f).next,pc:=1},m)
 else if f.pc=3∧0 < f.cur then (if (hold m (f.cur - 1)).2=true then ({ f with slot:=f.cur - 1,pc:=4},(hold m (f.cur - 1)).1) else ({ f with pc:=0},m))
 else if f.pc=4∧0≤f.slot then (if (at2 m f).k≠f.c.k∨(at2 m f).inn=false then ({ f with pc:=5},m) else if (at2 m f).till≤m.now then ({ f with pc:=6},m) else (ay f 0,m))
 else if f.pc=5∧0≤f.slot then ({ f with slot:=-1,pc:=0},put m f.slot)
 else if f.pc=6∧0≤f.slot then (ay { f with slot:=-1} 5,put m f.slot)
 else ({ f with pc:=0},m)
def bE (m : Mem) (f : Frm) : Int:=if m.now + f.c.time≤2000000 then m.now + f.c.time else 2000000
def G3 (m : Mem) (f : Frm) (task : Int) : Frm × Mem :=
 if f.pc=0 then
  (if (take m f.c.k (bE m f)).2.2≠0 then (ay f 7,m)
   else ({ f with slot:=(take m f.c.k (bE m f)).2.1,pc:=1},(take m f.c.k (bE m f)).1))
 else if f.pc=1 then ({ f with pc:=if (lock m (aa m f.c) task).2=true then 2 else f.pc},(lock m (aa m f.c) task).1)
 else if f.pc=2 then ({ f with cur:=aO m (aa m f.c),pc:=3},m)
 else if f.pc=3 then ({ f with pc:=if f.cur≤0 then 5 else if (at1 m f).k=f.c.k then 6 else 4},m)
 else if f.pc=4∧0 < f.cur then ({ f with cur:=(at1 m f).next,pc:=3},m)
 else if f.pc=5∧0≤f.slot then ({ f with e:=0,pc:=7},link m f.slot (aa m f.c))
 else if f.pc=6∧0≤f.slot then ({ f with slot:=-1,e:=6,pc:=7},put m f.slot)
 else if f.pc=7 then (ay f f.e,unlock m (aa m f.c) task)
 else ({ f with e:=8,pc:=7},m)
def aL (m : Mem) (f : Frm) (task : Int) : Frm × Mem :=
 if f.pc=0 then ({ f with pc:=if (lock m (aa m f.c) task).2=true then 1 else f.pc},(lock m (aa m f.c) task).1)
 else if f.pc=1 then ({ f with prev:=0,cur:=aO m (aa m f.c),pc:=2},m)
 else if f.pc=2 then (if f.cur≤0 then ({ f with e:=5,pc:=5},m) else ({ f with pc:=if (at1 m f).k=f.c.k then 4 else 3},m))
 else if f.pc=3∧0 < f.cur then ({ f with prev:=f.cur,cur:=(at1 m f).next,pc:=2},m)
 else if f.pc=4∧0 < f.cur then ({ f with slot:=f.cur - 1,e:=0,pc:=5},cut m f.prev (f.cur - 1) (aa m f.c))
 else if f.pc=5 then ({ f with pc:=6},unlock m (aa m f.c) task)
 else if f.pc=6 then (ay { f with slot:=if 0≤f.slot then -1 else f.slot} f.e,if 0≤f.slot then put m f.slot else m)
 else ({ f with e:=8,pc:=5},m)
def aB (m : Mem) (f : Frm) (task : Int) : Frm × Mem :=
 if f.pc=0 then ({ f with pc:=if (lock m (aa m f.c) task).2=true then 1 else f.pc},(lock m (aa m f.c) task).1)
 else if f.pc=1 then ({ f with prev:=0,cur:=aO m (aa m f.c),pc:=2},m)
 else if f.pc=2∧f.cur≤0 then ({ f with pc:=6},m)
 else if f.pc=2∧f.c.kind=5 then ({ f with keys:=if f.keys.length < 100 then f.keys ++ [(at1 m f).k] else f.keys,pc:=3},m)
 else if f.pc=2 then ({ f with pc:=if (at1 m f).till≤m.now then 4 else 3},m)
 else if f.pc=3∧0 < f.cur then ({ f with prev:=f.cur,cur:=(at1 m f).next,pc:=2},m)
 else if f.pc=4∧0 < f.cur then ({ f with slot:=f.cur - 1,cur:=(at1 m f).next,pc:=5},cut m f.prev (f.cur - 1) (aa m f.c))
 else if f.pc=5∧0≤f.slot then ({ f with slot:=-1,n:=if 1000000 < f.n + 1 then 1000000 else f.n + 1,pc:=2},put m f.slot)
 else if f.pc=6 then (ay f 0,unlock m (aa m f.c) task)
 else ({ f with pc:=6},m)
theorem sb {m : Mem} {a : Int} (h : (hold m a).2=false) : (hold m a).1=m:=by
 unfold hold at h ⊢
 split
 ·rfl
 ·rename_i hc;rw [if_neg hc] at h;cases h
theorem rX {m : Mem} {b t : Int} (h : (lock m b t).2=false) : (lock m b t).1=m:=by
 unfold lock at h ⊢
 split
 ·rename_i hc;rw [if_pos hc] at h;cases h
 ·rfl
theorem Aj {m : Mem} {k : Key} {t : Int} (h : (take m k t).2.2≠0) : take m k t=(m,0,7):=by
 unfold take at h ⊢
 split
 ·rfl
 ·rename_i hc;rw [if_neg hc] at h;exact absurd rfl h
theorem AW {j k : Key} (h : ((j.a ==k.a) && ((j.b ==k.b) && true))=true) : j=k:=by
 simp only [Bool.and_true,Bool.and_eq_true,beq_iff_eq] at h
 cases j;cases k;simp only at h;rw [h.1,h.2]
theorem AY {j k : Key} (h : ((j.a ==k.a) && ((j.b ==k.b) && true))=false) : j≠k:=fun e=>by
 rw [e] at h;simp at h
theorem xR (f : Frm) (e : Int) : d44.fn [.i f.c.kind,.i f.c.k.a,.i f.c.k.b,.i f.c.time,.i f.c.bucket,.i f.c.slot,.i f.pc,.i f.cur,.i f.prev,.i f.slot,.i f.n,bS f.keys,.b f.done,.i f.e,.i e]=(ay f e).cds:=by
 simp only [d44,dJ,List.getD_cons_zero,List.getD_cons_succ,CD.aR]
theorem Fa (m : Mem) (c : Cal) : d48.fn [au m.slots,af m.heads,af m.free,af m.ae,.i m.now,.i c.kind,.i c.k.a,.i c.k.b,.i c.time,.i c.bucket,.i c.slot]=[.i (aa m c)]:=by
 simp only [d48,mem_of,aA,List.drop_succ_cons,List.drop_zero,fG,cz]
theorem fs162 (m : Mem) (k : Key) (x : Int) : d162.fn [au m.slots,af m.heads,af m.free,af m.ae,.i m.now,.i k.a,.i k.b,.i x]=(take m k x).1.cds ++ [.i (take m k x).2.1,.i (take m k x).2.2]:=by simp only [d162,mem_of,aA,List.drop_succ_cons,List.drop_zero,jK,eZ,List.getD_cons_zero,List.getD_cons_succ,CD.aR]
theorem fs166 (m : Mem) (x : Int) : d166.fn [au m.slots,af m.heads,af m.free,af m.ae,.i m.now,.i x]=(hold m x).1.cds ++ [.b (hold m x).2]:=by simp only [d166,mem_of,aA,List.getD_cons_zero,List.getD_cons_succ,CD.aR]
theorem A6 (m : Mem) (x : Int) : d167.fn [au m.slots,af m.heads,af m.free,af m.ae,.i m.now,.i x]=(put m x).cds:=by simp only [d167,mem_of,aA,List.getD_cons_zero,List.getD_cons_succ,CD.aR]
theorem pi166 {m : Mem} {x : Int} (hm : aZ m) (h0 : 0≤x) (h1 : x < m.slots.length) : d166.pre [au m.slots,af m.heads,af m.free,af m.ae,.i m.now,.i x]:=by
 simp only [d166,mem_of,aA,List.getD_cons_zero,List.getD_cons_succ,CD.aR]
 exact ⟨h0,h1,(hm.refs h0 h1).1,(hm.refs h0 h1).2⟩
theorem pi167 {m : Mem} {x : Int} (hm : aZ m) (h0 : 0≤x) (h1 : x < m.slots.length) : d167.pre [au m.slots,af m.heads,af m.free,af m.ae,.i m.now,.i x]:=by
 simp only [d167,mem_of,aA,List.getD_cons_zero,List.getD_cons_succ,CD.aR]
 exact ⟨h0,h1,(hm.refs h0 h1).1,(hm.refs h0 h1).2,by have:=hm.nf;omega⟩
theorem CF {m : Mem} (hm : aZ m) : m.free.length=0∨(0≤bc m∧bc m < m.slots.length):=by
 by_cases h : m.free.length=0
 ·exact .inl h
 ·exact .inr (qZ hm h)
theorem pi162 {m : Mem} {k : Key} {x : Int} (hm : aZ m) : d162.pre [au m.slots,af m.heads,af m.free,af m.ae,.i m.now,.i k.a,.i k.b,.i x]:=by
 simp only [d162,mem_of,aA]
 exact CF hm
end Go.Proofs.Ytpmamacjepcdmaa
