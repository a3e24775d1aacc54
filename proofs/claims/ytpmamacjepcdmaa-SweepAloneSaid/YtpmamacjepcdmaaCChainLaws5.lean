import Derived.Test.YtpmamacjepcdmaaCChainLaws3
namespace Go.Proofs.Ytpmamacjepcdmaa
open Go Go.Sy Go.RowKit
set_option linter.unusedSimpArgs false
set_option linter.unusedVariables false
theorem gj {t : Int} : ∀ {l1 l2 : List Int} {p : Int},t ∉ l1→gk t (l1 ++ t :: l2) p=(match l1.getLast? with | none=>p | some c=>c + 1)
 | [],l2,p,_=>by simp [gk]
 | a :: l1,l2,p,h=>by
  simp only [List.mem_cons,not_or] at h
  simp only [List.cons_append,gk]
  rw [if_neg (fun e=>h.1 e.symm),gj h.2]
  cases l1 with
  | nil=>simp
  | cons c l1 =>
   rw [List.getLast?_cons_cons]
   cases hx : (c :: l1).getLast? with
   | none=>simp at hx
   | some d=>rfl
def Fx (s t : bp) : Prop:=s.refs=t.refs∧s.k=t.k∧s.till=t.till∧s.inn=t.inn
theorem zW {m : Mem} (hC : aK m) {b : Nat} (hb : b < m.heads.length) {t : Int} (ht : t∈chL m b) :
  aK (cut m (gk t (chL m b) 0) t b)∧(∀ i,i < m.heads.length→chL (cut m (gk t (chL m b) 0) t b) i=if i=b then (chL m b).erase t else chL m i) ∧
   (∀ j,Fx (msl (cut m (gk t (chL m b) 0) t b) j) (msl m j))∧(cut m (gk t (chL m b) 0) t b).slots.length=m.slots.length∧(cut m (gk t (chL m b) 0) t b).heads.length=m.heads.length:=by
 have hm:=hC.mem
 have hc:=hC.ch hb
 have hnd:=hc.ndl
 have htr:=cW hC ht
 have hts:=hm.sl (i:=t.toNat) (by omega)
 obtain ⟨p1,p2⟩:=br.1 hc.of
 obtain ⟨l1,l2,hl⟩:=List.append_of_mem ht
 have hin : ∀ d∈chL m b,0≤d∧d < m.slots.length:=fun d hd=>cW hC hd
 rw [hl] at hnd p1 p2 hin
 have hd1:=List.nodup_append.1 hnd
 have ht1 : t ∉ l1:=fun h=>hd1.2.2 t h t (by simp) rfl
 have her : (chL m b).erase t=l1 ++ l2:=by
  rw [hl,List.erase_append_right _ ht1,List.erase_cons_head]
 have hpv : gk t (chL m b) 0=(match l1.getLast? with | none=>0 | some c=>c + 1):=by rw [hl];exact gj ht1
 obtain ⟨q,s1,s2⟩:=eE.1 p1
 obtain ⟨e1,_,s3⟩:=s2
 subst e1
 have disj : ∀ i,i < m.heads.length→i≠b→∀ d∈chL m i,d ∉ chL m b:=fun i hi hne d hd hd'=>by
  have h1:=((hC.ch hi).ok d hd).bk
  have h2:=(hc.ok d hd').bk
  rw [h1] at h2
  omega
 generalize hx : cut m (gk t (chL m b) 0) t b=x
 have core : x.slots.length=m.slots.length∧x.heads.length=m.heads.length∧x.free=m.free∧x.locks=m.locks∧x.now=m.now∧(∀ j,Fx (msl x j) (msl m j)) ∧
   (∀ j,j < m.slots.length→(msl x j).next≤m.slots.length∧-(m.heads.length : Int)≤(msl x j).next)∧(∀ i,i < m.heads.length→x.heads.getD i 0≠0∧x.heads.getD i 0≤m.slots.length∧-(m.heads.length : Int)≤x.heads.getD i 0) ∧
   Path x (aO x b) (l1 ++ l2) (-1 - b)∧(∀ i : Nat,i≠b→aO x i=aO m i)∧∀ i,i < m.heads.length→i≠b→∀ d∈chL m i,nxt x d=nxt m d:=by
  rcases List.eq_nil_or_concat l1 with h0 | ⟨l0,c,h0⟩
  ·subst h0
   rw [hpv] at hx
   have hx : ({ m with heads:=m.heads.set b (nxt m t)} : Mem)=x:=by
    rw [← hx]
    simp only [cut,List.getLast?_nil,Int.lt_irrefl,if_false]
    rw [show ((b : Int)).toNat=b from by omega];rfl
   have hms : ∀ j,msl x j=msl m j:=fun j=>by rw [← hx];rfl
   have hhd : ∀ i : Nat,aO x i=if (i : Int)=b then nxt m t else aO m i:=fun i=>by
    have:=xK (m:=m) (b:=b) (i:=i) (v:=nxt m t) (by omega) (by omega) (by omega)
    rw [← hx]
    rw [show ((b : Int)).toNat=b from by omega] at this
    exact this
   have hnn : ∀ d,nxt x d=nxt m d:=fun d=>by unfold nxt;rw [hms]
   refine ⟨by rw [← hx],by rw [← hx];simp,by rw [← hx],by rw [← hx],by rw [← hx],fun j=>by rw [hms];exact ⟨rfl,rfl,rfl,rfl⟩,fun j hj=>by rw [hms];exact ⟨(hm.sl hj).n0,(hm.sl hj).n1⟩,fun i hi=>?_,?_,fun i hne=>?_,fun i hi hne d hd=>hnn d⟩
   ·have:=hhd i
    unfold aO at this
    rw [show ((i : Int)).toNat=i from by omega] at this
    rw [this]
    split
    ·have hp : Path m (nxt m t) l2 (-1 - b):=s3
     refine ⟨?_,hts.n0,hts.n1⟩
     cases l2 with
     | nil=>have:=hp.1;omega
     | cons d l2=>have:=hp.2.1;omega
    ·have:=hm.head i hi
     exact ⟨this.h0,this.n0,this.n1⟩
   ·rw [hhd b,if_pos rfl]
    exact s3.congr fun d _=>hnn d
   ·rw [hhd i,if_neg (by omega)]
  ·rw [List.concat_eq_append] at h0
   subst h0
   have hcl : (l0 ++ [c]).getLast?=some c:=by simp
   have hcin : c∈l0 ++ [c]:=by simp
   have hcr:=hin c (List.mem_append_left _ hcin)
   rw [hpv,hcl] at hx
   have hx : ({ m with slots:=m.slots.modify c.toNat (og (nxt m t))} : Mem)=x:=by
    rw [← hx]
    simp only [cut]
    rw [if_pos (by omega),show c + 1 - 1=c from by omega];rfl
   have hms : ∀ j,msl x j=if c.toNat=j then og (nxt m t) (msl m j) else msl m j:=fun j=>by
    rw [← hx]
    show (m.slots.modify c.toNat (og (nxt m t))).getD j default=_
    rw [oq (by omega)]
    by_cases e : c.toNat=j
    ·rw [if_pos e,if_pos e,e]
    ·rw [if_neg e,if_neg e]
   have hnc : nxt x c=nxt m t:=by
    show (msl x c.toNat).next=_
    rw [hms,if_pos rfl];rfl
   have hnn : ∀ d,0≤d→d≠c→nxt x d=nxt m d:=fun d hd hne=>by
    unfold nxt
    rw [hms,if_neg (by omega)]
   have hhd : ∀ i : Int,aO x i=aO m i:=fun i=>by rw [← hx];rfl
   have hd0:=List.nodup_append.1 hd1.1
   have hc0 : c ∉ l0:=fun h=>hd0.2.2 c h c (by simp) rfl
   have hc2 : c ∉ l2:=fun h=>hd1.2.2 c hcin c (by simp [h]) rfl
   refine ⟨by rw [← hx];simp,by rw [← hx],by rw [← hx],by rw [← hx],by rw [← hx],fun j=>?_,fun j hj=>?_,fun i hi=>?_,?_,fun i hne=>hhd i,fun i hi hne d hd=>?_⟩
   ·rw [hms];split <;> exact ⟨rfl,rfl,rfl,rfl⟩
   ·rw [hms];split
    ·exact ⟨hts.n0,hts.n1⟩
    ·exact ⟨(hm.sl hj).n0,(hm.sl hj).n1⟩
   ·have:=hhd i
    unfold aO at this
    rw [show ((i : Int)).toNat=i from by omega] at this
    rw [this]
    have:=hm.head i hi
    exact ⟨this.h0,this.n0,this.n1⟩
   ·rw [hhd b]
    obtain ⟨q',s4,s5⟩:=oa.1 s1
    refine eE.2 ⟨nxt m t,oa.2 ⟨q',s4.congr fun d hd=>hnn d (hin d (by simp [hd])).1 fun e=>hc0 (by rw [← e];exact hd),s5.1,s5.2.1,hnc⟩,s3.congr fun d hd=>hnn d (hin d (by simp [hd])).1 fun e=>hc2 (by rw [← e];exact hd)⟩
   ·refine hnn d (cW hC hd).1 fun e=>disj i hi hne d hd ?_
    rw [hl,e]
    exact List.mem_append_left _ hcin
 obtain ⟨xl,xh,xf,xo,xw,xlk,xnb,xhb,xp,xhd,xnx⟩:=core
 have xk : ∀ d,kys x d=kys m d:=fun d=>(xlk d.toNat).2.1
 have xbk : ∀ k,bk x k=bk m k:=fun k=>by unfold bk;rw [xh]
 have inok : ∀ (i : Nat) d,Ab m i d→Ab x i d:=fun i d h=>⟨by rw [(xlk d.toNat).1];exact h.refs,by rw [(xlk d.toNat).2.2.2];exact h.inn,by rw [xbk,xk];exact h.bk⟩
 have hmx : bB x:=hm.with xl xh xf xo xw (fun i hi=>⟨(xlk i).1,(xlk i).2.1,(xlk i).2.2.1,(xnb i hi).1,(xnb i hi).2⟩) xhb
 have main : ∀ i,i < m.heads.length→fH x i (if i=b then (chL m b).erase t else chL m i):=fun i hi=>by
  by_cases e : i=b
  ·subst e
   rw [if_pos rfl,her]
   have hsub : ∀ d∈l1 ++ l2,d∈chL m i:=fun d hd=>by
    rw [hl]
    rcases List.mem_append.1 hd with h | h
    ·exact List.mem_append_left _ h
    ·exact List.mem_append_right _ (by simp [h])
   refine ⟨br.2 ⟨xp,?_⟩,fun d hd=>inok i d (hc.ok d (hsub d hd)),?_⟩
   ·rw [xl]
    simp only [List.length_append,List.length_cons] at p2 ⊢
    omega
   ·rw [show kys x=kys m from funext xk]
    have:=hc.nd
    rw [hl] at this
    refine this.sublist ?_
    exact List.Sublist.map _ (List.Sublist.append_left (List.sublist_cons_self t l2) l1)
  ·rw [if_neg e]
   have hci:=hC.ch hi
   obtain ⟨g1,g2⟩:=br.1 hci.of
   refine ⟨br.2 ⟨?_,by rw [xl];exact g2⟩,fun d hd=>inok i d (hci.ok d hd),by rw [show kys x=kys m from funext xk];exact hci.nd⟩
   rw [xhd i e]
   exact g1.congr fun d hd=>xnx i hi e d hd
 exact ⟨⟨hmx,fun i hi=>⟨_,main i (by rw [← xh];exact hi)⟩⟩,fun i hi=>tV (main i hi).of,xlk,xl,xh⟩
end Go.Proofs.Ytpmamacjepcdmaa

namespace Go.Proofs.Ytpmamacjepcdmaa
open Go Go.Sy Go.RowKit
set_option linter.unusedSimpArgs false
set_option linter.unusedVariables false
def iX (f : Nat→Nat) : Nat→Nat→Nat
 | 0,_=>0
 | n + 1,b=>f b + iX f n (b + 1)
theorem fC {m : Mem} : ∀ {n b : Nat} {acc : List cI},(bC m n b acc).length=acc.length + iX (fun i=>(chL m i).length) n b
 | 0,b,acc=>rfl
 | n + 1,b,acc=>by
  rw [bC,fC]
  simp only [iX,List.length_append,List.length_map,chL]
  omega
theorem jQ {f g : Nat→Nat} : ∀ {n b : Nat},(∀ i,b≤i→i < b + n→f i=g i)→iX f n b=iX g n b
 | 0,_,_=>rfl
 | n + 1,b,h=>by
  simp only [iX]
  rw [h b (Nat.le_refl _) (by omega),jQ fun i h1 h2=>h i (by omega) (by omega)]
theorem sE {f g : Nat→Nat} {c : Nat} : ∀ {n b : Nat},b≤c→c < b + n→f c=g c + 1→(∀ i,b≤i→i < b + n→i≠c→f i=g i)→iX f n b=iX g n b + 1
 | 0,b,h1,h2,_,_=>by omega
 | n + 1,b,h1,h2,h3,h4=>by
  simp only [iX]
  by_cases e : b=c
  ·subst e
   rw [h3,jQ fun i g1 g2=>h4 i (by omega) (by omega) (by omega)]
   omega
  ·rw [h4 b (Nat.le_refl _) (by omega) e,sE (n:=n) (b:=b + 1) (by omega) (by omega) h3 fun i g1 g2 g3=>h4 i (by omega) (by omega) g3]
   omega
theorem uw {m x : Mem} (hh : x.heads.length=m.heads.length) {b : Nat} (hb : b < m.heads.length) (h1 : (chL x b).length=(chL m b).length + 1) (h2 : ∀ i,i < m.heads.length→i≠b→chL x i=chL m i) : (aq x).length=(aq m).length + 1:=by
 unfold aq
 rw [fC,fC,hh]
 have:=sE (f:=fun i=>(chL x i).length) (g:=fun i=>(chL m i).length) (n:=m.heads.length) (b:=0) (c:=b) (by omega) (by omega) h1 fun i _ g2 g3=>by
  show (chL x i).length=_
  rw [h2 i (by omega) g3]
 omega
theorem ib {m x : Mem} {c : Int} (h1 : (msl x c.toNat).k=(msl m c.toNat).k) (h2 : (msl x c.toNat).till=(msl m c.toNat).till) : bu x c=bu m c:=by
 unfold bu
 rw [h1,h2]
theorem K0 {m : Mem} (hC : aK m) {a : Int} (h1 : 0≤a) (h2 : a < m.slots.length) (h3 : (msl m a.toNat).refs≠0) (hn : ∀ c∈chL m (bk m (kys m a)).toNat,kys m c≠kys m a) : linked m a=(link m a (bk m (kys m a)),0):=by
 have hk:=(hC.mem.sl (i:=a.toNat) (by omega)).k
 obtain ⟨b1,b2,b3⟩:=jq hC.mem (k:=kys m a) hk
 refine Kl hC h1 h2 h3 fun i hi e=>?_
 have hf:=He hi
 obtain ⟨_,_,g3,_,_,_,g7⟩:=jj hC hf
 rw [e] at g3 g7
 exact hn _ g7 g3
theorem zx {m : Mem} (hC : aK m) {a : Int} (h1 : 0≤a) (h2 : a < m.slots.length) (h3 : (msl m a.toNat).refs≠0) (hn : ∀ c∈chL m (bk m (kys m a)).toNat,kys m c≠kys m a) :
  aK (link m a (bk m (kys m a)))∧(aq (link m a (bk m (kys m a)))).length=(aq m).length + 1∧bu m a∈aq (link m a (bk m (kys m a)))∧(∀ f∈aq m,f∈aq (link m a (bk m (kys m a))))∧(∀ f∈aq m,f.k≠kys m a):=by
 have hk:=(hC.mem.sl (i:=a.toNat) (by omega)).k
 obtain ⟨b1,b2,b3⟩:=jq hC.mem (k:=kys m a) hk
 obtain ⟨g1,g2,g3⟩:=vZ hC h1 h2 h3 hn
 have hbn : (((bk m (kys m a)).toNat : Nat) : Int)=bk m (kys m a):=by omega
 have hh : (link m a (bk m (kys m a))).heads.length=m.heads.length:=by simp [link]
 have hfa : ∀ c,bu (link m a (bk m (kys m a))) c=bu m c:=fun c=>ib (by rw [g3];split <;> rfl) (by rw [g3];split <;> rfl)
 generalize link m a (bk m (kys m a))=x at *
 have hb:=g2 (bk m (kys m a)).toNat (by omega)
 rw [if_pos hbn] at hb
 refine ⟨g1,uw hh (b:=(bk m (kys m a)).toNat) (by omega) (by rw [hb,List.length_cons]) fun i hi hne=>by rw [g2 i hi,if_neg (by omega)],?_,fun f hf=>?_,fun f hf e=>?_⟩
 ·rw [← hfa a]
  exact mw (b:=(bk m (kys m a)).toNat) (by omega) (by rw [hb];simp)
 ·obtain ⟨i,hi,c,hc,e⟩:=qv.1 hf
  rw [e,← hfa c]
  refine mw (b:=i) (by omega) ?_
  rw [g2 i hi]
  split
  ·simp [hc]
  ·exact hc
 ·obtain ⟨_,_,q3,_,_,_,q7⟩:=jj hC hf
  rw [e] at q3 q7
  exact hn _ q7 q3
theorem KQ {m : Mem} (hC : aK m) {b : Nat} (hb : b < m.heads.length) {t : Int} (ht : t∈chL m b) :
  ∃ y,y=cut m (gk t (chL m b) 0) t b∧aK y∧(aq m).length=(aq y).length + 1∧(∀ f∈aq y,f∈aq m∧f.k≠kys m t)∧0≤t∧t < y.slots.length∧(msl y t.toNat).refs≠0 ∧
   linked y t=(link y t (bk y (kys y t)),0)∧aK (link y t (bk y (kys y t)))∧(aq (link y t (bk y (kys y t)))).length=(aq m).length∧∀ f∈aq m,f∈aq (link y t (bk y (kys y t))):=by
 have htr:=cW hC ht
 have hc:=hC.ch hb
 have hnd:=hc.ndl
 obtain ⟨g1,g2,g3,g4,g5⟩:=zW hC hb ht
 refine ⟨_,rfl,?_⟩
 generalize cut m (gk t (chL m b) 0) t b=y at *
 have yk : ∀ d,kys y d=kys m d:=fun d=>(g3 d.toNat).2.1
 have yf : ∀ d,bu y d=bu m d:=fun d=>ib (g3 d.toNat).2.1 (g3 d.toNat).2.2.1
 have ybk : ∀ k,bk y k=bk m k:=fun k=>by unfold bk;rw [g5]
 have hyb:=g2 b hb
 rw [if_pos rfl] at hyb
 have hlen : (chL m b).length=(chL y b).length + 1:=by
  rw [hyb,List.length_erase_of_mem ht]
  have:=List.length_pos_of_mem ht
  omega
 have sub : ∀ i,i < m.heads.length→∀ d∈chL y i,d∈chL m i:=fun i hi d hd=>by
  rw [g2 i hi] at hd
  split at hd
  ·rename_i e;subst e;exact List.mem_of_mem_erase hd
  ·exact hd
 have hkb : bk m (kys m t)=b:=(hc.ok t ht).bk
 have nokey : ∀ i,i < m.heads.length→∀ d∈chL y i,kys m d≠kys m t:=fun i hi d hd e=>by
  have h1:=((hC.ch hi).ok d (sub i hi d hd)).bk
  rw [e,hkb] at h1
  have : i=b:=by omega
  subst this
  have hdt:=fw hc.nd (sub i hi d hd) ht e
  rw [hyb,hdt] at hd
  exact (List.Nodup.mem_erase_iff hnd).1 hd |>.1 rfl
 have hl : (aq m).length=(aq y).length + 1:=uw (x:=m) (m:=y) g5.symm (by omega) hlen fun i hi hne=>by rw [g2 i (by omega),if_neg hne]
 have hr : (msl y t.toNat).refs≠0:=by rw [(g3 t.toNat).1];exact (hc.ok t ht).refs
 have hn : ∀ c∈chL y (bk y (kys y t)).toNat,kys y c≠kys y t:=fun c hcm=>by
  rw [ybk,yk,hkb,show ((b : Int)).toNat=b from by omega] at hcm
  rw [yk,yk]
  exact nokey b hb c hcm
 obtain ⟨q1,q2,q3,q4,_⟩:=zx g1 htr.1 (by rw [g4];exact htr.2) hr hn
 refine ⟨g1,hl,fun f hf=>?_,htr.1,by rw [g4];exact htr.2,hr,K0 g1 htr.1 (by rw [g4];exact htr.2) hr hn,q1,by omega,fun f hf=>?_⟩
 ·obtain ⟨i,hi,d,hd,e⟩:=qv.1 hf
  rw [e,yf d]
  exact ⟨mw (by omega) (sub i (by omega) d hd),nokey i (by omega) d hd⟩
 ·obtain ⟨i,hi,d,hd,e⟩:=qv.1 hf
  by_cases hdt : d=t
  ·subst hdt
   rw [e,← yf d];exact q3
  ·rw [e,← yf d]
   refine q4 _ (mw (b:=i) (by omega) ?_)
   rw [g2 i hi]
   split
   ·rename_i e';subst e'
    exact (List.Nodup.mem_erase_iff hnd).2 ⟨hdt,hd⟩
   ·exact hd
end Go.Proofs.Ytpmamacjepcdmaa
