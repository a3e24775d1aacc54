import Derived.Test.YtpmamacjepcdmaaCChainLaws3
namespace Go.Proofs.Ytpmamacjepcdmaa
open Go Go.Sy Go.RowKit
set_option linter.unusedSimpArgs false
set_option linter.unusedVariables false
theorem gj {t : Int} : ∀ {l1 l2 : List Int} {p : Int},t ∉ l1→gk t (l1 ++ t :: l2) p=(match l1.getLast? with | none=>p | some c=>c + 1)
 | [],l2,p,_=>by simp [gk]
 | a :: l1,l2,p,h=>by
  simp only [List.mem_cons,not_or] at h
  simp only [List.cons_append,gk]
  rw [if_neg (fun e=>h.1 e.symm),gj h.2]
  cases l1 with
  | nil=>simp
  | cons c l1 =>
   rw [List.getLast?_cons_cons]
   cases hx : (c :: l1).getLast? with
   | none=>simp at hx
   | some d=>rfl
def Fx (s t : bp) : Prop:=s.refs=t.refs∧s.k=t.k∧s.till=t.till∧s.inn=t.inn
theorem zW {m : Mem} (hC : aK m) {b : Nat} (hb : b < m.heads.length) {t : Int} (ht : t∈chL m b) :
  aK (cut m (gk t (chL m b) 0) t b)∧(∀ i,i < m.heads.length→chL (cut m (gk t (chL m b) 0) t b) i=if i=b then (chL m b).erase t else chL m i) ∧
   (∀ j,Fx (msl (cut m (gk t (chL m b) 0) t b) j) (msl m j))∧(cut m (gk t (chL m b) 0) t b).slots.length=m.slots.length∧(cut m (gk t (chL m b) 0) t b).heads.length=m.heads.length:=by
 have hm:=hC.mem
 have hc:=hC.ch hb
 have hnd:=hc.ndl
 have htr:=cW hC ht
 have hts:=hm.sl (i:=t.toNat) (by omega)
 obtain ⟨p1,p2⟩:=br.1 hc.of
 obtain ⟨l1,l2,hl⟩:=List.append_of_mem ht
 have hin : ∀ d∈chL m b,0≤d∧d < m.slots.length:=fun d hd=>cW hC hd
 rw [hl] at hnd p1 p2 hin
 have hd1:=List.nodup_append.1 hnd
 have ht1 : t ∉ l1:=fun h=>hd1.2.2 t h t (by simp) rfl
 have her : (chL m b).erase t=l1 ++ l2:=by
  rw [hl,List.erase_append_right _ ht1,List.erase_cons_head]
 have hpv : gk t (chL m b) 0=(match l1.getLast? with | none=>0 | some c=>c + 1):=by rw [hl];exact gj ht1
 obtain ⟨q,s1,s2⟩:=eE.1 p1
 obtain ⟨e1,_,s3⟩:=s2
 subst e1
 have disj : ∀ i,i < m.heads.length→i≠b→∀ d∈chL m i,d ∉ chL m b:=fun i hi hne d hd hd'=>by
  have h1:=((hC.ch hi).ok d hd).bk
  have h2:=(hc.ok d hd').bk
  rw [h1] at h2
  omega
 generalize hx : cut m (gk t (chL m b) 0) t b=x
 have core : x.slots.length=m.slots.length∧x.heads.length=m.heads.length∧x.free=m.free∧x.ae=m.ae∧x.now=m.now∧(∀ j,Fx (msl x j) (msl m j)) ∧
   (∀ j,j < m.slots.length→(msl x j).next≤m.slots.length∧-(m.heads.length : Int)≤(msl x j).next)∧(∀ i,i < m.heads.length→x.heads.getD i 0≠0∧x.heads.getD i 0≤m.slots.length∧-(m.heads.length : Int)≤x.heads.getD i 0) ∧
   Path x (aO x b) (l1 ++ l2) (-1 - b)∧(∀ i : Nat,i≠b→aO x i=aO m i)∧∀ i,i < m.heads.length→i≠b→∀ d∈chL m i,nxt x d=nxt m d:=by
  rcases List.eq_nil_or_concat l1 with h0 | ⟨l0,c,h0⟩
  ·subst h0
   rw [hpv] at hx
   have hx : ({ m with heads:=m.heads.set b (nxt m t)} : Mem)=x:=by
    rw [← hx]
    simp only [cut,List.getLast?_nil,Int.lt_irrefl,if_false]
    rw [show ((b : Int)).toNat=b from by omega];rfl
   have hms : ∀ j,msl x j=msl m j:=fun j=>by rw [← hx];rfl
   have hhd : ∀ i : Nat,aO x i=if (i : Int)=b then nxt m t else aO m i:=fun i=>by
    have:=xK (m:=m) (b:=b) (i:=i) (v:=nxt m t) (by omega) (by omega) (by omega)
    rw [← hx]
    rw [show ((b : Int)).toNat=b from by omega] at this
    exact this
   have hnn : ∀ d,nxt x d=nxt m d:=fun d=>by unfold nxt;rw [hms]
   refine ⟨by rw [← hx],by rw [← hx];simp,by rw [← hx],by rw [← hx],by rw [← hx],fun j=>by rw [hms];exact ⟨rfl,rfl,rfl,rfl⟩,fun j hj=>by rw [hms];exact ⟨(hm.sl hj).n0,(hm.sl hj).n1⟩,fun i hi=>?_,?_,fun i hne=>?_,fun i hi hne d hd=>hnn d⟩
   ·have:=hhd i
    unfold aO at this
    rw [show ((i : Int)).toNat=i from by omega] at this
    rw [this]
    split
    ·have hp : Path m (nxt m t) l2 (-1 - b):=s3
     refine ⟨?_,hts.n0,hts.n1⟩
     cases l2 with
     | nil=>have:=hp.1;omega
     | cons d l2=>have:=hp.2.1;omega
    ·have:=hm.head i hi
     exact ⟨this.h0,this.n0,this.n1⟩
   ·rw [hhd b,if_pos rfl]
    exact s3.congr fun d _=>hnn d
   ·rw [hhd i,if_neg (by omega)]
  ·rw [List.concat_eq_append] at h0
   subst h0
   have hcl : (l0 ++ [c]).getLast?=some c:=by simp
   have hcin : c∈l0 ++ [c]:=by simp
   have hcr:=hin c (List.mem_append_left _ hcin)
   rw [hpv,hcl] at hx
   have hx : ({ m with slots:=m.slots.modify c.toNat (og (nxt m t))} : Mem)=x:=by
    rw [← hx]
    simp only [cut]
    rw [if_pos (by omega),show c + 1 - 1=c from by omega];rfl
   have hms : ∀ j,msl x j=if c.toNat=j then og (nxt m t) (msl m j) else msl m j:=fun j=>by
    rw [← hx]
    show (m.slots.modify c.toNat (og (nxt m t))).getD j default=_
    rw [oq (by omega)]
    by_cases e : c.toNat=j
    ·rw [if_pos e,if_pos e,e]
    ·rw [if_neg e,if_neg e]
   have hnc : nxt x c=nxt m t:=by
    show (msl x c.toNat).next=_
    rw [hms,if_pos rfl];rfl
   have hnn : ∀ d,0≤d→d≠c→nxt x d=nxt m d:=fun d hd hne=>by
    unfold nxt
    rw [hms,if_neg (by omega)]
   have hhd : ∀ i : Int,aO x i=aO m i:=fun i=>by rw [← hx];rfl
   have hd0:=List.nodup_append.1 hd1.1
   have hc0 : c ∉ l0:=fun h=>hd0.2.2 c h c (by simp) rfl
   have hc2 : c ∉ l2:=fun h=>hd1.2.2 c hcin c (by simp [h]) rfl
   refine ⟨by rw [← hx];simp,by rw [← hx],by rw [← hx],by rw [← hx],by rw [← hx],fun j=>?_,fun j hj=>?_,fun i hi=>?_,?_,fun i hne=>hhd i,fun i hi hne d hd=>?_⟩
   ·rw [hms];split <;> exact ⟨rfl,rfl,rfl,rfl⟩
   ·rw [hms];split
    ·exact ⟨hts.n0,hts.n1⟩
    ·exact ⟨(hm.sl hj).n0,(hm.sl hj).n1⟩
   ·have:=hhd i
    unfold aO at this
    rw [show ((i : Int)).toNat=i from by omega] at this
    rw [this]
    have:=hm.head i hi
    exact ⟨this.h0,this.n0,this.n1⟩
   ·rw [hhd b]
    obtain ⟨q',s4,s5⟩:=oa.1 s1
    refine eE.2 ⟨nxt m t,oa.2 ⟨q',s4.congr fun d hd=>hnn d (hin d (by simp [hd])).1 fun e=>hc0 (by rw [← e];exact hd),s5.1,s5.2.1,hnc⟩,s3.congr fun d hd=>hnn d (hin d (by simp [hd])).1 fun e=>hc2 (by rw [← e];exact hd)⟩
   ·refine hnn d (cW hC hd).1 fun e=>disj i hi hne d hd ?_
    rw [hl,e]
    exact List.mem_append_left _ hcin
 obtain ⟨xl,xh,xf,xo,xw,xlk,xnb,xhb,xp,xhd,xnx⟩:=core
 have xk : ∀ d,kys x d=kys m d:=fun d=>(xlk d.toNat).2.1
 have xbk : ∀ k,bk x k=bk m k:=fun k=>by unfold bk;rw [xh]
 have inok : ∀ (i : Nat) d,Ab m i d→Ab x i d:=fun i d h=>⟨by rw [(xlk d.toNat).1];exact h.refs,by rw [(xlk d.toNat).2.2.2];exact h.inn,by rw [xbk,xk];exact h.bk⟩
 have hmx : bB x:=hm.with xl xh xf xo xw (fun i hi=>⟨(xlk i).1,(xlk i).2.1,(xlk i).2.2.1,(xnb i hi).1,(xnb i hi).2⟩) xhb
 have main : ∀ i,i < m.heads.length→fH x i (if i=b then (chL m b).erase t else chL m i):=fun i hi=>by
  by_cases e : i=b
  ·subst e
   rw [if_pos rfl,her]
   have hsub : ∀ d∈l1 ++ l2,d∈chL m i:=fun d hd=>by
    rw [hl]
    rcases List.mem_append.1 hd with h | h
    ·exact List.mem_append_left _ h
    ·exact List.mem_append_right _ (by simp [h])
   refine ⟨br.2 ⟨xp,?_⟩,fun d hd=>inok i d (hc.ok d (hsub d hd)),?_⟩
   ·rw [xl]
    simp only [List.length_append,List.length_cons] at p2 ⊢
    omega
   ·rw [show kys x=kys m from funext xk]
    have:=hc.nd
    rw [hl] at this
    refine this.sublist ?_
    exact List.Sublist.map _ (List.Sublist.append_left (List.sublist_cons_self t l2) l1)
  ·rw [if_neg e]
   have hci:=hC.ch hi
   obtain ⟨g1,g2⟩:=br.1 hci.of
   refine ⟨br.2 ⟨?_,by rw [xl];exact g2⟩,fun d hd=>inok i d (hci.ok d hd),by rw [show kys x=kys m from funext xk];exact hci.nd⟩
   rw [xhd i e]
   exact g1.congr fun d hd=>xnx i hi e d hd
 exact ⟨⟨hmx,fun i hi=>⟨_,main i (by rw [← xh];exact hi)⟩⟩,fun i hi=>tV (main i hi).of,xlk,xl,xh⟩
end Go.Proofs.Ytpmamacjepcdmaa

namespace Go.Proofs.Ytpmamacjepcdmaa
open Go Go.Sy Go.RowKit
set_option linter.unusedSimpArgs false
set_option linter.unusedVariables false
def iX (f : Nat→Nat) : Nat→Nat→Nat
 | 0,_=>0
 | n + 1,b=>f b + iX f n (b + 1)
theorem fC {m : Mem} : ∀ {n b : Nat} {acc : List cI},(bC m n b acc).length=acc.length + iX (fun i=>(chL m i).length) n b
 | 0,b,acc=>rfl
 | n + 1,b,acc=>by
  rw [bC,fC]
  simp only [iX,List.length_append,List.length_map,chL]
  omega
theorem jQ {f g : Nat→Nat} : ∀ {n b : Nat},(∀ i,b≤i→i < b + n→f i=g i)→iX f n b=iX g n b
 | 0,_,_=>rfl
 | n + 1,b,h=>by
  simp only [iX]
  rw [h b (Nat.le_refl _) (by omega),jQ fun i h1 h2=>h i (by omega) (by omega)]
theorem sE {f g : Nat→Nat} {c : Nat} : ∀ {n b : Nat},b≤c→c < b + n→f c=g c + 1→(∀ i,b≤i→i < b + n→i≠c→f i=g i)→iX f n b=iX g n b + 1
 | 0,b,h1,h2,_,_=>by omega
 | n + 1,b,h1,h2,h3,h4=>by
  simp only [iX]
  by_cases e : b=c
  ·subst e
   rw [h3,jQ fun i g1 g2=>h4 i (by omega) (by omega) (by omega)]
   omega
  ·rw [h4 b (Nat.le_refl _) (by omega) e,sE (n:=n) (b:=b + 1) (by omega) (by omega) h3 fun i g1 g2 g3=>h4 i (by omega) (by omega) g3]
   omega
theorem uw {m x : Mem} (hh : x.heads.length=m.heads.length) {b : Nat} (hb : b < m.heads.length) (h1 : (chL x b).length=(chL m b).length + 1) (h2 : ∀ i,i < m.heads.length→i≠b→chL x i=chL m i) : (aq x).length=(aq m).length + 1:=by
 unfold aq
 rw [fC,fC,hh]
 have:=sE (f:=fun i=>(chL x i).length) (g:=fun i=>(chL m i).length) (n:=m.heads.length) (b:=0) (c:=b) (by omega) (by omega) h1 fun i _ g2 g3=>by
  show (chL x i).length=_
  rw [h2 i (by omega) g3]
 omega
theorem ib {m x : Mem} {c : Int} (h1 : (msl x c.toNat).k=(msl m c.toNat).k) (h2 : (msl x c.toNat).till=(msl m c.toNat).till) : bu x c=bu m c:=by
 unfold bu
 rw [h1,h2]
theorem zx {m : Mem} (hC : aK m) {a : Int} (h1 : 0≤a) (h2 : a < m.slots.length) (h3 : (msl m a.toNat).refs≠0) (hn : ∀ c∈chL m (bk m (kys m a)).toNat,kys m c≠kys m a) :
  aK (link m a (bk m (kys m a)))∧(aq (link m a (bk m (kys m a)))).length=(aq m).length + 1∧bu m a∈aq (link m a (bk m (kys m a)))∧(∀ f∈aq m,f∈aq (link m a (bk m (kys m a))))∧(∀ f∈aq m,f.k≠kys m a):=by
 have hk:=(hC.mem.sl (i:=a.toNat) (by omega)).k
 obtain ⟨b1,b2,b3⟩:=jq hC.mem (k:=kys m a) hk
 obtain ⟨g1,g2,g3⟩:=vZ hC h1 h2 h3 hn
 have hbn : (((bk m (kys m a)).toNat : Nat) : Int)=bk m (kys m a):=by omega
 have hh : (link m a (bk m (kys m a))).heads.length=m.heads.length:=by simp [link]
 have hfa : ∀ c,bu (link m a (bk m (kys m a))) c=bu m c:=fun c=>ib (by rw [g3];split <;> rfl) (by rw [g3];split <;> rfl)
 generalize link m a (bk m (kys m a))=x at *
 have hb:=g2 (bk m (kys m a)).toNat (by omega)
 rw [if_pos hbn] at hb
 refine ⟨g1,uw hh (b:=(bk m (kys m a)).toNat) (by omega) (by rw [hb,List.length_cons]) fun i hi hne=>by rw [g2 i hi,if_neg (by omega)],?_,fun f hf=>?_,fun f hf e=>?_⟩
 ·rw [← hfa a]
  exact mw (b:=(bk m (kys m a)).toNat) (by omega) (by rw [hb];simp)
 ·obtain ⟨i,hi,c,hc,e⟩:=qv.1 hf
  rw [e,← hfa c]
  refine mw (b:=i) (by omega) ?_
  rw [g2 i hi]
  split
  ·simp [hc]
  ·exact hc
 ·obtain ⟨_,_,q3,_,_,_,q7⟩:=jj hC hf
  rw [e] at q3 q7
  exact hn _ q7 q3
end Go.Proofs.Ytpmamacjepcdmaa

namespace Go.Proofs.Ytpmamacjepcdmaa
open Go Go.Sy Go.RowKit
set_option linter.unusedSimpArgs false
set_option linter.unusedVariables false
theorem lH {m x : Mem} : ∀ {n b : Nat} {acc : List cI},(∀ i,b≤i→i < b + n→chL x i=chL m i∧∀ c∈chL m i,bu x c=bu m c)→bC x n b acc=bC m n b acc
 | 0,_,_,_=>rfl
 | n + 1,b,acc,h=>by
  obtain ⟨h1,h2⟩:=h b (Nat.le_refl _) (by omega)
  rw [bC,bC]
  have e : (bP x b).1.map (bu x)=(bP m b).1.map (bu m):=by
   show (chL x b).map (bu x)=(chL m b).map (bu m)
   rw [h1];exact List.map_congr_left h2
  rw [e,lH fun i h3 h4=>h i (by omega) (by omega)]
theorem vP {m x : Mem} (hC : aK m) (hx : bB x) (hl : x.slots.length=m.slots.length) (hh : x.heads=m.heads) (hs : ∀ b,b < m.heads.length→∀ c∈chL m b,msl x c.toNat=msl m c.toNat) :
  aK x∧(∀ b,b < m.heads.length→chL x b=chL m b)∧aq x=aq m:=by
 have ch : ∀ b,b < m.heads.length→fH x b (chL m b):=fun b hb=>by
  have h:=hC.ch hb
  obtain ⟨hp,hle⟩:=br.1 h.of
  refine ⟨br.2 ⟨?_,by rw [hl];exact hle⟩,fun a ha=>?_,?_⟩
  ·have e : aO x b=aO m b:=by unfold aO;rw [hh]
   rw [e]
   exact Path.congr (fun c hc=>by unfold nxt;rw [hs b hb c hc]) hp
  ·have k:=h.ok a ha
   have e:=hs b hb a ha
   refine ⟨by rw [e];exact k.refs,by rw [e];exact k.inn,?_⟩
   have:=k.bk
   unfold bk kys at this ⊢
   rw [e,hh];exact this
  ·have : (chL m b).map (kys x)=(chL m b).map (kys m):=List.map_congr_left fun c hc=>by unfold kys;rw [hs b hb c hc]
   rw [this];exact h.nd
 have hcl : ∀ b,b < m.heads.length→chL x b=chL m b:=fun b hb=>tV (ch b hb).of
 refine ⟨⟨hx,fun b hb=>⟨_,ch b (by rw [hh] at hb;exact hb)⟩⟩,hcl,?_⟩
 unfold aq
 rw [hh]
 exact lH fun i _ hi=>⟨hcl i (by omega),fun c hc=>by unfold bu;rw [hs i (by omega) c hc]⟩
theorem D7 {m x : Mem} (h : x.heads=m.heads) (k : Key) : bk x k=bk m k:=by unfold bk;rw [h]
def adF (k : Key) (t pc cur slot e : Int) : Frm:=⟨⟨2,k,t,0,0⟩,pc,cur,0,slot,0,[],false,e⟩
def ad (m : Mem) (f : Frm) : Frm × Mem:=G3 m f 0
def da (m : Mem) (t : Int) : Int:=if m.now + t≤2000000 then m.now + t else 2000000
theorem Bm {m : Mem} {k : Key} {t pc cur s e : Int} : aa m (adF k t pc cur s e).c=bk m k:=rfl
theorem Fw {m : Mem} {k : Key} {t c s e : Int} (h : m.free.length=0) : ad m (adF k t 0 c s e)=(ay (adF k t 0 c s e) 7,m):=by
 have ht : take m k (da m t)=(m,0,7):=by unfold take;rw [if_pos h]
 unfold ad G3
 rw [if_pos (show (adF _ _ 0 _ _ _).pc=0 from rfl)]
 show (if (take m k (da m t)).2.2≠0 then _ else _)=_
 rw [ht];rfl
theorem Fq {m : Mem} {k : Key} {t c s e : Int} (h : m.free.length≠0) : ad m (adF k t 0 c s e)=(adF k t 1 c (bc m) e,cm m (bc m).toNat (cp k (da m t)) (m.free.take (m.free.length - 1))):=by
 have ht : take m k (da m t)=(cm m (bc m).toNat (cp k (da m t)) (m.free.take (m.free.length - 1)),bc m,0):=by unfold take;rw [if_neg h];rfl
 unfold ad G3
 rw [if_pos (show (adF _ _ 0 _ _ _).pc=0 from rfl)]
 show (if (take m k (da m t)).2.2≠0 then _ else (_,(take m k (da m t)).1))=_
 rw [if_neg (by rw [ht];exact fun h=>h rfl)]
 show (adF k t 1 c (take m k (da m t)).2.1 e,(take m k (da m t)).1)=_
 rw [ht]
theorem Fu {m : Mem} {k : Key} {t c s e : Int} (h : m.ae.getD (bk m k).toNat 0=-1) : ad m (adF k t 1 c s e)=(adF k t 2 c s e,{ m with ae:=m.ae.set (bk m k).toNat 0}):=by
 have hl : lock m (bk m k) 0=({ m with ae:=m.ae.set (bk m k).toNat 0},true):=by unfold lock;rw [if_pos h]
 unfold ad G3
 rw [if_neg (by simp [adF]),if_pos (show (adF _ _ 1 _ _ _).pc=1 from rfl),Bm,hl];rfl
theorem Ej {m : Mem} {k : Key} {t c s e : Int} : ad m (adF k t 2 c s e)=(adF k t 3 (aO m (bk m k)) s e,m):=by
 unfold ad G3
 rw [if_neg (by simp [adF]),if_neg (by simp [adF]),if_pos (show (adF _ _ 2 _ _ _).pc=2 from rfl),Bm];rfl
theorem ad_end {m : Mem} {k : Key} {t c s e : Int} (h : c≤0) : ad m (adF k t 3 c s e)=(adF k t 5 c s e,m):=by
 unfold ad G3
 rw [if_neg (by simp [adF]),if_neg (by simp [adF]),if_neg (by simp [adF]),if_pos (show (adF _ _ 3 _ _ _).pc=3 from rfl),if_pos (show (adF k t 3 c s e).cur≤0 from h)];rfl
theorem ad_no {m : Mem} {k : Key} {t a s e : Int} (h : 0≤a) (hk : kys m a≠k) : ad m (adF k t 3 (a + 1) s e)=(adF k t 4 (a + 1) s e,m):=by
 have e1 : at1 m (adF k t 3 (a + 1) s e)=msl m a.toNat:=by unfold at1 adF;rw [show a + 1 - 1=a from by omega]
 unfold ad G3
 rw [if_neg (by simp [adF]),if_neg (by simp [adF]),if_neg (by simp [adF]),if_pos (show (adF _ _ 3 _ _ _).pc=3 from rfl),if_neg (by simp only [adF];omega),e1,if_neg (show ¬ (msl m a.toNat).k=(adF k t 3 (a + 1) s e).c.k from hk)];rfl
theorem ad_yes {m : Mem} {k : Key} {t a s e : Int} (h : 0≤a) (hk : kys m a=k) : ad m (adF k t 3 (a + 1) s e)=(adF k t 6 (a + 1) s e,m):=by
 have e1 : at1 m (adF k t 3 (a + 1) s e)=msl m a.toNat:=by unfold at1 adF;rw [show a + 1 - 1=a from by omega]
 unfold ad G3
 rw [if_neg (by simp [adF]),if_neg (by simp [adF]),if_neg (by simp [adF]),if_pos (show (adF _ _ 3 _ _ _).pc=3 from rfl),if_neg (by simp only [adF];omega),e1,if_pos (show (msl m a.toNat).k=(adF k t 3 (a + 1) s e).c.k from hk)];rfl
theorem Fs {m : Mem} {k : Key} {t a s e : Int} (h : 0≤a) : ad m (adF k t 4 (a + 1) s e)=(adF k t 3 (nxt m a) s e,m):=by
 have e1 : at1 m (adF k t 4 (a + 1) s e)=msl m a.toNat:=by unfold at1 adF;rw [show a + 1 - 1=a from by omega]
 unfold ad G3
 rw [if_neg (by simp [adF]),if_neg (by simp [adF]),if_neg (by simp [adF]),if_neg (by simp [adF]),if_pos ⟨rfl,by simp only [adF];omega⟩,e1];rfl
theorem Fv {m : Mem} {k : Key} {t c s e : Int} (h : 0≤s) : ad m (adF k t 5 c s e)=(adF k t 7 c s 0,link m s (bk m k)):=by
 unfold ad G3
 rw [if_neg (by simp [adF]),if_neg (by simp [adF]),if_neg (by simp [adF]),if_neg (by simp [adF]),if_neg (by simp [adF]),if_pos ⟨rfl,h⟩,Bm];rfl
theorem Ft {m : Mem} {k : Key} {t c s e : Int} (h : 0≤s) : ad m (adF k t 6 c s e)=(adF k t 7 c (-1) 6,put m s):=by
 unfold ad G3
 rw [if_neg (by simp [adF]),if_neg (by simp [adF]),if_neg (by simp [adF]),if_neg (by simp [adF]),if_neg (by simp [adF]),if_neg (by simp [adF]),if_pos ⟨rfl,h⟩];rfl
theorem Bl {m : Mem} {k : Key} {t c s e : Int} (h : m.ae.getD (bk m k).toNat 0=0) : ad m (adF k t 7 c s e)=(ay (adF k t 7 c s e) e,{ m with ae:=m.ae.set (bk m k).toNat (-1)}):=by
 have hl : unlock m (bk m k) 0={ m with ae:=m.ae.set (bk m k).toNat (-1)}:=by unfold unlock;rw [if_pos h]
 unfold ad G3
 rw [if_neg (by simp [adF]),if_neg (by simp [adF]),if_neg (by simp [adF]),if_neg (by simp [adF]),if_neg (by simp [adF]),if_neg (by simp [adF]),if_neg (by simp [adF]),if_pos (show (adF _ _ 7 _ _ _).pc=7 from rfl),Bm,hl];rfl
theorem wF {m : Mem} {k : Key} {t s e : Int} : ∀ {l : List Int} {n q : Int} {N : Nat},Seg m n l q→(∀ a∈l,kys m a≠k)→bZ ad (2 * l.length + N) (adF k t 3 n s e) m=bZ ad N (adF k t 3 q s e) m
 | [],n,q,N,h,_=>by
  have h : n=q:=h
  subst h
  rw [List.length_nil,Nat.mul_zero,Nat.zero_add]
 | c :: l,n,q,N,h,hk=>by
  obtain ⟨h1,h2,h3⟩:=h
  subst h1
  rw [List.length_cons,show 2 * (l.length + 1) + N=2 * l.length + N + 1 + 1 from by omega,bd (ad_no (by omega) (hk c (by simp))) rfl,bd (Fs (by omega)) rfl]
  exact wF h3 fun a ha=>hk a (by simp [ha])
theorem fB {l : List Int} {i : Nat} {v : Int} (h : i < l.length) : (l.set i v).getD i 0=v:=by
 rw [List.getD_eq_getElem?_getD,List.getElem?_set_self h];rfl
theorem oW {l : List Int} {i : Nat} {v : Int} (h : l.getD i 0=-1) (hi : i < l.length) : (l.set i v).set i (-1)=l:=by
 rw [List.set_set]
 refine List.ext_getElem? fun j=>?_
 by_cases e : i=j
 ·subst e
  rw [List.getElem?_set_self hi,List.getElem?_eq_getElem hi]
  rw [List.getD_eq_getElem?_getD,List.getElem?_eq_getElem hi] at h
  exact congrArg some h.symm
 ·rw [List.getElem?_set_ne e]
theorem Cy {m : Mem} (hC : aK m) {k : Key} (hk : Key.Ok k) {t : Int} (h1 : 1≤t) (h2 : t≤1000000) (hl : ∀ i,i < m.heads.length→m.ae.getD i 0=-1) :
  ∃ f x,bZ ad (2 * m.slots.length + 7) (aX ⟨2,k,t,0,0⟩) m=(f,x,true)∧aK x∧x.ae=m.ae ∧
   ((m.free.length=0∧f.e=7∧x=m) ∨
    (m.free.length≠0∧(∃ w∈aq m,w.k=k)∧f.e=6∧x.free=m.free∧aq x=aq m) ∨
    (m.free.length≠0∧(∀ w∈aq m,w.k≠k)∧f.e=0∧(aq x).length=(aq m).length + 1∧⟨k,f.slot,da m t⟩∈aq x∧∀ w∈aq m,w∈aq x)):=by
 have hm:=hC.mem
 have hb:=jq hm hk
 have hst : aX ⟨2,k,t,0,0⟩=adF k t 0 0 (-1) 0:=rfl
 rw [hst,show 2 * m.slots.length + 7=2 * m.slots.length + 6 + 1 from rfl]
 by_cases hn : m.free.length=0
 ·rw [dm (Fw hn) rfl]
  exact ⟨_,_,rfl,hC,rfl,.inl ⟨hn,rfl,rfl⟩⟩
 have hfr:=hm.free _ (pj hn)
 have hn0:=hm.ma
 have hn1:=hm.Ik
 have htill : 0≤da m t∧da m t≤2000000:=by unfold da;split <;> omega
 obtain ⟨a,ha⟩ : ∃ a,bc m=a:=⟨_,rfl⟩
 rw [bd (Fq hn) rfl]
 have hy:=Ai hm (k:=k) (till:=da m t) hn hk htill.1 htill.2
 rw [ha] at hy hfr ⊢
 obtain ⟨y,hyd⟩ : ∃ y,y=cm m a.toNat (cp k (da m t)) (m.free.take (m.free.length - 1)):=⟨_,rfl⟩
 rw [← hyd] at hy ⊢
 have yl : y.slots.length=m.slots.length:=by rw [hyd];exact nB _ _ _ _
 have yh : y.heads=m.heads:=by rw [hyd];rfl
 have yk : y.ae=m.ae:=by rw [hyd];rfl
 have ym : ∀ i,msl y i=if a.toNat=i∧a.toNat < m.slots.length then cp k (da m t) (msl m i) else msl m i:=fun i=>by rw [hyd];exact gJ _ _ _ _ _
 have ya : msl y a.toNat=cp k (da m t) (msl m a.toNat):=by rw [ym,if_pos ⟨rfl,by omega⟩]
 have notin : ∀ b,b < m.heads.length→∀ c∈chL m b,a.toNat≠c.toNat:=fun b hb c hc e=>by
  have hin:=cW hC hc
  have:=((hC.ch hb).ok c hc).refs
  rw [show c=a from by omega] at this
  exact this hfr.2.2
 obtain ⟨yC,ych,yfl⟩:=vP hC hy yl yh fun b hb c hc=>by rw [ym,if_neg fun z=>notin b hb c hc z.1]
 have hlk : y.ae.getD (bk m k).toNat 0=-1:=by rw [yk];exact hl _ (by omega)
 have hbk : bk y k=bk m k:=D7 yh k
 have hll : (bk m k).toNat < y.ae.length:=by rw [yk,hm.nl];omega
 rw [show 2 * m.slots.length + 6=2 * m.slots.length + 5 + 1 from rfl,bd (Fu (by rw [hbk];exact hlk)) rfl,hbk]
 obtain ⟨z,hz⟩ : ∃ z : Mem,z={ y with ae:=y.ae.set (bk m k).toNat 0}:=⟨_,rfl⟩
 rw [← hz]
 have zm : ∀ i,msl z i=msl y i:=fun i=>by rw [hz];rfl
 have zk : ∀ c,kys z c=kys y c:=fun c=>by unfold kys;rw [zm]
 have zb : bk z k=bk m k:=by rw [hz];exact hbk
 have zl : z.ae.getD (bk m k).toNat 0=0:=by rw [hz];exact fB hll
 have back : z.ae.set (bk m k).toNat (-1)=m.ae:=by rw [hz];show (y.ae.set _ _).set _ _=_;rw [oW hlk hll,yk]
 rw [show 2 * m.slots.length + 5=2 * m.slots.length + 4 + 1 from rfl,bd Ej rfl,zb]
 obtain ⟨b,hbb⟩ : ∃ b : Nat,bk m k=b:=⟨(bk m k).toNat,by omega⟩
 have hch:=yC.ch (b:=b) (by rw [yh];omega)
 obtain ⟨hp,hle⟩:=br.1 hch.of
 have hp : Path z (aO z (bk m k)) (chL y b) (-1 - b):=by
  have e : aO z (bk m k)=aO y b:=by rw [hz,hbb];rfl
  rw [e];exact Path.congr (fun c _=>by unfold nxt;rw [zm]) hp
 rw [yl] at hle
 rcases kN (k:=k) hp with ⟨k1,k2⟩ | ⟨l1,c,l2,e1,k1,k2,k3,k4⟩
 ·
  have kn : ∀ c∈chL y (bk y (kys y a)).toNat,kys y c≠kys y a:=by
   have e : kys y a=k:=by unfold kys;rw [ya];rfl
   rw [e,hbk,hbb,Int.toNat_natCast]
   exact fun c hc=>by rw [← zk];exact k1 c hc
  have ek : kys y a=k:=by unfold kys;rw [ya];rfl
  have yr : (msl y a.toNat).refs≠0:=by rw [ya];exact (by decide : (1 : Int)≠0)
  obtain ⟨q1,q2,q3,q4,q5⟩:=zx yC (a:=a) hfr.1 (by rw [yl];exact hfr.2.1) yr kn
  rw [ek,hbk] at q1 q2 q3 q4
  rw [ek] at q5
  rw [show 2 * m.slots.length + 4=2 * (chL y b).length + ((2 * m.slots.length + 1 - 2 * (chL y b).length) + 1 + 1 + 1) from by omega,wF k2 k1,bd (ad_end (by omega)) rfl,bd (Fv hfr.1) rfl,zb]
  have el : (link z a (bk m k)).ae=z.ae:=rfl
  have eb : bk (link z a (bk m k)) k=bk m k:=by
   have : (link z a (bk m k)).heads.length=z.heads.length:=by simp [link]
   show (aY k (link z a (bk m k)).heads.length).1=bk m k
   rw [this];exact zb
  rw [dm (Bl (by rw [eb,el];exact zl)) rfl,eb,el]
  have ex : ({ link z a (bk m k) with ae:=z.ae.set (bk m k).toNat (-1)} : Mem)=link y a (bk m k):=by
   rw [back,← yk,hz];rfl
  rw [ex]
  have ef : bu y a=⟨k,a,da m t⟩:=by unfold bu;rw [ya];rfl
  rw [ef] at q3
  rw [yfl] at q2 q4 q5
  exact ⟨_,_,rfl,q1,by rw [show (link y a (bk m k)).ae=y.ae from rfl,yk],.inr (.inr ⟨hn,q5,rfl,q2,q3,q4⟩)⟩
 ·
  have hc : c∈chL y b:=by rw [e1];simp
  have hl1 : l1.length + 1≤(chL y b).length:=by rw [e1];simp
  rw [show 2 * m.slots.length + 4=2 * l1.length + ((2 * m.slots.length + 1 - 2 * l1.length) + 1 + 1 + 1) from by omega,wF k3 k1,bd (ad_yes k4 k2) rfl,bd (Ft hfr.1) rfl]
  have za : (msl z a.toNat).refs=1:=by rw [zm,ya];rfl
  have ep : put z a={ z with slots:=z.slots.modify a.toNat (bx (-1)),free:=z.free ++ [a]}:=by unfold put;rw [if_neg (by rw [za];decide),if_pos za]
  have el : (put z a).ae=z.ae:=by rw [ep]
  have eb : bk (put z a) k=bk m k:=by rw [ep];exact zb
  rw [dm (Bl (by rw [eb,el];exact zl)) rfl,eb,el]
  obtain ⟨x,hx⟩ : ∃ x : Mem,x={ put z a with ae:=z.ae.set (bk m k).toNat (-1)}:=⟨_,rfl⟩
  rw [← hx]
  have ex : x=put y a:=by
   have yr : (msl y a.toNat).refs=1:=by rw [ya];rfl
   have e2 : put y a={ y with slots:=y.slots.modify a.toNat (bx (-1)),free:=y.free ++ [a]}:=by unfold put;rw [if_neg (by rw [yr];decide),if_pos yr]
   rw [hx,back,e2,ep,← yk,hz]
  have xo : bB x:=by rw [ex];exact iY hy hfr.1 (by rw [yl];exact hfr.2.1)
  have xs : x={ y with slots:=y.slots.modify a.toNat (bx (-1)),free:=y.free ++ [a]}:=by
   have yr : (msl y a.toNat).refs=1:=by rw [ya];rfl
   rw [ex];unfold put;rw [if_neg (by rw [yr];decide),if_pos yr]
  obtain ⟨xC,_,xfl⟩:=vP hC xo (by rw [xs];simp [yl]) (by rw [xs];exact yh) fun b' hb' d hd=>by
   have : msl x d.toNat=msl y d.toNat:=by
    rw [xs]
    show (y.slots.modify a.toNat (bx (-1))).getD d.toNat default=_
    rw [getD_modify,if_neg fun z=>notin b' hb' d hd z.1];rfl
   rw [this,ym,if_neg fun z=>notin b' hb' d hd z.1]
  have xf : x.free=m.free:=by
   rw [xs]
   show y.free ++ [a]=m.free
   rw [hyd]
   show m.free.take (m.free.length - 1) ++ [a]=m.free
   rw [← ha];exact (tL hn).symm
  have xk : x.ae=m.ae:=by rw [hx];exact back
  have hcm : c∈chL m b:=by rw [← ych b (by omega)];exact hc
  refine ⟨_,_,rfl,xC,xk,.inr (.inl ⟨hn,⟨bu m c,mw (by omega) hcm,?_⟩,rfl,xf,xfl⟩)⟩
  show (msl m c.toNat).k=k
  have : msl y c.toNat=msl m c.toNat:=by rw [ym,if_neg fun z=>notin b (by omega) c hcm z.1]
  rw [← this]
  have:=k2
  unfold kys at this
  rwa [zm] at this
end Go.Proofs.Ytpmamacjepcdmaa
