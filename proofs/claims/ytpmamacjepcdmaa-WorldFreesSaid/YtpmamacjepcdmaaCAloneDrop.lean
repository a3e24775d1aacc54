import Derived.Test.YtpmamacjepcdmaaCTouch
import Derived.Test.YtpmamacjepcdmaaCChainLaws3
import Derived.Test.YtpmamacjepcdmaaCStep
namespace Go.Proofs.Ytpmamacjepcdmaa
open Go Go.Sy Go.RowKit
set_option linter.unusedSimpArgs false
set_option linter.unusedVariables false
theorem kN {m : Mem} {k : Key} : ∀ {l : List Int} {n e : Int},Path m n l e→(∀ a∈l,kys m a≠k)∧Seg m n l e∨∃ l1 a l2,l=l1 ++ a :: l2∧(∀ a∈l1,kys m a≠k)∧kys m a=k∧Seg m n l1 (a + 1)∧0≤a
 | [],n,e,h=>.inl ⟨fun _ h=>(by cases h),h.1⟩
 | c :: l,n,e,h=>by
  obtain ⟨h1,h2,h3⟩:=h
  by_cases hc : kys m c=k
  ·exact .inr ⟨[],c,l,rfl,fun _ h=>by (cases h),hc,h1,by omega⟩
  ·rcases kN h3 with ⟨k1,k2⟩ | ⟨l1,a,l2,e1,k1,k2,k3,k4⟩
   ·exact .inl ⟨fun a ha=>by rcases List.mem_cons.1 ha with rfl | ha;exact hc;exact k1 a ha,h1,h2,k2⟩
   ·exact .inr ⟨c :: l1,a,l2,by rw [e1];rfl,fun a ha=>by rcases List.mem_cons.1 ha with rfl | ha;exact hc;exact k1 a ha,k2,⟨h1,h2,k3⟩,k4⟩
end Go.Proofs.Ytpmamacjepcdmaa

namespace Go.Proofs.Ytpmamacjepcdmaa
open Go Go.Sy Go.RowKit
set_option linter.unusedSimpArgs false
set_option linter.unusedVariables false
theorem lH {m x : Mem} : ∀ {n b : Nat} {acc : List cI},(∀ i,b≤i→i < b + n→chL x i=chL m i∧∀ c∈chL m i,bu x c=bu m c)→bC x n b acc=bC m n b acc
 | 0,_,_,_=>rfl
 | n + 1,b,acc,h=>by
  obtain ⟨h1,h2⟩:=h b (Nat.le_refl _) (by omega)
  rw [bC,bC]
  have e : (bP x b).1.map (bu x)=(bP m b).1.map (bu m):=by
   show (chL x b).map (bu x)=(chL m b).map (bu m)
   rw [h1];exact List.map_congr_left h2
  rw [e,lH fun i h3 h4=>h i (by omega) (by omega)]
theorem vP {m x : Mem} (hC : aK m) (hx : bB x) (hl : x.slots.length=m.slots.length) (hh : x.heads=m.heads) (hs : ∀ b,b < m.heads.length→∀ c∈chL m b,msl x c.toNat=msl m c.toNat) :
  aK x∧(∀ b,b < m.heads.length→chL x b=chL m b)∧aq x=aq m:=by
 have ch : ∀ b,b < m.heads.length→fH x b (chL m b):=fun b hb=>by
  have h:=hC.ch hb
  obtain ⟨hp,hle⟩:=br.1 h.of
  refine ⟨br.2 ⟨?_,by rw [hl];exact hle⟩,fun a ha=>?_,?_⟩
  ·have e : aO x b=aO m b:=by unfold aO;rw [hh]
   rw [e]
   exact Path.congr (fun c hc=>by unfold nxt;rw [hs b hb c hc]) hp
  ·have k:=h.ok a ha
   have e:=hs b hb a ha
   refine ⟨by rw [e];exact k.refs,by rw [e];exact k.inn,?_⟩
   have:=k.bk
   unfold bk kys at this ⊢
   rw [e,hh];exact this
  ·have : (chL m b).map (kys x)=(chL m b).map (kys m):=List.map_congr_left fun c hc=>by unfold kys;rw [hs b hb c hc]
   rw [this];exact h.nd
 have hcl : ∀ b,b < m.heads.length→chL x b=chL m b:=fun b hb=>tV (ch b hb).of
 refine ⟨⟨hx,fun b hb=>⟨_,ch b (by rw [hh] at hb;exact hb)⟩⟩,hcl,?_⟩
 unfold aq
 rw [hh]
 exact lH fun i _ hi=>⟨hcl i (by omega),fun c hc=>by unfold bu;rw [hs i (by omega) c hc]⟩
def ad (m : Mem) (f : Frm) : Frm × Mem:=G3 m f 0
theorem fB {l : List Int} {i : Nat} {v : Int} (h : i < l.length) : (l.set i v).getD i 0=v:=by
 rw [List.getD_eq_getElem?_getD,List.getElem?_set_self h];rfl
theorem oW {l : List Int} {i : Nat} {v : Int} (h : l.getD i 0=-1) (hi : i < l.length) : (l.set i v).set i (-1)=l:=by
 rw [List.set_set]
 refine List.ext_getElem? fun j=>?_
 by_cases e : i=j
 ·subst e
  rw [List.getElem?_set_self hi,List.getElem?_eq_getElem hi]
  rw [List.getD_eq_getElem?_getD,List.getElem?_eq_getElem hi] at h
  exact congrArg some h.symm
 ·rw [List.getElem?_set_ne e]
end Go.Proofs.Ytpmamacjepcdmaa

namespace Go.Proofs.Ytpmamacjepcdmaa
open Go Go.Sy Go.RowKit
set_option linter.unusedSimpArgs false
set_option linter.unusedVariables false
theorem km {m x : Mem} {P : cI→Bool} : ∀ {n b : Nat} {acc : List cI},(∀ i,b≤i→i < b + n→(chL x i).map (bu x)=((chL m i).map (bu m)).filter P)→bC x n b (acc.filter P)=(bC m n b acc).filter P
 | 0,_,_,_=>rfl
 | n + 1,b,acc,h=>by
  rw [bC,bC]
  have e : acc.filter P ++ (bP x b).1.map (bu x)=(acc ++ (bP m b).1.map (bu m)).filter P:=by
   rw [List.filter_append]
   exact congrArg _ (h b (Nat.le_refl _) (by omega))
  rw [e]
  exact km fun i h3 h4=>h i (by omega) (by omega)
theorem my {m x : Mem} {P : cI→Bool} (hh : x.heads.length=m.heads.length) (h : ∀ i,i < m.heads.length→(chL x i).map (bu x)=((chL m i).map (bu m)).filter P) : aq x=(aq m).filter P:=by
 unfold aq
 rw [hh]
 exact km (acc:=[]) fun i _ hi=>h i (by omega)
theorem erase_filter {m : Mem} {t : Int} {k : Key} : ∀ {l : List Int},(l.map (kys m)).Nodup→t∈l→kys m t=k→l.erase t=l.filter fun c=>decide (kys m c≠k)
 | [],_,h,_=>by cases h
 | c :: l,hn,ht,e=>by
  rw [List.map_cons,List.nodup_cons] at hn
  by_cases hc : c=t
  ·subst hc
   have hall : l.filter (fun d=>decide (kys m d≠k))=l:=List.filter_eq_self.2 fun d hd=>decide_eq_true fun z=>hn.1 (List.mem_map.2 ⟨d,hd,by rw [z,e]⟩)
   rw [List.erase_cons_head,List.filter_cons_of_neg (by simp [e]),hall]
  ·have ht : t∈l:=by rcases List.mem_cons.1 ht with h | h;exact absurd h.symm hc;exact h
   rw [List.erase_cons_tail (by simpa using hc),List.filter_cons_of_pos (by rw [decide_eq_true_eq];exact fun z=>hn.1 (List.mem_map.2 ⟨t,ht,by rw [e,z]⟩)),erase_filter hn.2 ht e]
theorem vp (m : Mem) (p a b : Int) : (cut m p a b).ae=m.ae∧(cut m p a b).free=m.free∧(cut m p a b).now=m.now:=by
 unfold cut
 split <;> exact ⟨rfl,rfl,rfl⟩
theorem D1 (m : Mem) (p a b : Int) (l : List Int) : cut { m with ae:=l} p a b={ cut m p a b with ae:=l}:=by
 unfold cut
 split <;> rfl
theorem vV (m : Mem) {a : Int} (i : Nat) : (msl (put m a) i).k=(msl m i).k∧(msl (put m a) i).till=(msl m i).till∧(a.toNat≠i→msl (put m a) i=msl m i):=by
 unfold put
 split
 ·exact ⟨rfl,rfl,fun _=>rfl⟩
 ·split
  ·have e : msl { m with slots:=m.slots.modify a.toNat (bx (-1)),free:=m.free ++ [a]} i=if a.toNat=i∧a.toNat < m.slots.length then bx (-1) (msl m i) else msl m i:=getD_modify _ _ _ _
   rw [e]
   refine ⟨?_,?_,fun h=>by rw [if_neg fun z=>h z.1]⟩ <;> split <;> rfl
  ·have e : msl { m with slots:=m.slots.modify a.toNat (bx (-1))} i=if a.toNat=i∧a.toNat < m.slots.length then bx (-1) (msl m i) else msl m i:=getD_modify _ _ _ _
   rw [e]
   refine ⟨?_,?_,fun h=>by rw [if_neg fun z=>h z.1]⟩ <;> split <;> rfl
theorem AD {y : Mem} (hC : aK y) {t : Int} (h0 : 0≤t) (h1 : t < y.slots.length) (hn : ∀ i,i < y.heads.length→t ∉ chL y i) :
  aK (put y t)∧(∀ b,b < y.heads.length→chL (put y t) b=chL y b)∧aq (put y t)=aq y:=by
 obtain ⟨e1,e2,_,_⟩:=jw y t
 refine vP hC (iY hC.mem h0 h1) e1 e2 fun b hb c hc=>(vV y c.toNat).2.2 fun z=>hn b hb ?_
 have:=cW hC hc
 rw [show t=c from by omega]
 exact hc
def dpF (k : Key) (pc cur prev slot e : Int) : Frm:=⟨⟨3,k,0,0,0⟩,pc,cur,prev,slot,0,[],false,e⟩
def dp (m : Mem) (f : Frm) : Frm × Mem:=aL m f 0
theorem Be {m : Mem} {k : Key} {pc cur p s e : Int} : aa m (dpF k pc cur p s e).c=bk m k:=rfl
theorem Fj {m : Mem} {k : Key} {c p s e : Int} (h : m.ae.getD (bk m k).toNat 0=-1) : dp m (dpF k 0 c p s e)=(dpF k 1 c p s e,{ m with ae:=m.ae.set (bk m k).toNat 0}):=by
 have hl : lock m (bk m k) 0=({ m with ae:=m.ae.set (bk m k).toNat 0},true):=by unfold lock;rw [if_pos h]
 unfold dp aL
 rw [if_pos (show (dpF _ 0 _ _ _ _).pc=0 from rfl),Be,hl];rfl
theorem D0 {m : Mem} {k : Key} {c p s e : Int} : dp m (dpF k 1 c p s e)=(dpF k 2 (aO m (bk m k)) 0 s e,m):=by
 unfold dp aL
 rw [if_neg (by simp [dpF]),if_pos (show (dpF _ 1 _ _ _ _).pc=1 from rfl),Be];rfl
theorem dp_end {m : Mem} {k : Key} {c p s e : Int} (h : c≤0) : dp m (dpF k 2 c p s e)=(dpF k 5 c p s 5,m):=by
 unfold dp aL
 rw [if_neg (by simp [dpF]),if_neg (by simp [dpF]),if_pos (show (dpF _ 2 _ _ _ _).pc=2 from rfl),if_pos (show (dpF k 2 c p s e).cur≤0 from h)];rfl
theorem dp_no {m : Mem} {k : Key} {a p s e : Int} (h : 0≤a) (hk : kys m a≠k) : dp m (dpF k 2 (a + 1) p s e)=(dpF k 3 (a + 1) p s e,m):=by
 have e1 : at1 m (dpF k 2 (a + 1) p s e)=msl m a.toNat:=by unfold at1 dpF;rw [show a + 1 - 1=a from by omega]
 unfold dp aL
 rw [if_neg (by simp [dpF]),if_neg (by simp [dpF]),if_pos (show (dpF _ 2 _ _ _ _).pc=2 from rfl),if_neg (by simp only [dpF];omega),e1,if_neg (show ¬ (msl m a.toNat).k=(dpF k 2 (a + 1) p s e).c.k from hk)];rfl
theorem dp_yes {m : Mem} {k : Key} {a p s e : Int} (h : 0≤a) (hk : kys m a=k) : dp m (dpF k 2 (a + 1) p s e)=(dpF k 4 (a + 1) p s e,m):=by
 have e1 : at1 m (dpF k 2 (a + 1) p s e)=msl m a.toNat:=by unfold at1 dpF;rw [show a + 1 - 1=a from by omega]
 unfold dp aL
 rw [if_neg (by simp [dpF]),if_neg (by simp [dpF]),if_pos (show (dpF _ 2 _ _ _ _).pc=2 from rfl),if_neg (by simp only [dpF];omega),e1,if_pos (show (msl m a.toNat).k=(dpF k 2 (a + 1) p s e).c.k from hk)];rfl
theorem Fi {m : Mem} {k : Key} {a p s e : Int} (h : 0≤a) : dp m (dpF k 3 (a + 1) p s e)=(dpF k 2 (nxt m a) (a + 1) s e,m):=by
 have e1 : at1 m (dpF k 3 (a + 1) p s e)=msl m a.toNat:=by unfold at1 dpF;rw [show a + 1 - 1=a from by omega]
 unfold dp aL
 rw [if_neg (by simp [dpF]),if_neg (by simp [dpF]),if_neg (by simp [dpF]),if_pos ⟨rfl,by simp only [dpF];omega⟩,e1];rfl
theorem dp_cut {m : Mem} {k : Key} {a p s e : Int} (h : 0≤a) : dp m (dpF k 4 (a + 1) p s e)=(dpF k 5 (a + 1) p a 0,cut m p a (bk m k)):=by
 have e1 : (dpF k 4 (a + 1) p s e).cur - 1=a:=by simp only [dpF];omega
 unfold dp aL
 rw [if_neg (by simp [dpF]),if_neg (by simp [dpF]),if_neg (by simp [dpF]),if_neg (by simp [dpF]),if_pos ⟨rfl,by simp only [dpF];omega⟩,Be,e1];rfl
theorem vn {m : Mem} {k : Key} {c p s e : Int} (h : m.ae.getD (bk m k).toNat 0=0) : dp m (dpF k 5 c p s e)=(dpF k 6 c p s e,{ m with ae:=m.ae.set (bk m k).toNat (-1)}):=by
 have hl : unlock m (bk m k) 0={ m with ae:=m.ae.set (bk m k).toNat (-1)}:=by unfold unlock;rw [if_pos h]
 unfold dp aL
 rw [if_neg (by simp [dpF]),if_neg (by simp [dpF]),if_neg (by simp [dpF]),if_neg (by simp [dpF]),if_neg (by simp [dpF]),if_pos (show (dpF _ 5 _ _ _ _).pc=5 from rfl),Be,hl];rfl
theorem dp_put {m : Mem} {k : Key} {c p s e : Int} (h : 0≤s) : dp m (dpF k 6 c p s e)=(ay (dpF k 6 c p (-1) e) e,put m s):=by
 unfold dp aL
 rw [if_neg (by simp [dpF]),if_neg (by simp [dpF]),if_neg (by simp [dpF]),if_neg (by simp [dpF]),if_neg (by simp [dpF]),if_neg (by simp [dpF]),if_pos (show (dpF _ 6 _ _ _ _).pc=6 from rfl),if_pos (show 0≤(dpF k 6 c p s e).slot from h),if_pos (show 0≤(dpF k 6 c p s e).slot from h)];rfl
theorem Fh {m : Mem} {k : Key} {c p e : Int} : dp m (dpF k 6 c p (-1) e)=(ay (dpF k 6 c p (-1) e) e,m):=by
 unfold dp aL
 rw [if_neg (by simp [dpF]),if_neg (by simp [dpF]),if_neg (by simp [dpF]),if_neg (by simp [dpF]),if_neg (by simp [dpF]),if_neg (by simp [dpF]),if_pos (show (dpF _ 6 _ _ _ _).pc=6 from rfl),if_neg (by simp [dpF]),if_neg (by simp [dpF])];rfl
def dE (l : List Int) (p : Int) : Int:=match l.getLast? with | none=>p | some c=>c + 1
theorem ph (c : Int) (l : List Int) (p : Int) : dE (c :: l) p=dE l (c + 1):=by
 unfold dE
 cases l with
 | nil=>rfl
 | cons d l =>
  rw [List.getLast?_cons_cons]
  cases h : (d :: l).getLast? with
  | none=>simp at h
  | some e=>rfl
theorem wy {m : Mem} {k : Key} {s e : Int} : ∀ {l : List Int} {n p q : Int} {N : Nat},Seg m n l q→(∀ a∈l,kys m a≠k)→bZ dp (2 * l.length + N) (dpF k 2 n p s e) m=bZ dp N (dpF k 2 q (dE l p) s e) m
 | [],n,p,q,N,h,_=>by
  have h : n=q:=h
  subst h
  rw [List.length_nil,Nat.mul_zero,Nat.zero_add];rfl
 | c :: l,n,p,q,N,h,hk=>by
  obtain ⟨h1,h2,h3⟩:=h
  subst h1
  rw [List.length_cons,show 2 * (l.length + 1) + N=2 * l.length + N + 1 + 1 from by omega,bd (dp_no (by omega) (hk c (by simp))) rfl,bd (Fi (by omega)) rfl,ph]
  exact wy h3 fun a ha=>hk a (by simp [ha])
theorem zT {m : Mem} (hC : aK m) {k : Key} (hk : Key.Ok k) (hl : ∀ i,i < m.heads.length→m.ae.getD i 0=-1) :
  ∃ f x,bZ dp (2 * m.slots.length + 6) (aX ⟨3,k,0,0,0⟩) m=(f,x,true)∧aK x∧x.ae=m.ae∧x.slots.length=m.slots.length ∧
   (((∀ w∈aq m,w.k≠k)∧f.e=5∧x=m) ∨
    ((∃ w∈aq m,w.k=k)∧f.e=0∧aq x=(aq m).filter (fun w=>decide (w.k≠k))∧∀ w∈aq m,w.k=k→(msl x w.slot.toNat).refs=(msl m w.slot.toNat).refs - 1)):=by
 have hm:=hC.mem
 have hb:=jq hm hk
 have hst : aX ⟨3,k,0,0,0⟩=dpF k 0 0 0 (-1) 0:=rfl
 have hlk : m.ae.getD (bk m k).toNat 0=-1:=hl _ (by omega)
 have hll : (bk m k).toNat < m.ae.length:=by rw [hm.nl];omega
 rw [hst,show 2 * m.slots.length + 6=2 * m.slots.length + 5 + 1 from rfl,bd (Fj hlk) rfl]
 obtain ⟨z,hz⟩ : ∃ z : Mem,z={ m with ae:=m.ae.set (bk m k).toNat 0}:=⟨_,rfl⟩
 rw [← hz]
 have zm : ∀ i,msl z i=msl m i:=fun i=>by rw [hz];rfl
 have zk : ∀ c,kys z c=kys m c:=fun c=>by unfold kys;rw [zm]
 have zb : bk z k=bk m k:=by rw [hz];rfl
 have zl : z.ae.getD (bk m k).toNat 0=0:=by rw [hz];exact fB hll
 have back : z.ae.set (bk m k).toNat (-1)=m.ae:=by rw [hz];exact oW hlk hll
 rw [show 2 * m.slots.length + 5=2 * m.slots.length + 4 + 1 from rfl,bd D0 rfl,zb]
 obtain ⟨b,hbb⟩ : ∃ b : Nat,bk m k=b:=⟨(bk m k).toNat,by omega⟩
 have hch:=hC.ch (b:=b) (by omega)
 obtain ⟨hp,hle⟩:=br.1 hch.of
 have hp : Path z (aO z (bk m k)) (chL m b) (-1 - b):=by
  have e : aO z (bk m k)=aO m b:=by rw [hz,hbb];rfl
  rw [e];exact Path.congr (fun c _=>by unfold nxt;rw [zm]) hp
 rcases kN (k:=k) hp with ⟨k1,k2⟩ | ⟨l1,c,l2,e1,k1,k2,k3,k4⟩
 ·rw [show 2 * m.slots.length + 4=2 * (chL m b).length + ((2 * m.slots.length + 1 - 2 * (chL m b).length) + 1 + 1 + 1) from by omega,wy k2 k1,bd (dp_end (by omega)) rfl,bd (vn (by rw [zb];exact zl)) rfl,dm Fh rfl,zb]
  have ex : ({ z with ae:=z.ae.set (bk m k).toNat (-1)} : Mem)=m:=by rw [back,hz]
  rw [ex]
  refine ⟨_,_,rfl,hC,rfl,rfl,.inl ⟨fun w hw e=>?_,rfl,rfl⟩⟩
  obtain ⟨_,_,q3,_,_,_,q7⟩:=jj hC hw
  rw [e] at q3 q7
  rw [hbb,Int.toNat_natCast] at q7
  exact k1 _ q7 (by rw [zk];exact q3)
 ·have hc : c∈chL m b:=by rw [e1];simp
  have hl1 : l1.length + 1≤(chL m b).length:=by rw [e1];simp
  have hcr:=cW hC hc
  have k2 : kys m c=k:=by rw [← zk];exact k2
  have hnl : c ∉ l1:=fun h=>k1 c h (by rw [zk];exact k2)
  have hpv : dE l1 0=gk c (chL m b) 0:=by rw [e1];exact (gj hnl).symm
  obtain ⟨y,hy⟩ : ∃ y,y=cut m (dE l1 0) c (bk m k):=⟨_,rfl⟩
  obtain ⟨g1,g2,g3,g4,g5⟩:=zW hC (b:=b) (by omega) hc
  rw [← hpv,← hbb,← hy] at g1 g2 g3 g4 g5
  have hzy : cut z (dE l1 0) c (bk m k)={ y with ae:=z.ae}:=by rw [hy,hz];exact D1 _ _ _ _ _
  have ylk : y.ae=m.ae:=by rw [hy];exact (vp _ _ _ _).1
  rw [show 2 * m.slots.length + 4=2 * l1.length + ((2 * m.slots.length - 2 * l1.length) + 1 + 1 + 1 + 1) from by omega,wy k3 k1,bd (dp_yes k4 (by rw [zk];exact k2)) rfl,bd (dp_cut k4) rfl,zb,hzy]
  have yb : bk ({ y with ae:=z.ae} : Mem) k=bk m k:=by
   show (aY k y.heads.length).1=bk m k
   rw [g5];rfl
  rw [bd (vn (by rw [yb];exact zl)) rfl,yb,dm (dp_put k4) rfl]
  have ex : ({ ({ y with ae:=z.ae} : Mem) with ae:=({ y with ae:=z.ae} : Mem).ae.set (bk m k).toNat (-1)} : Mem)=y:=by
   show ({ y with ae:=z.ae.set (bk m k).toNat (-1)} : Mem)=y
   rw [back,← ylk]
  rw [ex]
  have offc : ∀ i,i < y.heads.length→c ∉ chL y i:=fun i hi hci=>by
   rw [g2 i (by omega)] at hci
   split at hci
   ·rename_i e
    subst e
    exact (List.Nodup.mem_erase_iff hch.ndl).1 hci |>.1 rfl
   ·rename_i e
    have h1:=((hC.ch (b:=i) (by omega)).ok c hci).bk
    have h2:=(hch.ok c hc).bk
    rw [h1] at h2
    exact e (by omega)
  obtain ⟨xC,xch,xfl⟩:=AD g1 hcr.1 (by rw [g4];exact hcr.2) offc
  obtain ⟨p1,p2,p3,p4⟩:=jw y c
  have yf : ∀ d,bu y d=bu m d:=fun d=>ib (g3 d.toNat).2.1 (g3 d.toNat).2.2.1
  have yfl : aq y=(aq m).filter (fun w=>decide (w.k≠k)):=my g5 fun i hi=>by
   have e0 : (chL y i).map (bu y)=(chL y i).map (bu m):=List.map_congr_left fun d _=>yf d
   rw [e0,List.filter_map,g2 i hi]
   congr 1
   split
   ·rename_i e
    subst e
    exact erase_filter hch.nd hc k2
   ·rename_i e
    refine (List.filter_eq_self.2 fun d hd=>?_).symm
    have h1:=((hC.ch hi).ok d hd).bk
    show decide (kys m d≠k)=true
    exact decide_eq_true fun z=>by
     rw [z,hbb] at h1
     exact e (by omega)
  refine ⟨_,_,rfl,xC,p3.trans ylk,p1.trans g4,.inr ⟨⟨bu m c,mw (by omega) hc,k2⟩,rfl,by rw [xfl];exact yfl,fun w hw e=>?_⟩⟩
  obtain ⟨q1,q2,q3,_,_,_,q7⟩:=jj hC hw
  rw [e] at q3 q7
  rw [hbb,Int.toNat_natCast] at q7
  have hwc : w.slot=c:=fw hch.nd q7 hc (q3.trans k2.symm)
  rw [hwc]
  have r0:=(g1.mem.refs hcr.1 (by rw [g4];exact hcr.2)).1
  have rl:=(g3 c.toNat).1
  have rn : (msl y c.toNat).refs≠0:=by rw [rl];exact (hch.ok c hc).refs
  rw [← rl]
  unfold put
  rw [if_neg rn]
  have em : ∀ l : List Int,msl { y with slots:=y.slots.modify c.toNat (bx (-1)),free:=l} c.toNat=bx (-1) (msl y c.toNat):=fun l=>by
   show (y.slots.modify c.toNat (bx (-1))).getD c.toNat default=_
   rw [getD_modify,if_pos ⟨rfl,by rw [g4];omega⟩];rfl
  split
  ·rw [em];show _ + -1=_ - 1;omega
  ·have:=em y.free
   rw [show ({ y with slots:=y.slots.modify c.toNat (bx (-1)),free:=y.free} : Mem)={ y with slots:=y.slots.modify c.toNat (bx (-1))} from rfl] at this
   rw [this];show _ + -1=_ - 1;omega
theorem pD {m : Mem} (hC : aK m) : ∀ {n b : Nat} {acc : List cI},(acc.map cI.k).Nodup→(∀ w∈acc,bk m w.k < b)→b + n≤m.heads.length→((bC m n b acc).map cI.k).Nodup
 | 0,_,_,h,_,_=>h
 | n + 1,b,acc,h,hb,hn=>by
  rw [bC]
  have hch:=hC.ch (b:=b) (by omega)
  have e : ((bP m b).1.map (bu m)).map cI.k=(chL m b).map (kys m):=by rw [List.map_map];rfl
  refine pD hC ?_ (fun w hw=>?_) (by omega)
  ·rw [List.map_append,e]
   refine List.nodup_append.2 ⟨h,hch.nd,fun x hx y hy exy=>?_⟩
   obtain ⟨w,hw,rfl⟩:=List.mem_map.1 hx
   obtain ⟨c,hc,rfl⟩:=List.mem_map.1 hy
   have h1:=hb w hw
   have h2:=(hch.ok c hc).bk
   rw [exy,h2] at h1
   omega
  ·rcases List.mem_append.1 hw with hw | hw
   ·have:=hb w hw
    omega
   ·obtain ⟨c,hc,rfl⟩:=List.mem_map.1 hw
    have h2:=(hch.ok c hc).bk
    show bk m (kys m c) < _
    rw [h2];omega
theorem DS {m : Mem} (hC : aK m) : ((aq m).map cI.k).Nodup:=pD hC List.nodup_nil (fun _ h=>by cases h) (by omega)
end Go.Proofs.Ytpmamacjepcdmaa
