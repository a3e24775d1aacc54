import Derived.Test.YtpmamacjepcdmaaCAloneAdd
import Derived.Test.YtpmamacjepcdmaaCChainLaws3
namespace Go.Proofs.Ytpmamacjepcdmaa
open Go Go.Sy Go.RowKit
set_option linter.unusedSimpArgs false
set_option linter.unusedVariables false
theorem km {m x : Mem} {P : cI→Bool} : ∀ {n b : Nat} {acc : List cI},(∀ i,b≤i→i < b + n→(chL x i).map (bu x)=((chL m i).map (bu m)).filter P)→bC x n b (acc.filter P)=(bC m n b acc).filter P
 | 0,_,_,_=>rfl
 | n + 1,b,acc,h=>by
  rw [bC,bC]
  have e : acc.filter P ++ (bP x b).1.map (bu x)=(acc ++ (bP m b).1.map (bu m)).filter P:=by
   rw [List.filter_append]
   exact congrArg _ (h b (Nat.le_refl _) (by omega))
  rw [e]
  exact km fun i h3 h4=>h i (by omega) (by omega)
theorem my {m x : Mem} {P : cI→Bool} (hh : x.heads.length=m.heads.length) (h : ∀ i,i < m.heads.length→(chL x i).map (bu x)=((chL m i).map (bu m)).filter P) : aq x=(aq m).filter P:=by
 unfold aq
 rw [hh]
 exact km (acc:=[]) fun i _ hi=>h i (by omega)
theorem erase_filter {m : Mem} {t : Int} {k : Key} : ∀ {l : List Int},(l.map (kys m)).Nodup→t∈l→kys m t=k→l.erase t=l.filter fun c=>decide (kys m c≠k)
 | [],_,h,_=>by cases h
 | c :: l,hn,ht,e=>by
  rw [List.map_cons,List.nodup_cons] at hn
  by_cases hc : c=t
  ·subst hc
   have hall : l.filter (fun d=>decide (kys m d≠k))=l:=List.filter_eq_self.2 fun d hd=>decide_eq_true fun z=>hn.1 (List.mem_map.2 ⟨d,hd,by rw [z,e]⟩)
   rw [List.erase_cons_head,List.filter_cons_of_neg (by simp [e]),hall]
  ·have ht : t∈l:=by rcases List.mem_cons.1 ht with h | h;exact absurd h.symm hc;exact h
   rw [List.erase_cons_tail (by simpa using hc),List.filter_cons_of_pos (by rw [decide_eq_true_eq];exact fun z=>hn.1 (List.mem_map.2 ⟨t,ht,by rw [e,z]⟩)),erase_filter hn.2 ht e]
theorem vp (m : Mem) (p a b : Int) : (cut m p a b).ae=m.ae∧(cut m p a b).free=m.free∧(cut m p a b).now=m.now:=by
 unfold cut
 split <;> exact ⟨rfl,rfl,rfl⟩
theorem D1 (m : Mem) (p a b : Int) (l : List Int) : cut { m with ae:=l} p a b={ cut m p a b with ae:=l}:=by
 unfold cut
 split <;> rfl
theorem vV (m : Mem) {a : Int} (i : Nat) : (msl (put m a) i).k=(msl m i).k∧(msl (put m a) i).till=(msl m i).till∧(a.toNat≠i→msl (put m a) i=msl m i):=by
 unfold put
 split
 ·exact ⟨rfl,rfl,fun _=>rfl⟩
 ·split
  ·have e : msl { m with slots:=m.slots.modify a.toNat (bx (-1)),free:=m.free ++ [a]} i=if a.toNat=i∧a.toNat < m.slots.length then bx (-1) (msl m i) else msl m i:=getD_modify _ _ _ _
   rw [e]
   refine ⟨?_,?_,fun h=>by rw [if_neg fun z=>h z.1]⟩ <;> split <;> rfl
  ·have e : msl { m with slots:=m.slots.modify a.toNat (bx (-1))} i=if a.toNat=i∧a.toNat < m.slots.length then bx (-1) (msl m i) else msl m i:=getD_modify _ _ _ _
   rw [e]
   refine ⟨?_,?_,fun h=>by rw [if_neg fun z=>h z.1]⟩ <;> split <;> rfl
theorem AD {y : Mem} (hC : aK y) {t : Int} (h0 : 0≤t) (h1 : t < y.slots.length) (hn : ∀ i,i < y.heads.length→t ∉ chL y i) :
  aK (put y t)∧(∀ b,b < y.heads.length→chL (put y t) b=chL y b)∧aq (put y t)=aq y:=by
 obtain ⟨e1,e2,_,_⟩:=jw y t
 refine vP hC (iY hC.mem h0 h1) e1 e2 fun b hb c hc=>(vV y c.toNat).2.2 fun z=>hn b hb ?_
 have:=cW hC hc
 rw [show t=c from by omega]
 exact hc
theorem mi {m : Mem} (hC : aK m) {b : Nat} {v : Int} (h0 : -1≤v) (h1 : v < 5) : aK { m with ae:=m.ae.set b v}∧(∀ i,i < m.heads.length→chL { m with ae:=m.ae.set b v} i=chL m i)∧aq { m with ae:=m.ae.set b v}=aq m:=by
 have hm:=hC.mem
 refine vP hC ⟨hm.ns,hm.nh1,hm.nh4,by simp [hm.nl],hm.ma,hm.Ik,hm.slot,fun i hi=>?_,hm.free,hm.nodup,hm.leak⟩ rfl rfl fun _ _ _ _=>rfl
 have h:=hm.head i hi
 show ug _ _ (m.heads.getD i 0) ((m.ae.set b v).getD i 0)
 by_cases e : b=i
 ·subst e
  rw [fB (by rw [hm.nl];exact hi)]
  exact ⟨h.h0,h.n0,h.n1,h0,h1⟩
 ·have : (m.ae.set b v).getD i 0=m.ae.getD i 0:=by rw [List.getD_eq_getElem?_getD,List.getElem?_set_ne e,← List.getD_eq_getElem?_getD]
  rw [this];exact h
def dpF (k : Key) (pc cur prev slot e : Int) : Frm:=⟨⟨3,k,0,0,0⟩,pc,cur,prev,slot,0,[],false,e⟩
def dp (m : Mem) (f : Frm) : Frm × Mem:=aL m f 0
theorem Be {m : Mem} {k : Key} {pc cur p s e : Int} : aa m (dpF k pc cur p s e).c=bk m k:=rfl
theorem Fj {m : Mem} {k : Key} {c p s e : Int} (h : m.ae.getD (bk m k).toNat 0=-1) : dp m (dpF k 0 c p s e)=(dpF k 1 c p s e,{ m with ae:=m.ae.set (bk m k).toNat 0}):=by
 have hl : lock m (bk m k) 0=({ m with ae:=m.ae.set (bk m k).toNat 0},true):=by unfold lock;rw [if_pos h]
 unfold dp aL
 rw [if_pos (show (dpF _ 0 _ _ _ _).pc=0 from rfl),Be,hl];rfl
theorem D0 {m : Mem} {k : Key} {c p s e : Int} : dp m (dpF k 1 c p s e)=(dpF k 2 (aO m (bk m k)) 0 s e,m):=by
 unfold dp aL
 rw [if_neg (by simp [dpF]),if_pos (show (dpF _ 1 _ _ _ _).pc=1 from rfl),Be];rfl
theorem dp_end {m : Mem} {k : Key} {c p s e : Int} (h : c≤0) : dp m (dpF k 2 c p s e)=(dpF k 5 c p s 5,m):=by
 unfold dp aL
 rw [if_neg (by simp [dpF]),if_neg (by simp [dpF]),if_pos (show (dpF _ 2 _ _ _ _).pc=2 from rfl),if_pos (show (dpF k 2 c p s e).cur≤0 from h)];rfl
theorem dp_no {m : Mem} {k : Key} {a p s e : Int} (h : 0≤a) (hk : kys m a≠k) : dp m (dpF k 2 (a + 1) p s e)=(dpF k 3 (a + 1) p s e,m):=by
 have e1 : at1 m (dpF k 2 (a + 1) p s e)=msl m a.toNat:=by unfold at1 dpF;rw [show a + 1 - 1=a from by omega]
 unfold dp aL
 rw [if_neg (by simp [dpF]),if_neg (by simp [dpF]),if_pos (show (dpF _ 2 _ _ _ _).pc=2 from rfl),if_neg (by simp only [dpF];omega),e1,if_neg (show ¬ (msl m a.toNat).k=(dpF k 2 (a + 1) p s e).c.k from hk)];rfl
theorem dp_yes {m : Mem} {k : Key} {a p s e : Int} (h : 0≤a) (hk : kys m a=k) : dp m (dpF k 2 (a + 1) p s e)=(dpF k 4 (a + 1) p s e,m):=by
 have e1 : at1 m (dpF k 2 (a + 1) p s e)=msl m a.toNat:=by unfold at1 dpF;rw [show a + 1 - 1=a from by omega]
 unfold dp aL
 rw [if_neg (by simp [dpF]),if_neg (by simp [dpF]),if_pos (show (dpF _ 2 _ _ _ _).pc=2 from rfl),if_neg (by simp only [dpF];omega),e1,if_pos (show (msl m a.toNat).k=(dpF k 2 (a + 1) p s e).c.k from hk)];rfl
theorem Fi {m : Mem} {k : Key} {a p s e : Int} (h : 0≤a) : dp m (dpF k 3 (a + 1) p s e)=(dpF k 2 (nxt m a) (a + 1) s e,m):=by
 have e1 : at1 m (dpF k 3 (a + 1) p s e)=msl m a.toNat:=by unfold at1 dpF;rw [show a + 1 - 1=a from by omega]
 unfold dp aL
 rw [if_neg (by simp [dpF]),if_neg (by simp [dpF]),if_neg (by simp [dpF]),if_pos ⟨rfl,by simp only [dpF];omega⟩,e1];rfl
theorem dp_cut {m : Mem} {k : Key} {a p s e : Int} (h : 0≤a) : dp m (dpF k 4 (a + 1) p s e)=(dpF k 5 (a + 1) p a 0,cut m p a (bk m k)):=by
 have e1 : (dpF k 4 (a + 1) p s e).cur - 1=a:=by simp only [dpF];omega
 unfold dp aL
 rw [if_neg (by simp [dpF]),if_neg (by simp [dpF]),if_neg (by simp [dpF]),if_neg (by simp [dpF]),if_pos ⟨rfl,by simp only [dpF];omega⟩,Be,e1];rfl
theorem vn {m : Mem} {k : Key} {c p s e : Int} (h : m.ae.getD (bk m k).toNat 0=0) : dp m (dpF k 5 c p s e)=(dpF k 6 c p s e,{ m with ae:=m.ae.set (bk m k).toNat (-1)}):=by
 have hl : unlock m (bk m k) 0={ m with ae:=m.ae.set (bk m k).toNat (-1)}:=by unfold unlock;rw [if_pos h]
 unfold dp aL
 rw [if_neg (by simp [dpF]),if_neg (by simp [dpF]),if_neg (by simp [dpF]),if_neg (by simp [dpF]),if_neg (by simp [dpF]),if_pos (show (dpF _ 5 _ _ _ _).pc=5 from rfl),Be,hl];rfl
theorem dp_put {m : Mem} {k : Key} {c p s e : Int} (h : 0≤s) : dp m (dpF k 6 c p s e)=(ay (dpF k 6 c p (-1) e) e,put m s):=by
 unfold dp aL
 rw [if_neg (by simp [dpF]),if_neg (by simp [dpF]),if_neg (by simp [dpF]),if_neg (by simp [dpF]),if_neg (by simp [dpF]),if_neg (by simp [dpF]),if_pos (show (dpF _ 6 _ _ _ _).pc=6 from rfl),if_pos (show 0≤(dpF k 6 c p s e).slot from h),if_pos (show 0≤(dpF k 6 c p s e).slot from h)];rfl
theorem Fh {m : Mem} {k : Key} {c p e : Int} : dp m (dpF k 6 c p (-1) e)=(ay (dpF k 6 c p (-1) e) e,m):=by
 unfold dp aL
 rw [if_neg (by simp [dpF]),if_neg (by simp [dpF]),if_neg (by simp [dpF]),if_neg (by simp [dpF]),if_neg (by simp [dpF]),if_neg (by simp [dpF]),if_pos (show (dpF _ 6 _ _ _ _).pc=6 from rfl),if_neg (by simp [dpF]),if_neg (by simp [dpF])];rfl
def dE (l : List Int) (p : Int) : Int:=match l.getLast? with | none=>p | some c=>c + 1
theorem ph (c : Int) (l : List Int) (p : Int) : dE (c :: l) p=dE l (c + 1):=by
 unfold dE
 cases l with
 | nil=>rfl
 | cons d l =>
  rw [List.getLast?_cons_cons]
  cases h : (d :: l).getLast? with
  | none=>simp at h
  | some e=>rfl
theorem wy {m : Mem} {k : Key} {s e : Int} : ∀ {l : List Int} {n p q : Int} {N : Nat},Seg m n l q→(∀ a∈l,kys m a≠k)→bZ dp (2 * l.length + N) (dpF k 2 n p s e) m=bZ dp N (dpF k 2 q (dE l p) s e) m
 | [],n,p,q,N,h,_=>by
  have h : n=q:=h
  subst h
  rw [List.length_nil,Nat.mul_zero,Nat.zero_add];rfl
 | c :: l,n,p,q,N,h,hk=>by
  obtain ⟨h1,h2,h3⟩:=h
  subst h1
  rw [List.length_cons,show 2 * (l.length + 1) + N=2 * l.length + N + 1 + 1 from by omega,bd (dp_no (by omega) (hk c (by simp))) rfl,bd (Fi (by omega)) rfl,ph]
  exact wy h3 fun a ha=>hk a (by simp [ha])
theorem zT {m : Mem} (hC : aK m) {k : Key} (hk : Key.Ok k) (hl : ∀ i,i < m.heads.length→m.ae.getD i 0=-1) :
  ∃ f x,bZ dp (2 * m.slots.length + 6) (aX ⟨3,k,0,0,0⟩) m=(f,x,true)∧aK x∧x.ae=m.ae∧x.slots.length=m.slots.length ∧
   (((∀ w∈aq m,w.k≠k)∧f.e=5∧x=m) ∨
    ((∃ w∈aq m,w.k=k)∧f.e=0∧aq x=(aq m).filter (fun w=>decide (w.k≠k))∧∀ w∈aq m,w.k=k→(msl x w.slot.toNat).refs=(msl m w.slot.toNat).refs - 1)):=by
 have hm:=hC.mem
 have hb:=jq hm hk
 have hst : aX ⟨3,k,0,0,0⟩=dpF k 0 0 0 (-1) 0:=rfl
 have hlk : m.ae.getD (bk m k).toNat 0=-1:=hl _ (by omega)
 have hll : (bk m k).toNat < m.ae.length:=by rw [hm.nl];omega
 rw [hst,show 2 * m.slots.length + 6=2 * m.slots.length + 5 + 1 from rfl,bd (Fj hlk) rfl]
 obtain ⟨z,hz⟩ : ∃ z : Mem,z={ m with ae:=m.ae.set (bk m k).toNat 0}:=⟨_,rfl⟩
 rw [← hz]
 have zm : ∀ i,msl z i=msl m i:=fun i=>by rw [hz];rfl
 have zk : ∀ c,kys z c=kys m c:=fun c=>by unfold kys;rw [zm]
 have zb : bk z k=bk m k:=by rw [hz];rfl
 have zl : z.ae.getD (bk m k).toNat 0=0:=by rw [hz];exact fB hll
 have back : z.ae.set (bk m k).toNat (-1)=m.ae:=by rw [hz];exact oW hlk hll
 rw [show 2 * m.slots.length + 5=2 * m.slots.length + 4 + 1 from rfl,bd D0 rfl,zb]
 obtain ⟨b,hbb⟩ : ∃ b : Nat,bk m k=b:=⟨(bk m k).toNat,by omega⟩
 have hch:=hC.ch (b:=b) (by omega)
 obtain ⟨hp,hle⟩:=br.1 hch.of
 have hp : Path z (aO z (bk m k)) (chL m b) (-1 - b):=by
  have e : aO z (bk m k)=aO m b:=by rw [hz,hbb];rfl
  rw [e];exact Path.congr (fun c _=>by unfold nxt;rw [zm]) hp
 rcases kN (k:=k) hp with ⟨k1,k2⟩ | ⟨l1,c,l2,e1,k1,k2,k3,k4⟩
 ·rw [show 2 * m.slots.length + 4=2 * (chL m b).length + ((2 * m.slots.length + 1 - 2 * (chL m b).length) + 1 + 1 + 1) from by omega,wy k2 k1,bd (dp_end (by omega)) rfl,bd (vn (by rw [zb];exact zl)) rfl,dm Fh rfl,zb]
  have ex : ({ z with ae:=z.ae.set (bk m k).toNat (-1)} : Mem)=m:=by rw [back,hz]
  rw [ex]
  refine ⟨_,_,rfl,hC,rfl,rfl,.inl ⟨fun w hw e=>?_,rfl,rfl⟩⟩
  obtain ⟨_,_,q3,_,_,_,q7⟩:=jj hC hw
  rw [e] at q3 q7
  rw [hbb,Int.toNat_natCast] at q7
  exact k1 _ q7 (by rw [zk];exact q3)
 ·have hc : c∈chL m b:=by rw [e1];simp
  have hl1 : l1.length + 1≤(chL m b).length:=by rw [e1];simp
  have hcr:=cW hC hc
  have k2 : kys m c=k:=by rw [← zk];exact k2
  have hnl : c ∉ l1:=fun h=>k1 c h (by rw [zk];exact k2)
  have hpv : dE l1 0=gk c (chL m b) 0:=by rw [e1];exact (gj hnl).symm
  obtain ⟨y,hy⟩ : ∃ y,y=cut m (dE l1 0) c (bk m k):=⟨_,rfl⟩
  obtain ⟨g1,g2,g3,g4,g5⟩:=zW hC (b:=b) (by omega) hc
  rw [← hpv,← hbb,← hy] at g1 g2 g3 g4 g5
  have hzy : cut z (dE l1 0) c (bk m k)={ y with ae:=z.ae}:=by rw [hy,hz];exact D1 _ _ _ _ _
  have ylk : y.ae=m.ae:=by rw [hy];exact (vp _ _ _ _).1
  rw [show 2 * m.slots.length + 4=2 * l1.length + ((2 * m.slots.length - 2 * l1.length) + 1 + 1 + 1 + 1) from by omega,wy k3 k1,bd (dp_yes k4 (by rw [zk];exact k2)) rfl,bd (dp_cut k4) rfl,zb,hzy]
  have yb : bk ({ y with ae:=z.ae} : Mem) k=bk m k:=by
   show (aY k y.heads.length).1=bk m k
   rw [g5];rfl
  rw [bd (vn (by rw [yb];exact zl)) rfl,yb,dm (dp_put k4) rfl]
  have ex : ({ ({ y with ae:=z.ae} : Mem) with ae:=({ y with ae:=z.ae} : Mem).ae.set (bk m k).toNat (-1)} : Mem)=y:=by
   show ({ y with ae:=z.ae.set (bk m k).toNat (-1)} : Mem)=y
   rw [back,← ylk]
  rw [ex]
  have offc : ∀ i,i < y.heads.length→c ∉ chL y i:=fun i hi hci=>by
   rw [g2 i (by omega)] at hci
   split at hci
   ·rename_i e
    subst e
    exact (List.Nodup.mem_erase_iff hch.ndl).1 hci |>.1 rfl
   ·rename_i e
    have h1:=((hC.ch (b:=i) (by omega)).ok c hci).bk
    have h2:=(hch.ok c hc).bk
    rw [h1] at h2
    exact e (by omega)
  obtain ⟨xC,xch,xfl⟩:=AD g1 hcr.1 (by rw [g4];exact hcr.2) offc
  obtain ⟨p1,p2,p3,p4⟩:=jw y c
  have yf : ∀ d,bu y d=bu m d:=fun d=>ib (g3 d.toNat).2.1 (g3 d.toNat).2.2.1
  have yfl : aq y=(aq m).filter (fun w=>decide (w.k≠k)):=my g5 fun i hi=>by
   have e0 : (chL y i).map (bu y)=(chL y i).map (bu m):=List.map_congr_left fun d _=>yf d
   rw [e0,List.filter_map,g2 i hi]
   congr 1
   split
   ·rename_i e
    subst e
    exact erase_filter hch.nd hc k2
   ·rename_i e
    refine (List.filter_eq_self.2 fun d hd=>?_).symm
    have h1:=((hC.ch hi).ok d hd).bk
    show decide (kys m d≠k)=true
    exact decide_eq_true fun z=>by
     rw [z,hbb] at h1
     exact e (by omega)
  refine ⟨_,_,rfl,xC,p3.trans ylk,p1.trans g4,.inr ⟨⟨bu m c,mw (by omega) hc,k2⟩,rfl,by rw [xfl];exact yfl,fun w hw e=>?_⟩⟩
  obtain ⟨q1,q2,q3,_,_,_,q7⟩:=jj hC hw
  rw [e] at q3 q7
  rw [hbb,Int.toNat_natCast] at q7
  have hwc : w.slot=c:=fw hch.nd q7 hc (q3.trans k2.symm)
  rw [hwc]
  have r0:=(g1.mem.refs hcr.1 (by rw [g4];exact hcr.2)).1
  have rl:=(g3 c.toNat).1
  have rn : (msl y c.toNat).refs≠0:=by rw [rl];exact (hch.ok c hc).refs
  rw [← rl]
  unfold put
  rw [if_neg rn]
  have em : ∀ l : List Int,msl { y with slots:=y.slots.modify c.toNat (bx (-1)),free:=l} c.toNat=bx (-1) (msl y c.toNat):=fun l=>by
   show (y.slots.modify c.toNat (bx (-1))).getD c.toNat default=_
   rw [getD_modify,if_pos ⟨rfl,by rw [g4];omega⟩];rfl
  split
  ·rw [em];show _ + -1=_ - 1;omega
  ·have:=em y.free
   rw [show ({ y with slots:=y.slots.modify c.toNat (bx (-1)),free:=y.free} : Mem)={ y with slots:=y.slots.modify c.toNat (bx (-1))} from rfl] at this
   rw [this];show _ + -1=_ - 1;omega
theorem pD {m : Mem} (hC : aK m) : ∀ {n b : Nat} {acc : List cI},(acc.map cI.k).Nodup→(∀ w∈acc,bk m w.k < b)→b + n≤m.heads.length→((bC m n b acc).map cI.k).Nodup
 | 0,_,_,h,_,_=>h
 | n + 1,b,acc,h,hb,hn=>by
  rw [bC]
  have hch:=hC.ch (b:=b) (by omega)
  have e : ((bP m b).1.map (bu m)).map cI.k=(chL m b).map (kys m):=by rw [List.map_map];rfl
  refine pD hC ?_ (fun w hw=>?_) (by omega)
  ·rw [List.map_append,e]
   refine List.nodup_append.2 ⟨h,hch.nd,fun x hx y hy exy=>?_⟩
   obtain ⟨w,hw,rfl⟩:=List.mem_map.1 hx
   obtain ⟨c,hc,rfl⟩:=List.mem_map.1 hy
   have h1:=hb w hw
   have h2:=(hch.ok c hc).bk
   rw [exy,h2] at h1
   omega
  ·rcases List.mem_append.1 hw with hw | hw
   ·have:=hb w hw
    omega
   ·obtain ⟨c,hc,rfl⟩:=List.mem_map.1 hw
    have h2:=(hch.ok c hc).bk
    show bk m (kys m c) < _
    rw [h2];omega
theorem DS {m : Mem} (hC : aK m) : ((aq m).map cI.k).Nodup:=pD hC List.nodup_nil (fun _ h=>by cases h) (by omega)
end Go.Proofs.Ytpmamacjepcdmaa

namespace Go.Proofs.Ytpmamacjepcdmaa
open Go Go.Sy Go.RowKit
set_option linter.unusedSimpArgs false
set_option linter.unusedVariables false
def swF (kd : Int) (b : Int) (pc cur prev slot n : Int) (ks : List Key) : Frm:=⟨⟨kd,⟨0,0⟩,0,b,0⟩,pc,cur,prev,slot,n,ks,false,0⟩
def swS (m : Mem) (f : Frm) : Frm × Mem:=aB m f 0
section
variable {m : Mem} {kd b pc c p s n a : Int} {ks : List Key}
theorem Aq (h : kd=4∨kd=5) : aa m (swF kd b pc c p s n ks).c=b:=by
 unfold aa
 rw [if_pos (show (swF kd b pc c p s n ks).c.kind=4∨(swF kd b pc c p s n ks).c.kind=5 from h)];rfl
theorem An (hk : kd=4∨kd=5) (h : m.ae.getD b.toNat 0=-1) : swS m (swF kd b 0 c p s n ks)=(swF kd b 1 c p s n ks,{ m with ae:=m.ae.set b.toNat 0}):=by
 have hl : lock m b 0=({ m with ae:=m.ae.set b.toNat 0},true):=by unfold lock;rw [if_pos h]
 unfold swS aB
 rw [if_pos (show (swF _ _ 0 _ _ _ _ _).pc=0 from rfl),Aq hk,hl];rfl
theorem wV (hk : kd=4∨kd=5) : swS m (swF kd b 1 c p s n ks)=(swF kd b 2 (aO m b) 0 s n ks,m):=by
 unfold swS aB
 rw [if_neg (by simp [swF]),if_pos (show (swF _ _ 1 _ _ _ _ _).pc=1 from rfl),Aq hk];rfl
theorem CL (h : c≤0) : swS m (swF kd b 2 c p s n ks)=(swF kd b 6 c p s n ks,m):=by
 unfold swS aB
 rw [if_neg (by simp [swF]),if_neg (by simp [swF]),if_pos ⟨rfl,h⟩];rfl
theorem sC (pc : Int) : at1 m (swF kd b pc (a + 1) p s n ks)=msl m a.toNat:=by unfold at1 swF;rw [show a + 1 - 1=a from by omega]
theorem ED (h : 0≤a) (ht : m.now < (msl m a.toNat).till) : swS m (swF 4 b 2 (a + 1) p s n ks)=(swF 4 b 3 (a + 1) p s n ks,m):=by
 unfold swS aB
 rw [if_neg (by simp [swF]),if_neg (by simp [swF]),if_neg (by simp only [swF];omega),if_neg (by simp [swF]),if_pos (show (swF _ _ 2 _ _ _ _ _).pc=2 from rfl),sC,if_neg (by omega)];rfl
theorem EC (h : 0≤a) (ht : (msl m a.toNat).till≤m.now) : swS m (swF 4 b 2 (a + 1) p s n ks)=(swF 4 b 4 (a + 1) p s n ks,m):=by
 unfold swS aB
 rw [if_neg (by simp [swF]),if_neg (by simp [swF]),if_neg (by simp only [swF];omega),if_neg (by simp [swF]),if_pos (show (swF _ _ 2 _ _ _ _ _).pc=2 from rfl),sC,if_pos ht];rfl
theorem sw_key (h : 0≤a) (hl : ks.length < 100) : swS m (swF 5 b 2 (a + 1) p s n ks)=(swF 5 b 3 (a + 1) p s n (ks ++ [kys m a]),m):=by
 unfold swS aB
 rw [if_neg (by simp [swF]),if_neg (by simp [swF]),if_neg (by simp only [swF];omega),if_pos ⟨rfl,rfl⟩,sC,if_pos (show (swF 5 b 2 (a + 1) p s n ks).keys.length < 100 from hl)];rfl
theorem Ak (h : 0≤a) : swS m (swF kd b 3 (a + 1) p s n ks)=(swF kd b 2 (nxt m a) (a + 1) s n ks,m):=by
 unfold swS aB
 rw [if_neg (by simp [swF]),if_neg (by simp [swF]),if_neg (by simp [swF]),if_neg (by simp [swF]),if_neg (by simp [swF]),if_pos ⟨rfl,by simp only [swF];omega⟩,sC];rfl
theorem sw_cut (hk : kd=4∨kd=5) (h : 0≤a) : swS m (swF kd b 4 (a + 1) p s n ks)=(swF kd b 5 (nxt m a) p a n ks,cut m p a b):=by
 have e1 : (swF kd b 4 (a + 1) p s n ks).cur - 1=a:=by simp only [swF];omega
 unfold swS aB
 rw [if_neg (by simp [swF]),if_neg (by simp [swF]),if_neg (by simp [swF]),if_neg (by simp [swF]),if_neg (by simp [swF]),if_neg (by simp [swF]),if_pos ⟨rfl,by simp only [swF];omega⟩,Aq hk,e1,sC];rfl
theorem sw_put (h : 0≤s) (hn : n < 1000000) : swS m (swF kd b 5 c p s n ks)=(swF kd b 2 c p (-1) (n + 1) ks,put m s):=by
 unfold swS aB
 rw [if_neg (by simp [swF]),if_neg (by simp [swF]),if_neg (by simp [swF]),if_neg (by simp [swF]),if_neg (by simp [swF]),if_neg (by simp [swF]),if_neg (by simp [swF]),if_pos ⟨rfl,h⟩,if_neg (by simp only [swF];omega)];rfl
theorem Ap (hk : kd=4∨kd=5) (h : m.ae.getD b.toNat 0=0) : swS m (swF kd b 6 c p s n ks)=(ay (swF kd b 6 c p s n ks) 0,{ m with ae:=m.ae.set b.toNat (-1)}):=by
 have hl : unlock m b 0={ m with ae:=m.ae.set b.toNat (-1)}:=by unfold unlock;rw [if_pos h]
 unfold swS aB
 rw [if_neg (by simp [swF]),if_neg (by simp [swF]),if_neg (by simp [swF]),if_neg (by simp [swF]),if_neg (by simp [swF]),if_neg (by simp [swF]),if_neg (by simp [swF]),if_neg (by simp [swF]),if_pos (show (swF _ _ 6 _ _ _ _ _).pc=6 from rfl),Aq hk,hl]
end
theorem AT {m : Mem} {b s n : Int} : ∀ {l : List Int} {c p q : Int} {ks : List Key} {N : Nat},Seg m c l q→ks.length + l.length≤100→bZ swS (2 * l.length + N) (swF 5 b 2 c p s n ks) m=bZ swS N (swF 5 b 2 q (dE l p) s n (ks ++ l.map (kys m))) m
 | [],c,p,q,ks,N,h,_=>by
  have h : c=q:=h
  subst h
  rw [List.length_nil,Nat.mul_zero,Nat.zero_add,List.map_nil,List.append_nil];rfl
 | d :: l,c,p,q,ks,N,h,hk=>by
  obtain ⟨h1,h2,h3⟩:=h
  subst h1
  rw [List.length_cons] at hk
  rw [List.length_cons,show 2 * (l.length + 1) + N=2 * l.length + N + 1 + 1 from by omega,bd (sw_key (by omega) (by omega)) rfl,bd (Ak (by omega)) rfl,ph,AT h3 (by simp;omega),List.map_cons,List.append_assoc,List.singleton_append]
theorem v8 (l : List Int) (c p : Int) : dE (l ++ [c]) p=c + 1:=by
 unfold dE
 rw [List.getLast?_append];rfl
def wg (b : Nat) : List Int→Int
 | []=>-1 - b
 | c :: _=>c + 1
theorem vF {b : Nat} : ∀ {l kept : List Int} {m : Mem} {s N : Int} {M : Nat},aK m→b < m.heads.length→chL m b=kept ++ l→(∀ c∈kept,m.now < (msl m c.toNat).till)→0≤N→N + l.length≤1000000 →
  ∃ (x : Mem) (p' s' N' : Int) (j : Nat),bZ swS (3 * l.length + M) (swF 4 b 2 (wg b l) (dE kept 0) s N []) m=bZ swS (M + j) (swF 4 b 2 (-1 - b) p' s' N' []) x ∧
   aK x∧x.ae=m.ae∧x.now=m.now∧x.heads.length=m.heads.length∧x.slots.length=m.slots.length∧chL x b=(chL m b).filter (fun c=>decide (m.now < (msl m c.toNat).till))∧(∀ i,i < m.heads.length→i≠b→chL x i=chL m i) ∧
   (∀ c,bu x c=bu m c)∧N' + (chL x b).length=N + (chL m b).length
 | [],kept,m,s,N,M,hC,hb,hl,hk,_,_=>by
  have hf : (chL m b).filter (fun c=>decide (m.now < (msl m c.toNat).till))=chL m b:=List.filter_eq_self.2 fun c hc=>by
   rw [hl,List.append_nil] at hc
   exact decide_eq_true (hk c hc)
  exact ⟨m,dE kept 0,s,N,0,by rw [List.length_nil,Nat.mul_zero,Nat.zero_add,Nat.add_zero];rfl,hC,rfl,rfl,rfl,rfl,hf.symm,fun _ _ _=>rfl,fun _=>rfl,rfl⟩
 | c :: l,kept,m,s,N,M,hC,hb,hl,hk,h0,hN=>by
  have hch:=hC.ch hb
  have hc : c∈chL m b:=by rw [hl];simp
  have hcr:=cW hC hc
  obtain ⟨hp,_⟩:=br.1 hch.of
  rw [hl] at hp
  obtain ⟨q,_,hp2⟩:=eE.1 hp
  obtain ⟨hq,_,hp3⟩:=hp2
  have hnx : nxt m c=wg b l:=by
   cases l with
   | nil=>exact hp3.1
   | cons d l=>exact hp3.1
  rw [List.length_cons] at hN
  rw [List.length_cons]
  rw [show wg b (c :: l)=c + 1 from rfl]
  by_cases ht : m.now < (msl m c.toNat).till
  ·rw [show 3 * (l.length + 1) + M=3 * l.length + (M + 1) + 1 + 1 from by omega,bd (ED hcr.1 ht) rfl,bd (Ak hcr.1) rfl,hnx]
   obtain ⟨x,p',s',N',j,r1,r⟩:=vF (l:=l) (kept:=kept ++ [c]) (m:=m) (s:=s) (N:=N) (M:=M + 1) hC hb (by rw [hl];simp) (fun d hd=>by
    rcases List.mem_append.1 hd with hd | hd
    ·exact hk d hd
    ·rw [List.mem_singleton.1 hd];exact ht) h0 (by omega)
   rw [v8] at r1
   exact ⟨x,p',s',N',j + 1,by rw [r1,show M + 1 + j=M + (j + 1) from by omega],r⟩
  ·rw [show 3 * (l.length + 1) + M=3 * l.length + M + 1 + 1 + 1 from by omega,bd (EC hcr.1 (by omega)) rfl,bd (sw_cut (.inl rfl) hcr.1) rfl,bd (sw_put hcr.1 (by omega)) rfl,hnx]
   have hnk : c ∉ kept:=fun h=>ht (hk c h)
   have hpv : dE kept 0=gk c (chL m b) 0:=by rw [hl];exact (gj hnk).symm
   obtain ⟨y,hy⟩ : ∃ y,y=cut m (dE kept 0) c b:=⟨_,rfl⟩
   obtain ⟨g1,g2,g3,g4,g5⟩:=zW hC hb hc
   obtain ⟨ck1,_,ck3⟩:=vp m (dE kept 0) c b
   rw [← hpv,← hy] at g1 g2 g3 g4 g5
   rw [← hy] at ck1 ck3 ⊢
   have offc : ∀ i,i < y.heads.length→c ∉ chL y i:=fun i hi hci=>by
    rw [g2 i (by omega)] at hci
    split at hci
    ·rename_i e
     subst e
     exact (List.Nodup.mem_erase_iff hch.ndl).1 hci |>.1 rfl
    ·rename_i e
     have h1:=((hC.ch (b:=i) (by omega)).ok c hci).bk
     have h2:=(hch.ok c hc).bk
     rw [h1] at h2
     exact e (by omega)
   obtain ⟨zC,zch,_⟩:=AD g1 hcr.1 (by rw [g4];exact hcr.2) offc
   obtain ⟨p1,p2,p3,p4⟩:=jw y c
   have zf : ∀ d,bu (put y c) d=bu m d:=fun d=>ib ((vV y d.toNat).1.trans (g3 d.toNat).2.1) ((vV y d.toNat).2.1.trans (g3 d.toNat).2.2.1)
   have zt : ∀ d : Int,(msl (put y c) d.toNat).till=(msl m d.toNat).till:=fun d=>congrArg cI.till (zf d)
   have zn : (put y c).now=m.now:=p4.trans ck3
   have hyb : chL (put y c) b=kept ++ l:=by
    rw [zch b (by omega),g2 b hb,if_pos rfl,hl,List.erase_append_right _ hnk,List.erase_cons_head]
   obtain ⟨x,p',s',N',j,r1,r2,r3,r4,r5,r6,r7,r8,r9,r10⟩:=vF (l:=l) (kept:=kept) (m:=put y c) (s:=-1) (N:=N + 1) (M:=M) zC (by rw [p2];omega) hyb (fun d hd=>by rw [zt,zn];exact hk d hd) (by omega) (by omega)
   refine ⟨x,p',s',N',j,r1,r2,r3.trans (p3.trans ck1),r4.trans zn,by rw [r5,p2,g5],by rw [r6,p1,g4],?_,fun i hi hne=>?_,fun d=>(r9 d).trans (zf d),?_⟩
   ·rw [r7,hyb,hl]
    have e : (fun d : Int=>decide ((put y c).now < (msl (put y c) d.toNat).till))=fun d=>decide (m.now < (msl m d.toNat).till):=funext fun d=>by rw [zt,zn]
    rw [e,List.filter_append,List.filter_append,List.filter_cons_of_neg (by simpa using ht)]
   ·rw [r8 i (by rw [p2];omega) hne,zch i (by omega),g2 i hi,if_neg hne]
   ·rw [r10,hyb,hl]
    simp only [List.length_append,List.length_cons]
    omega
theorem uI {f g : Nat→Nat} {c d : Nat} : ∀ {n b : Nat},b≤c→c < b + n→f c=g c + d→(∀ i,b≤i→i < b + n→i≠c→f i=g i)→iX f n b=iX g n b + d
 | 0,b,h1,h2,_,_=>by omega
 | n + 1,b,h1,h2,h3,h4=>by
  rw [iX,iX]
  by_cases e : b=c
  ·subst e
   rw [h3,jQ fun i h5 h6=>h4 i (by omega) (by omega) (by omega)]
   omega
  ·rw [h4 b (Nat.le_refl _) (by omega) e,uI (by omega) (by omega) h3 fun i h5 h6 h7=>h4 i (by omega) (by omega) h7]
   omega
theorem wU {m : Mem} (hC : aK m) {b : Nat} (hb : b < m.heads.length) (hl : ∀ i,i < m.heads.length→m.ae.getD i 0=-1) :
  ∃ f x,bZ swS (3 * m.slots.length + 5) (aX ⟨4,⟨0,0⟩,0,b,0⟩) m=(f,x,true)∧aK x∧f.e=0 ∧
   aq x=(aq m).filter (fun w=>!(decide (w.till≤m.now) && decide (w.slot∈chL m b)))∧f.n=(aq m).length - (aq x).length:=by
 have hm:=hC.mem
 have hst : aX ⟨4,⟨0,0⟩,0,b,0⟩=swF 4 b 0 0 0 (-1) 0 []:=rfl
 have hch:=hC.ch hb
 obtain ⟨hp,hle⟩:=br.1 hch.of
 have hlk : m.ae.getD (b : Int).toNat 0=-1:=hl _ (by omega)
 have hll : (b : Int).toNat < m.ae.length:=by rw [hm.nl];omega
 rw [hst,bd (An (.inl rfl) hlk) rfl]
 obtain ⟨zC,zch,zfl⟩:=mi hC (b:=(b : Int).toNat) (v:=0) (by omega) (by omega)
 obtain ⟨z,hz⟩ : ∃ z : Mem,z={ m with ae:=m.ae.set (b : Int).toNat 0}:=⟨_,rfl⟩
 rw [← hz] at zC zch zfl ⊢
 have zm : ∀ i,msl z i=msl m i:=fun i=>by rw [hz];rfl
 have zh : z.heads=m.heads:=by rw [hz]
 have zn : z.now=m.now:=by rw [hz]
 have zl : z.ae.getD (b : Int).toNat 0=0:=by rw [hz];exact fB hll
 have back : z.ae.set (b : Int).toNat (-1)=m.ae:=by rw [hz];exact oW hlk hll
 rw [bd (wV (.inl rfl)) rfl]
 have hhd : aO z b=wg b (chL z b):=by
  rw [zch b hb]
  have e : aO z b=aO m b:=by unfold aO;rw [zh]
  rw [e]
  cases hc : chL m b with
  | nil=>rw [hc] at hp;exact hp.1
  | cons c l=>rw [hc] at hp;exact hp.1
 rw [hhd]
 have hzl : (chL z b).length≤m.slots.length:=by rw [zch b hb];exact hle
 have hns:=hm.ns
 obtain ⟨x,p',s',N',j,r1,r2,r3,r4,r5,r6,r7,r8,r9,r10⟩:=vF (b:=b) (l:=chL z b) (kept:=[]) (m:=z) (s:=-1) (N:=0) (M:=3 * m.slots.length + 3 - 3 * (chL z b).length) zC (by rw [zh];exact hb) rfl (fun _ h=>by cases h) (by omega) (by omega)
 have hone : dE [] 0=0:=rfl
 rw [hone] at r1
 rw [show 3 * m.slots.length + 3=3 * (chL z b).length + (3 * m.slots.length + 3 - 3 * (chL z b).length) from by omega,r1]
 rw [show 3 * m.slots.length + 3 - 3 * (chL z b).length + j=(3 * m.slots.length + 1 - 3 * (chL z b).length + j) + 1 + 1 from by omega]
 rw [bd (CL (by omega)) rfl,dm (Ap (.inl rfl) (by rw [r3];exact zl)) rfl]
 obtain ⟨wC,wch,wfl⟩:=mi r2 (b:=(b : Int).toNat) (v:=-1) (by omega) (by omega)
 have xfl : aq x=(aq m).filter (fun w=>!(decide (w.till≤m.now) && decide (w.slot∈chL m b))):=my (by rw [r5,zh]) fun i hi=>by
  have e0 : (chL x i).map (bu x)=(chL x i).map (bu m):=List.map_congr_left fun d _=>(r9 d).trans (ib (by rw [zm]) (by rw [zm]))
  rw [e0,List.filter_map]
  congr 1
  by_cases e : i=b
  ·subst e
   rw [r7,zch i hi]
   refine List.filter_congr fun d hd=>?_
   show _=!(decide ((msl m d.toNat).till≤m.now) && decide (d∈chL m i))
   rw [decide_eq_true hd,Bool.and_true,zn,zm]
   by_cases h : m.now < (msl m d.toNat).till
   ·rw [decide_eq_true h,decide_eq_false (by omega)];rfl
   ·rw [decide_eq_false h,decide_eq_true (by omega)];rfl
  ·rw [r8 i (by rw [zh];exact hi) e,zch i hi]
   refine (List.filter_eq_self.2 fun d hd=>?_).symm
   have : d ∉ chL m b:=fun hd'=>by
    have h1:=((hC.ch hi).ok d hd).bk
    have h2:=(hch.ok d hd').bk
    rw [h1] at h2
    exact e (by omega)
   show (!(decide ((msl m d.toNat).till≤m.now) && decide (d∈chL m b)))=true
   rw [decide_eq_false this,Bool.and_false];rfl
 refine ⟨_,_,rfl,wC,rfl,by rw [wfl];exact xfl,?_⟩
 rw [wfl]
 show N'=_
 have hzb : chL z b=chL m b:=zch b hb
 have hlt : (chL x b).length≤(chL m b).length:=by rw [r7,hzb];exact List.length_filter_le _ _
 have hcnt : (aq m).length=(aq x).length + ((chL m b).length - (chL x b).length):=by
  unfold aq
  rw [fC,fC,r5,zh,uI (f:=fun i=>(chL m i).length) (g:=fun i=>(chL x i).length) (c:=b) (d:=(chL m b).length - (chL x b).length) (by omega) (by omega) (by show (chL m b).length=(chL x b).length + _;omega) fun i _ h2 h3=>by show (chL m i).length=(chL x i).length;rw [r8 i (by rw [zh];omega) h3,zch i (by omega)]]
  simp
 rw [hzb] at r10
 omega
theorem zw {m : Mem} (hC : aK m) {b : Nat} (hb : b < m.heads.length) (hl : ∀ i,i < m.heads.length→m.ae.getD i 0=-1) :
  ∃ f,bZ swS (2 * m.slots.length + 5) (aX ⟨5,⟨0,0⟩,0,b,0⟩) m=(f,m,true)∧f.e=0∧f.keys=(chL m b).map (kys m):=by
 have hm:=hC.mem
 have hst : aX ⟨5,⟨0,0⟩,0,b,0⟩=swF 5 b 0 0 0 (-1) 0 []:=rfl
 have hch:=hC.ch hb
 obtain ⟨hp,hle⟩:=br.1 hch.of
 have hlk : m.ae.getD (b : Int).toNat 0=-1:=hl _ (by omega)
 have hll : (b : Int).toNat < m.ae.length:=by rw [hm.nl];omega
 have hns:=hm.ns
 rw [hst,bd (An (.inr rfl) hlk) rfl]
 obtain ⟨z,hz⟩ : ∃ z : Mem,z={ m with ae:=m.ae.set (b : Int).toNat 0}:=⟨_,rfl⟩
 rw [← hz]
 have zm : ∀ i,msl z i=msl m i:=fun i=>by rw [hz];rfl
 have zl : z.ae.getD (b : Int).toNat 0=0:=by rw [hz];exact fB hll
 have back : z.ae.set (b : Int).toNat (-1)=m.ae:=by rw [hz];exact oW hlk hll
 have hs : Seg z (aO z b) (chL m b) (-1 - b):=by
  have e : aO z b=aO m b:=by rw [hz];rfl
  rw [e]
  refine Seg.congr (m:=m) (fun c _=>by unfold nxt;rw [zm]) ?_
  have:=(eE (m:=m) (l1:=chL m b) (l2:=[]) (n:=aO m b) (e:=-1 - b)).1 (by rw [List.append_nil];exact hp)
  obtain ⟨q,h1,h2⟩:=this
  rw [h2.1] at h1
  exact h1
 rw [bd (wV (.inr rfl)) rfl,show 2 * m.slots.length + 3=2 * (chL m b).length + ((2 * m.slots.length + 1 - 2 * (chL m b).length) + 1 + 1) from by omega,AT hs (by simp;omega),bd (CL (by omega)) rfl,dm (Ap (.inr rfl) zl) rfl]
 have ex : ({ z with ae:=z.ae.set (b : Int).toNat (-1)} : Mem)=m:=by rw [back,hz]
 rw [ex]
 refine ⟨_,rfl,rfl,?_⟩
 show [] ++ (chL m b).map (kys z)=_
 rw [List.nil_append]
 exact List.map_congr_left fun c _=>by unfold kys;rw [zm]
end Go.Proofs.Ytpmamacjepcdmaa

namespace Go.Proofs.Ytpmamacjepcdmaa
open Go Go.Sy Go.RowKit
set_option linter.unusedSimpArgs false
set_option linter.unusedVariables false
structure NH (m y : Mem) : Prop where
 now : y.now=m.now
 hl : y.heads.length=m.heads.length
theorem NH.id (m : Mem) : NH m m:=⟨rfl,rfl⟩
theorem NH.trans {m y z : Mem} (h : NH m y) (g : NH y z) : NH m z:=⟨g.now.trans h.now,g.hl.trans h.hl⟩
theorem EP (m : Mem) (a : Int) : NH m (hold m a).1:=⟨(pv m a).2.2.2,by rw [(pv m a).2.1]⟩
theorem sU (m : Mem) (a : Int) : NH m (put m a):=⟨(jw m a).2.2.2,by rw [(jw m a).2.1]⟩
theorem vU (m : Mem) (b t : Int) : NH m (lock m b t).1:=by unfold lock;split <;> exact ⟨rfl,rfl⟩
theorem qg (m : Mem) (b t : Int) : NH m (unlock m b t):=by unfold unlock;split <;> exact ⟨rfl,rfl⟩
theorem EO (m : Mem) (a b : Int) : NH m (link m a b):=⟨rfl,by simp [link]⟩
theorem Dl (m : Mem) (p a b : Int) : NH m (cut m p a b):=by unfold cut;split <;> exact ⟨rfl,by simp⟩
theorem EM (m : Mem) (k : Key) (t : Int) : NH m (take m k t).1:=by unfold take;split <;> exact ⟨rfl,rfl⟩
theorem EN (m : Mem) (f : Frm) : NH m (ar m f).2:=by
 unfold ar
 repeat' split
 all_goals first | exact NH.id m | exact EP _ _ | exact sU _ _
theorem nh_add (m : Mem) (f : Frm) (t : Int) : NH m (G3 m f t).2:=by
 unfold G3
 repeat' split
 all_goals first | exact NH.id m | exact EM _ _ _ | exact vU _ _ _ | exact EO _ _ _ | exact sU _ _ | exact qg _ _ _
theorem ER (m : Mem) (f : Frm) (t : Int) : NH m (aL m f t).2:=by
 unfold aL
 repeat' split
 all_goals first | exact NH.id m | exact vU _ _ _ | exact Dl _ _ _ _ | exact qg _ _ _ | exact sU _ _
theorem Dk (m : Mem) (f : Frm) (t : Int) : NH m (aB m f t).2:=by
 unfold aB
 repeat' split
 all_goals first | exact NH.id m | exact vU _ _ _ | exact Dl _ _ _ _ | exact sU _ _ | exact qg _ _ _
theorem mb {st : Mem→Frm→Frm × Mem} (h : ∀ m f,NH m (st m f).2) : ∀ n f m,NH m (bZ st n f m).2.1
 | 0,_,m=>NH.id m
 | n + 1,f,m=>by
  rw [bZ]
  split
  ·exact h m f
  ·exact (h m f).trans (mb h n _ _)
def cM (c : Cal) (f : Frm) : Frm:={ f with c:=c}
theorem Dz (m : Mem) (f : Frm) : (ar m f).1.c=f.c:=by
 unfold ar
 repeat' split
 all_goals rfl
theorem add_c (m : Mem) (f : Frm) (t : Int) : (G3 m f t).1.c=f.c:=by
 unfold G3
 repeat' split
 all_goals rfl
theorem DZ (m : Mem) (f : Frm) (t : Int) : (aL m f t).1.c=f.c:=by
 unfold aL
 repeat' split
 all_goals rfl
theorem rR (m : Mem) (f : Frm) (t : Int) : (aB m f t).1.c=f.c:=by
 unfold aB
 repeat' split
 all_goals rfl
theorem C4 {m : Mem} {c c0 : Cal} (hk : c.kind=c0.kind) (h4 : c0.kind≠4∧c0.kind≠5) (hK : c.k=c0.k) : aa m c=aa m c0:=by
 unfold aa
 rw [hk,hK,if_neg (by omega),if_neg (by omega)]
theorem pn {α β : Type} (G : α→β) {P : Prop} {i : Decidable P} {a b : α} : G (@ite α P i a b)=@ite β P i (G a) (G b):=by
 cases i <;> rfl
theorem jz {α : Type} {P : Prop} {i j : Decidable P} {a b c d : α} (h1 : P→a=c) (h2 : ¬ P→b=d) : @ite α P i a b=@ite α P j c d:=by
 cases Subsingleton.elim i j
 by_cases h : P
 ·rw [if_pos h,if_pos h,h1 h]
 ·rw [if_neg h,if_neg h,h2 h]
def rH (c : Cal) (r : Frm × Mem) : Frm × Mem:=(cM c r.1,r.2)
theorem EG {m : Mem} {f : Frm} {c : Cal} (hk : c.kind=f.c.kind) (h1 : f.c.kind=1) (hK : c.k=f.c.k) : ar m (cM c f)=(cM c (ar m f).1,(ar m f).2):=by
 have hb : aa m c=aa m f.c:=C4 hk (by omega) hK
 by_cases h4 : f.pc=4∧0≤f.slot
 ·have e : ∀ g : Frm,g.pc=4∧0≤g.slot→ar m g=if (at2 m g).k≠g.c.k∨(at2 m g).inn=false then ({ g with pc:=5},m) else if (at2 m g).till≤m.now then ({ g with pc:=6},m) else (ay g 0,m):=fun g hg=>by
   unfold ar
   rw [if_neg (by omega),if_neg (by omega),if_neg (by omega),if_neg (by omega),if_neg (by omega),if_pos hg]
  rw [e f h4,e (cM c f) h4]
  show (if (at2 m f).k≠c.k∨(at2 m f).inn=false then _ else _)=_
  rw [hK]
  by_cases hA : (at2 m f).k≠f.c.k∨(at2 m f).inn=false
  ·rw [if_pos hA,if_pos hA];rfl
  ·rw [if_neg hA,if_neg hA]
   show (if (at2 m f).till≤m.now then _ else _)=_
   split <;> rfl
 show _=rH c (ar m f)
 unfold ar
 simp only [pn (rH c),cM,at1,at2,hb,hK,ay]
 simp only [rH,cM]
 repeat' (first | rfl | refine jz (fun hh=>?_) (fun _=>?_) | (congr 2;exact jz (fun _=>rfl) fun _=>rfl) | exact absurd hh h4)
theorem re_add {m : Mem} {f : Frm} {c : Cal} {t : Int} (hk : c.kind=f.c.kind) (h1 : f.c.kind=2) (hK : c.k=f.c.k) (ht : c.time=f.c.time) : G3 m (cM c f) t=(cM c (G3 m f t).1,(G3 m f t).2):=by
 have hb : aa m c=aa m f.c:=C4 hk (by omega) hK
 by_cases h4 : f.pc=0
 ·have e : ∀ g : Frm,g.pc=0→G3 m g t=if (take m g.c.k (bE m g)).2.2≠0 then (ay g 7,m) else ({ g with slot:=(take m g.c.k (bE m g)).2.1,pc:=1},(take m g.c.k (bE m g)).1):=fun g hg=>by
   unfold G3
   rw [if_pos hg]
  have ha : bE m (cM c f)=bE m f:=by
   unfold bE
   show (if m.now + c.time≤2000000 then m.now + c.time else 2000000)=_
   rw [ht]
  rw [e f h4,e (cM c f) h4,ha]
  show (if (take m c.k (bE m f)).2.2≠0 then _ else ({ (cM c f) with slot:=(take m c.k (bE m f)).2.1,pc:=1},(take m c.k (bE m f)).1))=_
  rw [hK]
  by_cases hA : (take m f.c.k (bE m f)).2.2≠0
  ·rw [if_pos hA,if_pos hA];rfl
  ·rw [if_neg hA,if_neg hA];rfl
 show _=rH c (G3 m f t)
 unfold G3
 simp only [pn (rH c),cM,bE,at1,at2,hb,hK,ht,ay]
 simp only [rH,cM]
 repeat' (first | rfl | refine jz (fun hh=>?_) (fun _=>?_) | (congr 2;exact jz (fun _=>rfl) fun _=>rfl) | exact absurd hh h4)
theorem EH {m : Mem} {f : Frm} {c : Cal} {t : Int} (hk : c.kind=f.c.kind) (h1 : f.c.kind=3) (hK : c.k=f.c.k) : aL m (cM c f) t=(cM c (aL m f t).1,(aL m f t).2):=by
 have hb : aa m c=aa m f.c:=C4 hk (by omega) hK
 show _=rH c (aL m f t)
 unfold aL
 simp only [pn (rH c),cM,at1,at2,hb,hK,ay]
 simp only [rH,cM]
 repeat' (first | rfl | refine jz (fun hh=>?_) (fun _=>?_) | (congr 2;exact jz (fun _=>rfl) fun _=>rfl))
theorem xa {m : Mem} {f : Frm} {c : Cal} {t : Int} (hk : c.kind=f.c.kind) (h1 : f.c.kind=4∨f.c.kind=5) (hB : c.bucket=f.c.bucket) : aB m (cM c f) t=(cM c (aB m f t).1,(aB m f t).2):=by
 have hb : aa m c=aa m f.c:=by
  unfold aa
  rw [if_pos (by omega),if_pos h1,hB]
 show _=rH c (aB m f t)
 unfold aB
 simp only [pn (rH c),cM,at1,at2,hb,hk,ay]
 simp only [rH,cM]
 repeat' (first | rfl | refine jz (fun hh=>?_) (fun _=>?_) | (congr 2;exact jz (fun _=>rfl) fun _=>rfl))
theorem jV {st : Mem→Frm→Frm × Mem} {c c0 : Cal} (hst : ∀ m f,f.c=c0→st m (cM c f)=(cM c (st m f).1,(st m f).2)∧(st m f).1.c=c0) : ∀ n f m,f.c=c0→bZ st n (cM c f) m=(cM c (bZ st n f m).1,(bZ st n f m).2)
 | 0,_,_,_=>rfl
 | n + 1,f,m,h=>by
  obtain ⟨h1,h2⟩:=hst m f h
  rw [bZ,bZ,h1]
  show (if (st m f).1.done=true then _ else _)=_
  split
  ·rfl
  ·exact jV hst n _ _ h2
end Go.Proofs.Ytpmamacjepcdmaa
