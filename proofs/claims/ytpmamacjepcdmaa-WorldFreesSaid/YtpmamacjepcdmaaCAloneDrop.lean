import Derived.Test.YtpmamacjepcdmaaCAlone
import Derived.Test.YtpmamacjepcdmaaCChainLaws5
namespace Go.Proofs.Ytpmamacjepcdmaa
open Go Go.Sy Go.RowKit
set_option linter.unusedSimpArgs false
set_option linter.unusedVariables false
theorem lg {m x : Mem} : ∀ {n b : Nat} {acc : List dV},(∀ i,b≤i→i < b + n→chL x i=chL m i∧∀ c∈chL m i,bP x c=bP m c)→bD x n b acc=bD m n b acc
 | 0,_,_,_=>rfl
 | n + 1,b,acc,h=>by
  obtain ⟨h1,h2⟩:=h b (Nat.le_refl _) (by omega)
  rw [bD,bD]
  have e : (bG x b).1.map (bP x)=(bG m b).1.map (bP m):=by
   show (chL x b).map (bP x)=(chL m b).map (bP m)
   rw [h1];exact List.map_congr_left h2
  rw [e,lg fun i h3 h4=>h i (by omega) (by omega)]
theorem off_ok {m x : Mem} (hC : aK m) (hx : bs x) (hl : x.slots.length=m.slots.length) (hh : x.heads=m.heads) (hs : ∀ b,b < m.heads.length→∀ c∈chL m b,msl x c.toNat=msl m c.toNat) :
  aK x∧(∀ b,b < m.heads.length→chL x b=chL m b)∧bl x=bl m:=by
 have ch : ∀ b,b < m.heads.length→ft x b (chL m b):=fun b hb=>by
  have h:=hC.ch hb
  obtain ⟨hp,hle⟩:=bF.1 h.of
  refine ⟨bF.2 ⟨?_,by rw [hl];exact hle⟩,fun a ha=>?_,?_⟩
  ·have e : aM x b=aM m b:=by unfold aM;rw [hh]
   rw [e]
   exact Path.congr (fun c hc=>by unfold nxt;rw [hs b hb c hc]) hp
  ·have k:=h.ok a ha
   have e:=hs b hb a ha
   refine ⟨by rw [e];exact k.refs,by rw [e];exact k.inn,?_⟩
   have:=k.bk
   unfold bk kys at this ⊢
   rw [e,hh];exact this
  ·have : (chL m b).map (kys x)=(chL m b).map (kys m):=List.map_congr_left fun c hc=>by unfold kys;rw [hs b hb c hc]
   rw [this];exact h.nd
 have hcl : ∀ b,b < m.heads.length→chL x b=chL m b:=fun b hb=>tp (ch b hb).of
 refine ⟨⟨hx,fun b hb=>⟨_,ch b (by rw [hh] at hb;exact hb)⟩⟩,hcl,?_⟩
 unfold bl
 rw [hh]
 exact lg fun i _ hi=>⟨hcl i (by omega),fun c hc=>by unfold bP;rw [hs i (by omega) c hc]⟩
def ad (m : Mem) (f : Frm) : Frm × Mem:=bx m f 0
theorem tH {l : List Int} {i : Nat} {v : Int} (h : i < l.length) : (l.set i v).getD i 0=v:=by
 rw [List.getD_eq_getElem?_getD,List.getElem?_set_self h];rfl
theorem BS {l : List Int} {i : Nat} {v : Int} (h : l.getD i 0=-1) (hi : i < l.length) : (l.set i v).set i (-1)=l:=by
 rw [List.set_set]
 refine List.ext_getElem? fun j=>?_
 by_cases e : i=j
 ·subst e
  rw [List.getElem?_set_self hi,List.getElem?_eq_getElem hi]
  rw [List.getD_eq_getElem?_getD,List.getElem?_eq_getElem hi] at h
  exact congrArg some h.symm
 ·rw [List.getElem?_set_ne e]
end Go.Proofs.Ytpmamacjepcdmaa

namespace Go.Proofs.Ytpmamacjepcdmaa
open Go Go.Sy Go.RowKit
set_option linter.unusedSimpArgs false
set_option linter.unusedVariables false
theorem j9 {m x : Mem} {P : dV→Bool} : ∀ {n b : Nat} {acc : List dV},(∀ i,b≤i→i < b + n→(chL x i).map (bP x)=((chL m i).map (bP m)).filter P)→bD x n b (acc.filter P)=(bD m n b acc).filter P
 | 0,_,_,_=>rfl
 | n + 1,b,acc,h=>by
  rw [bD,bD]
  have e : acc.filter P ++ (bG x b).1.map (bP x)=(acc ++ (bG m b).1.map (bP m)).filter P:=by
   rw [List.filter_append]
   exact congrArg _ (h b (Nat.le_refl _) (by omega))
  rw [e]
  exact j9 fun i h3 h4=>h i (by omega) (by omega)
theorem tc {m x : Mem} {P : dV→Bool} (hh : x.heads.length=m.heads.length) (h : ∀ i,i < m.heads.length→(chL x i).map (bP x)=((chL m i).map (bP m)).filter P) : bl x=(bl m).filter P:=by
 unfold bl
 rw [hh]
 exact j9 (acc:=[]) fun i _ hi=>h i (by omega)
theorem erase_filter {m : Mem} {t : Int} {k : Key} : ∀ {l : List Int},(l.map (kys m)).Nodup→t∈l→kys m t=k→l.erase t=l.filter fun c=>decide (kys m c≠k)
 | [],_,h,_=>by cases h
 | c :: l,hn,ht,e=>by
  rw [List.map_cons,List.nodup_cons] at hn
  by_cases hc : c=t
  ·subst hc
   have hall : l.filter (fun d=>decide (kys m d≠k))=l:=List.filter_eq_self.2 fun d hd=>decide_eq_true fun z=>hn.1 (List.mem_map.2 ⟨d,hd,by rw [z,e]⟩)
   rw [List.erase_cons_head,List.filter_cons_of_neg (by simp [e]),hall]
  ·have ht : t∈l:=by rcases List.mem_cons.1 ht with h | h;exact absurd h.symm hc;exact h
   rw [List.erase_cons_tail (by simpa using hc),List.filter_cons_of_pos (by rw [decide_eq_true_eq];exact fun z=>hn.1 (List.mem_map.2 ⟨t,ht,by rw [e,z]⟩)),erase_filter hn.2 ht e]
theorem Bm (m : Mem) (p a b : Int) : (cut m p a b).af=m.af∧(cut m p a b).free=m.free∧(cut m p a b).now=m.now:=by
 unfold cut
 split <;> exact ⟨rfl,rfl,rfl⟩
theorem CX (m : Mem) (p a b : Int) (l : List Int) : cut { m with af:=l} p a b={ cut m p a b with af:=l}:=by
 unfold cut
 split <;> rfl
theorem DJ (m : Mem) {a : Int} (i : Nat) : (msl (put m a) i).k=(msl m i).k∧(msl (put m a) i).till=(msl m i).till∧(a.toNat≠i→msl (put m a) i=msl m i):=by
 unfold put
 split
 ·exact ⟨rfl,rfl,fun _=>rfl⟩
 ·split
  ·have e : msl { m with slots:=m.slots.modify a.toNat (cB (-1)),free:=m.free ++ [a]} i=if a.toNat=i∧a.toNat < m.slots.length then cB (-1) (msl m i) else msl m i:=getD_modify _ _ _ _
   rw [e]
   refine ⟨?_,?_,fun h=>by rw [if_neg fun z=>h z.1]⟩ <;> split <;> rfl
  ·have e : msl { m with slots:=m.slots.modify a.toNat (cB (-1))} i=if a.toNat=i∧a.toNat < m.slots.length then cB (-1) (msl m i) else msl m i:=getD_modify _ _ _ _
   rw [e]
   refine ⟨?_,?_,fun h=>by rw [if_neg fun z=>h z.1]⟩ <;> split <;> rfl
theorem DF {y : Mem} (hC : aK y) {t : Int} (h0 : 0≤t) (h1 : t < y.slots.length) (hn : ∀ i,i < y.heads.length→t ∉ chL y i) :
  aK (put y t)∧(∀ b,b < y.heads.length→chL (put y t) b=chL y b)∧bl (put y t)=bl y:=by
 obtain ⟨e1,e2,_,_⟩:=oK y t
 refine off_ok hC (iS hC.mem h0 h1) e1 e2 fun b hb c hc=>(DJ y c.toNat).2.2 fun z=>hn b hb ?_
 have:=df hC hc
 rw [show t=c from by omega]
 exact hc
def dpF (k : Key) (pc cur prev slot e : Int) : Frm:=⟨⟨3,k,0,0,0⟩,pc,cur,prev,slot,0,[],false,e⟩
def dp (m : Mem) (f : Frm) : Frm × Mem:=aQ m f 0
theorem z5 {m : Mem} {k : Key} {pc cur p s e : Int} : aa m (dpF k pc cur p s e).c=bk m k:=rfl
theorem D3 {m : Mem} {k : Key} {c p s e : Int} (h : m.af.getD (bk m k).toNat 0=-1) : dp m (dpF k 0 c p s e)=(dpF k 1 c p s e,{ m with af:=m.af.set (bk m k).toNat 0}):=by
 have hl : lock m (bk m k) 0=({ m with af:=m.af.set (bk m k).toNat 0},true):=by unfold lock;rw [if_pos h]
 unfold dp aQ
 rw [if_pos (show (dpF _ 0 _ _ _ _).pc=0 from rfl),z5,hl];rfl
theorem CU {m : Mem} {k : Key} {c p s e : Int} : dp m (dpF k 1 c p s e)=(dpF k 2 (aM m (bk m k)) 0 s e,m):=by
 unfold dp aQ
 rw [if_neg (by simp [dpF]),if_pos (show (dpF _ 1 _ _ _ _).pc=1 from rfl),z5];rfl
theorem dp_end {m : Mem} {k : Key} {c p s e : Int} (h : c≤0) : dp m (dpF k 2 c p s e)=(dpF k 5 c p s 5,m):=by
 unfold dp aQ
 rw [if_neg (by simp [dpF]),if_neg (by simp [dpF]),if_pos (show (dpF _ 2 _ _ _ _).pc=2 from rfl),if_pos (show (dpF k 2 c p s e).cur≤0 from h)];rfl
theorem dp_no {m : Mem} {k : Key} {a p s e : Int} (h : 0≤a) (hk : kys m a≠k) : dp m (dpF k 2 (a + 1) p s e)=(dpF k 3 (a + 1) p s e,m):=by
 have e1 : at1 m (dpF k 2 (a + 1) p s e)=msl m a.toNat:=by unfold at1 dpF;rw [show a + 1 - 1=a from by omega]
 unfold dp aQ
 rw [if_neg (by simp [dpF]),if_neg (by simp [dpF]),if_pos (show (dpF _ 2 _ _ _ _).pc=2 from rfl),if_neg (by simp only [dpF];omega),e1,if_neg (show ¬ (msl m a.toNat).k=(dpF k 2 (a + 1) p s e).c.k from hk)];rfl
theorem dp_yes {m : Mem} {k : Key} {a p s e : Int} (h : 0≤a) (hk : kys m a=k) : dp m (dpF k 2 (a + 1) p s e)=(dpF k 4 (a + 1) p s e,m):=by
 have e1 : at1 m (dpF k 2 (a + 1) p s e)=msl m a.toNat:=by unfold at1 dpF;rw [show a + 1 - 1=a from by omega]
 unfold dp aQ
 rw [if_neg (by simp [dpF]),if_neg (by simp [dpF]),if_pos (show (dpF _ 2 _ _ _ _).pc=2 from rfl),if_neg (by simp only [dpF];omega),e1,if_pos (show (msl m a.toNat).k=(dpF k 2 (a + 1) p s e).c.k from hk)];rfl
theorem D2 {m : Mem} {k : Key} {a p s e : Int} (h : 0≤a) : dp m (dpF k 3 (a + 1) p s e)=(dpF k 2 (nxt m a) (a + 1) s e,m):=by
 have e1 : at1 m (dpF k 3 (a + 1) p s e)=msl m a.toNat:=by unfold at1 dpF;rw [show a + 1 - 1=a from by omega]
 unfold dp aQ
 rw [if_neg (by simp [dpF]),if_neg (by simp [dpF]),if_neg (by simp [dpF]),if_pos ⟨rfl,by simp only [dpF];omega⟩,e1];rfl
theorem dp_cut {m : Mem} {k : Key} {a p s e : Int} (h : 0≤a) : dp m (dpF k 4 (a + 1) p s e)=(dpF k 5 (a + 1) p a 0,cut m p a (bk m k)):=by
 have e1 : (dpF k 4 (a + 1) p s e).cur - 1=a:=by simp only [dpF];omega
 unfold dp aQ
 rw [if_neg (by simp [dpF]),if_neg (by simp [dpF]),if_neg (by simp [dpF]),if_neg (by simp [dpF]),if_pos ⟨rfl,by simp only [dpF];omega⟩,z5,e1];rfl
theorem uJ {m : Mem} {k : Key} {c p s e : Int} (h : m.af.getD (bk m k).toNat 0=0) : dp m (dpF k 5 c p s e)=(dpF k 6 c p s e,{ m with af:=m.af.set (bk m k).toNat (-1)}):=by
 have hl : unlock m (bk m k) 0={ m with af:=m.af.set (bk m k).toNat (-1)}:=by unfold unlock;rw [if_pos h]
 unfold dp aQ
 rw [if_neg (by simp [dpF]),if_neg (by simp [dpF]),if_neg (by simp [dpF]),if_neg (by simp [dpF]),if_neg (by simp [dpF]),if_pos (show (dpF _ 5 _ _ _ _).pc=5 from rfl),z5,hl];rfl
theorem dp_put {m : Mem} {k : Key} {c p s e : Int} (h : 0≤s) : dp m (dpF k 6 c p s e)=(aD (dpF k 6 c p (-1) e) e,put m s):=by
 unfold dp aQ
 rw [if_neg (by simp [dpF]),if_neg (by simp [dpF]),if_neg (by simp [dpF]),if_neg (by simp [dpF]),if_neg (by simp [dpF]),if_neg (by simp [dpF]),if_pos (show (dpF _ 6 _ _ _ _).pc=6 from rfl),if_pos (show 0≤(dpF k 6 c p s e).slot from h),if_pos (show 0≤(dpF k 6 c p s e).slot from h)];rfl
theorem D1 {m : Mem} {k : Key} {c p e : Int} : dp m (dpF k 6 c p (-1) e)=(aD (dpF k 6 c p (-1) e) e,m):=by
 unfold dp aQ
 rw [if_neg (by simp [dpF]),if_neg (by simp [dpF]),if_neg (by simp [dpF]),if_neg (by simp [dpF]),if_neg (by simp [dpF]),if_neg (by simp [dpF]),if_pos (show (dpF _ 6 _ _ _ _).pc=6 from rfl),if_neg (by simp [dpF]),if_neg (by simp [dpF])];rfl
def kG (l : List Int) (p : Int) : Int:=match l.getLast? with | none=>p | some c=>c + 1
theorem vg (c : Int) (l : List Int) (p : Int) : kG (c :: l) p=kG l (c + 1):=by
 unfold kG
 cases l with
 | nil=>rfl
 | cons d l =>
  rw [List.getLast?_cons_cons]
  cases h : (d :: l).getLast? with
  | none=>simp at h
  | some e=>rfl
theorem vA {m : Mem} {k : Key} {s e : Int} : ∀ {l : List Int} {n p q : Int} {N : Nat},Seg m n l q→(∀ a∈l,kys m a≠k)→jF dp (2 * l.length + N) (dpF k 2 n p s e) m=jF dp N (dpF k 2 q (kG l p) s e) m
 | [],n,p,q,N,h,_=>by
  have h : n=q:=h
  subst h
  rw [List.length_nil,Nat.mul_zero,Nat.zero_add];rfl
 | c :: l,n,p,q,N,h,hk=>by
  obtain ⟨h1,h2,h3⟩:=h
  subst h1
  rw [List.length_cons,show 2 * (l.length + 1) + N=2 * l.length + N + 1 + 1 from by omega,fg (dp_no (by omega) (hk c (by simp))) rfl,fg (D2 (by omega)) rfl,vg]
  exact vA h3 fun a ha=>hk a (by simp [ha])
theorem yI {m : Mem} (hC : aK m) {k : Key} (hk : Key.Ok k) (hl : ∀ i,i < m.heads.length→m.af.getD i 0=-1) :
  ∃ f x,jF dp (2 * m.slots.length + 6) (ck ⟨3,k,0,0,0⟩) m=(f,x,true)∧aK x∧x.af=m.af∧x.slots.length=m.slots.length ∧
   (((∀ w∈bl m,w.k≠k)∧f.e=5∧x=m) ∨
    ((∃ w∈bl m,w.k=k)∧f.e=0∧bl x=(bl m).filter (fun w=>decide (w.k≠k))∧∀ w∈bl m,w.k=k→(msl x w.slot.toNat).refs=(msl m w.slot.toNat).refs - 1)):=by
 have hm:=hC.mem
 have hb:=xa hm hk
 have hst : ck ⟨3,k,0,0,0⟩=dpF k 0 0 0 (-1) 0:=rfl
 have hlk : m.af.getD (bk m k).toNat 0=-1:=hl _ (by omega)
 have hll : (bk m k).toNat < m.af.length:=by rw [hm.nl];omega
 rw [hst,show 2 * m.slots.length + 6=2 * m.slots.length + 5 + 1 from rfl,fg (D3 hlk) rfl]
 obtain ⟨z,hz⟩ : ∃ z : Mem,z={ m with af:=m.af.set (bk m k).toNat 0}:=⟨_,rfl⟩
 rw [← hz]
 have zm : ∀ i,msl z i=msl m i:=fun i=>by rw [hz];rfl
 have zk : ∀ c,kys z c=kys m c:=fun c=>by unfold kys;rw [zm]
 have zb : bk z k=bk m k:=by rw [hz];rfl
 have zl : z.af.getD (bk m k).toNat 0=0:=by rw [hz];exact tH hll
 have back : z.af.set (bk m k).toNat (-1)=m.af:=by rw [hz];exact BS hlk hll
 rw [show 2 * m.slots.length + 5=2 * m.slots.length + 4 + 1 from rfl,fg CU rfl,zb]
 obtain ⟨b,hbb⟩ : ∃ b : Nat,bk m k=b:=⟨(bk m k).toNat,by omega⟩
 have hch:=hC.ch (b:=b) (by omega)
 obtain ⟨hp,hle⟩:=bF.1 hch.of
 have hp : Path z (aM z (bk m k)) (chL m b) (-1 - b):=by
  have e : aM z (bk m k)=aM m b:=by rw [hz,hbb];rfl
  rw [e];exact Path.congr (fun c _=>by unfold nxt;rw [zm]) hp
 rcases sh (k:=k) hp with ⟨k1,k2⟩ | ⟨l1,c,l2,e1,k1,k2,k3,k4⟩
 ·rw [show 2 * m.slots.length + 4=2 * (chL m b).length + ((2 * m.slots.length + 1 - 2 * (chL m b).length) + 1 + 1 + 1) from by omega,vA k2 k1,fg (dp_end (by omega)) rfl,fg (uJ (by rw [zb];exact zl)) rfl,qk D1 rfl,zb]
  have ex : ({ z with af:=z.af.set (bk m k).toNat (-1)} : Mem)=m:=by rw [back,hz]
  rw [ex]
  refine ⟨_,_,rfl,hC,rfl,rfl,.inl ⟨fun w hw e=>?_,rfl,rfl⟩⟩
  obtain ⟨_,_,q3,_,_,_,q7⟩:=s9 hC hw
  rw [e] at q3 q7
  rw [hbb,Int.toNat_natCast] at q7
  exact k1 _ q7 (by rw [zk];exact q3)
 ·have hc : c∈chL m b:=by rw [e1];simp
  have hl1 : l1.length + 1≤(chL m b).length:=by rw [e1];simp
  have hcr:=df hC hc
  have k2 : kys m c=k:=by rw [← zk];exact k2
  have hnl : c ∉ l1:=fun h=>k1 c h (by rw [zk];exact k2)
  have hpv : kG l1 0=gx c (chL m b) 0:=by rw [e1];exact (iA hnl).symm
  obtain ⟨y,hy⟩ : ∃ y,y=cut m (kG l1 0) c (bk m k):=⟨_,rfl⟩
  obtain ⟨g1,g2,g3,g4,g5⟩:=CW hC (b:=b) (by omega) hc
  rw [← hpv,← hbb,← hy] at g1 g2 g3 g4 g5
  have hzy : cut z (kG l1 0) c (bk m k)={ y with af:=z.af}:=by rw [hy,hz];exact CX _ _ _ _ _
  have ylk : y.af=m.af:=by rw [hy];exact (Bm _ _ _ _).1
  rw [show 2 * m.slots.length + 4=2 * l1.length + ((2 * m.slots.length - 2 * l1.length) + 1 + 1 + 1 + 1) from by omega,vA k3 k1,fg (dp_yes k4 (by rw [zk];exact k2)) rfl,fg (dp_cut k4) rfl,zb,hzy]
  have yb : bk ({ y with af:=z.af} : Mem) k=bk m k:=by
   show (bI k y.heads.length).1=bk m k
   rw [g5];rfl
  rw [fg (uJ (by rw [yb];exact zl)) rfl,yb,qk (dp_put k4) rfl]
  have ex : ({ ({ y with af:=z.af} : Mem) with af:=({ y with af:=z.af} : Mem).af.set (bk m k).toNat (-1)} : Mem)=y:=by
   show ({ y with af:=z.af.set (bk m k).toNat (-1)} : Mem)=y
   rw [back,← ylk]
  rw [ex]
  have offc : ∀ i,i < y.heads.length→c ∉ chL y i:=fun i hi hci=>by
   rw [g2 i (by omega)] at hci
   split at hci
   ·rename_i e
    subst e
    exact (List.Nodup.mem_erase_iff hch.ndl).1 hci |>.1 rfl
   ·rename_i e
    have h1:=((hC.ch (b:=i) (by omega)).ok c hci).bk
    have h2:=(hch.ok c hc).bk
    rw [h1] at h2
    exact e (by omega)
  obtain ⟨xC,xch,xfl⟩:=DF g1 hcr.1 (by rw [g4];exact hcr.2) offc
  obtain ⟨p1,p2,p3,p4⟩:=oK y c
  have yf : ∀ d,bP y d=bP m d:=fun d=>qP (g3 d.toNat).2.1 (g3 d.toNat).2.2.1
  have yfl : bl y=(bl m).filter (fun w=>decide (w.k≠k)):=tc g5 fun i hi=>by
   have e0 : (chL y i).map (bP y)=(chL y i).map (bP m):=List.map_congr_left fun d _=>yf d
   rw [e0,List.filter_map,g2 i hi]
   congr 1
   split
   ·rename_i e
    subst e
    exact erase_filter hch.nd hc k2
   ·rename_i e
    refine (List.filter_eq_self.2 fun d hd=>?_).symm
    have h1:=((hC.ch hi).ok d hd).bk
    show decide (kys m d≠k)=true
    exact decide_eq_true fun z=>by
     rw [z,hbb] at h1
     exact e (by omega)
  refine ⟨_,_,rfl,xC,p3.trans ylk,p1.trans g4,.inr ⟨⟨bP m c,CI (by omega) hc,k2⟩,rfl,by rw [xfl];exact yfl,fun w hw e=>?_⟩⟩
  obtain ⟨q1,q2,q3,_,_,_,q7⟩:=s9 hC hw
  rw [e] at q3 q7
  rw [hbb,Int.toNat_natCast] at q7
  have hwc : w.slot=c:=nj hch.nd q7 hc (q3.trans k2.symm)
  rw [hwc]
  have r0:=(g1.mem.refs hcr.1 (by rw [g4];exact hcr.2)).1
  have rl:=(g3 c.toNat).1
  have rn : (msl y c.toNat).refs≠0:=by rw [rl];exact (hch.ok c hc).refs
  rw [← rl]
  unfold put
  rw [if_neg rn]
  have em : ∀ l : List Int,msl { y with slots:=y.slots.modify c.toNat (cB (-1)),free:=l} c.toNat=cB (-1) (msl y c.toNat):=fun l=>by
   show (y.slots.modify c.toNat (cB (-1))).getD c.toNat default=_
   rw [getD_modify,if_pos ⟨rfl,by rw [g4];omega⟩];rfl
  split
  ·rw [em];show _ + -1=_ - 1;omega
  ·have:=em y.free
   rw [show ({ y with slots:=y.slots.modify c.toNat (cB (-1)),free:=y.free} : Mem)={ y with slots:=y.slots.modify c.toNat (cB (-1))} from rfl] at this
   rw [this];show _ + -1=_ - 1;omega
theorem pe {m : Mem} (hC : aK m) : ∀ {n b : Nat} {acc : List dV},(acc.map dV.k).Nodup→(∀ w∈acc,bk m w.k < b)→b + n≤m.heads.length→((bD m n b acc).map dV.k).Nodup
 | 0,_,_,h,_,_=>h
 | n + 1,b,acc,h,hb,hn=>by
  rw [bD]
  have hch:=hC.ch (b:=b) (by omega)
  have e : ((bG m b).1.map (bP m)).map dV.k=(chL m b).map (kys m):=by rw [List.map_map];rfl
  refine pe hC ?_ (fun w hw=>?_) (by omega)
  ·rw [List.map_append,e]
   refine List.nodup_append.2 ⟨h,hch.nd,fun x hx y hy exy=>?_⟩
   obtain ⟨w,hw,rfl⟩:=List.mem_map.1 hx
   obtain ⟨c,hc,rfl⟩:=List.mem_map.1 hy
   have h1:=hb w hw
   have h2:=(hch.ok c hc).bk
   rw [exy,h2] at h1
   omega
  ·rcases List.mem_append.1 hw with hw | hw
   ·have:=hb w hw
    omega
   ·obtain ⟨c,hc,rfl⟩:=List.mem_map.1 hw
    have h2:=(hch.ok c hc).bk
    show bk m (kys m c) < _
    rw [h2];omega
theorem CJ {m : Mem} (hC : aK m) : ((bl m).map dV.k).Nodup:=pe hC List.nodup_nil (fun _ h=>by cases h) (by omega)
end Go.Proofs.Ytpmamacjepcdmaa
