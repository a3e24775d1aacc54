import Derived.Test.YtpmamacjepcdmaaCAcy
import Derived.Test.YtpmamacjepcdmaaCLock
import Derived.Test.YtpmamacjepcdmaaCSweep
import Derived.Test.YtpmamacjepcdmaaCChainLaws
namespace Go.Proofs.Ytpmamacjepcdmaa
open Go Go.Sy Go.RowKit
set_option linter.unusedSimpArgs false
set_option linter.unusedVariables false
inductive Kin (m y : Mem) : Prop
 | same (hn : ∀ a,nxt y a=nxt m a) (hc : ∀ b,b < m.heads.length→chL y b=chL m b) (hk : ∀ a : Int,0≤a→(msl y a.toNat).inn=true→(msl m a.toNat).inn=true∧bu y a=bu m a)
 | lnk (a : Int) (B : Nat) (a0 : 0≤a) (a1 : a < m.slots.length) (hB : B < m.heads.length) (hi : (msl m a.toNat).inn=false) (hf : ∀ c∈chL m B,kys m c≠kys m a) (hb : bk m (kys m a)=B)
   (hc : chL y B=a :: chL m B) (ho : ∀ b,b < m.heads.length→b≠B→chL y b=chL m b) (hj : ∀ c : Int,0≤c→c≠a→msl y c.toNat=msl m c.toNat) (hk : bu y a=bu m a) (hn : nxt y a=aO m B)
 | cutt (a : Int) (B : Nat) (l1 l3 : List Int) (hB : B < m.heads.length) (e : chL m B=l1 ++ a :: l3) (hc : chL y B=l1 ++ l3) (ho : ∀ b,b < m.heads.length→b≠B→chL y b=chL m b) (hk : ∀ c : Int,(msl y c.toNat).inn=(msl m c.toNat).inn∧bu y c=bu m c)
   (hn : (∀ c,nxt y c=nxt m c)∨∃ k p,l1=k ++ [p]∧nxt y p=nxt m a∧∀ c : Int,0≤c→c≠p→nxt y c=nxt m c)
theorem cZ.kin {m y : Mem} {P : Nat→Prop} (hC : aK m) (h : cZ m P y) : Kin m y:=by
 cases h with
 | quiet l=>exact Kin.same (fun _=>rfl) (fun b _=>qA m l b) fun a _ h=>⟨h,rfl⟩
 | tick=>exact Kin.same (fun _=>rfl) (fun b hb=>(cZ.tick (P:=fun _=>False)).Ij hb fun x=>x) fun a _ h=>⟨h,rfl⟩
 | @refs _ a d a0 a1 hs hh hn hl hc =>
  have hm : ∀ j,msl y j=if a.toNat=j then bx d (msl m a.toNat) else msl m j:=fun j=>gn hs (by omega) j
  refine Kin.same (fun c=>?_) hc fun c _ hi=>?_
  ·unfold nxt;rw [hm];split
   ·rename_i e;rw [← e];rfl
   ·rfl
  ·unfold bu
   rw [hm] at hi ⊢
   split at hi
   ·rename_i e;rw [if_pos e,← e];exact ⟨hi,rfl⟩
   ·rename_i e;rw [if_neg e];exact ⟨hi,rfl⟩
 | @tak _ a k t a0 a1 hr hs hh hn hl hc ho ht =>
  have hm : ∀ j,msl y j=if a.toNat=j then cp k t (msl m a.toNat) else msl m j:=fun j=>gn hs (by omega) j
  refine Kin.same (fun c=>?_) hc fun c _ hi=>?_
  ·unfold nxt;rw [hm];split
   ·rename_i e;rw [← e];rfl
   ·rfl
  ·unfold bu
   rw [hm] at hi ⊢
   split at hi
   ·cases hi
   ·rename_i e;rw [if_neg e];exact ⟨hi,rfl⟩
 | @lnk _ a B a0 a1 hB hp hr hi hk hb hy hc ho =>
  have hm : ∀ j,msl y j=if a.toNat=j then jc (aO m B) (msl m a.toNat) else msl m j:=fun j=>gn (by rw [hy];rfl) (by omega) j
  refine Kin.lnk a B a0 a1 hB hi hk hb hc ho (fun c c0 hne=>by rw [hm,if_neg (by omega)]) ?_ ?_
  ·unfold bu;rw [hm,if_pos rfl];rfl
  ·unfold nxt;rw [hm,if_pos rfl];rfl
 | @cutt _ a B l1 l3 hB hp e hy hc ho =>
  obtain ⟨d1,d2,d3,d4,d5,d6⟩:=kp hC hB e rfl hy
  refine Kin.cutt a B l1 l3 hB e hc ho (fun c=>⟨(d4 c.toNat).2.2.2,ib (d4 c.toNat).2.1 (d4 c.toNat).2.2.1⟩) ?_
  rcases List.eq_nil_or_concat l1 with e1 | ⟨k,p,e1⟩ <;> try rw [List.concat_eq_append] at e1
  ·have e0 : jJ l1=0:=by rw [e1];rfl
   exact .inl fun c=>by rw [hy,e0];rfl
  ·have e0 : jJ l1=p + 1:=by rw [e1];unfold jJ;simp
   have hcm : p∈chL m B:=by rw [e,e1];simp
   obtain ⟨c0,c1⟩:=cW hC hcm
   have hs : y.slots=m.slots.modify p.toNat (og (msl m a.toNat).next):=by
    rw [hy,e0];unfold cut
    rw [if_pos (by omega),show p + 1 - 1=p by omega]
   have hm : ∀ j,msl y j=if p.toNat=j then og (msl m a.toNat).next (msl m p.toNat) else msl m j:=fun j=>gn hs (by omega) j
   exact .inr ⟨k,p,e1,by unfold nxt;rw [hm,if_pos rfl];rfl,fun d d0 hne=>by unfold nxt;rw [hm,if_neg (by omega)]⟩
def Seen (hs : List Mem) (a : Int) : Prop:=∃ y∈hs,∃ b,b < y.heads.length∧a∈chL y b
def Unm (B : Nat) (K : Key) (y : Mem) : Prop:=∀ a∈chL y B,kys y a≠K
def Kx (B : Nat) (K : Key) (hs : List Mem) : Prop:=∃ y∈hs,Unm B K y
theorem Seen.more {hs : List Mem} {a : Int} (h : Seen hs a) (y : Mem) : Seen (y :: hs) a:=by
 obtain ⟨z,hz,h⟩:=h
 exact ⟨z,by simp [hz],h⟩
theorem Kx.more {B : Nat} {K : Key} {hs : List Mem} (h : Kx B K hs) (y : Mem) : Kx B K (y :: hs):=by
 obtain ⟨z,hz,h⟩:=h
 exact ⟨z,by simp [hz],h⟩
def IX (n : Nat) (t : Int) (hs : List Mem) : Prop:=∀ y∈hs,aK y∧y.heads.length=n∧y.now≤t
def LQ (m : Mem) (hs : List Mem) : Prop:=∀ c,Seen hs c→0 < nxt m c→Seen hs (nxt m c - 1)
theorem IU {m y : Mem} (hC : aK m) (hy : aK y) (hl : y.heads.length=m.heads.length) (h : Kin m y) {hs : List Mem} (hm : m∈hs) {a : Int} (ha : Seen (y :: hs) a) : Seen hs a∨∃ B,B < m.heads.length∧chL y B=a :: chL m B∧∀ b,b < m.heads.length→a ∉ chL m b:=by
 obtain ⟨z,hz,b,hb,hab⟩:=ha
 rcases List.mem_cons.1 hz with rfl | hz
 ·rw [hl] at hb
  cases h with
  | same hn hc hk=>exact .inl ⟨m,hm,b,hb,by rw [← hc b hb];exact hab⟩
  | lnk c B a0 a1 hB hi hf hbk hc ho hj hk hn =>
   by_cases e : b=B
   ·subst e
    rw [hc] at hab
    rcases List.mem_cons.1 hab with rfl | hab
    ·exact .inr ⟨b,hb,hc,fun i hi' hin=>by
      have:=((hC.ch hi').ok a hin).inn
      rw [hi] at this;cases this⟩
    ·exact .inl ⟨m,hm,b,hb,hab⟩
   ·exact .inl ⟨m,hm,b,hb,by rw [← ho b hb e];exact hab⟩
  | cutt c B l1 l3 hB e hc ho hk hn =>
   by_cases eb : b=B
   ·subst eb
    refine .inl ⟨m,hm,b,hb,?_⟩
    rw [hc] at hab
    rw [e]
    rcases List.mem_append.1 hab with h | h
    ·exact List.mem_append_left _ h
    ·exact List.mem_append_right _ (List.mem_cons_of_mem _ h)
   ·exact .inl ⟨m,hm,b,hb,by rw [← ho b hb eb];exact hab⟩
 ·exact .inl ⟨z,hz,b,hb,hab⟩
theorem Kf {m : Mem} (hC : aK m) {b : Nat} (hb : b < m.heads.length) {a : Int} (ha : a∈chL m b) (hn : 0 < nxt m a) : nxt m a - 1∈chL m b:=by
 obtain ⟨l1,l2,e⟩:=List.append_of_mem ha
 have h1:=rV hC hb e
 cases l2 with
 | nil =>
  have : nxt m a=-1 - (b : Int):=h1
  omega
 | cons c l3 =>
  have : nxt m a=c + 1:=h1
  rw [this,show c + 1 - 1=c by omega,e];simp
theorem Lq {m : Mem} (hC : aK m) {b : Nat} (hb : b < m.heads.length) (hn : 0 < aO m b) : aO m b - 1∈chL m b:=by
 rw [tA hC hb] at hn ⊢
 cases e : chL m b with
 | nil =>
  rw [e] at hn
  have hn : 0 < -1 - (b : Int):=hn
  omega
 | cons c l =>
  show c + 1 - 1∈_
  rw [show c + 1 - 1=c by omega];simp
theorem Io {n : Nat} {t : Int} {hs : List Mem} (hh : IX n t hs) {a : Int} (h : Seen hs a) : 0≤a:=by
 obtain ⟨z,hz,b,hb,hab⟩:=h
 exact (cW (hh z hz).1 hab).1
theorem LH {m y : Mem} {n : Nat} {t : Int} (hC : aK m) (hy : aK y) (hl : y.heads.length=m.heads.length) (h : Kin m y) {hs : List Mem} (hh : IX n t hs) (hm : m∈hs) (hcl : LQ m hs) : LQ y (y :: hs):=fun c hc h0=>by
 rcases IU hC hy hl h hm hc with hc | ⟨B,hB,e,hno⟩
 ·have hc0:=Io hh hc
  cases h with
  | same hn _ _ =>
   rw [hn] at h0 ⊢
   exact (hcl c hc h0).more y
  | lnk a B a0 a1 hB hi hf hbk hc' ho hj hk hn =>
   by_cases e : c=a
   ·subst e
    rw [hn] at h0 ⊢
    exact ⟨m,by simp [hm],B,hB,Lq hC hB h0⟩
   ·have : nxt y c=nxt m c:=by unfold nxt;rw [hj c hc0 e]
    rw [this] at h0 ⊢
    exact (hcl c hc h0).more y
  | cutt a B l1 l3 hB e hc' ho hk hn =>
   rcases hn with hn | ⟨k,p,e1,h1,h2⟩
   ·rw [hn] at h0 ⊢
    exact (hcl c hc h0).more y
   ·by_cases ep : c=p
    ·subst ep
     rw [h1] at h0 ⊢
     exact ⟨m,by simp [hm],B,hB,Kf hC hB (by rw [e];simp) h0⟩
    ·rw [h2 c hc0 ep] at h0 ⊢
     exact (hcl c hc h0).more y
 ·have hcin : c∈chL y B:=by rw [e];simp
  exact ⟨y,by simp,B,by omega,Kf hy (by omega) hcin h0⟩
def JQ (m : Mem) (hs : List Mem) : Prop:=∀ a,Seen hs a→(msl m a.toNat).inn=true→∃ z∈hs,bu m a∈aq z
theorem Ie {y : Mem} {b : Nat} (hb : b < y.heads.length) {a : Int} (ha : a∈chL y b) : bu y a∈aq y:=qv.2 ⟨b,hb,a,ha,rfl⟩
theorem LG {m y : Mem} {n : Nat} {t : Int} (hC : aK m) (hy : aK y) (hl : y.heads.length=m.heads.length) (h : Kin m y) {hs : List Mem} (hh : IX n t hs) (hm : m∈hs) (hw : JQ m hs) : JQ y (y :: hs):=fun a ha hi=>by
 rcases IU hC hy hl h hm ha with ha | ⟨B,hB,e,_⟩
 ·have ha0:=Io hh ha
  have old : (msl m a.toNat).inn=true→bu y a=bu m a→∃ z∈y :: hs,bu y a∈aq z:=fun h1 h2=>by
   obtain ⟨z,hz,hf⟩:=hw a ha h1
   exact ⟨z,by simp [hz],by rw [h2];exact hf⟩
  cases h with
  | same _ _ hk=>exact old (hk a ha0 hi).1 (hk a ha0 hi).2
  | lnk c B a0 a1 hB hi' hf hbk hc' ho hj hk hn =>
   by_cases e : a=c
   ·subst e
    exact ⟨y,by simp,Ie (b:=B) (by omega) (by rw [hc'];simp)⟩
   ·have:=hj a ha0 e
    exact old (by rw [← this];exact hi) (by unfold bu;rw [this])
  | cutt c B l1 l3 hB e hc' ho hk hn=>exact old (by rw [← (hk a).1];exact hi) (hk a).2
 ·exact ⟨y,by simp,Ie (b:=B) (by omega) (by rw [e];simp)⟩
theorem HN {m y : Mem} {a : Int} (h : bu y a=bu m a) : kys y a=kys m a:=congrArg cI.k h
def M9 (B : Nat) (K : Key) (m : Mem) (hs : List Mem) : Prop:=Kx B K hs∨∀ a,Seen hs a→(msl m a.toNat).inn=true→kys m a=K→a∈chL m B
theorem JP {m : Mem} (hC : aK m) {b : Nat} (hb : b < m.heads.length) {a : Int} (ha : a∈chL m b) {B : Nat} (hk : bk m (kys m a)=B) : b=B:=by
 have:=((hC.ch hb).ok a ha).bk
 omega
theorem Mx {m y : Mem} {n : Nat} {t : Int} {B : Nat} {K : Key} (hC : aK m) (hy : aK y) (hl : y.heads.length=m.heads.length) (hBl : B < m.heads.length) (hbk : bk m K=B) (h : Kin m y) {hs : List Mem} (hh : IX n t hs) (hm : m∈hs) (hw : M9 B K m hs) : M9 B K y (y :: hs):=by
 rcases hw with hw | hw
 ·exact .inl (hw.more y)
 have hbk' : bk y K=B:=by unfold bk at hbk ⊢;rw [hl];exact hbk
 have new : ∀ {B' : Nat} {a : Int},B' < m.heads.length→chL y B'=a :: chL m B'→kys y a=K→a∈chL y B:=fun {B'} {a} hB' e hk=>by
  have hin : a∈chL y B':=by rw [e];simp
  have eb : B'=B:=JP (m:=y) (B:=B) hy (by omega) hin (by rw [hk];exact hbk')
  rw [← eb]
  exact hin
 cases h with
 | same hn hc hk =>
  refine .inr fun a ha hi hk'=>?_
  rcases IU hC hy hl (Kin.same hn hc hk) hm ha with ha | ⟨B',hB',e,_⟩
  ·obtain ⟨h1,h2⟩:=hk a (Io hh ha) hi
   rw [hc B hBl]
   exact hw a ha h1 (by rw [← HN h2];exact hk')
  ·exact new hB' e hk'
 | lnk c B' a0 a1 hB' hi' hf hbk' hc' ho hj hk hn =>
  refine .inr fun a ha hi hk'=>?_
  by_cases e : a=c
  ·subst e;exact new hB' hc' hk'
  rcases IU hC hy hl (Kin.lnk c B' a0 a1 hB' hi' hf hbk' hc' ho hj hk hn) hm ha with ha | ⟨B2,hB2,e2,_⟩
  ·have hsame:=hj a (Io hh ha) e
   have:=hw a ha (by rw [← hsame];exact hi) (by rw [← hk'];unfold kys;rw [hsame])
   by_cases eB : B=B'
   ·subst eB;rw [hc'];exact List.mem_cons_of_mem _ this
   ·rw [ho B hBl eB];exact this
  ·exact new hB2 e2 hk'
 | cutt c B' l1 l3 hB' e hc' ho hk hn =>
  by_cases ek : kys m c=K
  ·refine .inl ⟨y,by simp,fun a ha hk'=>?_⟩
   have hcin : c∈chL m B':=by rw [e];simp
   have : B'=B:=JP hC hB' hcin (by rw [ek];exact hbk)
   subst this
   have hnd:=(hC.ch hB').nd
   rw [hc'] at ha
   have hka : kys m a=kys m c:=by rw [ek,← hk'];exact (HN (hk a).2).symm
   have hain : a∈chL m B':=by
    rw [e]
    rcases List.mem_append.1 ha with h | h
    ·exact List.mem_append_left _ h
    ·exact List.mem_append_right _ (List.mem_cons_of_mem _ h)
   have hac:=fw hnd hain hcin hka
   subst hac
   have hndl:=(hC.ch hB').ndl
   rw [e] at hndl
   rcases List.mem_append.1 ha with h | h
   ·exact (List.nodup_append.1 hndl).2.2 a h a (by simp) rfl
   ·exact (List.nodup_cons.1 (List.nodup_append.1 hndl).2.1).1 h
  ·refine .inr fun a ha hi hk'=>?_
   rcases IU hC hy hl (Kin.cutt c B' l1 l3 hB' e hc' ho hk hn) hm ha with ha | ⟨B2,hB2,e2,_⟩
   ·have hka : kys m a=K:=by rw [← hk'];exact (HN (hk a).2).symm
    have:=hw a ha (by rw [← (hk a).1];exact hi) hka
    by_cases eB : B=B'
    ·subst eB
     rw [hc']
     rw [e] at this
     rcases List.mem_append.1 this with h | h
     ·exact List.mem_append_left _ h
     ·rcases List.mem_cons.1 h with h | h
      ·subst h;exact absurd hka ek
      ·exact List.mem_append_right _ h
    ·rw [ho B hBl eB];exact this
   ·exact new hB2 e2 hk'
def Mf (B : Nat) (K : Key) (m : Mem) (n : Int) : Prop:=∀ a∈chL m B,kys m a=K→∀ l e,Path m n l e→a∈l∨e≠-1 - (B : Int)
def Md (B : Nat) (K : Key) (m : Mem) (n : Int) : Prop:=∀ a∈chL m B,kys m a=K→a≠n - 1
theorem L5 {m y : Mem} {B : Nat} {K : Key} (hC : aK m) (hl : y.heads.length=m.heads.length) (hBl : B < m.heads.length) (hbk : bk m K=B) (hy : aK y) (h : Kin m y) : Unm B K m∨∀ a∈chL y B,kys y a=K→a∈chL m B∧kys m a=K:=by
 cases h with
 | same hn hc hk =>
  refine .inr fun a ha hk'=>?_
  have ha':=ha
  rw [hc B hBl] at ha
  have hlen : B < y.heads.length:=by omega
  have hi:=((hy.ch hlen).ok a ha').inn
  exact ⟨ha,by rw [← HN (hk a (cW hC ha).1 hi).2];exact hk'⟩
 | lnk c B' a0 a1 hB' hi' hf hbk' hc' ho hj hk hn =>
  by_cases eB : B=B'
  ·subst eB
   by_cases ek : kys m c=K
   ·exact .inl fun a ha=>by rw [← ek];exact hf a ha
   ·refine .inr fun a ha hk'=>?_
    rw [hc'] at ha
    rcases List.mem_cons.1 ha with rfl | ha
    ·rw [HN hk] at hk';exact absurd hk' ek
    ·have : a≠c:=fun e=>hf c (by rw [← e];exact ha) rfl
     refine ⟨ha,?_⟩
     have h2:=hj a (cW hC ha).1 this
     rw [← hk'];unfold kys;rw [h2]
  ·refine .inr fun a ha hk'=>?_
   rw [ho B hBl eB] at ha
   have : a≠c:=fun e=>by
    have:=((hC.ch hBl).ok a ha).inn
    rw [e,hi'] at this;cases this
   have h2:=hj a (cW hC ha).1 this
   exact ⟨ha,by rw [← hk'];unfold kys;rw [h2]⟩
 | cutt c B' l1 l3 hB' e hc' ho hk hn =>
  refine .inr fun a ha hk'=>⟨?_,by rw [← hk'];exact (HN (hk a).2).symm⟩
  by_cases eB : B=B'
  ·subst eB
   rw [hc'] at ha
   rw [e]
   rcases List.mem_append.1 ha with h | h
   ·exact List.mem_append_left _ h
   ·exact List.mem_append_right _ (List.mem_cons_of_mem _ h)
  ·rw [ho B hBl eB] at ha;exact ha
theorem Jb {m : Mem} (p : Int) : ∀ {l : List Int} {n e : Int},Path m n l e→p ∉ l∨∃ l1 l2,l=l1 ++ p :: l2∧p ∉ l1∧Seg m n l1 (p + 1)∧Path m (nxt m p) l2 e
 | [],_,_,_=>.inl (by simp)
 | a :: l,n,e,h=>by
  by_cases ea : a=p
  ·subst ea
   exact .inr ⟨[],l,rfl,by simp,h.1,h.2.2⟩
  ·rcases Jb p h.2.2 with h1 | ⟨l1,l2,e1,h1,h2,h3⟩
   ·exact .inl (by simp [h1,Ne.symm ea])
   ·exact .inr ⟨a :: l1,l2,by rw [e1];rfl,by simp [h1,Ne.symm ea],⟨h.1,h.2.1,h2⟩,h3⟩
theorem Kc {m : Mem} : ∀ {l : List Int} {n e : Int},Path m n l e→∀ a∈l,0≤a
 | [],_,_,_,_,h=>by cases h
 | b :: l,n,e,h,a,ha=>by
  rcases List.mem_cons.1 ha with rfl | ha
  ·have:=h.1;have:=h.2.1;omega
  ·exact Kc h.2.2 a ha
theorem LV {m : Mem} : ∀ {l : List Int} {n e : Int},Seg m n l e→∀ a∈l,0≤a
 | [],_,_,_,_,h=>by cases h
 | b :: l,n,e,h,a,ha=>by
  rcases List.mem_cons.1 ha with rfl | ha
  ·have:=h.1;have:=h.2.1;omega
  ·exact LV h.2.2 a ha
theorem Mz {m y : Mem} {B : Nat} {K : Key} (hC : aK m) (hy : aK y) (hl : y.heads.length=m.heads.length) (hBl : B < m.heads.length) (hbk : bk m K=B) (h : Kin m y) {n : Int} (ha : Mf B K m n) : Unm B K m∨Mf B K y n:=by
 rcases L5 hC hl hBl hbk hy h with h0 | h0
 ·exact .inl h0
 refine .inr fun a hin hk l e hp=>?_
 obtain ⟨hin',hk'⟩:=h0 a hin hk
 cases h with
 | same hn hc _=>exact ha a hin' hk' l e (hp.congr fun c _=>(hn c).symm)
 | lnk c B' a0 a1 hB' hi' hf hbk' hc' ho hj hk2 hn =>
  have hnx : ∀ d : Int,0≤d→d≠c→nxt m d=nxt y d:=fun d d0 hne=>by unfold nxt;rw [hj d d0 hne]
  rcases Jb c hp with h1 | ⟨l1,l2,e1,h1,h2,h3⟩
  ·exact ha a hin' hk' l e (hp.congr fun d hd=>hnx d (Kc hp d hd) fun e=>h1 (e ▸ hd))
  ·have hna : c ∉ chL m B':=fun hx=>hf c hx rfl
   have hpc : Path y (aO m B') (chL m B') (-1 - B'):=(br.1 (hC.ch hB').of).1.congr fun d hd=>(hnx d (cW hC hd).1 fun e=>hna (e ▸ hd)).symm
   rw [hn] at h3
   obtain ⟨q1,q2⟩:=IP h3 hpc
   by_cases eB : B=B'
   ·subst eB
    exact .inl (by rw [e1,q1];simp [hin'])
   ·exact .inr (by omega)
 | cutt c B' l1 l3 hB' ec hc' ho hk2 hn =>
  rcases hn with hn | ⟨k,p,ek,hp1,hp2⟩
  ·exact ha a hin' hk' l e (hp.congr fun d _=>(hn d).symm)
  ·rcases Jb p hp with h1 | ⟨s1,s2,e1,h1,h2,h3⟩
   ·exact ha a hin' hk' l e (hp.congr fun d hd=>(hp2 d (Kc hp d hd) fun e=>h1 (e ▸ hd)).symm)
   ·
    have hpy:=(br.1 (hy.ch (show B' < y.heads.length by omega)).of).1
    rw [hc',ek,List.append_assoc] at hpy
    obtain ⟨q,_,hq⟩:=eE.1 hpy
    have hq : Path y q (p :: l3) (-1 - B'):=hq
    obtain ⟨q1,q2⟩:=IP h3 hq.2.2
    by_cases eB : B=B'
    ·subst eB
     have hpm:=(br.1 (hC.ch hB').of).1
     rw [ec,ek,List.append_assoc] at hpm
     obtain ⟨q',_,hq'⟩:=eE.1 hpm
     have hq' : Path m q' (p :: c :: l3) (-1 - B):=hq'
     have hseg : Seg m n s1 (p + 1):=h2.congr fun d hd=>(hp2 d (LV h2 d hd) fun e=>h1 (e ▸ hd)).symm
     have hpath : Path m n (s1 ++ p :: c :: l3) (-1 - B):=eE.2 ⟨p + 1,hseg,by rw [← hq'.1];exact hq'⟩
     rcases ha a hin' hk' _ _ hpath with h | h
     ·have hac : a≠c:=fun e=>by
       subst e
       have hndl:=(hC.ch hB').ndl
       rw [ec] at hndl
       rw [hc'] at hin
       rcases List.mem_append.1 hin with h | h
       ·exact (List.nodup_append.1 hndl).2.2 a h a (by simp) rfl
       ·exact (List.nodup_cons.1 (List.nodup_append.1 hndl).2.1).1 h
      refine .inl ?_
      rw [e1,q1]
      simp only [List.mem_append,List.mem_cons] at h ⊢
      rcases h with h | h | h | h
      ·exact .inl h
      ·exact .inr (.inl h)
      ·exact absurd h hac
      ·exact .inr (.inr h)
     ·exact absurd rfl h
    ·exact .inr (by omega)
theorem My {m y : Mem} {B : Nat} {K : Key} (hC : aK m) (hy : aK y) (hl : y.heads.length=m.heads.length) (hBl : B < m.heads.length) (hbk : bk m K=B) (h : Kin m y) {n : Int} (ha : Md B K m n) : Unm B K m∨Md B K y n:=by
 rcases L5 hC hl hBl hbk hy h with h0 | h0
 ·exact .inl h0
 ·exact .inr fun a hin hk=>ha a (h0 a hin hk).1 (h0 a hin hk).2
end Go.Proofs.Ytpmamacjepcdmaa

namespace Go.Proofs.Ytpmamacjepcdmaa
open Go Go.Sy Go.RowKit
set_option linter.unusedSimpArgs false
set_option linter.unusedVariables false
end Go.Proofs.Ytpmamacjepcdmaa

namespace Go.Proofs.Ytpmamacjepcdmaa
open Go Go.Sy Go.RowKit
set_option linter.unusedSimpArgs false
set_option linter.unusedVariables false
end Go.Proofs.Ytpmamacjepcdmaa
