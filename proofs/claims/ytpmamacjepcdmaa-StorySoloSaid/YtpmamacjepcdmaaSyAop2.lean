import Derived.Test.YtpmamacjepcdmaaSyOps
import Derived.Laws.Cover3
import Derived.Deep.Upon
namespace Go.Sy
open Go.RowKit
theorem cK (b : Nat) : ∀ (vs : List Value) (o : Nat) (w : World),cd (fun k i=>k=b∧o≤i∧i < o + vs.length) w (w.setCells b o vs)
 | [],o,w=>cd.refl _ w
 | v :: vs,o,w=>by
  have h1 : cd (fun k i=>k=b∧i=o) w (w.setCell ⟨b,o,none⟩ v):=by
   refine ⟨rfl,rfl,rfl,by simp,fun k ob hk=>?_⟩
   by_cases hb : k=b
   ·subst hb
    cases ob with
    | cells c e f =>
     refine ⟨.cells (c.setIfInBounds o v) e f,by simp [World.setCell,Array.getElem?_modify,hk],c.setIfInBounds o v,rfl,by simp,fun i hi=>?_⟩
     rw [Array.getElem?_setIfInBounds_ne (fun h=>hi ⟨rfl,h.symm⟩)]
    | _=>exact ⟨_,by simp [World.setCell,Array.getElem?_modify,hk],rfl⟩
   ·exact ⟨ob,(Below.heap_setCell _ _ _ _ hb).trans hk,fE.refl _ _⟩
  have h2:=cK b vs (o + 1) (w.setCell ⟨b,o,none⟩ v)
  rw [World.setCells]
  refine (h1.trans h2).mono fun k i _ h=>?_
  simp only [List.length_cons]
  rcases h with ⟨rfl,rfl⟩ | ⟨rfl,h3,h4⟩
  ·exact ⟨rfl,by omega,by omega⟩
  ·exact ⟨rfl,by omega,by omega⟩
section
variable {B : cT} {E : Env} {p : Pl} {g : Gm} {h : Hp} {w w' : World} {Mc : Nat→Nat→Prop}
theorem mS.own {r : Nat} {cs : List SC} (R : mS B E p g r cs w) {b q : Nat} (e : p.reg r=some (b,q)) : p.ow b=.reg r:=by
 obtain ⟨b',q1,e1,e2,_⟩:=R.ex
 rw [e] at e1;cases e1;exact e2
theorem bq.yL {o : Ow} (H : bq B E p g h w) (T : cd Mc w w') (hz : o≠.z) (hM : ∀ k i,k < w.heap.size→Mc k i→p.ow k=o∧B.wr k i) {h' : Hp}
  (hreg : ∀ r cs,nth h'.regs r=some (.here cs)→(o≠.reg r∧nth h.regs r=some (.here cs))∨mS B E p g r cs w') (hrf : ∀ r,nth h'.regs r=none∨nth h'.regs r=some .fr→p.reg r=none)
  (harr : ∀ a A,nth h'.arrs a=some (.here A)→(¬ o.ofA a∧nth h.arrs a=some (.here A))∨nA B E p g a A w') (haf : ∀ a,nth h'.arrs a=none∨nth h'.arrs a=some .fr→p.arr a=none) (hmp : h'.mps=h.mps:=by rfl) : bq B E p g h' w':=by
 refine ⟨H.sc T fun k i hk hm=>(hM k i hk hm).2,H.g0,H.g1,fun k i v hk=>⟨H.K5 T (fun k i hk hm=>by rw [(hM k i hk hm).1];exact hz) hk,(H.gg k i v hk).2⟩,fun r cs hr=>?_,hrf,fun a A ha=>?_,haf,by rw [hmp];exact H.mm.fa T,fun k a h=>Nat.lt_of_lt_of_le (H.nz k a h) T.size⟩
 ·rcases hreg r cs hr with ⟨h1,h2⟩ | h1
  ·have R:=H.reg r cs h2
   refine R.cU T (fun b q i e hi hm=>?_) (Pl.Le.refl _) (Gm.Le.refl _) fun b q e=>R.own e
   have hlt : b < w.heap.size:=by obtain ⟨b',q',e1,_,e3,_⟩:=R.ex;rw [e] at e1;cases e1;exact e3
   exact h1 ((hM _ _ hlt hm).1.symm.trans (R.own e))
  ·exact h1
 ·rcases harr a A ha with ⟨h1,h2⟩ | h1
  ·exact (H.arr a A h2).cU T (fun b i hlt ho hm=>h1 (by rw [← (hM _ _ hlt hm).1];exact ho)) (Pl.Le.refl _) (Gm.Le.refl _) fun _ _ _=>rfl
  ·exact h1
theorem xO {α : Type} {l : List α} {i : Nat} (h : i < l.length) : nth l i=some l[i]:=by rw [aW];exact List.getElem?_eq_getElem h
theorem ji {α : Type} {l : List (Pc α)} {a : Nat} {x : α} {r : Nat} (h : nth (bl l a (.here x)) r=none∨nth (bl l a (.here x)) r=some .fr) : nth l r=none∨nth l r=some .fr:=by
 rw [aS] at h
 split at h
 ·rename_i e
  subst e
  split at h
  ·rcases h with h | h <;> cases h
  ·rename_i hl
   exact .inl (dt (by omega))
 ·exact h
theorem wo {α : Type} {l : List (Pc α)} {a : Nat} {r : Nat} (h : nth (bl l a .go) r=none∨nth (bl l a .go) r=some .fr) : nth l r=none∨nth l r=some .fr:=by
 rw [aS] at h
 split at h
 ·rename_i e
  subst e
  split at h
  ·rcases h with h | h <;> cases h
  ·rename_i hl
   exact .inl (dt (by omega))
 ·exact h
theorem bq.CN (H : bq B E p g h w) {r o : Nat} {cs m : List SC} {vs : List Value} (hr : nth h.regs r=some (.here cs)) (hle : o + m.length≤cs.length) (hv : aE (SC.is E p g) m vs) {b q : Nat} (hp : p.reg r=some (b,q)) :
  bq B E p g { h with regs:=bl h.regs r (.here (cq cs o m))} (w.setCells b (q + o) vs):=by
 have R:=H.reg r cs hr
 have hrl:=cn hr
 have hvl:=hv.length
 have T:=cK b vs (q + o) w
 have hcell : ∀ i c,nth cs i=some c→B.wr b (q + i)∧w.frozen? ⟨b,q + i,none⟩=false∧∃ v,w.cell? ⟨b,q + i,none⟩=some v∧c.is E p g v:=fun i c hc=>by
  obtain ⟨b',q',e1,_,_,e4⟩:=R.ex
  rw [hp] at e1;cases e1;exact e4 i c hc
 have hlt : b < w.heap.size:=by obtain ⟨b',q',e1,_,e3,_⟩:=R.ex;rw [hp] at e1;cases e1;exact e3
 refine H.yL T (o:=.reg r) (by simp) (fun k i _ ⟨e,h1,h2⟩=>?_) (fun s cs' hs=>?_) (fun s hs=>H.rfree s (ji hs)) (fun a A ha=>.inl ⟨fun h=>h,ha⟩) H.afree
 ·subst e
  obtain ⟨c,hc⟩:=cH (l:=cs) (i:=i - q) (by omega)
  have:=(hcell _ c hc).1
  rw [show q + (i - q)=i from by omega] at this
  exact ⟨R.own hp,this⟩
 ·rw [aS] at hs
  split at hs
  ·rename_i e
   subst e
   simp only [Option.some.injEq,Pc.here.injEq] at hs
   subst hs
   right
   refine ⟨b,q,hp,R.own hp,Nat.lt_of_lt_of_le hlt T.size,fun i c hi=>?_⟩
   have hil:=cn hi
   rw [gq] at hil
   obtain ⟨c0,hc0⟩:=cH hil
   obtain ⟨k1,k2,v0,k3,k4⟩:=hcell i c0 hc0
   refine ⟨k1,(T.frozen hlt _).trans k2,?_⟩
   rw [IS m cs o i hle] at hi
   split at hi
   ·rename_i hin
    obtain ⟨v,hv1,hc⟩:=hv.nth hi
    have hj : i - o < vs.length:=cn hv1
    refine ⟨v,?_,hc⟩
    have:=World.cell?_setCells_in b vs (q + o) w (fun j hj=>by
     obtain ⟨c1,hc1⟩:=cH (l:=cs) (i:=o + j) (by omega)
     obtain ⟨_,_,v1,h1,_⟩:=hcell (o + j) c1 hc1
     rw [Nat.add_assoc,h1];rfl) (i - o) hj
    rw [xO hj] at hv1
    cases hv1
    rw [show q + i=q + o + (i - o) from by omega]
    exact this
   ·rename_i hout
    rw [hi] at hc0
    cases hc0
    refine ⟨v0,?_,k4⟩
    rw [World.cell?_setCells_out]
    ·exact k3
    ·intro _ _
     simp only
     omega
  ·rename_i e
   left
   exact ⟨fun e2=>e (by cases e2;rfl),hs⟩
theorem dG {n i j k : Nat} (hj : j < n) (hi : i < k) : i * n + j < k * n:=by
 have : (i + 1) * n≤k * n:=Nat.mul_le_mul_right _ hi
 rw [Nat.add_mul] at this
 omega
theorem A8 {n i j i' j' : Nat} (hj : j < n) (hj' : j' < n) (h : i * n + j=i' * n + j') : i=i'∧j=j':=by
 have h1 : (i * n + j) / n=i:=by rw [Nat.mul_comm,Nat.mul_add_div (by omega),Nat.div_eq_of_lt hj];omega
 have h2 : (i' * n + j') / n=i':=by rw [Nat.mul_comm,Nat.mul_add_div (by omega),Nat.div_eq_of_lt hj'];omega
 have : i=i':=by rw [← h1,← h2,h]
 subst this
 exact ⟨rfl,by omega⟩
theorem gf (b : Nat) {e : TypeId} {fr : Nat × Nat} : ∀ (vs : List Value) (o : Nat) (w : World) (cur : Array Value),w.heap[b]?=some (.cells cur e fr)→o + vs.length≤cur.size →
  ∃ cur',(w.setCells b o vs).heap[b]?=some (.cells cur' e fr)∧cur'.size=cur.size∧∀ i,cur'[i]?=if o≤i∧i < o + vs.length then vs[i - o]? else cur[i]?
 | [],o,_,cur,h,_=>⟨cur,h,rfl,fun i=>by rw [if_neg (by simp only [List.length_nil];omega)]⟩
 | v :: r,o,w,cur,h,hl=>by
  simp only [List.length_cons] at hl ⊢
  have h1 : (w.setCell ⟨b,o,none⟩ v).heap[b]?=some (.cells (cur.setIfInBounds o v) e fr):=by simp [World.setCell,Array.getElem?_modify,h]
  obtain ⟨cur',h2,h3,h4⟩:=gf b r (o + 1) _ _ h1 (by simp;omega)
  refine ⟨cur',h2,h3.trans (by simp),fun i=>?_⟩
  rw [h4 i]
  by_cases h5 : o + 1≤i∧i < o + 1 + r.length
  ·rw [if_pos h5,if_pos (by omega),show i - o=i - (o + 1) + 1 from by omega,List.getElem?_cons_succ]
  ·rw [if_neg h5]
   by_cases h6 : i=o
   ·subst h6
    rw [if_pos (by omega)]
    simp [show i < cur.size by omega]
   ·rw [if_neg (by omega),Array.getElem?_setIfInBounds_ne (Ne.symm h6)]
theorem bq.CO (H : bq B E p g h w) {a o : Nat} {A : Ar} {i : X} {ds : List X} {cs : List SC} {vs : List Value} (ha : nth h.arrs a=some (.here A)) {n : Nat} (hi : i.den E=.i n) (hin : n < (A.x.den E).rows.length)
  {kd : List Kd} (hkd : kd=(A.K.kd.drop o).take ds.length) (hds : cj kd cs=some ds) (hle : o + ds.length≤A.K.kd.length) (hv : aE (SC.is E p g) cs vs) :
  ∃ b c,p.arr a=some (some ⟨b,0,none⟩,c)∧(∀ j,j < vs.length→(w.cell? ⟨b,n * A.K.kd.length + o + j,none⟩).isSome=true)∧(∀ j,j < vs.length→w.frozen? ⟨b,n * A.K.kd.length + o + j,none⟩=false) ∧
   bq B E p g { h with arrs:=bl h.arrs a (.here { A with x:=setCells A.x i o ds})} (w.setCells b (n * A.K.kd.length + o) vs):=by
 obtain ⟨ad,cap,rows,e1,e2,e3,e4,e5,e6,e7,e8⟩:=(H.arr a A ha).ex
 rw [e2] at hin
 have hin : n < rows.length:=hin
 obtain ⟨b,cur,k1,k2,k3,k4,k5,k6⟩:=e8 (by omega)
 subst k1
 obtain ⟨d1,d2,d3⟩:=fI hds hv
 have hvl:=hv.length
 have hkl : kd.length=ds.length:=by rw [hkd];simp;omega
 have hvn : vs.length=ds.length:=by omega
 have hcap : n < cap:=by omega
 have hfl : ∀ j,j < vs.length→n * A.K.kd.length + o + j < cur.size:=fun j hj=>by
  rw [k4]
  have:=dG (n:=A.K.kd.length) (i:=n) (j:=o + j) (k:=cap) (by omega) hcap
  omega
 refine ⟨b,cap,e1,fun j hj=>?_,fun j _=>by simp only [World.frozen?,k3];simp,?_⟩
 ·simp [World.cell?,k3,hfl j hj]
 ·have T:=cK b vs (n * A.K.kd.length + o) w
  have hal:=cn ha
  refine H.yL T (o:=.arr a) (by simp) (fun k i' _ ⟨e,h1,h2⟩=>?_) (fun r cs' hr=>.inl ⟨by simp,hr⟩) H.rfree (fun a' A' h2=>?_) (fun s hs=>H.afree s (ji hs))
  ·subst e
   refine ⟨k2,k5 i' ?_⟩
   have:=hfl (i' - (n * A.K.kd.length + o)) (by omega)
   omega
  ·rw [aS] at h2
   split at h2
   ·rename_i e
    subst e
    simp only [Option.some.injEq,Pc.here.injEq] at h2
    subst h2
    right
    have hden:=kG (E:=E) (i:=i) ds A.x o e2
    have hni : (i.den E).int.toNat=n:=by rw [hi];simp
    rw [hni] at hden
    obtain ⟨cur',c1,c2,c3⟩:=gf b vs (n * A.K.kd.length + o) w cur k3 (by
     rcases Nat.eq_zero_or_pos vs.length with h0 | h0
     ·rw [h0,k4]
      have:=dG (n:=A.K.kd.length) (i:=n) (j:=0) (k:=cap) e6 hcap
      have h9 : (n + 1) * A.K.kd.length≤cap * A.K.kd.length:=Nat.mul_le_mul_right _ hcap
      rw [Nat.add_mul] at h9
      omega
     ·have:=hfl (vs.length - 1) (by omega);omega)
    refine ⟨⟨some ⟨b,0,none⟩,cap,_,e1,hden,by simpa using e3,e4,by simpa using e5,e6,e7,fun _=>⟨b,cur',rfl,k2,c1,c2.trans k4,fun i' h'=>k5 i' (by omega),fun i' row hrow=>?_⟩⟩,fun j ee b1 c' rows1 f1 f2 f3 i1 row v f4 f5=>?_⟩
    rotate_left
    ·have f1 : A.K.kd[j]?=some (.os ee):=f1
     have f2 : p.arr a=some (some ⟨b1,0,none⟩,c'):=f2
     rw [e1] at f2
     cases f2
     have f3 : (setCells A.x i o ds).den E=.l rows1:=f3
     rw [hden] at f3
     cases f3
     have hj:=(List.getElem?_eq_some_iff.1 f1).1
     rw [List.getElem?_modify] at f4
     cases h0 : rows[i1]? with
     | none=>rw [h0] at f4;simp at f4
     | some row0 =>
      rw [h0] at f4
      simp only [Option.map_eq_map,Option.map_some,Option.some.injEq] at f4
      have hl0:=(k6 i1 row0 h0).length
      have f5 : (w.setCells b (n * A.K.kd.length + o) vs).cell? ⟨b,i1 * A.K.kd.length + j,none⟩=some v:=f5
      have f6 : cur'[i1 * A.K.kd.length + j]?=some v:=by simpa [World.cell?,c1] using f5
      rw [c3] at f6
      have old : cur[i1 * A.K.kd.length + j]?=some v→row.getD j .u=row0.getD j .u→jG B p g a i1 j ee (w.setCells b (n * A.K.kd.length + o) vs) v (row.getD j .u):=fun g1 g2=>by
       rw [g2]
       refine ((H.arr a A ha).ns j ee b cap rows f1 e1 e2 i1 row0 v h0 (by simp [World.cell?,k3,g1])).cU T (fun b2 i2 _ hw hm=>?_) (Pl.Le.refl _) (Gm.Le.refl _) fun _ _ h=>h
       rw [hm.1,k2] at hw;cases hw
      by_cases hn : n=i1
      ·subst hn
       rw [if_pos rfl] at f4
       by_cases h3 : o≤j∧j < o + ds.length
       ·rw [if_pos (by omega),show n * A.K.kd.length + j - (n * A.K.kd.length + o)=j - o from by omega] at f6
        have hk2 : kd[j - o]?=some (.os ee):=by
         rw [hkd,List.getElem?_take,if_pos (by omega),List.getElem?_drop,show o + (j - o)=j from by omega];exact f1
        obtain ⟨x,hx⟩ : ∃ x,ds[j - o]?=some x:=⟨_,List.getElem?_eq_getElem (by omega)⟩
        have hs:=iH hds hv (j - o) ee v x hk2 f6 hx
        have : row.getD j .u=x.den E:=by
         rw [← f4,List.getD_eq_getElem?_getD,gx _ _ _ _ (by simp;omega),if_pos (by simpa using h3),List.getElem?_map,hx];rfl
        rw [this]
        exact hs.cell
       ·rw [if_neg (by omega)] at f6
        refine old f6 ?_
        rw [← f4,List.getD_eq_getElem?_getD,gx _ _ _ _ (by simp;omega),if_neg (by simpa using h3),← List.getD_eq_getElem?_getD]
      ·rw [if_neg hn] at f4
       rw [if_neg] at f6
       ·exact old f6 (by rw [f4])
       ·intro hcon
        have h5 : i1 * A.K.kd.length + j=n * A.K.kd.length + (o + (i1 * A.K.kd.length + j - (n * A.K.kd.length + o))):=by omega
        exact hn (A8 hj (by omega) h5).1.symm
    rw [List.getElem?_modify] at hrow
    cases h0 : rows[i']? with
    | none=>rw [h0] at hrow;simp at hrow
    | some row0 =>
     rw [h0] at hrow
     simp only [Option.map_eq_map,Option.map_some,Option.some.injEq] at hrow
     have R0:=k6 i' row0 h0
     have hl0:=R0.length
     by_cases hn : n=i'
     ·subst hn
      rw [if_pos rfl] at hrow
      subst hrow
      refine aJ.of (by rw [nJ];exact hl0) fun j k hk=>?_
      have hj:=(List.getElem?_eq_some_iff.1 hk).1
      simp only [c3,List.getD_eq_getElem?_getD]
      rw [gx _ _ _ _ (by simp;omega)]
      simp only [List.length_map]
      by_cases h3 : o≤j∧j < o + ds.length
      ·have hk2 : kd[j - o]?=some k:=by
        rw [hkd,List.getElem?_take,if_pos (by omega),List.getElem?_drop,show o + (j - o)=j from by omega];exact hk
       obtain ⟨v,x,g1,g2,g3⟩:=d3 (j - o) k hk2
       refine ⟨v,?_,?_⟩
       ·rw [if_pos (by omega),show n * A.K.kd.length + j - (n * A.K.kd.length + o)=j - o from by omega];exact g1
       ·rw [if_pos h3];simpa [g2] using g3
      ·obtain ⟨v,g1,g2⟩:=R0.cell hk
       refine ⟨v,?_,?_⟩
       ·rw [if_neg (by omega)];exact g1
       ·rw [if_neg h3];simpa [List.getD_eq_getElem?_getD] using g2
     ·rw [if_neg hn] at hrow
      subst hrow
      refine aJ.of hl0 fun j k hk=>?_
      have hj : j < A.K.kd.length:=(List.getElem?_eq_some_iff.1 hk).1
      obtain ⟨v,g1,g2⟩:=R0.cell hk
      refine ⟨v,?_,g2⟩
      dsimp only
      rw [c3,if_neg]
      ·exact g1
      ·intro hcon
       have h5 : i' * A.K.kd.length + j=n * A.K.kd.length + (o + (i' * A.K.kd.length + j - (n * A.K.kd.length + o))):=by omega
       exact hn (A8 hj (by omega) h5).1.symm
   ·rename_i e
    left
    exact ⟨fun e2=>e (by cases e2;rfl),h2⟩
theorem eU {α : Type} {l : List (Pc α)} {r : Nat} {x : α} (hf : dg l r=true) (i : Nat) : nth (putAt l r x) i=if i=r then some (.here x) else nth l i:=by
 unfold putAt
 simp only [dg,Bool.or_eq_true] at hf
 split
 ·rename_i h
  have h:=Nat.eq_of_beq_eq_true h
  rw [xu]
  by_cases h1 : i < l.length
  ·rw [if_pos h1,if_neg (by omega)]
  ·rw [if_neg h1]
   by_cases h2 : i=r
   ·rw [if_pos (by omega),if_pos h2]
   ·rw [if_neg (by omega),if_neg h2,dt (by omega)]
 ·rename_i h
  rcases hf with hf | hf
  ·exact absurd hf h
  ·split at hf
   ·rename_i h2
    have:=cn h2
    rw [aS]
    by_cases h3 : i=r
    ·subst h3;simp [this]
    ·rw [if_neg (fun e=>h3 e.symm),if_neg h3]
   ·cases hf
theorem fT {α : Type} {l : List (Pc α)} {r : Nat} (hf : dg l r=true) : nth l r=none∨nth l r=some .fr:=by
 simp only [dg,Bool.or_eq_true] at hf
 rcases hf with hf | hf
 ·exact .inl (dt (by rw [Nat.eq_of_beq_eq_true hf];exact Nat.le_refl _))
 ·split at hf
  ·rename_i h;exact .inr h
  ·cases hf
def rO (E : Env) (p : Pl) (h : Hp) (q : Pl) (h' : Hp) (n : Nat) : Prop:=∀ k i,k < n→Kn E p h k i→Kn E q h' k i
theorem bq.Dp (H : bq B E p g h w) {r : Nat} (hf : dg h.regs r=true) {cs : List SC} {vs : List Value} (e : TypeId) (hv : aE (SC.is E p g) cs vs) :
  ∃ q,p.Le q∧q.reg r=some (w.heap.size,0)∧bq B E q g { h with regs:=putAt h.regs r cs} (w.alloc (.cells vs.toArray e))∧rO E p h q { h with regs:=putAt h.regs r cs} w.heap.size:=by
 have hpr:=H.rfree r (fT hf)
 let q : Pl:={ p with reg:=fun i=>if i=r then some (w.heap.size,0) else p.reg i,ow:=fun k=>if k=w.heap.size then .reg r else p.ow k}
 have hq : p.Le q:=⟨fun i x hx=>by
  show (if i=r then _ else _)=_
  rw [if_neg (fun e=>by rw [e,hpr] at hx;cases hx)];exact hx,fun _ _ h=>h,fun _ _ h=>h⟩
 have how : ∀ k,k < w.heap.size→q.ow k=p.ow k:=fun k hk=>if_neg (by omega)
 have hqr : q.reg r=some (w.heap.size,0):=if_pos rfl
 have hbel : Below w.heap.size w (w.alloc (.cells vs.toArray e)):=(Below.refl _ _).alloc (Nat.le_refl _) _
 have H1:=H.below hbel
 have T : cd (fun _ _=>False) (w.alloc (.cells vs.toArray e)) (w.alloc (.cells vs.toArray e)):=cd.refl _ _
 refine ⟨q,hq,hqr,⟨H1.fr,H1.g0,H1.g1,fun k o v hk=>⟨(H1.gg k o v hk).1,(how k (H.tH hk)).trans (H.gg k o v hk).2⟩,fun s cs' hs=>?_,fun s hs=>?_,fun a A ha=>?_,H.afree,H.mm.cU (cd.IQ (Mc:=fun _ _=>False) hbel) rfl fun a b e1 e2 e3 e4=>(how b e3).trans e2,fun k a hk=>by
  by_cases e1 : k=w.heap.size
  ·rw [show q.ow k=.reg r from if_pos e1] at hk;exact hk.elim
  ·rw [show q.ow k=p.ow k from if_neg e1] at hk
   exact H1.nz k a hk⟩,fun k i hk hkn=>?_⟩
 ·rw [eU hf] at hs
  split at hs
  ·rename_i e1
   subst e1
   cases hs
   refine ⟨w.heap.size,0,hqr,if_pos rfl,by simp,fun o c ho=>?_⟩
   obtain ⟨v,hv1,hc⟩:=hv.nth ho
   refine ⟨.inr H.fr.size,?_,v,?_,SC.is_le hq (Gm.Le.refl _) hc⟩
   ·rw [Nat.zero_add];exact World.frozen?_alloc_new _ _ _ _
   ·rw [Nat.zero_add,World.cell?_alloc_new]
    rw [aW] at hv1
    simpa using hv1
  ·rename_i hne
   refine (H1.reg s cs' hs).cU T (fun _ _ _ _ _ h=>h) hq (Gm.Le.refl _) fun b q' e1=>?_
   obtain ⟨b',q1,e2,e3,e4,_⟩:=(H.reg s cs' hs).ex
   rw [e1] at e2;cases e2
   rw [how _ e4];exact e3
 ·rw [eU hf] at hs
  split at hs
  ·rcases hs with hs | hs <;> cases hs
  ·rename_i hne
   show (if s=r then _ else _)=_
   rw [if_neg hne];exact H.rfree s hs
 ·exact (H.arr a A ha).cU (cd.IQ (Mc:=fun _ _=>False) hbel) (fun _ _ _ _ h=>h) hq (Gm.Le.refl _) fun b e1 _=>how b e1
 ·rcases hkn with h1 | ⟨s,cs',b,q',h1,h2,h3⟩ | ⟨a,A,b,c,h1,h2,h3⟩
  ·exact .inl ((how k hk).trans h1)
  ·refine .inr (.inl ⟨s,cs',b,q',?_,hq.reg _ _ h2,h3⟩)
   rw [eU hf,if_neg]
   ·exact h1
   ·rintro rfl;rw [hpr] at h2;cases h2
  ·exact .inr (.inr ⟨a,A,b,c,h1,h2,h3⟩)
theorem bq.Bc (H : bq B E p g h w) (a : Nat) : bq B E p g { h with arrs:=bl h.arrs a .go} w:=by
 refine ⟨H.fr,H.g0,H.g1,H.gg,H.reg,H.rfree,fun b A hb=>?_,fun b hb=>H.afree b (wo hb),H.mm,H.nz⟩
 rw [aS] at hb
 split at hb
 ·split at hb <;> cases hb
 ·exact H.arr b A hb
theorem bq.Ei (H : bq B E p g h w) {a : Nat} (hf : dg h.arrs a=true) {A : Ar} {ad : Option Addr} {cap : Nat} {rows : List (List CD)} (hx : A.x.den E=.l rows) (h1 : rows.length≤cap) (h2 : cap≤maxLen) (h3 : rows.length * A.K.by_≤B47)
  (h4 : 0 < A.K.kd.length) (h5 : 0 < A.K.by_) (hb : 0 < cap→∃ b cur,ad=some ⟨b,0,none⟩∧w.heap[b]?=some (.cells cur A.e (0,0))∧cur.size=cap * A.K.kd.length∧(∀ i,i < cur.size→B.wr b i) ∧
   (∀ i row,rows[i]?=some row→aJ g A.K.kd (fun j=>cur[i * A.K.kd.length + j]?) row) ∧
   (∀ r cs q,nth h.regs r=some (.here cs)→p.reg r≠some (b,q))∧(∀ a' A',nth h.arrs a'=some (.here A')→¬ (p.ow b).ofA a')∧(∀ o v,g b o≠some v))
  (hns : ∀ q : Pl,p.Le q→q.arr a=some (ad,cap)→(∀ k,(∀ b,0 < cap→ad=some ⟨b,0,none⟩→k≠b)→q.ow k=p.ow k)→NsOk B E q g a A w) :
  ∃ q,p.Le q∧q.arr a=some (ad,cap)∧bq B E q g { h with arrs:=putAt h.arrs a A} w∧(∀ k,(∀ b,0 < cap→ad=some ⟨b,0,none⟩→k≠b)→q.ow k=p.ow k):=by
 have hpa:=H.afree a (fT hf)
 let own : Nat→Prop:=fun k=>0 < cap∧ad=some ⟨k,0,none⟩
 open Classical in
 let q : Pl:={ p with arr:=fun i=>if i=a then some (ad,cap) else p.arr i,ow:=fun k=>if own k then .arr a else p.ow k}
 have hq : p.Le q:=⟨fun _ _ h=>h,fun i x hx=>by
  show (if i=a then _ else _)=_
  rw [if_neg (fun e=>by rw [e,hpa] at hx;cases hx)];exact hx,fun _ _ h=>h⟩
 have hqa : q.arr a=some (ad,cap):=if_pos rfl
 have how : ∀ k,¬ own k→q.ow k=p.ow k:=fun k hk=>if_neg hk
 have T : cd (fun _ _=>False) w w:=cd.refl _ _
 refine ⟨q,hq,hqa,⟨H.fr,H.g0,H.g1,fun k o v hk=>⟨(H.gg k o v hk).1,?_⟩,fun r cs hr=>?_,H.rfree,fun a' A' ha=>?_,fun s hs=>?_,H.mm.cU T rfl fun a' b' e1 e2 e3 e4=>(how b' fun ⟨c1,c2⟩=>by
  obtain ⟨b,cur,e,k1,_⟩:=hb c1
  rw [e] at c2;cases c2
  exact e4 _ _ _ k1).trans e2,fun k a' hk=>by
  by_cases e1 : own k
  ·obtain ⟨c1,c2⟩:=e1
   obtain ⟨b,cur,e,k1,_⟩:=hb c1
   rw [e] at c2;cases c2
   exact lt_of_block k1
  ·rw [how k e1] at hk
   exact H.nz k a' hk⟩,fun k hk=>how k fun ⟨c1,c2⟩=>hk k c1 c2 rfl⟩
 ·rw [how k fun ⟨c1,c2⟩=>?_]
  ·exact (H.gg k o v hk).2
  ·obtain ⟨b,cur,e,_,_,_,_,_,_,n3⟩:=hb c1
   rw [e] at c2;cases c2
   exact n3 o v hk
 ·refine (H.reg r cs hr).cU T (fun _ _ _ _ _ h=>h) hq (Gm.Le.refl _) fun b q' e1=>?_
  rw [how b fun ⟨c1,c2⟩=>?_]
  ·exact (H.reg r cs hr).own e1
  ·obtain ⟨b',cur,e,_,_,_,_,n1,_⟩:=hb c1
   rw [e] at c2;cases c2
   exact n1 r cs q' hr e1
 ·rw [eU hf] at ha
  split at ha
  ·rename_i e1
   subst e1
   cases ha
   refine ⟨⟨ad,cap,rows,hqa,hx,h1,h2,h3,h4,h5,fun hc=>?_⟩,hns q hq hqa fun k hk=>how k fun ⟨c1,c2⟩=>hk k c1 c2 rfl⟩
   obtain ⟨b,cur,e,m1,m2,m3,m4,_⟩:=hb hc
   exact ⟨b,cur,e,if_pos ⟨hc,e⟩,m1,m2,m3,m4⟩
  ·rename_i hne
   refine (H.arr a' A' ha).cU T (fun _ _ _ _ h=>h) hq (Gm.Le.refl _) fun b _ e3=>how b fun ⟨c1,c2⟩=>?_
   obtain ⟨b',cur,e,_,_,_,_,_,n2,_⟩:=hb c1
   rw [e] at c2;cases c2
   exact n2 a' A' ha e3
 ·rw [eU hf] at hs
  split at hs
  ·rcases hs with hs | hs <;> cases hs
  ·rename_i hne
   show (if s=a then _ else _)=_
   rw [if_neg hne];exact H.afree s hs
theorem bq.Dq (H : bq B E p g h w) {a : Nat} (hf : dg h.arrs a=true) {A : Ar} {rows : List (List CD)} {cap : Nat} {cur : Array Value} (hx : A.x.den E=.l rows) (h1 : rows.length≤cap) (h2 : cap≤maxLen) (h3 : rows.length * A.K.by_≤B47)
  (h4 : 0 < A.K.kd.length) (h5 : 0 < A.K.by_) (hs : cur.size=cap * A.K.kd.length) (hr : ∀ i row,rows[i]?=some row→aJ g A.K.kd (fun j=>cur[i * A.K.kd.length + j]?) row) (hb : Below w.heap.size w w') (hw : w'.heap[w.heap.size]?=some (.cells cur A.e (0,0)))
  (hsafe : ∀ (i j e : Nat) row v,rows[i]?=some row→A.K.kd[j]?=some (.os e)→cur[i * A.K.kd.length + j]?=some v→lK p v (row.getD j .u)) :
  ∃ q,p.Le q∧q.arr a=some (some ⟨w.heap.size,0,none⟩,cap)∧bq B E q g { h with arrs:=putAt h.arrs a A} w'∧rO E p h q { h with arrs:=putAt h.arrs a A} w.heap.size:=by
 have hside : ∃ b cur,(some ⟨w.heap.size,0,none⟩ : Option Addr)=some ⟨b,0,none⟩∧w'.heap[b]?=some (.cells cur A.e (0,0))∧cur.size=cap * A.K.kd.length∧(∀ i,i < cur.size→B.wr b i) ∧
   (∀ i row,rows[i]?=some row→aJ g A.K.kd (fun j=>cur[i * A.K.kd.length + j]?) row) ∧
   (∀ r cs q,nth h.regs r=some (.here cs)→p.reg r≠some (b,q))∧(∀ a' A',nth h.arrs a'=some (.here A')→¬ (p.ow b).ofA a')∧(∀ o v,g b o≠some v):=by
  refine ⟨w.heap.size,cur,rfl,hw,hs,fun i _=>.inr H.fr.size,hr,fun r cs q hr1 e=>?_,fun a' A' ha' e2=>?_,fun o v hg=>?_⟩
  ·obtain ⟨b,q',e1,_,e3,_⟩:=(H.reg r cs hr1).ex
   rw [e] at e1;cases e1;omega
  ·have:=H.nz _ _ e2;omega
  ·have:=H.tH hg;omega
 obtain ⟨q,k1,k2,k3,k4⟩:=(H.below hb).Ei hf (ad:=some ⟨w.heap.size,0,none⟩) hx h1 h2 h3 h4 h5 (fun _=>hside) fun q k1 k2 k3 j e b c rows' f1 f2 f3 i row v f4 f5=>by
  rw [k2] at f2;cases f2
  rw [hx] at f3;cases f3
  have f6 : cur[i * A.K.kd.length + j]?=some v:=by simpa [World.cell?,hw] using f5
  have:=hsafe i j e row v f4 f1 f6
  refine lK.cell ?_
  cases hd : row.getD j .u with
  | h s n =>
   rw [hd] at this
   obtain ⟨ad,c,g1,g2⟩:=this
   exact ⟨ad,c,k1.arr _ _ g1,g2⟩
  | _=>rw [hd] at this;exact this
 refine ⟨q,k1,k2,k3,fun k i hk hkn=>?_⟩
 rcases hkn with g1 | ⟨s,cs',b,q',g1,g2,g3⟩ | ⟨a',A',b,c,g1,g2,g3⟩
 ·exact .inl ((k4 k fun b _ e e2=>by cases e;omega).trans g1)
 ·exact .inr (.inl ⟨s,cs',b,q',g1,k1.reg _ _ g2,g3⟩)
 ·refine .inr (.inr ⟨a',A',b,c,?_,k1.arr _ _ g2,g3⟩)
  rw [eU hf,if_neg]
  ·exact g1
  ·rintro rfl;rw [H.afree a' (fT hf)] at g2;cases g2
def Pl.rename (p : Pl) (b c : Nat) : Pl:={ p with ow:=fun k=>match p.ow k with | .nst a i j=>if a=b then .nst c i j else .nst a i j | o=>o}
theorem Pl.qn (p : Pl) (b c : Nat) : p.Le (p.rename b c):=⟨fun _ _ h=>h,fun _ _ h=>h,fun _ _ h=>h⟩
theorem Pl.gF (p : Pl) (b c k : Nat) : (∃ a i j,p.ow k=.nst a i j∧(p.rename b c).ow k=if a=b then .nst c i j else .nst a i j)∨((∀ a i j,p.ow k≠.nst a i j)∧(p.rename b c).ow k=p.ow k):=by
 show (∃ a i j,p.ow k=.nst a i j∧(match p.ow k with | .nst a i j=>if a=b then Ow.nst c i j else .nst a i j | o=>o)=_)∨(_∧(match p.ow k with | .nst a i j=>if a=b then Ow.nst c i j else .nst a i j | o=>o)=_)
 cases hk : p.ow k with
 | nst a i j=>exact .inl ⟨a,i,j,rfl,rfl⟩
 | _=>right;exact ⟨fun a i j e=>(by cases e),rfl⟩
theorem bq.rename (H : bq B E p g h w) {b c : Nat} (hb : ∀ A,nth h.arrs b≠some (.here A)) : bq B E (p.rename b c) g h w:=by
 have hq:=p.qn b c
 have T : cd (fun _ _=>False) w w:=cd.refl _ _
 have plain : ∀ k,(∀ a i j,p.ow k≠.nst a i j)→(p.rename b c).ow k=p.ow k:=fun k hk=>by
  rcases p.gF b c k with ⟨a,i,j,e,_⟩ | ⟨_,e⟩
  ·exact absurd e (hk a i j)
  ·exact e
 refine ⟨H.fr,H.g0,H.g1,fun k o v hk=>⟨(H.gg k o v hk).1,?_⟩,fun r cs hr=>?_,H.rfree,fun a A ha=>?_,H.afree,H.mm.cU T rfl fun a b' e1 e2 e3 e4=>?_,fun k a hk=>?_⟩
 ·have:=(H.gg k o v hk).2
  rw [plain k fun a i j e=>by rw [this] at e;cases e];exact this
 ·refine (H.reg r cs hr).cU T (fun _ _ _ _ _ h=>h) hq (Gm.Le.refl _) fun b' q' e1=>?_
  have:=(H.reg r cs hr).own e1
  rw [plain b' fun a i j e=>by rw [this] at e;cases e];exact this
 ·refine (H.arr a A ha).cU T (fun _ _ _ _ h=>h) hq (Gm.Le.refl _) fun b' _ e3=>?_
  rcases p.gF b c b' with ⟨a',i,j,e,e'⟩ | ⟨_,e⟩
  ·rw [e] at e3 ⊢
   rw [e']
   have e3 : a'=a:=e3
   subst e3
   rw [if_neg]
   rintro rfl
   exact hb A ha
  ·exact e
 ·rw [plain b' fun a i j e=>by rw [e2] at e;cases e];exact e2
 ·rcases p.gF b c k with ⟨a',i,j,e,e'⟩ | ⟨_,e⟩
  ·exact H.nz k a' (by rw [e];rfl)
  ·rw [e] at hk;exact H.nz k a hk
def Pl.disown (p : Pl) (b : Nat) : Pl:={ p with ow:=fun k=>if p.ow k=.arr b then .z else p.ow k}
theorem Pl.u5 (p : Pl) (b : Nat) : p.Le (p.disown b):=⟨fun _ _ h=>h,fun _ _ h=>h,fun _ _ h=>h⟩
theorem bq.disown (H : bq B E p g h w) {b : Nat} (hb : ∀ A,nth h.arrs b≠some (.here A)) : bq B E (p.disown b) g h w:=by
 have hq:=p.u5 b
 have T : cd (fun _ _=>False) w w:=cd.refl _ _
 refine ⟨H.fr,H.g0,H.g1,fun k o v hk=>⟨(H.gg k o v hk).1,?_⟩,fun r cs hr=>?_,H.rfree,fun a A ha=>?_,H.afree,H.mm.cU T rfl fun a b' e1 e2 e3 e4=>by
  show (if p.ow b'=.arr b then Ow.z else p.ow b')=_
  rw [e2];simp,fun k a h=>H.nz k a (by
   have h : (if p.ow k=.arr b then Ow.z else p.ow k).ofA a:=h
   split at h
   ·exact h.elim
   ·exact h)⟩
 ·show (if p.ow k=.arr b then Ow.z else p.ow k)=.z
  rw [(H.gg k o v hk).2];simp
 ·refine (H.reg r cs hr).cU T (fun _ _ _ _ _ h=>h) hq (Gm.Le.refl _) fun b' q' e1=>?_
  show (if p.ow b'=.arr b then Ow.z else p.ow b')=.reg r
  rw [(H.reg r cs hr).own e1];simp
 ·refine (H.arr a A ha).cU T (fun _ _ _ _ h=>h) hq (Gm.Le.refl _) fun b' _ e3=>?_
  show (if p.ow b'=.arr b then Ow.z else p.ow b')=p.ow b'
  rw [if_neg]
  intro e
  rw [e] at e3
  have e3 : b=a:=e3
  subst e3
  exact hb A ha
end
end Go.Sy

namespace Go.Sy
open Go.RowKit
theorem xD {α β : Type} {P : Program} {w : World} {f : α→Sem β} {g : α→β} : ∀ (l : List α),(∀ x∈l,(f x).run P w=.ok (g x) w)→(l.mapM f).run P w=.ok (l.map g) w
 | [],_=>by simp [List.mapM_nil]
 | x :: l,h=>by
  rw [List.mapM_cons,Sem.run_bind,h x (by simp),Result.andThen_ok,Sem.run_bind,xD l (fun y hy=>h y (by simp [hy]))]
  rfl
theorem Cw {α β : Type} {P : Program} {w : World} {f : α→Sem β} {g : α→β} (l : Array α) (h : ∀ x∈l.toList,(f x).run P w=.ok (g x) w) : (l.mapM f).run P w=.ok (l.map g) w:=by
 rw [Array.mapM_eq_mapM_toList]
 simp only [Sem.run_map,xD l.toList h,Result.andThen_ok]
 have e : (List.map g l.toList).toArray=l.map g:=by apply Array.ext';simp
 rw [e]
section
variable {P : Program} {T : TT} {B : cT} {E : Env} {p : Pl} {g : Gm} {h : Hp} {tm : List SR} {a : Act} {w : World}
def Aa (P : Program) (E : Env) (p : Pl) (g : Gm) (h : Hp) (a : Act) (w : World) (o : Oper) (r : SR) : Prop :=
 ∃ v,(∀ w',bj E p h w w'→(execOp a.eval o).run P w'=.ok (.value v) w')∧r.is E p g v
def aU (P : Program) (E : Env) (p : Pl) (g : Gm) (a : Act) (o : Oper) (r : SR) : Prop:=∃ v,(∀ w',(execOp a.eval o).run P w'=.ok (.value v) w')∧r.is E p g v
theorem aU.same {o : Oper} {r : SR} {v : Value} (h1 : ∀ w',(execOp a.eval o).run P w'=.ok (.value v) w') (h2 : r.is E p g v) : aU P E p g a o r:=⟨v,h1,h2⟩
theorem aU.reads {o : Oper} {r : SR} (y : aU P E p g a o r) : Aa P E p g h a w o r:=let ⟨v,h1,h2⟩:=y;⟨v,fun w' _=>h1 w',h2⟩
variable (ht : ∀ i c,nth tm i=some c→c.is E p g (a.tmps.getD i Go.undef)) (dst : Option Tmp) (type : TypeId) (pos : String) (after : Array Edge) (guard : Option (Nat × Bool))
include ht
theorem y_move (x : Operand) {r : SR} (hx : ev tm x=some r) : aU P E p g a ⟨dst,.move x,type,pos,after,guard⟩ r:=aU.same (fun _=>by simp [execOp]) (bw ht hx)
theorem CC (x : Operand) {r : SR} (hx : ev tm x=some r) : aU P E p g a ⟨dst,.assign x,type,pos,after,guard⟩ r:=aU.same (fun _=>by simp [execOp]) (bw ht hx)
theorem y_pick (c x y : Operand) {b : Bool} {rx ry : SR} (hc : ev tm c=some (.v (.one (.bool (.bool b))))) (hx : ev tm x=some rx) (hy : ev tm y=some ry) :
  aU P E p g a ⟨dst,.pick c x y,type,pos,after,guard⟩ (if b then rx else ry):=by
 obtain ⟨b',h1,h2⟩:=(bw ht hc : ∃ n,(X.bool b).den E=.b n∧a.eval c=.bool n)
 simp only [X.den,CD.b.injEq] at h1
 subst h1
 refine aU.same (v:=if b then a.eval x else a.eval y) (fun _=>by simp [execOp,h2,asBool]) ?_
 cases b
 ·exact bw ht hy
 ·exact bw ht hx
theorem Bv (x : Operand) (i : Nat) {l : List SV} {v : SV} (hx : ev tm x=some (.tup l)) (hi : nth l i=some v) : aU P E p g a ⟨dst,.extract x i,type,pos,after,guard⟩ (.v v):=by
 obtain ⟨vs,ix,hvs⟩:=(bw ht hx : ∃ vs : List Value,a.eval x=.tuple vs.toArray∧aE (SV.is E p g) l vs)
 obtain ⟨u,hu,hcu⟩:=hvs.nth hi
 rw [aW] at hu
 exact aU.same (fun _=>by simp [execOp,ix,Instr.extract,hu]) hcu
theorem y_not (t : Nat) (x : Operand) {b : X} (hx : ev tm x=some (.v (.one (.bool b)))) : aU P E p g a ⟨dst,.unOp .not t x,type,pos,after,guard⟩ (.v (.one (.bool (mkNot b)))):=by
 obtain ⟨n,h1,h2⟩:=(bw ht hx : ∃ n,b.den E=.b n∧a.eval x=.bool n)
 exact aU.same (v:=.bool (!n)) (fun _=>by simp [execOp,h2,Op.unary]) ⟨!n,by rw [j9,h1];rfl,rfl⟩
theorem y_neg (t : Nat) (x : Operand) {k : IntKind} {e r : X} {ns : List X} (hx : ev tm x=some (.v (.one (.int k e)))) (ho : arith .sub k (.int 0) e=some (ns,r)) (hn : ∀ b∈ns,(b.den E).bool=true) :
  aU P E p g a ⟨dst,.unOp .neg t x,type,pos,after,guard⟩ (.v (.one (.int k r))):=by
 obtain ⟨n,h1,h2⟩:=(bw ht hx : ∃ n,e.den E=.i n∧a.eval x=.int k n)
 have key:=fun w=>ru (P:=P) (E:=E) ho rfl h1 hn t w
 obtain ⟨u,_,h4⟩:=key default
 refine aU.same (v:=.int k u) (fun w'=>?_) ⟨u,h4,rfl⟩
 obtain ⟨u',h5,h6⟩:=key w'
 rw [h4] at h6
 cases h6
 simp only [binOp] at h5
 simp [execOp,h2,Op.unary]
 simpa [Op.intArith] using h5
theorem y_min (x y : Operand) (ats : Array TypeId) {e f : X} (hx : ev tm x=some (.v (.one (.int .i64 e)))) (hy : ev tm y=some (.v (.one (.int .i64 f)))) :
  aU P E p g a ⟨dst,.call { callee:=.builtin .min,args:=#[x,y],argTypes:=ats},type,pos,after,guard⟩ (.v (.one (.int .i64 (AP e f)))):=by
 obtain ⟨m,h1,ix⟩:=(bw ht hx : ∃ n,e.den E=.i n∧a.eval x=.int .i64 n)
 obtain ⟨n,h2,iy⟩:=(bw ht hy : ∃ n,f.den E=.i n∧a.eval y=.int .i64 n)
 exact aU.same (v:=.int .i64 (if n < m then n else m)) (fun _=>by simp [execOp,resolve,invoke,builtin,ix,iy,Builtin.min_,Builtin.min2]) ⟨_,by rw [BY,h1,h2];rfl,rfl⟩
theorem y_max (x y : Operand) (ats : Array TypeId) {e f : X} (hx : ev tm x=some (.v (.one (.int .i64 e)))) (hy : ev tm y=some (.v (.one (.int .i64 f)))) :
  aU P E p g a ⟨dst,.call { callee:=.builtin .max,args:=#[x,y],argTypes:=ats},type,pos,after,guard⟩ (.v (.one (.int .i64 (AQ e f)))):=by
 obtain ⟨m,h1,ix⟩:=(bw ht hx : ∃ n,e.den E=.i n∧a.eval x=.int .i64 n)
 obtain ⟨n,h2,iy⟩:=(bw ht hy : ∃ n,f.den E=.i n∧a.eval y=.int .i64 n)
 exact aU.same (v:=.int .i64 (if m < n then n else m)) (fun _=>by simp [execOp,resolve,invoke,builtin,ix,iy,Builtin.max_,Builtin.max2]) ⟨_,by rw [BZ,h1,h2];rfl,rfl⟩
theorem CA (x : Operand) {q o : Nat} (hx : ev tm x=some (.v (.one (.loc q o)))) : aU P E p g a ⟨dst,.nilCheck x,type,pos,after,guard⟩ (.v (.one (.loc q o))):=by
 obtain ⟨b,q',h1,ix⟩:=(bw ht hx : ∃ b q',p.reg q=some (b,q')∧a.eval x=.pointer (some ⟨b,q' + o,none⟩))
 exact aU.same (v:=.pointer (some ⟨b,q' + o,none⟩)) (fun _=>by simp [execOp,ix]) ⟨b,q',h1,rfl⟩
theorem Et (x : Operand) {f : Nat} {c : List (Nat × Nat)} (hx : ev tm x=some (.v (.one (.fn f c)))) : aU P E p g a ⟨dst,.nilCheck x,type,pos,after,guard⟩ (.v (.one (.fn f c))):=by
 have hi:=bw ht hx
 obtain ⟨vs,ix,h2⟩:=(id hi : ∃ vs : List Value,a.eval x=.func (.func f) #[] vs.toArray∧_)
 exact aU.same (v:=a.eval x) (fun _=>by simp [execOp,ix]) hi
theorem Eu (x : Operand) {b z o : Nat} {i : X} (hx : ev tm x=some (.v (.one (.ep b z i o)))) : aU P E p g a ⟨dst,.nilCheck x,type,pos,after,guard⟩ (.v (.one (.ep b z i o))):=by
 have hi:=bw ht hx
 obtain ⟨_,_,_,_,_,ix⟩:=(id hi : ∃ bb c n : Nat,p.arr b=some (some ⟨bb,0,none⟩,c)∧i.den E=.i n∧a.eval x=.pointer (some ⟨bb,n * z + o,none⟩))
 exact aU.same (v:=a.eval x) (fun _=>by simp [execOp,ix]) hi
theorem Es (x : Operand) {K : SK} {o : Nat} {y i : X} (hx : ev tm x=some (.v (.one (.fp K y i o)))) : aU P E p g a ⟨dst,.nilCheck x,type,pos,after,guard⟩ (.v (.one (.fp K y i o))):=by
 have hi:=bw ht hx
 obtain ⟨_,_,_,_,ix,_⟩:=(id hi : ∃ (b q n : Nat) (row : List CD),a.eval x=.pointer (some ⟨b,q,none⟩)∧_)
 exact aU.same (v:=a.eval x) (fun _=>by simp [execOp,ix]) hi
theorem yI (f : Nat) (caps : Array Operand) {cs : List SR} {l : List (Nat × Nat)} (hc : evs tm caps.toList=some cs) (hl : kz cs=some l) :
  aU P E p g a ⟨dst,.makeFunc (.func f) #[] caps,type,pos,after,guard⟩ (.v (.one (.fn f l))):=by
 have key : ∀ (os : List Operand) (cs : List SR) (l : List (Nat × Nat)),evs tm os=some cs→kz cs=some l→aE (fun (x : Nat × Nat) u=>∃ b q,p.reg x.1=some (b,q)∧u=.pointer (some ⟨b,q + x.2,none⟩)) l (os.map a.eval):=by
  intro os
  induction os with
  | nil =>
   intro cs l h1 h2
   simp only [evs,Option.some.injEq] at h1
   subst h1
   simp only [kz,Option.some.injEq] at h2
   subst h2
   trivial
  | cons x os ih =>
   intro cs l h1 h2
   simp only [evs] at h1
   split at h1
   ·rename_i c m e1 e2
    cases h1
    unfold kz at h2
    split at h2
    ·rename_i heq;cases heq
    ·rename_i q o m' heq
     injection heq with e3 e4
     subst e3;subst e4
     cases hm : kz m with
     | none=>rw [hm] at h2;cases h2
     | some l' =>
      rw [hm] at h2
      cases h2
      exact ⟨bw ht e1,ih m l' e2 hm⟩
    ·cases h2
   ·cases h1
 refine aU.same (v:=.func (.func f) #[] (caps.map a.eval)) (fun _=>by simp [execOp,Instr.makeFunc]) ⟨caps.toList.map a.eval,?_,key _ _ _ hc hl⟩
 congr 1
 apply Array.ext'
 simp
variable (hT : TOk P T)
include hT
theorem y_bin (op : BinOp) (t : TypeId) (x y : Operand) (yt : TypeId) {rx ry r : SR} {ns : List X} {h' : Hp} {qu : Bool} (hx : ev tm x=some rx) (hy : ev tm y=some ry) (ho : IL T h op t rx ry=.val ns r h' qu) (hn : ∀ b∈ns,(b.den E).bool=true) :
  h'=h∧aU P E p g a ⟨dst,.binOp op t x y yt,type,pos,after,guard⟩ r:=by
 have ix:=bw ht hx
 have iy:=bw ht hy
 unfold IL at ho
 split at ho
 ·split at ho <;> cases ho
 ·rename_i vx vy _
  split at ho
  ·rename_i b hb
   cases ho
   have key:=fun w=>uz (p:=p) (g:=g) hT hb ix iy x y w
   obtain ⟨u,_,h4⟩:=key default
   refine ⟨rfl,aU.same (v:=.bool u) (fun w'=>?_) ⟨u,h4,rfl⟩⟩
   obtain ⟨u',h5,h6⟩:=key w'
   rw [h4] at h6
   cases h6
   have e : execOp a.eval ⟨dst,.binOp op t x y yt,type,pos,after,guard⟩=(do pure (.value (← (do eqGuard op t x y (a.eval x) (a.eval y);binOp op t (a.eval x) (a.eval y))))):=rfl
   rw [e,Sem.run_bind,h5]
   rfl
  ·split at ho
   ·rename_i k u j v _ _
    split at ho
    ·rename_i hk
     have hk:=IntKind.av hk
     subst hk
     split at ho
     ·rename_i ns' r' har
      cases ho
      obtain ⟨m,h1,ex⟩:=(ix : ∃ n,u.den E=.i n∧a.eval x=.int k n)
      obtain ⟨n,h2,ey⟩:=(iy : ∃ n,v.den E=.i n∧a.eval y=.int k n)
      have key:=fun w=>ru (P:=P) (E:=E) har h1 h2 hn t w
      obtain ⟨u',_,h4⟩:=key default
      refine ⟨rfl,aU.same (v:=.int k u') (fun w'=>?_) ⟨u',h4,rfl⟩⟩
      obtain ⟨u'',h5,h6⟩:=key w'
      rw [h4] at h6
      cases h6
      have hg : (eqGuard op t x y (.int k m) (.int k n)).run P w'=.ok () w':=by unfold eqGuard;split <;> simp
      have e : execOp a.eval ⟨dst,.binOp op t x y yt,type,pos,after,guard⟩=(do pure (.value (← (do eqGuard op t x y (a.eval x) (a.eval y);binOp op t (a.eval x) (a.eval y))))):=rfl
      rw [e,ex,ey,Sem.run_bind,Sem.run_bind,hg,Result.andThen_ok,h5]
      rfl
     ·cases ho
    ·cases ho
   ·cases ho
 ·cases ho
theorem y_nilq (H : bq B E p g h w) (op : BinOp) (t : TypeId) (x y : Operand) (yt : TypeId) {rx ry : SR} {n : X} {neg : Bool} (hx : ev tm x=some rx) (hy : ev tm y=some ry) (ho : IL T h op t rx ry=.nilq n neg) :
  ∃ b : Bool,(∀ w',(execOp a.eval ⟨dst,.binOp op t x y yt,type,pos,after,guard⟩).run P w'=.ok (.value (.bool (if neg then !b else b))) w')∧(b=true→(n.den E).int=0):=by
 have ix:=bw ht hx
 have iy:=bw ht hy
 unfold IL at ho
 split at ho
 ·rename_i c
  have ey : a.eval y=.slice none 0 0:=iy
  have key : ∀ {e : Nat} {m : X},isSlice T t=some e→CQ h c=some m→∃ (A : Option Addr) (l k : Nat),a.eval x=.slice A l k∧(A.isNone=true→(m.den E).int=0)∧P.underlying t=some (.slice e):=fun {e m} h1 h2=>by
   have hu : P.underlying t=some (.slice e):=by
    unfold isSlice at h1
    split at h1
    ·rename_i ht
     cases h1
     obtain ⟨i,d,z,_,hd,_,_,_,_,_,_,_,hk⟩:=(hT.get t _ ht).ex
     rw [hd,hk]
    ·cases h1
   cases c <;> simp only [CQ,reduceCtorEq,Option.some.injEq] at h2
   ·rename_i K d
    have ix : Rd g (.sl K.by_ K.kd) (a.eval x) (d.den E):=ix
    simp only [Rd] at ix
    obtain ⟨A,l,k,rows,e1,e2,e3,_,_,_,e7⟩:=ix
    refine ⟨A,l,k,e1,fun hA=>?_,hu⟩
    subst h2
    rw [ba,e2]
    simp only [CD.aR,CD.ax]
    rcases Nat.eq_zero_or_pos l with h0 | h0
    ·omega
    ·obtain ⟨b,q,e8,_⟩:=e7 h0
     subst e8;cases hA
   ·rename_i b d
    obtain ⟨A,k,l,e1,e2,e3,e4⟩:=ix
    split at h2
    ·rename_i A' hA'
     cases h2
     refine ⟨A,l,k,e4,fun hA=>?_,hu⟩
     rw [e2]
     simp only [CD.aR]
     obtain ⟨ad,cap,rows,f1,_,_,_,_,_,_,f8⟩:=(H.arr b A' hA').ex
     rw [e1] at f1
     cases f1
     rcases Nat.eq_zero_or_pos k with h0 | h0
     ·omega
     ·obtain ⟨bb,cur,g1,_⟩:=f8 h0
      subst g1;cases hA
    ·cases h2
   ·obtain ⟨A,e1⟩:=ix
    refine ⟨A,0,0,e1,fun _=>?_,hu⟩
    subst h2;rfl
  have hg : ∀ {w' : World} {A : Option Addr} {l k : Nat},(eqGuard op t x y (.slice A l k) (.slice none 0 0)).run P w'=.ok () w':=fun {w' A l k}=>by unfold eqGuard;split <;> simp
  split at ho
  ·rename_i e m h1 h2
   cases ho
   obtain ⟨A,l,k,e1,e2,e3⟩:=key h1 h2
   refine ⟨A.isNone,fun w'=>?_,e2⟩
   have e : execOp a.eval ⟨dst,.binOp .eql t x y yt,type,pos,after,guard⟩=(do pure (.value (← (do eqGuard .eql t x y (a.eval x) (a.eval y);binOp .eql t (a.eval x) (a.eval y))))):=rfl
   rw [e,e1,ey,Sem.run_bind,Sem.run_bind,hg,Result.andThen_ok]
   simp [binOp,run_equal_slice_nil w' t _ A l k e3]
  ·rename_i e m h1 h2
   cases ho
   obtain ⟨A,l,k,e1,e2,e3⟩:=key h1 h2
   refine ⟨A.isNone,fun w'=>?_,e2⟩
   have e : execOp a.eval ⟨dst,.binOp .neq t x y yt,type,pos,after,guard⟩=(do pure (.value (← (do eqGuard .neq t x y (a.eval x) (a.eval y);binOp .neq t (a.eval x) (a.eval y))))):=rfl
   rw [e,e1,ey,Sem.run_bind,Sem.run_bind,hg,Result.andThen_ok,run_neq_slice_nil w' t _ A l k e3]
   rfl
  ·cases ho
 ·split at ho
  ·cases ho
  ·split at ho
   ·split at ho
    ·split at ho <;> cases ho
    ·cases ho
   ·cases ho
 ·cases ho
omit ht in
theorem lX {t f off u : Nat} {fs : List (Nat × Nat)} {ti ui : TI} (ht : T.get t=some ti) (hk : ti.k=.struct fs) (hf : nth fs f=some (off,u)) (hu : T.get u=some ui) (hz : 0 < ui.sz) (x : Addr) (w : World) :
  (Instr.fieldAt t (.pointer (some x)) f).run P w=.ok (.pointer (some (x.add off))) w:=by
 obtain ⟨i,d,z,h1,h2,h3,h4,h5,h6,h7,h8,h9,h10⟩:=(hT.get t ti ht).ex
 rw [hk] at h10
 obtain ⟨flds,rfl,_,hfl⟩:=h10
 obtain ⟨g,hg,e1,e2⟩:=hfl f off u hf
 subst e1;subst e2
 have hne : ¬ ui.sz=0:=by omega
 simp [Instr.fieldAt,run_underlying h2,hg,Instr.sureAddr,fieldPlace,run_sizeOf hT hu,hne]
theorem yK (t f : Nat) (x : Operand) {q o off u : Nat} {fs : List (Nat × Nat)} {ti ui : TI} (hti : T.get t=some ti) (hk : ti.k=.struct fs) (hf : nth fs f=some (off,u)) (hu : T.get u=some ui) (hz : 0 < ui.sz) (hx : ev tm x=some (.v (.one (.loc q o)))) :
  aU P E p g a ⟨dst,.fieldAddr t x f,type,pos,after,guard⟩ (.v (.one (.loc q (o + off)))):=by
 obtain ⟨b,q',h1,ix⟩:=(bw ht hx : ∃ b q',p.reg q=some (b,q')∧a.eval x=.pointer (some ⟨b,q' + o,none⟩))
 refine aU.same (v:=.pointer (some ((⟨b,q' + o,none⟩ : Addr).add off))) (fun _=>by simp [execOp,ix,lX hT hti hk hf hu hz]) ⟨b,q',h1,?_⟩
 rw [et,Nat.add_assoc]
theorem Bu (t f : Nat) (x : Operand) {b zz o off u : Nat} {i : X} {fs : List (Nat × Nat)} {ti ui : TI} (hti : T.get t=some ti) (hk : ti.k=.struct fs) (hf : nth fs f=some (off,u)) (hu : T.get u=some ui) (hz : 0 < ui.sz)
  (hx : ev tm x=some (.v (.one (.ep b zz i o)))) : aU P E p g a ⟨dst,.fieldAddr t x f,type,pos,after,guard⟩ (.v (.one (.ep b zz i (o + off)))):=by
 obtain ⟨bb,c,n,h1,h2,ix⟩:=(bw ht hx : ∃ bb c n : Nat,p.arr b=some (some ⟨bb,0,none⟩,c)∧i.den E=.i n∧a.eval x=.pointer (some ⟨bb,n * zz + o,none⟩))
 refine aU.same (v:=.pointer (some ((⟨bb,n * zz + o,none⟩ : Addr).add off))) (fun _=>by simp [execOp,ix,lX hT hti hk hf hu hz]) ⟨bb,c,n,h1,h2,?_⟩
 rw [et,Nat.add_assoc]
theorem Bt (t f : Nat) (x : Operand) {K : SK} {o off u : Nat} {y i : X} {fs : List (Nat × Nat)} {ti ui : TI} (hti : T.get t=some ti) (hk : ti.k=.struct fs) (hf : nth fs f=some (off,u)) (hu : T.get u=some ui) (hz : 0 < ui.sz)
  (hx : ev tm x=some (.v (.one (.fp K y i o)))) : aU P E p g a ⟨dst,.fieldAddr t x f,type,pos,after,guard⟩ (.v (.one (.fp K y i (o + off)))):=by
 obtain ⟨b,q,n,row,ix,h1,h2,h3,h4⟩:=(bw ht hx : ∃ (b q n : Nat) (row : List CD),a.eval x=.pointer (some ⟨b,q,none⟩)∧i.den E=.i n∧(y.den E).rows[n]?=some row∧row.length=K.kd.length∧aJ g (K.kd.drop o) (fun j=>g b (q + j)) (row.drop o))
 refine aU.same (v:=.pointer (some ((⟨b,q,none⟩ : Addr).add off))) (fun _=>by simp [execOp,ix,lX hT hti hk hf hu hz]) ⟨b,q + off,n,row,by rw [et],h1,h2,h3,?_⟩
 have:=h4.drop off
 rw [List.drop_drop,List.drop_drop] at this
 have e : (fun j=>g b (q + off + j))=fun j=>g b (q + (off + j)):=by funext j;rw [Nat.add_assoc]
 rw [e]
 exact this
theorem Bs (t : Nat) (x y : Operand) {e : Nat} {K : SK} {i u : X} {ti ei : TI} (hti : T.get t=some ti) (hk : ti.k=.slice e) (he : T.get e=some ei) (hx : ev tm x=some (.v (.one (.fz K u)))) (hy : ev tm y=some (.v (.one (.int .i64 i))))
  (hz : K.kd.length=ei.sz) (hn : ∀ c∈dF i (bn u),(c.den E).bool=true) : aU P E p g a ⟨dst,.indexAddr t x y,type,pos,after,guard⟩ (.v (.one (.fp K u i 0))):=by
 have hr:=bw ht hx
 simp only [SR.is,SV.is,SC.is,Rd] at hr
 obtain ⟨A,n,c,rows,ix,e1,e2,e3,e4,e5,e6⟩:=hr
 obtain ⟨m,h1,iy⟩:=(bw ht hy : ∃ n,i.den E=.i n∧a.eval y=.int .i64 n)
 obtain ⟨h0,h2⟩:=dN (ba u) hn
 rw [h1,e1] at h2
 rw [h1] at h0
 simp only [CD.aR,CD.ax] at h0 h2
 obtain ⟨b,q,e7,e8⟩:=e6 (by omega)
 subst e7
 obtain ⟨_,d,z,_,hu,_,_,_,_,_,_,_,h10⟩:=(hT.get t ti hti).ex
 rw [hk] at h10
 subst h10
 obtain ⟨row,hrow⟩ : ∃ row,rows[m.toNat]?=some row:=⟨_,List.getElem?_eq_getElem h2⟩
 refine aU.same (v:=.pointer (some ((⟨b,q,none⟩ : Addr).add (m.toNat * ei.sz)))) (fun w'=>?_) ⟨b,q + m.toNat * ei.sz,m.toNat,row,by rw [et],by rw [h1];congr 1;omega,by rw [e1];exact hrow,(e8 _ row hrow).length,?_⟩
 ·have hno : ¬ ((n : Int)≤m):=by omega
  simp [execOp,ix,iy,Instr.indexAt,asIntOf,run_underlying hu,h0,hno,run_sizeOf hT he]
 ·have:=e8 _ row hrow
  simp only [List.drop_zero]
  rw [hz] at this
  have ef : (fun j=>g b (q + m.toNat * ei.sz + j))=fun j=>g b (q + (m.toNat * ei.sz + j)):=by funext j;rw [Nat.add_assoc]
  rw [ef]
  exact this
theorem yJ (t : Nat) (x y : Operand) {q o e n j : Nat} {i : X} {ti ei : TI} (hti : T.get t=some ti) (hk : ti.k=.array n e) (he : T.get e=some ei) (hx : ev tm x=some (.v (.one (.loc q o)))) (hy : ev tm y=some (.v (.one (.int .i64 i)))) (hj : ql i=some j) (hjn : j < n) :
  aU P E p g a ⟨dst,.indexAddr t x y,type,pos,after,guard⟩ (.v (.one (.loc q (o + j * ei.sz)))):=by
 obtain ⟨b,q',h1,ix⟩:=(bw ht hx : ∃ b q',p.reg q=some (b,q')∧a.eval x=.pointer (some ⟨b,q' + o,none⟩))
 obtain ⟨m,h2,iy⟩:=(bw ht hy : ∃ n,i.den E=.i n∧a.eval y=.int .i64 n)
 have hi : m=(j : Int):=by
  unfold ql at hj
  split at hj <;> cases hj
  simp only [X.den,CD.i.injEq] at h2
  exact h2.symm
 subst hi
 obtain ⟨_,d,z,_,hu,_,_,_,_,_,_,_,h10⟩:=(hT.get t ti hti).ex
 rw [hk] at h10
 subst h10
 refine aU.same (v:=.pointer (some ((⟨b,q' + o,none⟩ : Addr).add (j * ei.sz)))) (fun _=>by simp [execOp,ix,iy,Instr.indexAt,asIntOf,Instr.sureAddr,run_underlying hu,hjn,run_sizeOf hT he]) ⟨b,q',h1,?_⟩
 rw [et,Nat.add_assoc]
omit ht in
theorem sP {t off : Nat} {ti : TI} (ht : T.get t=some ti) {l m : List SC} {cs : List Value} {r : SR} (hm : ga l off ti.sz=some m) (hr : dH ti.agg m=some r) (hl : aE (SC.is E p g) l cs) :
  ∃ v,(∀ w : World,(part t cs.toArray off).run P w=.ok v w)∧r.is E p g v:=by
 obtain ⟨h1,h2,h3⟩:=ky hm
 have hln:=hl.length
 cases hg : ti.agg with
 | true =>
  rw [hg] at hr
  simp only [dH,if_true,Option.some.injEq] at hr
  subst hr
  refine ⟨.agg (cs.toArray.extract off (off + ti.sz)),fun w=>by simp only [part,Sem.run_bind,jU hT ht,Result.andThen_ok,hg];simp [run_sizeOf hT ht],(cs.toArray.extract off (off + ti.sz)).toList,rfl,aE.of ?_ fun j c v hc hv=>?_⟩
  ·simp only [Array.length_toList,Array.size_extract,List.size_toArray]
   rcases Nat.eq_zero_or_pos ti.sz with h0 | h0
   ·omega
   ·have:=h2 h0;omega
  ·have hj : j < ti.sz:=by have:=cn hc;omega
   rw [h3 j hj] at hc
   obtain ⟨u,hu,hcu⟩:=hl.nth hc
   rw [aW] at hu hv
   have hv : (cs.toArray.extract off (off + ti.sz))[j]?=some v:=by simpa using hv
   rw [Array.getElem?_extract,if_pos (by simp;have:=h2 (by omega);omega)] at hv
   have : cs[off + j]?=some v:=by simpa using hv
   rw [hu] at this
   cases this
   exact hcu
 | false =>
  rw [hg] at hr
  simp only [dH,Bool.false_eq_true,if_false] at hr
  split at hr
  ·rename_i c
   cases hr
   have h0:=h3 0 (by simp at h1;omega)
   simp only [nth] at h0
   obtain ⟨u,hu,hcu⟩:=hl.nth h0.symm
   rw [aW,Nat.add_zero] at hu
   exact ⟨u,fun w=>by simp only [part,Sem.run_bind,jU hT ht,Result.andThen_ok,hg];simp [hu],hcu⟩
  ·cases hr
theorem Ev (t : Nat) (x y : Operand) {n e j : Nat} {l m : List SC} {i : X} {ti ei : TI} {r : SR} (hti : T.get t=some ti) (hk : ti.k=.array n e) (he : T.get e=some ei) (hx : ev tm x=some (.v (.agg l))) (hy : ev tm y=some (.v (.one (.int .i64 i)))) (hj : ql i=some j) (hjn : j < n)
  (hm : ga l (j * ei.sz) ei.sz=some m) (hr : dH ei.agg m=some r) : aU P E p g a ⟨dst,.index t x y,type,pos,after,guard⟩ r:=by
 obtain ⟨cs,ix,hcs⟩:=(bw ht hx : ∃ vs : List Value,a.eval x=.agg vs.toArray∧aE (SC.is E p g) l vs)
 obtain ⟨k,h2,iy⟩:=(bw ht hy : ∃ n,i.den E=.i n∧a.eval y=.int .i64 n)
 have hi : k=(j : Int):=by
  unfold ql at hj
  split at hj <;> cases hj
  simp only [X.den,CD.i.injEq] at h2
  exact h2.symm
 subst hi
 obtain ⟨_,d,z,_,hu,_,_,_,_,_,_,_,h10⟩:=(hT.get t ti hti).ex
 rw [hk] at h10
 subst h10
 obtain ⟨v,h1,h3⟩:=sP hT he hm hr hcs
 exact aU.same (fun w=>by simp [execOp,ix,iy,Instr.index,asIntOf,run_underlying hu,hjn,run_sizeOf hT he,h1 w]) h3
theorem Ew (t f : Nat) (x : Operand) {off u : Nat} {fs : List (Nat × Nat)} {l m : List SC} {ti ui : TI} {r : SR} (hti : T.get t=some ti) (hk : ti.k=.struct fs) (hf : nth fs f=some (off,u)) (hu : T.get u=some ui) (hx : ev tm x=some (.v (.agg l)))
  (hm : ga l off ui.sz=some m) (hr : dH ui.agg m=some r) : aU P E p g a ⟨dst,.field t x f,type,pos,after,guard⟩ r:=by
 obtain ⟨cs,ix,hcs⟩:=(bw ht hx : ∃ vs : List Value,a.eval x=.agg vs.toArray∧aE (SC.is E p g) l vs)
 obtain ⟨_,d,z,_,hd,_,_,_,_,_,_,_,h10⟩:=(hT.get t ti hti).ex
 rw [hk] at h10
 obtain ⟨flds,rfl,_,hfl⟩:=h10
 obtain ⟨g,hg,e1,e2⟩:=hfl f off u hf
 subst e1;subst e2
 obtain ⟨v,h1,h2⟩:=sP hT hu hm hr hcs
 exact aU.same (fun w=>by simp [execOp,ix,Instr.field,run_underlying hd,hg,asAgg,h1 w]) h2
theorem Ad (x : Operand) (t e : Nat) {ti : TI} {c : SC} {n : X} (hti : T.get t=some ti) (hk : ti.k=.slice e) (hx : ev tm x=some (.v (.one c))) (hn : (∃ b,c=.sl b n)∨(∃ K y,c=.fz K y∧n=bn y)∨((c=.nilsl∨c=.z0)∧n=.int 0)) :
  aU P E p g a ⟨dst,.call { callee:=.builtin .len,args:=#[x],argTypes:=#[t]},type,pos,after,guard⟩ (.v (.one (.int .i64 n))):=by
 have ix : SC.is E p g c (a.eval x):=bw ht hx
 obtain ⟨_,d,z,_,hu,_,_,_,_,_,_,_,h10⟩:=(hT.get t ti hti).ex
 rw [hk] at h10
 subst h10
 have key : ∃ A m cc,a.eval x=.slice A m cc∧n.den E=.i m:=by
  rcases hn with ⟨b,rfl⟩ | ⟨K,y,rfl,rfl⟩ | ⟨rfl | rfl,rfl⟩
  ·obtain ⟨A,cc,m,_,h2,_,h3⟩:=ix;exact ⟨A,m,cc,h3,h2⟩
  ·simp only [SC.is,Rd] at ix
   obtain ⟨A,m,cc,rows,e0,e1,e2,_⟩:=ix
   exact ⟨A,m,cc,e0,by rw [ba,e1,CD.ax,e2]⟩
  ·have ix : a.eval x=.slice none 0 0:=ix;exact ⟨none,0,0,ix,rfl⟩
  ·obtain ⟨A,e0⟩:=ix;exact ⟨A,0,0,e0,rfl⟩
 obtain ⟨A,m,cc,e0,e1⟩:=key
 exact aU.same (v:=.int .i64 m) (fun _=>by simp [execOp,resolve,invoke,builtin,e0,Builtin.len_,run_underlying hu,goInt]) ⟨m,e1,rfl⟩
end
end Go.Sy

namespace Go.Sy
open Go.RowKit
theorem EF {P : Program} (w : World) (t ty e : TypeId) (i : TypeInfo) (z : Value) (ht : P.underlying t=some (.slice e)) (hi : P.info? e=some i) (hz : i.zero=some z) (hzs : z.cells.size=i.size)
  (A : Option Addr) (n cap0 : Nat) (hn : n≤cap0) (hcm : cap0≤maxLen) (cur : Array Value) (hA : 0 < cap0→∃ b,A=some ⟨b,0,none⟩∧w.heap[b]?=some (.cells cur e (0,0))∧cur.size=cap0 * i.size)
  (x : Value) (m : Nat) (news : List Value) (hs : Src P i.size t x m news w) (h63 : n + m≤maxLen) (hbytes : (n + m) * i.bytes≤140737488355328) :
  ∃ A' cap' w',(Builtin.append_ #[t,t] ty #[.slice A n cap0,x]).run P w=.ok (.slice A' (n + m) cap') w'∧n + m≤cap'∧cap'≤maxLen ∧
   ((cap'=0∧w'=w)∨∃ b cur',0 < cap'∧A'=some ⟨b,0,none⟩∧w'.heap[b]?=some (.cells cur' e (0,0))∧cur'.size=cap' * i.size∧(∀ j,j < n * i.size→cur'[j]?=cur[j]?)∧(∀ j,j < m * i.size→cur'[n * i.size + j]?=news[j]?) ∧
    ((b=w.heap.size∧Below w.heap.size w w')∨(A=some ⟨b,0,none⟩∧0 < cap0∧cd (fun k j=>k=b∧n * i.size≤j) w w'))):=by
 have hsmall : n + m≤9223372036854775807:=by simp only [maxLen] at h63;omega
 have hl:=hs.newsLen
 by_cases hroom : n + m≤cap0
 ·rcases Nat.eq_zero_or_pos cap0 with h0 | h0
  ·have hm : m=0:=by omega
   subst hm
   have hnl : news=[]:=List.eq_nil_of_length_eq_zero (by simpa using hl)
   subst hnl
   exact ⟨A,cap0,w,run_append_nothing w t t ty e i ht hi A n cap0 hn x hs,hroom,hcm,.inl ⟨h0,rfl⟩⟩
  ·obtain ⟨b,rfl,hb,hsz⟩:=hA h0
   have hmul : (n + m) * i.size≤cap0 * i.size:=Nat.mul_le_mul_right _ hroom
   rw [Nat.add_mul] at hmul
   have hr:=run_append_room_src (P:=P) w t t ty e i ht hi b 0 n cap0 x m news hs hroom (fun j hj=>by
    have : 0 + n * i.size + j < cur.size:=by omega
    simp [World.cell?,hb,show n * i.size + j < cur.size by omega]) (fun j _=>by simp only [World.frozen?,hb];simp)
   rw [Nat.zero_add] at hr
   obtain ⟨cur',c1,c2,c3⟩:=gf b news (n * i.size) w cur hb (by omega)
   refine ⟨some ⟨b,0,none⟩,cap0,_,hr,hroom,hcm,.inr ⟨b,cur',h0,rfl,c1,c2.trans hsz,fun j hj=>by rw [c3,if_neg (by omega)],fun j hj=>by rw [c3,if_pos (by omega),Nat.add_sub_cancel_left],.inr ⟨rfl,h0,(cK b news _ w).mono fun k j _ h=>⟨h.1,h.2.1⟩⟩⟩⟩
 ·have hge:=grownCap_ge w (n + m) cap0 e
  have hold : ∃ olds : List Value,olds.length=n * i.size∧(Builtin.firstCells i.size n (.slice A n cap0)).run P w.drew=.ok olds.toArray w.drew∧∀ j,j < n * i.size→olds[j]?=cur[j]?:=by
   rcases Nat.eq_zero_or_pos cap0 with h0 | h0
   ·have hn0 : n=0:=by omega
    subst hn0
    refine ⟨[],by simp,?_,fun j hj=>by simp at hj⟩
    cases A with
    | none=>exact run_firstCells_none w.drew i.size 0 0 cap0
    | some a=>exact run_firstCells_some w.drew i.size 0 a 0 cap0 [] (by simp) (fun j v h=>by simp at h)
   ·obtain ⟨b,rfl,hb,hsz⟩:=hA h0
    have hmul : n * i.size≤cap0 * i.size:=Nat.mul_le_mul_right _ hn
    refine ⟨cur.toList.take (n * i.size),by rw [List.length_take,Array.length_toList];omega,?_,fun j hj=>by rw [List.getElem?_take,if_pos hj];simp⟩
    refine run_firstCells_some w.drew i.size n ⟨b,0,none⟩ n cap0 _ (by rw [List.length_take,Array.length_toList];omega) (fun j v hj=>?_)
    rw [List.getElem?_take] at hj
    split at hj
    ·rw [et,Nat.zero_add]
     have hd : w.drew.heap[b]?=some (.cells cur e (0,0)):=hb
     simp only [World.cell?,hd]
     simpa using hj
    ·cases hj
  obtain ⟨olds,ho1,ho2,ho3⟩:=hold
  have hr:=run_append_grow_src (P:=P) w t t ty e i z ht hi hz A n cap0 olds ho2 x m news hs (by omega) (by omega) (growslice_fits (by omega) hbytes)
  refine ⟨_,_,_,hr,hge,grownCap_le_maxLen w _ _ e h63,.inr ⟨w.heap.size,_,?_,rfl,heap_alloc_new w.drew _,?_,fun j hj=>?_,fun j hj=>?_,.inl ⟨rfl,(Below.refl _ _).drew.alloc (by simp) _⟩⟩⟩
  ·omega
  ·simp only [Array.size_append,List.size_toArray,size_zeroCells,hzs,List.length_append,ho1,hl,← Nat.add_mul]
   congr 1
   omega
  ·rw [Array.getElem?_append_left (by simp;omega)]
   rw [List.getElem?_toArray,List.getElem?_append_left (by omega)]
   exact ho3 j hj
  ·rw [Array.getElem?_append_left (by simp;omega)]
   rw [List.getElem?_toArray,List.getElem?_append_right (by omega),show n * i.size + j - olds.length=j from by omega]
section
variable {P : Program} {T : TT} {B : cT} {E : Env} {p : Pl} {g : Gm} {h : Hp} {tm : List SR} {a : Act} {w : World}
def mQ (P : Program) (B : cT) (E : Env) (p : Pl) (g : Gm) (h : Hp) (a : Act) (w : World) (o : Oper) (r : SR) (h' : Hp) (qu : Bool) : Prop :=
 ∃ v w' q,(execOp a.eval o).run P w=.ok (.value v) w'∧bq B E q g h' w'∧r.is E q g v∧p.Le q∧w.heap.size≤w'.heap.size∧(qu=true→bj E p h w w'∧rO E p h q h' w.heap.size)
theorem dY {w' : World} (hb : Below w.heap.size w w') : bj E p h w w':=fun k i hk _=>hb.cell (p:=⟨k,i,none⟩) hk
def SlIs (E : Env) (p : Pl) (g : Gm) (h : Hp) (w : World) (K : SK) (v : Value) (x : X) : Prop :=
 ∃ (A : Option Addr) (m cc : Nat) (rows : List (List CD)) (news : List Value),v=.slice A m cc∧x.den E=.l rows∧rows.length=m∧m≤cc∧cc≤maxLen∧m * K.by_≤B47∧news.length=m * K.kd.length∧(A=none→m=0) ∧
   (∀ b q s,A=some ⟨b,q,s⟩→0 < m→s=none∧∀ (j : Nat) u,news[j]?=some u→∀ w',bj E p h w w'→w'.cell? ⟨b,q + j,none⟩=some u) ∧
   (∀ i row,rows[i]?=some row→aJ g K.kd (fun j=>news[i * K.kd.length + j]?) row) ∧
   ∀ (i j e : Nat) row v,rows[i]?=some row→K.kd[j]?=some (.os e)→news[i * K.kd.length + j]?=some v→lK p v (row.getD j .u)
theorem aJ.opened {kd : List Kd} {f : Nat→Option Value} {row : List CD} (h : aJ g (kd.map Kd.shut) f row) : aJ g kd f row∧∀ (j e : Nat),kd[j]?=some (.os e)→lK p Go.undef (row.getD j .u)∧(row.getD j .u).isL=true:=by
 have key : ∀ (j : Nat) k,kd[j]?=some k→∃ v,f j=some v∧Rd g k.shut v (row.getD j .u):=fun j k hk=>h.cell (by rw [List.getElem?_map,hk];rfl)
 refine ⟨aJ.of (by simpa using h.length) fun j k hk=>?_,fun j e hk=>?_⟩
 ·obtain ⟨v,h1,h2⟩:=key j k hk
  refine ⟨v,h1,?_⟩
  cases k with
  | os e =>
   have h2 : Rd g (.sl 8 [.int .i64]) v (row.getD j .u):=h2
   have hd : ∃ rows,row.getD j .u=.l rows:=by
    simp only [Rd] at h2
    obtain ⟨_,_,_,rows,_,h3,_⟩:=h2
    exact ⟨rows,h3⟩
   obtain ⟨rows,hd⟩:=hd
   simp only [Rd]
   rw [hd] at h2 ⊢
   exact xm.2 h2
  | _=>exact h2
 ·obtain ⟨v,h1,h2⟩:=key j _ hk
  have h2 : Rd g (.sl 8 [.int .i64]) v (row.getD j .u):=h2
  simp only [Rd] at h2
  obtain ⟨_,_,_,rows,_,h3,_⟩:=h2
  rw [h3]
  exact ⟨trivial,rfl⟩
theorem DH {v : Value} {d : CD} (h : d.isL=true) : lK p v d:=by
 cases d <;> first | trivial | cases h
theorem oV (H : bq B E p g h w) {K : SK} {c : SC} {ns : List X} {x : X} {v : Value} (ho : nZ h K c=some (ns,x)) (hc : c.is E p g v) (hn : ∀ b∈ns,(b.den E).bool=true) : SlIs E p g h w K v x:=by
 have mk : ∀ (m : Nat) (rows : List (List CD)) (b q : Nat) (ok : Nat→Prop),rows.length=m→(∀ i row,rows[i]?=some row→aJ g K.kd (fun j=>w.cell? ⟨b,q + (i * K.kd.length + j),none⟩) row)→(∀ i j k,i < m→K.kd[j]?=some k→Kn E p h b (q + (i * K.kd.length + j))∧b < w.heap.size) →
   ∃ news : List Value,news.length=m * K.kd.length∧(∀ (j : Nat) u,news[j]?=some u→∀ w',bj E p h w w'→w'.cell? ⟨b,q + j,none⟩=some u)∧(∀ i row,rows[i]?=some row→aJ g K.kd (fun j=>news[i * K.kd.length + j]?) row):=by
  intro m rows b q _ hl hrow hkn
  refine ⟨(List.range (m * K.kd.length)).map fun j=>(w.cell? ⟨b,q + j,none⟩).getD Go.undef,by simp,fun j u hj w' S=>?_,fun i row hi=>?_⟩
  ·rw [List.getElem?_map] at hj
   have hlt : j < m * K.kd.length:=by
    cases h0 : (List.range (m * K.kd.length))[j]? with
    | none=>rw [h0] at hj;cases hj
    | some _=>simpa using (List.getElem?_eq_some_iff.1 h0).1
   rw [List.getElem?_range hlt,Option.map_some,Option.some.injEq] at hj
   subst hj
   have hz : 0 < K.kd.length:=by
    rcases Nat.eq_zero_or_pos K.kd.length with h0 | h0
    ·rw [h0] at hlt;simp at hlt
    ·exact h0
   have hdiv : j=(j / K.kd.length) * K.kd.length + j % K.kd.length:=by rw [Nat.mul_comm];exact (Nat.div_add_mod j K.kd.length).symm
   have hi : j / K.kd.length < m:=Nat.div_lt_of_lt_mul (by rw [Nat.mul_comm];exact hlt)
   have hjm:=Nat.mod_lt j hz
   obtain ⟨k,hk⟩ : ∃ k,K.kd[j % K.kd.length]?=some k:=⟨_,List.getElem?_eq_getElem hjm⟩
   obtain ⟨row,hr⟩ : ∃ row,rows[j / K.kd.length]?=some row:=⟨_,List.getElem?_eq_getElem (by omega)⟩
   obtain ⟨u,hu,_⟩:=(hrow _ row hr).cell hk
   obtain ⟨k1,k2⟩:=hkn _ _ k hi hk
   rw [← hdiv] at hu k1
   rw [S _ _ k2 k1,hu];rfl
  ·refine aJ.mono (Gm.Le.refl _) _ _ _ _ (fun j v hv=>hv) ?_
   refine aJ.of (hrow i row hi).length fun j k hk=>?_
   obtain ⟨u,hu,hr⟩:=(hrow i row hi).cell hk
   refine ⟨u,?_,hr⟩
   have hlt : i * K.kd.length + j < m * K.kd.length:=dG (List.getElem?_eq_some_iff.1 hk).1 (by rw [← hl];exact (List.getElem?_eq_some_iff.1 hi).1)
   rw [List.getElem?_map,List.getElem?_range hlt,Option.map_some,hu];rfl
 have none_ : ∀ A,v=.slice A 0 0→SlIs E p g h w K v .nil :=
  fun A hA=>⟨A,0,0,[],[],hA,rfl,rfl,Nat.le_refl _,Nat.zero_le _,by simp,by simp,fun _=>rfl,fun _ _ _ _ h=>absurd h (Nat.lt_irrefl 0),fun i row h=>by simp at h,fun i j e row v h=>by simp at h⟩
 unfold nZ at ho
 split at ho
 ·rename_i L x'
  split at ho
  ·rename_i hs
   cases ho
   have:=SK.av hs
   subst this
   simp only [SC.is,Rd] at hc
   obtain ⟨A,m,cc,rows,e0,e1,e2,e3,e4,e5,e6⟩:=hc
   have ekl : K.shut.kd.length=K.kd.length:=by simp [SK.shut]
   rw [ekl] at e6
   have eop : ∀ {f : Nat→Option Value} {row : List CD},aJ g K.shut.kd f row→aJ g K.kd f row∧∀ (j e : Nat),K.kd[j]?=some (.os e)→lK p Go.undef (row.getD j .u)∧(row.getD j .u).isL=true:=fun h=>aJ.opened h
   rcases Nat.eq_zero_or_pos m with h0 | h0
   ·subst h0
    have : rows=[]:=List.eq_nil_of_length_eq_zero e2
    subst this
    exact ⟨A,0,cc,[],[],e0,e1,rfl,e3,e4,by simp,by simp,fun _=>rfl,fun _ _ _ _ h=>absurd h (Nat.lt_irrefl 0),fun i row h=>by simp at h,fun i j e row v h=>by simp at h⟩
   ·obtain ⟨b,q,e7,e8'⟩:=e6 h0
    have e8:=fun i row hi=>(eop (e8' i row hi)).1
    subst e7
    obtain ⟨news,n1,n2,n3⟩:=mk m rows b q (fun _=>True) e2 (fun i row hi=>aJ.mono (Gm.Le.refl _) _ _ _ _ (fun j v hv=>(H.gg _ _ _ hv).1) (e8 i row hi)) (fun i j k hi hk=>by
     obtain ⟨row,hr⟩ : ∃ row,rows[i]?=some row:=⟨_,List.getElem?_eq_getElem (by omega)⟩
     obtain ⟨u,hu,_⟩:=(e8 i row hr).cell hk
     obtain ⟨k1,k2⟩:=H.kn_g hu
     exact ⟨k2,k1⟩)
    exact ⟨_,m,cc,rows,news,e0,e1,e2,e3,e4,e5,n1,fun h=>(by cases h),fun b' q' s' he _=>(by cases he;exact ⟨rfl,n2⟩),n3,fun i j e row v hi hj _=>DH ((eop (e8' i row hi)).2 j e hj).2⟩
  ·cases ho
 ·cases ho
  exact none_ none hc
 ·cases ho
  obtain ⟨A,hA⟩:=hc
  exact none_ A hA
 ·rename_i b n
  split at ho
  ·rename_i A hA
   split at ho
   ·rename_i hs
    cases ho
    simp only [Bool.and_eq_true] at hs
    obtain ⟨hs,hos⟩:=hs
    have hs:=SK.av hs
    subst hs
    obtain ⟨ad,cap,m,c1,c2,c3,c4⟩:=hc
    obtain ⟨ad',cap',rows,e1,e2,e3,e4,e5,e6,e7,e8⟩:=(H.arr b A hA).ex
    rw [c1] at e1
    cases e1
    have hle:=hn _ (List.mem_singleton.2 rfl)
    rw [bz,ba,e2,c2] at hle
    have hle:=of_decide_eq_true hle
    simp only [CD.aR,CD.ax] at hle
    have hle : m≤rows.length:=by omega
    have hden : (dc n A.x).den E=.l (rows.take m):=by rw [db e2,c2];simp
    have hl : (rows.take m).length=m:=by rw [List.length_take];omega
    have hby : m * A.K.by_≤B47:=Nat.le_trans (Nat.mul_le_mul_right _ hle) e5
    rcases Nat.eq_zero_or_pos m with h0 | h0
    ·subst h0
     exact ⟨ad,0,cap,[],[],c4,by rw [hden];simp,rfl,c3,e4,by simp,by simp,fun _=>rfl,fun _ _ _ _ h=>absurd h (Nat.lt_irrefl 0),fun i row h=>by simp at h,fun i j e row v h=>by simp at h⟩
    ·obtain ⟨bb,cur,k1,k2,k3,k4,k5,k6⟩:=e8 (by omega)
     subst k1
     obtain ⟨news,n1,n2,n3⟩:=mk m (rows.take m) bb 0 (fun _=>True) hl (fun i row hi=>by
      rw [List.getElem?_take] at hi
      split at hi
      ·refine aJ.mono (Gm.Le.refl _) _ _ _ _ (fun j v hv=>?_) (k6 i row hi)
       rw [Nat.zero_add]
       simp [World.cell?,k3,hv]
      ·cases hi) (fun i j k hi hk=>by
      have hj:=(List.getElem?_eq_some_iff.1 hk).1
      have hlt : i * A.K.kd.length + j < rows.length * A.K.kd.length:=dG hj (by omega)
      exact ⟨.inr (.inr ⟨b,A,bb,cap,hA,c1,rfl,by rw [e2,Nat.zero_add];exact hlt⟩),lt_of_block k3⟩)
     refine ⟨_,m,cap,rows.take m,news,c4,hden,hl,c3,e4,hby,n1,fun h=>(by cases h),fun b' q' s' he _=>(by cases he;exact ⟨rfl,n2⟩),n3,fun i j e row v hi hj hv=>?_⟩
     simp only [Bool.or_eq_true] at hos
     rcases hos with hos | hos
     ·exact absurd hj (pb hos j e)
     ·unfold DA at hos
      split at hos
      ·rename_i j0 e0 hat
       obtain ⟨_,o2,o3⟩:=gY hat
       obtain ⟨rfl,rfl⟩:=o3 j e hj
       split at hos
       ·rename_i s n hrf
        obtain ⟨row0,r1,r2,_⟩:=oc (E:=E) hrf
        rw [e2] at r1
        cases r1
        rw [List.getElem?_take] at hi
        split at hi
        ·have h2:=n2 _ v hv w (bj.refl _ _ _ _)
         rw [Nat.zero_add] at h2
         have hcell:=(H.arr b A hA).ns _ e bb cap _ hj c1 e2 i row v hi h2
         have hrow : row=row0:=by
          cases i with
          | zero=>simpa using hi.symm
          | succ i=>simp at hi
         subst hrow
         rw [r2] at hcell ⊢
         exact hcell
        ·cases hi
       ·cases hos
      ·cases hos
   ·cases ho
  ·cases ho
 ·cases ho
end
end Go.Sy
