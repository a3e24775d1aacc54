import Derived.Test.YtpmamacjepcdmaaSyMap
namespace Go.Sy
open Go.RowKit
section
variable {P : Program} {T : TT} {B : cT} {E : Env} {p : Pl} {g : Gm} {h : Hp} {tm : List SR} {a : Act} {w : World}
theorem zj {m lo : X} {i j : Int} (hm : m.den E=.i i) (hl : lo.den E=.i j) : (sZ m lo).den E=.i (i - j):=by
 unfold sZ
 split
 ·simp only [X.den,CD.i.injEq] at hl
  subst hl
  rw [hm];simp
 ·split
  ·rename_i hs
   have:=X.av hs
   subst this
   rw [hm] at hl
   cases hl
   simp [X.den]
  ·simp [X.den,hm,hl]
theorem uq {α : Type} (l : List α) (i : Nat) (a b : α) : bl (bl l i a) i b=bl l i b:=by
 simp only [jT,List.set_set]
theorem bq.reX (H : bq B E p g h w) {b : Nat} {A : Ar} (ha : nth h.arrs b=some (.here A)) {x : X} (hx : x.den E=A.x.den E) : bq B E p g { h with arrs:=bl h.arrs b (.here { A with x:=x})} w:=by
 refine ⟨H.fr,H.g0,H.g1,H.gg,H.reg,H.rfree,fun b' A' hb=>?_,fun b' hb=>H.afree b' (ji hb),H.mm,H.nz⟩
 rw [aS] at hb
 split at hb
 ·rename_i e
  subst e
  split at hb
  ·cases hb
   obtain ⟨ad,cap,rows,e1,e2,e3,e4,e5,e6,e7,e8⟩:=(H.arr b A ha).ex
   exact ⟨⟨ad,cap,rows,e1,hx.trans e2,e3,e4,e5,e6,e7,e8⟩,fun j e b' c rows k1 k2 k3=>(H.arr b A ha).ns j e b' c rows k1 k2 (hx.symm.trans k3)⟩
  ·cases hb
 ·exact H.arr b' A' hb
theorem bq.Av (H : bq B E p g h w) {b : Nat} {A : Ar} (ha : nth h.arrs b=some (.here A)) (hno : iM A.K.kd=true) {rows news : List (List CD)} (hx : A.x.den E=.l rows) {x : X} {n m : Nat} {vs : List Value} (hnm : n + m≤rows.length) (hm : 0 < m)
  (hvl : vs.length=m * A.K.kd.length) (hnl : news.length=m) (hnews : ∀ i row,news[i]?=some row→aJ g A.K.kd (fun j=>vs[i * A.K.kd.length + j]?) row) (hx' : x.den E=.l (rows.take n ++ (news ++ rows.drop (n + m)))) {bb c : Nat} (hp : p.arr b=some (some ⟨bb,0,none⟩,c)) :
  (∀ j,j < vs.length→(w.cell? ⟨bb,n * A.K.kd.length + j,none⟩).isSome=true)∧(∀ j,j < vs.length→w.frozen? ⟨bb,n * A.K.kd.length + j,none⟩=false) ∧
   bq B E p g { h with arrs:=bl h.arrs b (.here { A with x:=x})} (w.setCells bb (n * A.K.kd.length) vs):=by
 obtain ⟨ad,cap,rows',e1,e2,e3,e4,e5,e6,e7,e8⟩:=(H.arr b A ha).ex
 rw [hx] at e2
 cases e2
 rw [hp] at e1
 cases e1
 obtain ⟨b',cur,k1,k2,k3,k4,k5,k6⟩:=e8 (by omega)
 cases k1
 have hfl : n * A.K.kd.length + vs.length≤cur.size:=by
  rw [k4,hvl,← Nat.add_mul]
  exact Nat.mul_le_mul_right _ (by omega)
 refine ⟨fun j hj=>?_,fun j _=>by simp only [World.frozen?,k3];simp,?_⟩
 ·simp [World.cell?,k3,show n * A.K.kd.length + j < cur.size by omega]
 ·have T:=cK bb vs (n * A.K.kd.length) w
  have hal:=cn ha
  refine H.yL T (o:=.arr b) (by simp) (fun k i' _ ⟨e,h1,h2⟩=>?_) (fun r cs' hr=>.inl ⟨by simp,hr⟩) H.rfree (fun a' A' h2=>?_) (fun s hs=>H.afree s (ji hs))
  ·subst e
   exact ⟨k2,k5 i' (by omega)⟩
  ·rw [aS] at h2
   split at h2
   ·rename_i e
    subst e
    simp only [Option.some.injEq,Pc.here.injEq] at h2
    subst h2
    right
    obtain ⟨cur',c1,c2,c3⟩:=gf bb vs (n * A.K.kd.length) w cur k3 hfl
    have hl : (rows.take n ++ (news ++ rows.drop (n + m))).length=rows.length:=by simp;omega
    refine ⟨⟨some ⟨bb,0,none⟩,c,_,hp,hx',by rw [hl];exact e3,e4,by rw [hl];exact e5,e6,e7,fun _=>⟨bb,cur',rfl,k2,c1,c2.trans k4,fun i' h'=>k5 i' (by omega),fun i' row hrow=>?_⟩⟩,fun j e b' c rows k1=>absurd k1 (pb hno j e)⟩
    have fa : ∀ row',rows[i']?=some row'→(i' < n∨n + m≤i')→row=row'→aJ g A.K.kd (fun j=>cur'[i' * A.K.kd.length + j]?) row:=fun row' h1 h2 h3=>by
     subst h3
     have R0:=k6 i' row h1
     refine aJ.of R0.length fun j k hk=>?_
     have hj : j < A.K.kd.length:=(List.getElem?_eq_some_iff.1 hk).1
     obtain ⟨v,g1,g2⟩:=R0.cell hk
     refine ⟨v,?_,g2⟩
     rw [c3,if_neg]
     ·exact g1
     ·rw [hvl,← Nat.add_mul]
      rcases h2 with h2 | h2
      ·have:=dG (n:=A.K.kd.length) hj h2
       omega
      ·have : (n + m) * A.K.kd.length≤i' * A.K.kd.length:=Nat.mul_le_mul_right _ h2
       omega
    by_cases h3 : i' < n
    ·rw [List.getElem?_append_left (by simp;omega),List.getElem?_take,if_pos h3] at hrow
     exact fa row hrow (.inl h3) rfl
    ·rw [List.getElem?_append_right (by simp;omega)] at hrow
     simp only [List.length_take] at hrow
     rw [Nat.min_eq_left (by omega)] at hrow
     by_cases h4 : i' - n < m
     ·rw [List.getElem?_append_left (by omega)] at hrow
      have R:=hnews _ _ hrow
      refine aJ.of R.length fun j k hk=>?_
      have hj : j < A.K.kd.length:=(List.getElem?_eq_some_iff.1 hk).1
      obtain ⟨v,g1,g2⟩:=R.cell hk
      refine ⟨v,?_,g2⟩
      have h5 : (i' - n) * A.K.kd.length + j < vs.length:=by rw [hvl];exact dG hj h4
      have h6 : i' * A.K.kd.length + j=n * A.K.kd.length + ((i' - n) * A.K.kd.length + j):=by
       rw [← Nat.add_assoc,← Nat.add_mul];congr 2;omega
      rw [c3,h6,if_pos (by omega),Nat.add_sub_cancel_left]
      exact g1
     ·rw [List.getElem?_append_right (by omega),List.getElem?_drop,hnl,show n + m + (i' - n - m)=i' from by omega] at hrow
      exact fa row hrow (.inr (by omega)) rfl
   ·rename_i e
    left
    exact ⟨fun e2=>e (by cases e2;rfl),h2⟩
variable (H : bq B E p g h w) (ht : ∀ i c,nth tm i=some c→c.is E p g (a.tmps.getD i Go.undef)) (dst : Option Tmp) (type : TypeId) (pos : String) (after : Array Edge) (guard : Option (Nat × Bool)) (hT : TOk P T)
include H ht hT
theorem qG (t : Nat) (x : Operand) (lo hi : Option Operand) {b e : Nat} {A : Ar} {n m lx : X} {ti ei : TI} (hti : T.get t=some ti) (hk : ti.k=.slice e) (he : T.get e=some ei) (hx : ev tm x=some (.v (.one (.sl b n)))) (hA : nth h.arrs b=some (.here A)) (hlo : vA E a lo lx)
  (h0 : ((mkLe (.int 0) lx).den E).bool=true) (hhi : (hi=none∧m=n)∨∃ y,hi=some y∧ev tm y=some (.v (.one (.int .i64 m)))) (h1 : ((mkLe lx m).den E).bool=true) (h2 : ((mkLe m (bn A.x)).den E).bool=true) :
  aU P E p g a ⟨dst,.slice t x lo hi none,type,pos,after,guard⟩ (.v (.one (.sub b ei.sz lx (sZ m lx)))):=by
 obtain ⟨ad,c,k,c1,c2,c3,ix⟩:=(bw ht hx : ∃ (A : Option Addr) (c m : Nat),p.arr b=some (A,c)∧n.den E=.i m∧m≤c∧a.eval x=.slice A m c)
 obtain ⟨ad',cap,rows,e1,e2,e3,_⟩:=(H.arr b A hA).ex
 rw [c1] at e1
 cases e1
 obtain ⟨l,l1,l2⟩:=hlo
 rw [bz,l1] at h0
 have h0:=of_decide_eq_true h0
 simp only [X.den,CD.aR] at h0
 obtain ⟨l,rfl⟩ : ∃ l' : Nat,l=l':=⟨l.toNat,by omega⟩
 have hmk : ∃ k' : Int,m.den E=.i k'∧((hi=none∧k'=k)∨∃ y,hi=some y∧a.eval y=.int .i64 k'):=by
  rcases hhi with ⟨f1,f2⟩ | ⟨y,f1,f2⟩
  ·subst f2;exact ⟨k,c2,.inl ⟨f1,rfl⟩⟩
  ·obtain ⟨u,u1,u2⟩:=(bw ht f2 : ∃ u,m.den E=.i u∧a.eval y=.int .i64 u)
   exact ⟨u,u1,.inr ⟨y,f1,u2⟩⟩
 obtain ⟨k',m1,m2⟩:=hmk
 rw [bz,l1,m1] at h1
 rw [bz,ba,m1,e2] at h2
 have h1:=of_decide_eq_true h1
 have h2:=of_decide_eq_true h2
 simp only [CD.aR,CD.ax] at h1 h2
 obtain ⟨k',rfl⟩ : ∃ k'' : Nat,k'=k'':=⟨k'.toNat,by omega⟩
 have hr:=fun w=>pZ (P:=P) (T:=T) (a:=a) dst type pos after guard hT t hti hk he ad k c l k' (by omega) (by omega) x lo hi ix (by rcases l2 with ⟨e,e0⟩ | ⟨y,e,e2⟩;exact .inl ⟨e,by omega⟩;exact .inr ⟨y,e,e2⟩)
  (by rcases m2 with ⟨e,e0⟩ | ⟨y,e,e2⟩;exact .inl ⟨e,by omega⟩;exact .inr ⟨y,e,e2⟩) w
 refine aU.same hr ⟨ad,c,l,k' - l,c1,l1,?_,by omega,rfl⟩
 rw [zj m1 l1]
 congr 1
 omega
theorem yH (t : Nat) (x y z : Operand) (lo : Option Operand) {b e : Nat} {A : Ar} {n lx m c : X} {ti ei : TI} (hti : T.get t=some ti) (hk : ti.k=.slice e) (he : T.get e=some ei) (hx : ev tm x=some (.v (.one (.sl b n)))) (hA : nth h.arrs b=some (.here A)) (hlo : vA E a lo lx)
  (hy : ev tm y=some (.v (.one (.int .i64 m)))) (hz : ev tm z=some (.v (.one (.int .i64 c)))) (hn : ∀ q∈[mkLe (.int 0) lx,mkLe lx m,mkLe m c,mkLe c (bn A.x)],(q.den E).bool=true) :
  aU P E p g a ⟨dst,.slice t x lo (some y) (some z),type,pos,after,guard⟩ (.v (.one .any)):=by
 obtain ⟨ad,cap,k,c1,c2,c3,ix⟩:=(bw ht hx : ∃ (A : Option Addr) (c m : Nat),p.arr b=some (A,c)∧n.den E=.i m∧m≤c∧a.eval x=.slice A m c)
 obtain ⟨ad',cap',rows,e1,e2,e3,_⟩:=(H.arr b A hA).ex
 rw [c1] at e1
 cases e1
 obtain ⟨l,l1,l2⟩:=hlo
 obtain ⟨i,i1,iy⟩:=(bw ht hy : ∃ k,m.den E=.i k∧a.eval y=.int .i64 k)
 obtain ⟨j,j1,iz⟩:=(bw ht hz : ∃ k,c.den E=.i k∧a.eval z=.int .i64 k)
 have n0:=hn (mkLe (.int 0) lx) (by simp)
 have n1:=hn (mkLe lx m) (by simp)
 have n2:=hn (mkLe m c) (by simp)
 have n3:=hn (mkLe c (bn A.x)) (by simp)
 rw [bz,l1] at n0
 rw [bz,l1,i1] at n1
 rw [bz,i1,j1] at n2
 rw [bz,ba,j1,e2] at n3
 have n0:=of_decide_eq_true n0
 have n1:=of_decide_eq_true n1
 have n2:=of_decide_eq_true n2
 have n3:=of_decide_eq_true n3
 simp only [X.den,CD.aR,CD.ax] at n0 n1 n2 n3
 obtain ⟨l,rfl⟩ : ∃ l' : Nat,l=l':=⟨l.toNat,by omega⟩
 obtain ⟨i,rfl⟩ : ∃ l' : Nat,i=l':=⟨i.toNat,by omega⟩
 obtain ⟨j,rfl⟩ : ∃ l' : Nat,j=l':=⟨j.toNat,by omega⟩
 obtain ⟨_,d,z',_,hu,_,_,_,_,_,_,_,h10⟩:=(hT.get t ti hti).ex
 rw [hk] at h10
 subst h10
 have a1 : l≤i:=by omega
 have a2 : i≤j:=by omega
 have a3 : j≤cap:=by omega
 rcases l2 with ⟨rfl,e0⟩ | ⟨y',rfl,il⟩
 ·have e0 : l=0:=by omega
  subst e0
  refine aU.same (v:=.slice (if j=0 then ad else ad.map (·.add (0 * ei.sz))) i j) (fun w=>?_) trivial
  simp [execOp,ix,iy,iz,Instr.sliceAt,run_underlying hu,Instr.slice,Instr.sliceBounds,Instr.sliceBound,asIntOf,run_sizeOf hT he,a2,a3]
 ·refine aU.same (v:=.slice (if j=l then ad else ad.map (·.add (l * ei.sz))) (i - l) (j - l)) (fun w=>?_) trivial
  simp [execOp,ix,iy,iz,il,Instr.sliceAt,run_underlying hu,Instr.slice,Instr.sliceBounds,Instr.sliceBound,asIntOf,run_sizeOf hT he,a1,a2,a3]
omit ht hT in
theorem yW {b : Nat} {A : Ar} (hA : nth h.arrs b=some (.here A)) {rows : List (List CD)} (hx : A.x.den E=.l rows) {bb c : Nat} (hp : p.arr b=some (some ⟨bb,0,none⟩,c)) {k m : Nat} (hkm : k + m≤rows.length) (hm : 0 < m) :
  ∃ vs : List Value,vs.length=m * A.K.kd.length∧(∀ j v,vs[j]?=some v→w.cell? ⟨bb,k * A.K.kd.length + j,none⟩=some v)∧(∀ v∈vs,v.oneCell'=true) ∧
   ∀ i row,((rows.drop k).take m)[i]?=some row→aJ g A.K.kd (fun j=>vs[i * A.K.kd.length + j]?) row:=by
 obtain ⟨ad,cap,rows',e1,e2,e3,e4,e5,e6,e7,e8⟩:=(H.arr b A hA).ex
 rw [hx] at e2
 cases e2
 rw [hp] at e1
 cases e1
 obtain ⟨b',cur,k1,k2,k3,k4,k5,k6⟩:=e8 (by omega)
 cases k1
 have hfl : k * A.K.kd.length + m * A.K.kd.length≤cur.size:=by
  rw [k4,← Nat.add_mul]
  exact Nat.mul_le_mul_right _ (by omega)
 have hget : ∀ j,j < m * A.K.kd.length→((cur.toList.drop (k * A.K.kd.length)).take (m * A.K.kd.length))[j]?=cur[k * A.K.kd.length + j]?:=fun j hj=>by
  rw [List.getElem?_take,if_pos hj,List.getElem?_drop]
  simp
 have hlen : ((cur.toList.drop (k * A.K.kd.length)).take (m * A.K.kd.length)).length=m * A.K.kd.length:=by simp;omega
 have hrow : ∀ i row,((rows.drop k).take m)[i]?=some row→i < m∧aJ g A.K.kd (fun j=>((cur.toList.drop (k * A.K.kd.length)).take (m * A.K.kd.length))[i * A.K.kd.length + j]?) row:=fun i row hi=>by
  rw [List.getElem?_take] at hi
  split at hi
  ·rename_i him
   rw [List.getElem?_drop] at hi
   have R:=k6 _ row hi
   refine ⟨him,aJ.of R.length fun j kk hk=>?_⟩
   have hj : j < A.K.kd.length:=(List.getElem?_eq_some_iff.1 hk).1
   obtain ⟨v,g1,g2⟩:=R.cell hk
   refine ⟨v,?_,g2⟩
   rw [hget _ (dG hj him),← Nat.add_assoc,← Nat.add_mul]
   exact g1
  ·cases hi
 refine ⟨_,hlen,fun j v hj=>?_,fun v hv=>?_,fun i row hi=>(hrow i row hi).2⟩
 ·have hlt:=(List.getElem?_eq_some_iff.1 hj).1
  rw [hget j (by omega)] at hj
  simp [World.cell?,k3,hj]
 ·obtain ⟨idx,hidx⟩:=List.getElem?_of_mem hv
  have hlt:=(List.getElem?_eq_some_iff.1 hidx).1
  rw [hlen] at hlt
  have hdiv : idx=(idx / A.K.kd.length) * A.K.kd.length + idx % A.K.kd.length:=by rw [Nat.mul_comm];exact (Nat.div_add_mod idx _).symm
  have hi : idx / A.K.kd.length < m:=Nat.div_lt_of_lt_mul (by rw [Nat.mul_comm];exact hlt)
  have hj:=Nat.mod_lt idx e6
  obtain ⟨row,hr⟩ : ∃ row,((rows.drop k).take m)[idx / A.K.kd.length]?=some row:=⟨_,List.getElem?_eq_getElem (by simp;omega)⟩
  obtain ⟨kk,hk⟩ : ∃ kk,A.K.kd[idx % A.K.kd.length]?=some kk:=⟨_,List.getElem?_eq_getElem hj⟩
  obtain ⟨v',hv',hrd⟩:=(hrow _ row hr).2.cell hk
  rw [← hdiv,hidx] at hv'
  cases hv'
  exact hrd.one
theorem vC (x y : Operand) {t e b : Nat} {ti ei : TI} {n i m : X} {A : Ar} (hti : T.get t=some ti) (hk : ti.k=.slice e) (he : T.get e=some ei) (hkd : A.K.kd.length=ei.sz) (hno : iM A.K.kd=true)
  (hx : ev tm x=some (.v (.one (.sl b n)))) (hy : ev tm y=some (.v (.one (.sub b ei.sz i m)))) (hA : nth h.arrs b=some (.here A))
  (h1 : ((mkLe (.add n m) (bn A.x)).den E).bool=true) (h2 : ((mkLe (.add i m) (bn A.x)).den E).bool=true) :
  mQ P B E p g h a w ⟨dst,.call { callee:=.builtin .append,args:=#[x,y],argTypes:=#[t,t]},type,pos,after,guard⟩ (.v (.one (.sl b (.add n m))))
   { h with arrs:=bl h.arrs b (.here { A with x:=.app (.take n A.x) (.app (.take m (.drop i A.x)) (.drop (.add n m) A.x))})} false:=by
 obtain ⟨i1,d1,z1,k1,k2,_,_,_,_,_,_,_,k10⟩:=(hT.get t ti hti).ex
 rw [hk] at k10
 subst k10
 obtain ⟨i2,d2,z2,g1,g2,g3,g4,g5,g6,g7,g8,g9,g10⟩:=(hT.get e ei he).ex
 obtain ⟨ad,cap,N,c1,c2,c3,ix⟩:=(bw ht hx : ∃ (A : Option Addr) (c m : Nat),p.arr b=some (A,c)∧n.den E=.i m∧m≤c∧a.eval x=.slice A m c)
 obtain ⟨ad',cap',I,M,d1,d2,d3,d4,iy⟩:=(bw ht hy : ∃ (A : Option Addr) (c k mm : Nat),p.arr b=some (A,c)∧i.den E=.i k∧m.den E=.i mm∧k + mm≤c∧a.eval y=.slice (if c=k then A else A.map (·.add (k * ei.sz))) mm (c - k))
 rw [c1] at d1
 cases d1
 obtain ⟨ad',cap',rows,e1,e2,e3,e4,e5,e6,e7,e8⟩:=(H.arr b A hA).ex
 rw [c1] at e1
 cases e1
 rw [bz,ba,e2] at h1 h2
 have h1:=of_decide_eq_true h1
 have h2:=of_decide_eq_true h2
 simp only [X.den,CD.aR,CD.ax,c2,d2,d3] at h1 h2
 have h1 : N + M≤rows.length:=by omega
 have h2 : I + M≤rows.length:=by omega
 have hden : (X.app (.take n A.x) (.app (.take m (.drop i A.x)) (.drop (.add n m) A.x))).den E=.l (rows.take N ++ ((rows.drop I).take M ++ rows.drop (N + M))):=by
  simp only [X.den,c2,d2,d3,e2,CD.aR,CD.ax,Int.toNat_natCast]
  rw [show ((N : Int) + (M : Int)).toNat=N + M from by omega]
 have hnn : (X.add n m).den E=.i ((N + M : Nat) : Int):=by simp [X.den,c2,d3]
 rcases Nat.eq_zero_or_pos M with h0 | h0
 ·subst h0
  have hs : Src P i2.size t (a.eval y) 0 [] w:=by
   rw [iy]
   generalize (if cap=I then ad else ad.map (·.add (I * ei.sz)))=A'
   cases A' with
   | none=>exact Src.ofNil w k2 _
   | some ad=>exact Src.ofSlice w k2 ad 0 _ [] (by simp) (fun j u hj=>by simp at hj) (fun u hu=>by cases hu)
  refine ⟨.slice ad N cap,w,p,?_,H.reX hA (by rw [hden,e2];simp),⟨ad,cap,N,c1,by simpa using hnn,c3,rfl⟩,Pl.Le.refl _,Nat.le_refl _,fun h=>(by cases h)⟩
  have:=run_append_nothing w t t type e i2 k2 g1 ad N cap c3 (a.eval y) hs
  simp [execOp,resolve,invoke,builtin,ix,this]
 ·obtain ⟨bb,cur,s1,_⟩:=e8 (by omega)
  subst s1
  obtain ⟨vs,v1,v2,v3,v4⟩:=yW H hA e2 c1 h2 h0
  obtain ⟨u1,u2,u3⟩:=H.Av (n:=N) (m:=M) hA hno e2 h1 h0 v1 (by simp;omega) v4 hden c1
  have hsz : A.K.kd.length=i2.size:=by omega
  have hs : Src P i2.size t (a.eval y) M vs w:=by
   rw [iy,if_neg (by omega),Option.map_some,et,Nat.zero_add]
   exact Src.ofSlice w k2 _ M _ vs (by rw [v1,hsz]) (fun j u hj=>by rw [et,← hkd];exact v2 j u hj) v3
  have hr:=run_append_room_src (P:=P) w t t type e i2 k2 g1 bb 0 N cap (a.eval y) M vs hs (by omega) (fun j hj=>by rw [Nat.zero_add,← hsz];exact u1 j hj) (fun j hj=>by rw [Nat.zero_add,← hsz];exact u2 j hj)
  rw [Nat.zero_add,← hsz] at hr
  refine ⟨.slice (some ⟨bb,0,none⟩) (N + M) cap,_,p,?_,u3,⟨_,cap,N + M,c1,hnn,by omega,rfl⟩,Pl.Le.refl _,(cK bb vs _ w).size,fun h=>(by cases h)⟩
  simp [execOp,resolve,invoke,builtin,ix,hr]
theorem Ex (x : Operand) {t e b : Nat} {ti ei : TI} {i m : X} {A : Ar} {kd : List Kd} {zd : List X} (hti : T.get t=some ti) (hk : ti.k=.slice e) (he : T.get e=some ei) (hkd : A.K.kd.length=ei.sz) (hno : iM A.K.kd=true)
  (hkk : kd=A.K.kd) (hzd : cj kd ei.zero=some zd) (hx : ev tm x=some (.v (.one (.sub b ei.sz i m)))) (hA : nth h.arrs b=some (.here A)) (h1 : ((mkLe (.add i m) (bn A.x)).den E).bool=true) :
  mQ P B E p g h a w ⟨dst,.call { callee:=.builtin .clear,args:=#[x],argTypes:=#[t]},type,pos,after,guard⟩ (.tup [])
   { h with arrs:=bl h.arrs b (.here { A with x:=.app (.take i A.x) (.app (.rep m (iC zd)) (.drop (.add i m) A.x))})} false:=by
 subst hkk
 obtain ⟨i1,d1,z1,k1,k2,_,_,_,_,_,_,_,k10⟩:=(hT.get t ti hti).ex
 rw [hk] at k10
 subst k10
 obtain ⟨i2,d2,z2,g1,g2,g3,g4,g5,g6,g7,g8,g9,g10⟩:=(hT.get e ei he).ex
 obtain ⟨ad,cap,I,M,c1,d2,d3,d4,ix⟩:=(bw ht hx : ∃ (A : Option Addr) (c k mm : Nat),p.arr b=some (A,c)∧i.den E=.i k∧m.den E=.i mm∧k + mm≤c∧a.eval x=.slice (if c=k then A else A.map (·.add (k * ei.sz))) mm (c - k))
 obtain ⟨ad',cap',rows,e1,e2,e3,e4,e5,e6,e7,e8⟩:=(H.arr b A hA).ex
 rw [c1] at e1
 cases e1
 rw [bz,ba,e2] at h1
 have h1:=of_decide_eq_true h1
 simp only [X.den,CD.aR,CD.ax,d2,d3] at h1
 have h1 : I + M≤rows.length:=by omega
 have hden : (X.app (.take i A.x) (.app (.rep m (iC zd)) (.drop (.add i m) A.x))).den E=.l (rows.take I ++ (List.replicate M (zd.map (X.den E)) ++ rows.drop (I + M))):=by
  simp only [X.den,d2,d3,e2,CD.aR,CD.ax,Int.toNat_natCast,gK,CD.row]
  rw [show ((I : Int) + (M : Int)).toNat=I + M from by omega]
  rfl
 rcases Nat.eq_zero_or_pos M with h0 | h0
 ·subst h0
  refine ⟨.tuple #[],w,p,?_,H.reX hA (by rw [hden,e2];simp),⟨[],rfl,trivial⟩,Pl.Le.refl _,Nat.le_refl _,fun h=>(by cases h)⟩
  have hc : (Builtin.clear_ #[t] type #[a.eval x]).run P w=.ok (.tuple #[]) w:=by
   rw [ix]
   generalize (if cap=I then ad else ad.map (·.add (I * ei.sz)))=A'
   cases A' <;> simp [Builtin.clear_,run_underlying k2]
  simp [execOp,resolve,invoke,builtin,hc]
 ·obtain ⟨bb,cur,s1,_⟩:=e8 (by omega)
  subst s1
  have hzl : z2.cells.size=ei.sz:=by omega
  have hzv : aE (SC.is E p g) ei.zero z2.cells.toList:=fJ g7
  have hsz : (Builtin.zeroCells z2.cells M).toList.length=M * A.K.kd.length:=by rw [Array.length_toList,size_zeroCells,hzl,hkd]
  have hget : ∀ i j,i < M→j < A.K.kd.length→(Builtin.zeroCells z2.cells M).toList[i * A.K.kd.length + j]?=z2.cells[j]?:=fun i j hi hj=>by
   have hlt : i * A.K.kd.length + j < M * z2.cells.size:=by rw [hzl,← hkd];exact dG hj hi
   have hmod : (i * A.K.kd.length + j) % z2.cells.size=j:=by rw [hkd,hzl,Nat.mul_comm,Nat.mul_add_mod,Nat.mod_eq_of_lt (by omega)]
   simp only [Builtin.zeroCells,Array.getElem?_toList,Array.getElem?_map,Array.getElem?_range,hlt,if_true,Option.map_some,hmod]
   rw [getElem!_pos z2.cells j (by omega),Array.getElem?_eq_getElem (by omega)]
  have hone : ∀ v∈(Builtin.zeroCells z2.cells M).toList,v.oneCell'=true:=fun v hv=>by
   obtain ⟨idx,hidx⟩:=List.getElem?_of_mem hv
   have hlt:=(List.getElem?_eq_some_iff.1 hidx).1
   rw [hsz] at hlt
   have hdiv : idx=(idx / A.K.kd.length) * A.K.kd.length + idx % A.K.kd.length:=by rw [Nat.mul_comm];exact (Nat.div_add_mod idx _).symm
   have hi : idx / A.K.kd.length < M:=Nat.div_lt_of_lt_mul (by rw [Nat.mul_comm];exact hlt)
   have hj:=Nat.mod_lt idx e6
   rw [hdiv,hget _ _ hi hj] at hidx
   obtain ⟨kk,hk⟩ : ∃ kk,A.K.kd[idx % A.K.kd.length]?=some kk:=⟨_,List.getElem?_eq_getElem hj⟩
   obtain ⟨v',x',q1,_,q3⟩:=(fI hzd hzv).2.2 _ kk hk
   rw [Array.getElem?_toList,hidx] at q1
   cases q1
   exact q3.one
  obtain ⟨u1,u2,u3⟩:=H.Av (n:=I) (m:=M) (vs:=(Builtin.zeroCells z2.cells M).toList) hA hno e2 h1 h0 hsz (by simp) (fun i row hi=>by
   rw [List.getElem?_replicate] at hi
   split at hi
   ·rename_i him
    cases hi
    refine lV hzd hzv fun j v hv=>?_
    have hj : j < A.K.kd.length:=by
     have:=(List.getElem?_eq_some_iff.1 hv).1
     rw [Array.length_toList] at this
     omega
    rw [hget i j him hj]
    simpa using hv
   ·cases hi) hden c1
  have hst:=run_storeCells_cells (P:=P) bb (I * A.K.kd.length) (Builtin.zeroCells z2.cells M).toList 0 w (by simpa using u1) (by simpa using u2) hone
  simp only [Nat.add_zero] at hst
  have hzr : ∀ w : World,(zeroValue e).run P w=.ok z2 w:=fun w=>by simp [zeroValue,typeInfo,g1,g5]
  refine ⟨.tuple #[],_,p,?_,u3,⟨[],rfl,trivial⟩,Pl.Le.refl _,(cK bb _ _ w).size,fun h=>(by cases h)⟩
  have hc : (Builtin.clear_ #[t] type #[a.eval x]).run P w=.ok (.tuple #[]) (w.setCells bb (I * A.K.kd.length) (Builtin.zeroCells z2.cells M).toList):=by
   rw [ix,if_neg (by omega),Option.map_some,et,Nat.zero_add,← hkd]
   obtain ⟨M',rfl⟩ : ∃ M',M=M' + 1:=⟨M - 1,by omega⟩
   simp [Builtin.clear_,run_underlying k2,hzr,hst]
  simp [execOp,resolve,invoke,builtin,hc]
end
end Go.Sy

namespace Go.Sy
open Go.RowKit
section
variable {P : Program} {T : TT} {B : cT} {E : Env} {p : Pl} {g : Gm} {h : Hp} {tm : List SR} {a : Act} {w : World}
variable (H : bq B E p g h w) (ht : ∀ i c,nth tm i=some c→c.is E p g (a.tmps.getD i Go.undef)) (hT : TOk P T)
include H ht hT
theorem yv (dst : Option Tmp) (type : TypeId) (pos : String) (after : Array Edge) (guard : Option (Nat × Bool)) {sa : Nat} {b : Builtin} {args : Array Operand} {ats : Array TypeId} {vs : List SR} {ns : List X} {r : SR} {h' : Hp} {qu : Bool}
  (hv : evs tm args.toList=some vs) (ho : fN T h sa ats.toList b vs=.val ns r h' qu) (hn : ∀ b∈ns,(b.den E).bool=true) :
  (h'=h∧aU P E p g a ⟨dst,.call { callee:=.builtin b,args:=args,argTypes:=ats},type,pos,after,guard⟩ r) ∨
   (reads ⟨dst,.call { callee:=.builtin b,args:=args,argTypes:=ats},type,pos,after,guard⟩=false∧mQ P B E p g h a w ⟨dst,.call { callee:=.builtin b,args:=args,argTypes:=ats},type,pos,after,guard⟩ r h' qu):=by
 have arr : ∀ {α : Type} {x : Array α} {l : List α},x.toList=l→x=l.toArray:=fun h=>by subst h;rfl
 have slice : ∀ {t e : Nat},isSlice T t=some e→∃ ti,T.get t=some ti∧ti.k=.slice e:=fun {t e} h=>by
  unfold isSlice at h
  split at h
  ·rename_i ht;cases h;exact ⟨_,ht,rfl⟩
  ·cases h
 unfold fN at ho
 split at ho
 ·obtain ⟨x,ex,h1⟩:=wv hv
  have:=arr ex;subst this
  split at ho
  ·rename_i t hat
   have:=arr hat;subst this
   split at ho
   ·rename_i e hs
    obtain ⟨ti,k1,k2⟩:=slice hs
    left
    split at ho
    ·cases ho;exact ⟨rfl,Ad ht dst type pos after guard hT x t e k1 k2 h1 (.inl ⟨_,rfl⟩)⟩
    ·cases ho;exact ⟨rfl,Ad ht dst type pos after guard hT x t e k1 k2 h1 (.inr (.inl ⟨_,_,rfl,rfl⟩))⟩
    ·cases ho;exact ⟨rfl,Ad ht dst type pos after guard hT x t e k1 k2 h1 (.inr (.inr ⟨.inl rfl,rfl⟩))⟩
    ·cases ho;exact ⟨rfl,Ad ht dst type pos after guard hT x t e k1 k2 h1 (.inr (.inr ⟨.inr rfl,rfl⟩))⟩
    ·cases ho
   ·cases ho
  ·cases ho
 ·obtain ⟨x,y,ex,h1,h2⟩:=wu hv
  have:=arr ex;subst this
  cases ho
  exact .inl ⟨rfl,y_min ht dst type pos after guard x y ats h1 h2⟩
 ·obtain ⟨x,y,ex,h1,h2⟩:=wu hv
  have:=arr ex;subst this
  cases ho
  exact .inl ⟨rfl,y_max ht dst type pos after guard x y ats h1 h2⟩
 ·obtain ⟨x,y,ex,h1,h2⟩:=wu hv
  have:=arr ex;subst this
  split at ho
  ·rename_i t u hat
   have:=arr hat;subst this
   split at ho
   ·rename_i htu
    have htu:=Nat.eq_of_beq_eq_true htu
    subst htu
    split at ho
    ·rename_i e hs
     obtain ⟨ti,k1,k2⟩:=slice hs
     split at ho
     ·rename_i hei
      dsimp only at ho
      split at ho
      ·rename_i hc
       simp only [Bool.and_eq_true] at hc
       obtain ⟨⟨c1,c2⟩,c3,c4⟩:=hc
       split at ho
       ·rename_i ns0 dy hsl
        right
        refine ⟨rfl,?_⟩
        split at ho
        ·cases ho
         exact sf H ht dst type pos after guard hT x y k1 k2 hei (Nat.eq_of_beq_eq_true c1) (Hk c2) (Hk c3) h1 h2 hsl (fun b hb=>hn b (List.mem_append_left _ hb)) c4 (.inl ⟨.inl rfl,rfl,rfl,rfl,rfl,fun h=>h⟩) (fun b hb=>hn b (List.mem_append_right _ hb))
        ·cases ho
         exact sf H ht dst type pos after guard hT x y k1 k2 hei (Nat.eq_of_beq_eq_true c1) (Hk c2) (Hk c3) h1 h2 hsl (fun b hb=>hn b (List.mem_append_left _ hb)) c4 (.inl ⟨.inr rfl,rfl,rfl,rfl,rfl,fun h=>h⟩) (fun b hb=>hn b (List.mem_append_right _ hb))
        ·split at ho
         ·rename_i hA
          split at ho
          ·rename_i hcc
           simp only [Bool.and_eq_true] at hcc
           cases ho
           refine sf H ht dst type pos after guard hT x y k1 k2 hei (Nat.eq_of_beq_eq_true c1) (Hk c2) (Hk c3) h1 h2 hsl (fun b hb=>hn b (List.mem_append_left _ hb)) c4 (.inr ⟨_,_,_,rfl,hA,SK.av hcc.1.1,Nat.eq_of_beq_eq_true hcc.1.2,fun c n' e0 e1=>?_,rfl,rfl,rfl,rfl,fun hq=>by simpa using hq⟩) (fun b hb=>hn b (List.mem_append_right _ hb))
           subst e0;subst e1
           have:=hcc.2
           simp [notAr] at this
          ·cases ho
         ·cases ho
        ·cases ho
       ·split at ho
        ·split at ho
         ·rename_i A hA
          split at ho
          ·rename_i hp
           cases ho
           right
           refine ⟨rfl,?_⟩
           unfold C7 at hp
           split at hp
           ·split at hp
            ·rename_i hc2
             simp only [Bool.and_eq_true] at hc2
             cases hp
             have e1:=Nat.eq_of_beq_eq_true hc2.1.1
             have e2:=Nat.eq_of_beq_eq_true hc2.1.2.1
             have e3:=SK.av hc2.2.1
             have hkl : A.K.kd.length=_:=(congrArg (fun K : SK=>K.kd.length) e3).trans (Nat.eq_of_beq_eq_true c1)
             subst e1
             rw [e2.trans hkl] at h2
             exact vC H ht dst type pos after guard hT x y k1 k2 hei hkl hc2.1.2.2 h1 h2 hA (hn _ (by simp)) (hn _ (by simp))
            ·cases hp
           ·cases hp
          ·cases ho
         ·cases ho
        ·cases ho
      ·cases ho
     ·cases ho
    ·cases ho
   ·cases ho
  ·cases ho
 ·obtain ⟨x,ex,h1⟩:=wv hv
  have:=arr ex;subst this
  split at ho
  ·rename_i t hat
   have:=arr hat;subst this
   split at ho
   ·rename_i e hs
    obtain ⟨ti,k1,k2⟩:=slice hs
    split at ho
    ·rename_i ei A hei hA
     split at ho
     ·rename_i zd hzd
      unfold iW at hzd
      cases hkd : ei.kd with
      | none=>simp only [hkd] at hzd;cases hzd
      | some kd =>
       simp only [hkd] at hzd ho
       split at ho
       ·rename_i hc
        simp only [Bool.and_eq_true] at hc
        cases ho
        have e1:=Nat.eq_of_beq_eq_true hc.1.2
        subst e1
        exact .inr ⟨rfl,Ex H ht dst type pos after guard hT x k1 k2 hei (Nat.eq_of_beq_eq_true hc.2.1) (by rw [← Kd.fu _ _ hc.2.2.1.1];exact hc.2.2.1.2) (Kd.fu _ _ hc.2.2.1.1) hzd h1 hA (hn _ (by simp))⟩
       ·cases ho
     ·cases ho
    ·cases ho
   ·cases ho
  ·cases ho
 ·cases ho
theorem Bk {o : Oper} {sr sa : Nat} {ns : List X} {r : SR} {h' : Hp} {qu : Bool} (ho : aop T tm h sr sa o.op=.val ns r h' qu) (hn : ∀ b∈ns,(b.den E).bool=true) :
  (h'=h∧aU P E p g a o r)∨(h'=h∧gi o=false∧Aa P E p g h a w o r)∨(reads o=false∧mQ P B E p g h a w o r h' qu):=by
 obtain ⟨dst,op,type,pos,after,guard⟩:=o
 dsimp only at ho
 cases op with
 | move x =>
  simp only [aop] at ho
  split at ho
  ·rename_i h1;cases ho;exact .inl ⟨rfl,y_move ht _ _ _ _ _ x h1⟩
  ·cases ho
 | assign x =>
  simp only [aop] at ho
  split at ho
  ·rename_i h1;cases ho;exact .inl ⟨rfl,CC ht _ _ _ _ _ x h1⟩
  ·cases ho
 | pick c x y =>
  simp only [aop] at ho
  split at ho
  ·rename_i h1 h2 h3;cases ho;exact .inl ⟨rfl,y_pick ht _ _ _ _ _ c x y h1 h2 h3⟩
  ·cases ho
  ·cases ho
 | alloc t =>
  simp only [aop] at ho
  split at ho
  ·rename_i h1
   split at ho
   ·rename_i hf
    cases ho;exact .inr (.inr ⟨rfl,Ez H _ _ _ _ _ hT t h1 hf⟩)
   ·cases ho
  ·cases ho
 | box t x =>
  simp only [aop] at ho
  split at ho
  ·rename_i h1 h2
   split at ho
   ·rename_i h3
    simp only [Bool.and_eq_true] at h3
    cases ho
    exact .inr (.inr ⟨rfl,y_box H ht _ _ _ _ _ t x h2 h3.1 h3.2⟩)
   ·cases ho
  ·cases ho
 | load t x =>
  simp only [aop] at ho
  split at ho
  ·rename_i h1;obtain ⟨e1,e2⟩:=y_load H ht _ _ _ _ _ hT t x h1 ho hn;exact .inr (.inl ⟨e1,rfl,e2⟩)
  ·cases ho
 | nilCheck x =>
  simp only [aop] at ho
  split at ho
  ·rename_i h1;cases ho;exact .inl ⟨rfl,CA ht _ _ _ _ _ x h1⟩
  ·rename_i h1
   split at ho
   ·cases ho;exact .inl ⟨rfl,Eu ht _ _ _ _ _ x h1⟩
   ·cases ho
  ·rename_i h1;cases ho;exact .inl ⟨rfl,Es ht _ _ _ _ _ x h1⟩
  ·rename_i h1;cases ho;exact .inl ⟨rfl,Et ht _ _ _ _ _ x h1⟩
  ·cases ho
 | fieldAddr t x f =>
  simp only [aop] at ho
  split at ho
  ·rename_i hk h1
   split at ho
   ·rename_i hfs
    split at ho
    ·rename_i hu
     split at ho
     ·rename_i hz
      split at ho
      ·cases ho;exact .inl ⟨rfl,yK ht _ _ _ _ _ hT t f x hk rfl hfs hu (Hk hz) h1⟩
      ·split at ho
       ·cases ho;exact .inl ⟨rfl,Bu ht _ _ _ _ _ hT t f x hk rfl hfs hu (Hk hz) h1⟩
       ·cases ho
      ·split at ho
       ·cases ho;exact .inl ⟨rfl,Bt ht _ _ _ _ _ hT t f x hk rfl hfs hu (Hk hz) h1⟩
       ·cases ho
      ·cases ho
     ·cases ho
    ·cases ho
   ·cases ho
  ·cases ho
 | indexAddr t x i =>
  simp only [aop] at ho
  split at ho
  ·rename_i hk h1 h2
   split at ho
   ·rename_i he
    split at ho
    ·split at ho
     ·rename_i hA
      split at ho
      ·cases ho;exact .inl ⟨rfl,Br H ht _ _ _ _ _ hT t x i hk rfl he h1 h2 hA hn⟩
      ·cases ho
     ·cases ho
    ·split at ho
     ·rename_i hz
      simp only [Bool.and_eq_true] at hz
      cases ho;exact .inl ⟨rfl,Bs ht _ _ _ _ _ hT t x i hk rfl he h1 h2 (Nat.eq_of_beq_eq_true hz.1) hn⟩
     ·cases ho
    ·cases ho
   ·cases ho
  ·rename_i hk h1 h2
   split at ho
   ·rename_i he hj
    split at ho
    ·rename_i hjn;cases ho;exact .inl ⟨rfl,yJ ht _ _ _ _ _ hT t x i hk rfl he h1 h2 hj (Hk hjn)⟩
    ·cases ho
   ·cases ho
  ·cases ho
 | index t x i =>
  simp only [aop] at ho
  split at ho
  ·rename_i hk h1 h2
   split at ho
   ·rename_i he hj
    split at ho
    ·rename_i hb
     simp only [Bool.and_eq_true] at hb
     split at ho
     ·rename_i hm
      split at ho
      ·rename_i hr;cases ho;exact .inl ⟨rfl,Ev ht _ _ _ _ _ hT t x i hk rfl he h1 h2 hj (Hk hb.1) hm hr⟩
      ·cases ho
     ·cases ho
    ·cases ho
   ·cases ho
  ·cases ho
 | field t x f =>
  simp only [aop] at ho
  split at ho
  ·rename_i hk h1
   split at ho
   ·rename_i hfs
    split at ho
    ·rename_i hu
     split at ho
     ·rename_i hm
      split at ho
      ·rename_i hr;cases ho;exact .inl ⟨rfl,Ew ht _ _ _ _ _ hT t f x hk rfl hfs hu h1 hm hr⟩
      ·cases ho
     ·cases ho
    ·cases ho
   ·cases ho
  ·cases ho
 | extract x i =>
  simp only [aop] at ho
  split at ho
  ·rename_i h1
   split at ho
   ·rename_i h2;cases ho;exact .inl ⟨rfl,Bv ht _ _ _ _ _ x i h1 h2⟩
   ·cases ho
  ·cases ho
 | binOp op t x y yt =>
  simp only [aop] at ho
  split at ho
  ·rename_i h1 h2;exact .inl (y_bin ht _ _ _ _ _ hT op t x y yt h1 h2 ho hn)
  ·cases ho
 | unOp op t x =>
  cases op with
  | not =>
   simp only [aop] at ho
   split at ho
   ·rename_i h1;cases ho;exact .inl ⟨rfl,y_not ht _ _ _ _ _ t x h1⟩
   ·cases ho
  | neg =>
   simp only [aop] at ho
   split at ho
   ·rename_i h1
    split at ho
    ·rename_i hq;cases ho;exact .inl ⟨rfl,y_neg ht _ _ _ _ _ t x h1 hq hn⟩
    ·cases ho
   ·cases ho
  | _=>simp only [aop] at ho;cases ho
 | build t parts =>
  simp only [aop] at ho
  split at ho
  ·rename_i h1 h2
   split at ho
   ·cases ho
   ·rename_i hb
    split at ho
    ·rename_i h3
     split at ho
     ·cases ho
      simp only [Bool.or_eq_true,Bool.not_eq_true',not_or,Bool.not_eq_false] at hb
      exact .inl ⟨rfl,Ey ht _ _ _ _ _ hT t parts h1 h2 hb.2 hb.1 h3⟩
     ·cases ho
    ·cases ho
  ·cases ho
 | buildSlice t n parts =>
  simp only [aop] at ho
  split at ho
  ·rename_i hk h2
   split at ho
   ·rename_i he
    split at ho
    ·rename_i h3 hkd
     split at ho
     ·rename_i hb
      simp only [Bool.and_eq_true] at hb
      obtain ⟨⟨b1,b2,b3⟩,b4,b5,b6⟩:=hb
      split at ho
      ·cases ho
      ·split at ho
       ·rename_i hx
        cases ho
        exact .inr (.inr ⟨rfl,vB H ht _ _ _ _ _ hT t n parts hk rfl he h2 b4 h3 (Hk b1.1) (Nat.le_of_ble_eq_true b2) (Nat.eq_of_beq_eq_true b3) (Nat.le_of_ble_eq_true b5) (Hk b1.2) hx b6⟩)
       ·cases ho
     ·cases ho
    ·cases ho
   ·cases ho
  ·cases ho
 | makeFunc f first caps =>
  cases f with
  | func f =>
   simp only [aop] at ho
   split at ho
   ·rename_i h1 h2
    split at ho
    ·rename_i h3
     cases ho
     have : first=#[]:=by
      apply Array.ext'
      simpa using h1
     subst this
     exact .inl ⟨rfl,yI ht _ _ _ _ _ f caps h2 h3⟩
    ·cases ho
   ·cases ho
  | _=>simp only [aop] at ho;cases ho
 | makeSlice t n c =>
  simp only [aop] at ho
  split at ho
  ·rename_i hk h1 h2
   split at ho
   ·rename_i he
    split at ho
    ·rename_i hkd hzd
     split at ho
     ·rename_i hb
      simp only [Bool.and_eq_true] at hb
      obtain ⟨⟨b1,b2⟩,b3,b4,b5⟩:=hb
      cases ho
      have hzd':=hzd
      unfold iW at hzd'
      rw [hkd] at hzd'
      dsimp only at hzd'
      exact .inr (.inr ⟨rfl,wJ H ht _ _ _ _ _ hT t n c hk rfl he h1 h2 b1 (Hk b2) hzd' (Nat.eq_of_beq_eq_true b3) (Hk b4) hn b5⟩)
     ·cases ho
    ·cases ho
   ·cases ho
  ·cases ho
 | slice t x lo hi mx =>
  simp only [aop] at ho
  have bnd : ∀ {lo : Option Operand} {lx : X},(match lo with | none=>some (SR.v (.one (.int .i64 (.int 0)))) | some l=>ev tm l)=some (.v (.one (.int .i64 lx)))→vA E a lo lx∧(lo=none→lx=.int 0):=fun {lo lx} hl=>by
   cases lo with
   | none=>cases hl;exact ⟨⟨0,rfl,.inl ⟨rfl,rfl⟩⟩,fun _=>rfl⟩
   | some l =>
    obtain ⟨k,k1,k2⟩:=(bw ht hl : ∃ k,lx.den E=.i k∧a.eval l=.int .i64 k)
    exact ⟨⟨k,k1,.inr ⟨l,rfl,k2⟩⟩,fun h=>(by cases h)⟩
  have opt : ∀ {o : Option Operand} {v : SR},(match o with | none=>some none | some l=>(ev tm l).map some)=some (some v)→∃ y,o=some y∧ev tm y=some v:=fun {o v} hl=>by
   cases o with
   | none=>cases hl
   | some l =>
    cases he : ev tm l with
    | none=>simp only [he] at hl;cases hl
    | some u=>simp only [he] at hl;cases hl;exact ⟨l,rfl,he⟩
  have optn : ∀ {o : Option Operand},(match o with | none=>some none | some l=>(ev tm l).map some)=some (none : Option SR)→o=none:=fun {o} hl=>by
   cases o with
   | none=>rfl
   | some l=>cases he : ev tm l <;> simp only [he] at hl <;> cases hl
  split at ho
  ·rename_i e x' lx hi' mx' hk h1 h2 h3 h4
   obtain ⟨hlo,hl0⟩:=bnd h2
   split at ho
   ·rename_i he
    obtain ⟨z,rfl,hz⟩:=opt h4
    obtain ⟨y,rfl,hy⟩:=opt h3
    left
    split at ho <;> cases ho
    ·exact ⟨rfl,iE ht _ _ _ _ _ hT t x y z lo hk rfl he h1 (.inl ⟨_,_,rfl⟩) hlo hy hz⟩
    ·exact ⟨rfl,iE ht _ _ _ _ _ hT t x y z lo hk rfl he h1 (.inr (.inl ⟨_,_,rfl⟩)) hlo hy hz⟩
    ·exact ⟨rfl,iE ht _ _ _ _ _ hT t x y z lo hk rfl he h1 (.inr (.inr (.inl rfl))) hlo hy hz⟩
    ·exact ⟨rfl,iE ht _ _ _ _ _ hT t x y z lo hk rfl he h1 (.inr (.inr (.inr rfl))) hlo hy hz⟩
   ·rename_i he
    obtain ⟨z,rfl,hz⟩:=opt h4
    obtain ⟨y,rfl,hy⟩:=opt h3
    left
    split at ho
    ·split at ho
     ·rename_i hA
      cases ho
      exact ⟨rfl,yH H ht _ _ _ _ _ hT t x y z lo hk rfl he h1 hA hlo hy hz hn⟩
     ·cases ho
    ·cases ho
   ·rename_i he
    have:=optn h4
    subst this
    left
    split at ho
    ·split at ho
     ·rename_i m
      obtain ⟨y,rfl,hy⟩:=opt h3
      cases ho
      exact ⟨rfl,uD ht _ _ _ _ _ hT t x lo _ hk rfl he h1 hlo rfl (.inr ⟨y,rfl,hy,hn _ (by simp),hn _ (by simp)⟩)⟩
     ·have:=optn h3
      subst this
      cases ho
      exact ⟨rfl,uD ht _ _ _ _ _ hT t x lo _ hk rfl he h1 hlo rfl (.inl ⟨rfl,rfl⟩)⟩
     ·split at ho
      ·rename_i hA
       split at ho
       ·rename_i m
        obtain ⟨y,rfl,hy⟩:=opt h3
        cases ho
        exact ⟨rfl,qG H ht _ _ _ _ _ hT t x lo _ hk rfl he h1 hA hlo (hn _ (by simp)) (.inr ⟨y,rfl,hy⟩) (hn _ (by simp)) (hn _ (by simp))⟩
       ·have:=optn h3
        subst this
        cases ho
        exact ⟨rfl,qG H ht _ _ _ _ _ hT t x lo _ hk rfl he h1 hA hlo (hn _ (by simp)) (.inl ⟨rfl,rfl⟩) (hn _ (by simp)) (hn _ (by simp))⟩
       ·cases ho
      ·cases ho
    ·split at ho
     ·cases ho
     ·rename_i hz
      simp only [Bool.not_eq_true',Bool.not_eq_false] at hz
      have hz:=Nat.eq_of_beq_eq_true hz
      split at ho
      ·rename_i m
       obtain ⟨y,rfl,hy⟩:=opt h3
       cases ho
       exact ⟨rfl,uE ht _ _ _ _ _ hT t x lo _ hk rfl he h1 hlo hz (hn _ (by simp)) (.inr ⟨y,rfl,rfl,hy,hn _ (by simp),hn _ (by simp)⟩)⟩
      ·have:=optn h3
       subst this
       cases ho
       exact ⟨rfl,uE (m:=.int 0) ht _ _ _ _ _ hT t x lo _ hk rfl he h1 hlo hz (hn _ (by simp)) (.inl ⟨rfl,rfl,hn _ (by simp)⟩)⟩
      ·cases ho
    ·cases ho
   ·cases ho
  ·cases ho
 | call c =>
  obtain ⟨callee,args,ats⟩:=c
  cases callee with
  | value f =>
   simp only [aop] at ho
   split at ho
   ·split at ho <;> cases ho
   ·rename_i h1 _;cases h1
   ·cases ho
  | invoke r m=>simp only [aop] at ho;cases ho
  | builtin b =>
   simp only [aop] at ho
   split at ho
   ·rename_i h1 _;cases h1
   ·rename_i b' as h1 h2
    cases h1
    rcases yv H ht hT _ _ _ _ _ h2 ho hn with h | h
    ·exact .inl h
    ·exact .inr (.inr h)
   ·cases ho
 | store t x v =>
  simp only [aop] at ho
  split at ho
  ·unfold storeAt at ho
   repeat (split at ho <;> try (cases ho;done))
  ·cases ho
 | makeMap t r =>
  cases r with
  | some r=>simp only [aop] at ho;cases ho
  | none =>
   simp only [aop] at ho
   split at ho
   ·split at ho
    ·split at ho
     ·split at ho
      ·cases ho
       exact .inr (.inr ⟨rfl,Bq H _ _ _ _ _ t _ rfl⟩)
      ·cases ho
     ·cases ho
    ·cases ho
   ·cases ho
 | lookup t m x c =>
  cases c with
  | true=>simp only [aop] at ho;cases ho
  | false =>
   simp only [aop] at ho
   split at ho
   ·rename_i hti hm hx
    split at ho
    ·rename_i hM hki hvi
     split at ho
     ·rename_i hc
      simp only [Bool.and_eq_true] at hc
      split at ho
      ·rename_i hks hz
       cases ho
       exact .inr (.inr ⟨rfl,CB H ht _ _ _ _ _ hT t m x hti rfl hm hx hM hki hvi hc.1 hc.2 hks hz⟩)
      ·cases ho
     ·cases ho
    ·cases ho
   ·cases ho
 | mapUpdate t m x v =>
  simp only [aop] at ho
  repeat (split at ho <;> try (cases ho;done))
  all_goals cases ho
 | insert t m x v =>
  simp only [aop] at ho
  repeat (split at ho <;> try (cases ho;done))
  all_goals cases ho
 | _=>simp only [aop] at ho;cases ho
theorem Ed {o : Oper} {sr sa : Nat} {ns : List X} {h' : Hp} (ho : aop T tm h sr sa o.op=.skip ns h') (hn : ∀ b∈ns,(b.den E).bool=true) :
  ∃ w',(execOp a.eval o).run P w=.ok .skip w'∧bq B E p g h' w'∧w.heap.size≤w'.heap.size:=by
 obtain ⟨dst,op,type,pos,after,guard⟩:=o
 dsimp only at ho
 have key : ∀ t x v ra rx,ev tm x=some ra→ev tm v=some rx→storeAt T h t ra rx=.skip ns h'→∃ w',(Instr.storeAt t (a.eval x) (a.eval v)).run P w=.ok () w'∧bq B E p g h' w'∧w.heap.size≤w'.heap.size:=by
  intro t x v ra rx h1 h2 ho
  have ha:=bw ht h1
  have hx:=bw ht h2
  generalize a.eval x=va at ha ⊢
  generalize a.eval v=vx at hx ⊢
  unfold storeAt at ho
  split at ho
  ·cases ho
  ·rename_i xx
   split at ho
   ·cases ho
   ·rename_i ti hti
    split at ho
    ·rename_i hlc
     simp only [Bool.and_eq_true] at hlc
     obtain ⟨hl,hfull⟩:=hlc
     have hl:=Nat.eq_of_beq_eq_true hl
     have hone : ∀ c u,c∈xx.cells→SC.is E p g c u→u.oneCell'=true:=fun c u hc hu=>by
      have hf:=dZ hfull c hc
      exact SC.one hu (by rintro rfl;cases hf) (by rintro rfl;cases hf)
     have hcells : aE (SC.is E p g) xx.cells vx.cells.toList:=tW hx fun c e=>by
      subst e
      exact .inl (hone c vx (by simp [SV.cells]) hx)
     have hcl:=hcells.length
     have hsz : vx.cells.size=ti.sz:=by rw [← hl,hcl,Array.length_toList]
     have hones : ∀ y∈vx.cells.toList,y.oneCell'=true:=fun y hy=>by
      obtain ⟨j,hj⟩:=List.getElem?_of_mem hy
      obtain ⟨c,hc⟩:=cH (l:=xx.cells) (i:=j) (by rw [hcl];exact (List.getElem?_eq_some_iff.1 hj).1)
      obtain ⟨u,hu,hcu⟩:=hcells.nth hc
      rw [aW,hj] at hu
      cases hu
      exact hone c y (AL hc) hcu
     have run : ∀ b o (w : World),(∀ j,j < vx.cells.toList.length→(w.cell? ⟨b,o + j,none⟩).isSome=true)→(∀ j,j < vx.cells.toList.length→w.frozen? ⟨b,o + j,none⟩=false)→(Instr.storeAt t (.pointer (some ⟨b,o,none⟩)) vx).run P w=.ok () (w.setCells b o vx.cells.toList):=fun b o w hc hf=>by
      have hs:=run_storeCells_cells (P:=P) b o vx.cells.toList 0 w (by simpa using hc) (by simpa using hf) hones
      simp only [Nat.add_zero] at hs
      simp [Instr.storeAt,Instr.sureAddr,storeVar,run_sizeOf hT hti,hsz,hs]
     split at ho
     ·rename_i r o
      split at ho
      ·rename_i cs hcs
       split at ho
       ·rename_i hle
        have hle:=Nat.le_of_ble_eq_true hle
        cases ho
        obtain ⟨b,q,hp,e⟩:=(ha : ∃ b q,p.reg r=some (b,q)∧va=.pointer (some ⟨b,q + o,none⟩))
        subst e
        have hc : ∀ j,j < vx.cells.toList.length→∃ c,nth cs (o + j)=some c:=fun j hj=>cH (by omega)
        refine ⟨_,run b (q + o) w (fun j hj=>?_) (fun j hj=>?_),H.CN hcs (by omega) hcells hp,(cK b _ _ w).size⟩
        ·obtain ⟨c,hc⟩:=hc j hj
         obtain ⟨u,_,k2,_⟩:=H.sL hcs hc hp
         rw [Nat.add_assoc,k2 w (bj.refl _ _ _ _)];rfl
        ·obtain ⟨c,hc⟩:=hc j hj
         obtain ⟨u,_,_,_,k4,_⟩:=H.sL hcs hc hp
         rw [Nat.add_assoc];exact k4
       ·cases ho
      ·cases ho
     ·rename_i b z i o
      split at ho
      ·rename_i A hA
       split at ho
       ·rename_i hz
        simp only [Bool.and_eq_true] at hz
        have hz1:=Nat.eq_of_beq_eq_true hz.1
        have hz2:=Nat.le_of_ble_eq_true hz.2
        subst hz1
        split at ho
        ·cases ho
        ·split at ho
         ·rename_i ds hds
          cases ho
          obtain ⟨bb,c,n,k1,k2,e⟩:=(ha : ∃ bb c n : Nat,p.arr b=some (some ⟨bb,0,none⟩,c)∧i.den E=.i n∧va=.pointer (some ⟨bb,n * A.K.kd.length + o,none⟩))
          subst e
          obtain ⟨h0,h3⟩:=dN (ba A.x) hn
          rw [k2] at h3
          simp only [CD.aR,Int.toNat_natCast] at h3
          obtain ⟨d1,d2,_⟩:=fI hds hcells
          have hdl : ds.length=ti.sz:=by rw [d1,List.length_take,List.length_drop];omega
          obtain ⟨b',c',g1,g2,g3,g4⟩:=H.CO (o:=o) (kd:=(A.K.kd.drop o).take ti.sz) hA k2 h3 (by rw [hdl]) hds (by omega) hcells
          rw [k1] at g1
          cases g1
          have hX : (if ml ti.agg ti.sz ((A.K.kd.drop o).take ti.sz)=true then mkSet A.x i o (ds.headD .nil) else setCells A.x i o ds).den E=(setCells A.x i o ds).den E:=by
           split
           ·rename_i hos
            obtain ⟨_,o2,_⟩:=nL hos
            match ds,(show ds.length=1 by omega) with
            | [d],_=>exact qi _ _ _ _
           ·rfl
          have g5:=g4.reX (b:=b) (by rw [aS,if_pos rfl,if_pos (cn hA)]) hX
          simp only [uq] at g5
          exact ⟨_,run bb (n * A.K.kd.length + o) w g2 g3,g5,(cK bb _ _ w).size⟩
         ·cases ho
       ·cases ho
      ·cases ho
     ·cases ho
    ·cases ho
 cases op with
 | store t x v =>
  simp only [aop] at ho
  split at ho
  ·rename_i h1 h2
   obtain ⟨w',e,k1,k2⟩:=key t x v _ _ h1 h2 ho
   exact ⟨w',by simp [execOp,e],k1,k2⟩
  ·cases ho
 | mapUpdate t m x v =>
  simp only [aop] at ho
  split at ho
  ·rename_i hti hm hx hv
   split at ho
   ·rename_i hM hki hvi
    split at ho
    ·rename_i hc
     simp only [Bool.and_eq_true] at hc
     split at ho
     ·rename_i hks hd
      cases ho
      obtain ⟨w',g1,g2⟩:=qH H ht _ _ _ _ _ hT t m x v hti rfl hm hx hv hM hki hc.1 hc.2 hks hd
      exact ⟨w',g1 _ (.inl rfl),g2⟩
     ·cases ho
    ·cases ho
   ·cases ho
  ·cases ho
 | insert t m x v =>
  simp only [aop] at ho
  split at ho
  ·rename_i hti hm hx hv
   split at ho
   ·rename_i hM hki hvi
    split at ho
    ·rename_i hc
     simp only [Bool.and_eq_true] at hc
     split at ho
     ·rename_i hks hd
      cases ho
      obtain ⟨w',g1,g2⟩:=qH H ht _ _ _ _ _ hT t m x v hti rfl hm hx hv hM hki hc.1 hc.2 hks hd
      exact ⟨w',g1 _ (.inr rfl),g2⟩
     ·cases ho
    ·cases ho
   ·cases ho
  ·cases ho
 | load t x =>
  simp only [aop] at ho
  split at ho
  ·unfold loadAt at ho
   repeat (split at ho <;> try (cases ho;done))
  ·cases ho
 | binOp op t x y yt =>
  simp only [aop] at ho
  split at ho
  ·unfold IL at ho
   repeat (split at ho <;> try (cases ho;done))
  ·cases ho
 | call c =>
  simp only [aop] at ho
  repeat (split at ho <;> try (cases ho;done))
  unfold fN at ho
  repeat (first | (split at ho <;> try (cases ho;done)) | dsimp only at ho)
 | makeMap t r =>
  cases r <;> simp only [aop] at ho <;> repeat (split at ho <;> try (cases ho;done))
  all_goals cases ho
 | lookup t m x c =>
  cases c <;> simp only [aop] at ho <;> repeat (split at ho <;> try (cases ho;done))
  all_goals cases ho
 | unOp op t x =>
  cases op <;> simp only [aop] at ho <;> repeat (split at ho <;> try (cases ho;done))
  all_goals cases ho
 | makeFunc f first caps =>
  cases f <;> simp only [aop] at ho <;> repeat (split at ho <;> try (cases ho;done))
  all_goals cases ho
 | _ =>
  simp only [aop] at ho
  first
   | (cases ho;done)
   | (repeat (split at ho <;> try (cases ho;done)))
end
end Go.Sy

namespace Go.Sy
open Go.RowKit
mutual
def CD.ok0 : Kd→CD→Prop
 | .int _,d=>∃ n,d=.i n
 | .bool,d=>∃ b,d=.b b
 | .str,d=>∃ s,d=.s s
 | .sl by_ kd,d=>∃ rows,d=.l rows∧rows.length * by_≤B47∧∀ row,row∈rows→CD.ny kd row
 | .os _,d=>(∃ rows,(d=.l rows∨d=.o rows)∧wI rows)∨d.isH=true
def CD.ny : List Kd→List CD→Prop
 | [],[]=>True
 | k :: ks,d :: ds=>CD.ok0 k d∧CD.ny ks ds
 | _,_=>False
end
mutual
theorem Rd.ok0 {g : Gm} : ∀ (k : Kd) (v : Value) (d : CD),Rd g k v d→CD.ok0 k d
 | .int _,_,_,h=>by simp only [Rd] at h;obtain ⟨n,_,e⟩:=h;exact ⟨n,e⟩
 | .bool,_,_,h=>by simp only [Rd] at h;obtain ⟨n,_,e⟩:=h;exact ⟨n,e⟩
 | .str,_,_,h=>by simp only [Rd] at h;obtain ⟨n,_,e⟩:=h;exact ⟨_,e⟩
 | .os _,_,d,h=>by
  simp only [Rd] at h
  simp only [CD.ok0]
  cases d with
  | l r =>
   obtain ⟨A,c,_,_,_,h1,h2⟩:=h
   refine .inl ⟨r,.inl rfl,h1,fun row hr=>?_⟩
   obtain ⟨i,hi⟩:=List.getElem?_of_mem hr
   obtain ⟨b,q,_,h3⟩:=h2 (by have:=(List.getElem?_eq_some_iff.1 hi).1;omega)
   obtain ⟨k,h4,_⟩:=h3 i row hi
   exact ⟨k,h4⟩
  | o r=>exact .inl ⟨r,.inr rfl,h.2⟩
  | h s n=>exact .inr rfl
  | _=>exact h.elim
 | .sl by_ kd,v,d,h=>by
  simp only [Rd] at h
  obtain ⟨A,n,c,rows,_,e1,e2,_,_,e5,e6⟩:=h
  simp only [CD.ok0]
  refine ⟨rows,e1,by rw [e2];exact e5,fun row hr=>?_⟩
  obtain ⟨i,hi⟩:=List.getElem?_of_mem hr
  obtain ⟨b,q,_,e8⟩:=e6 (by have:=(List.getElem?_eq_some_iff.1 hi).1;omega)
  exact aJ.ny kd _ row (e8 i row hi)
theorem aJ.ny {g : Gm} : ∀ (kd : List Kd) (f : Nat→Option Value) (row : List CD),aJ g kd f row→CD.ny kd row
 | [],_,[],_=>trivial
 | k :: ks,_,d :: ds,⟨⟨v,_,hr⟩,hrest⟩=>⟨Rd.ok0 k v d hr,aJ.ny ks _ ds hrest⟩
 | [],_,_ :: _,hr=>hr.elim
 | _ :: _,_,[],hr=>hr.elim
end
def CD.cl (kd : List Kd) (d : CD) : Prop:=∀ rows,d=.l rows→∀ (j e : Nat),kd[j]?=some (.os e)→∀ row∈rows,(row.getD j .u).isH=false
def CD.ok (k : Kd) (d : CD) : Prop:=match k with
 | .sl by_ kd=>CD.ok0 (.sl by_ kd) d∧CD.cl kd d
 | k=>CD.ok0 k d
def CD.oks : List Kd→List CD→Prop
 | [],[]=>True
 | k :: ks,d :: ds=>CD.ok k d∧CD.oks ks ds
 | _,_=>False
theorem CD.zZ {kd : List Kd} : CD.cl kd (.l []):=fun _ h _ _ _ row hr=>by cases h;cases hr
theorem CD.yi {kd : List Kd} {d : CD} (h : iM kd=true) : CD.cl kd d:=fun _ _ j e hk=>by
 have h0 : jY 0 kd=[]:=by
  unfold iM at h
  split at h
  ·rename_i h0;exact h0
  ·cases h
 exact absurd hk (iZ h0 j e)
structure Ct where
 sig : Sig
 pre : List CD→Prop
 post : List CD→List CD→Prop
abbrev Gam:=Nat→Option Ct
def Bp (P : Program) (f : FuncId) : Prop:=∃ fn c,P.funcs[f]?=some fn∧fn.body=some c∧(fn.name == "runtime.NumGoroutine")=false
def Mof (h : Hp) (p : Pl) (k i : Nat) : Prop :=
 (∃ r cs b q,nth h.regs r=some (.here cs)∧p.reg r=some (b,q)∧k=b∧q≤i∧i < q + cs.length)∨(∃ a A b c,nth h.arrs a=some (.here A)∧p.arr a=some (some ⟨b,0,none⟩,c)∧0 < c∧k=b) ∨
  ∃ a A i' j,nth h.arrs a=some (.here A)∧p.ow k=.nst a i' j
def aH (E : Env) (n : Nat) : List CD:=(List.range n).map E
def cB (P : Program) (f : FuncId) (ct : Ct) : Prop:=Bp P f∧∀ (w : World) (g : Gm) (p : Pl) (E : Env) (vals : List Value),bq ⟨w,Mof ct.sig.h0 p,g,p.reg⟩ E p g ct.sig.h0 w→aE (SR.is E p g) ct.sig.aM vals→CD.oks ct.sig.Jv (aH E ct.sig.ins.length) →
  ct.pre (aH E ct.sig.ins.length)→Calls P f vals.toArray w fun e w'=>∃ (outs : List CD) (p1 : Pl) (g1 : Gm) (v : Value),e=.returned v∧CD.oks ct.sig.o0 outs∧ct.post (aH E ct.sig.ins.length) outs∧(∀ i x,p.reg i=some x→p1.reg i=some x) ∧
   bq ⟨w,Mof ct.sig.h0 p,g,p.reg⟩ (E.put ct.sig.ins.length outs) p1 g1 ct.sig.h1 w'∧ct.sig.C2.is (E.put ct.sig.ins.length outs) p1 g1 v
structure JJ where
 b : Nat→List CD→Prop
 k : St→Env→Prop
def JJ.put (J : JJ) (id : Nat) (X : List CD→Prop) : JJ:={ J with b:=fun k=>if k=id then X else J.b k}
def JJ.none : JJ:=⟨fun _ _=>False,fun _ _=>False⟩
def JJ.ends (J : JJ) (K : St→Env→Prop) : JJ:={ J with k:=K}
def JJ.HC (n : Nat) (J' J : JJ) : Prop:=(∀ i,i < n→J'.b i=J.b i)∧J'.k=J.k
theorem JJ.HC.refl (n : Nat) (J : JJ) : JJ.HC n J J:=⟨fun _ _=>rfl,rfl⟩
theorem JJ.HC.trans {n n' : Nat} {A B C : JJ} (h : JJ.HC n' A B) (k : JJ.HC n B C) (hn : n≤n') : JJ.HC n A C:=⟨fun i hi=>(h.1 i (by omega)).trans (k.1 i hi),h.2.trans k.2⟩
theorem JJ.HC.mono {n n' : Nat} {A B : JJ} (h : JJ.HC n' A B) (hn : n≤n') : JJ.HC n A B:=h.trans (JJ.HC.refl n B) hn
theorem JJ.HC.put {n id : Nat} {J : JJ} {X : List CD→Prop} (h : n≤id) : JJ.HC n (J.put id X) J:=⟨fun i hi=>if_neg (by omega),rfl⟩
def Tree.den (Γ : Gam) (R : List CD→Prop) : Tree→Env→JJ→Prop
 | .ret outs,E,_=>R (outs.map (X.den E))
 | .ite b t e,E,J=>((b.den E).bool=true→t.den Γ R E J)∧((b.den E).bool=false→e.den Γ R E J)
 | .need b t,E,J=>(b.den E).bool=true∧t.den Γ R E J
 | .call f args lo t,E,J=>∃ ct,Γ f=some ct∧ct.pre (args.map (X.den E))∧∀ outs,CD.oks ct.sig.o0 outs→ct.post (args.map (X.den E)) outs→t.den Γ R (E.put lo outs) J
 | .loop id ks init body,E,J=>∃ (I : List CD→Prop) (m : List CD→Nat),I (init.map (X.den E))∧∀ ds,CD.oks ks ds→I ds→body.den Γ R (E.put (id + 1) ds) (J.put id fun ds'=>I ds'∧m ds' < m ds)
 | .back id cur,E,J=>J.b id (cur.map (X.den E))
 | .join id ks a b,E,J=>∃ I : List CD→Prop,a.den Γ R E (J.put id I)∧∀ ds,CD.oks ks ds→I ds→b.den Γ R (E.put (id + 1) ds) J
 | .leaf s,E,J=>J.k s E
 | .both x y,E,J=>x.den Γ R E J∧y.den Γ R E J
 | .bad _ _,_,_=>False
section
variable {P : Program} {Z : Cx} {Γ : Gam} {B : cT} {Q : List CD→Prop} {E F : Env} {J : JJ} {p q : Pl} {g g' : Gm} {s : St} {a : Act} {as : List Act} {w w' : World}
theorem cC {t : Tree} : ∀ {ns known : List X},(∀ b∈known,(b.den E).bool=true)→(fy known ns t).den Γ Q E J→(∀ b∈ns,(b.den E).bool=true)∧t.den Γ Q E J
 | [],_,_,h=>⟨fun _ hb=>(by cases hb),h⟩
 | b :: l,known,hk,h=>by
  simp only [fy] at h
  split at h
  ·rename_i hd
   obtain ⟨h1,h2⟩:=cC hk h
   exact ⟨fun c hc=>by
    rcases List.mem_cons.1 hc with e | hc
    ·subst e;exact gU hk hd
    ·exact h1 c hc,h2⟩
  ·exact h.elim
  ·obtain ⟨h0,h⟩:=h
   obtain ⟨h1,h2⟩:=cC (known:=b :: known) (fun c hc=>by
    rcases List.mem_cons.1 hc with e | hc
    ·subst e;exact h0
    ·exact hk c hc) h
   exact ⟨fun c hc=>by
    rcases List.mem_cons.1 hc with e | hc
    ·subst e;exact h0
    ·exact h1 c hc,h2⟩
theorem fS : ∀ {ns known : List X},(∀ b∈known,(b.den E).bool=true)→(∀ b∈ns,(b.den E).bool=true)→∀ b∈df known ns,(b.den E).bool=true
 | [],_,hk,_=>hk
 | b :: l,known,hk,hn=>by
  simp only [df]
  split
  ·exact fS hk fun c hc=>hn c (by simp [hc])
  ·exact fS (fun c hc=>by
    rcases List.mem_cons.1 hc with e | hc
    ·subst e;exact hn c (by simp)
    ·exact hk c hc) fun c hc=>hn c (by simp [hc])
theorem cA.put {tm : List SR} (R : cA E p g tm a) {d : Option Tmp} {r : SR} {v : Value} (hr : r.is E p g v) : cA E p g (jX tm d r) (a.put d v):=by
 cases d with
 | none=>exact R
 | some d =>
  refine ⟨R.defers,by simp only [Act.put,jX,Array.size_setIfInBounds,cL];exact R.size,fun i c hc=>?_⟩
  simp only [jX,aS] at hc
  have hsz:=R.size
  split at hc
  ·rename_i e
   subst e
   split at hc
   ·rename_i hl
    cases hc
    have hd : d < a.tmps.size:=by rw [hsz];exact hl
    have : (a.put (some d) v).tmps.getD d Go.undef=v:=by simp [Act.put,Array.getD,hd]
    rw [this];exact hr
   ·cases hc
  ·rename_i hne
   have : (a.put (some d) v).tmps.getD i Go.undef=a.tmps.getD i Go.undef:=by simp [Act.put,Array.getD_eq_getD_getElem?,Array.getElem?_setIfInBounds_ne hne]
   rw [this];exact R.tmp i c hc
theorem Rep.step (R : Rep B E p g s a as w) (hp : p.Le q) (hg : g.Le g') {h' : Hp} {known' : List X} {d : Option Tmp} {r : SR} {v : Value} (H : bq B E q g' h' w') (hr : r.is E q g' v) (hk : ∀ b∈known',(b.den E).bool=true) :
  Rep B E q g' { s with tmps:=jX s.tmps d r,h:=h',known:=known' } (a.put d v) as w' :=
 ⟨H,(R.frame.le hp hg).put hr,R.stk.mono fun _ _ h=>h.le hp hg,hk,fun i x h=>hp.reg i x (R.fa i x h)⟩
theorem Rep.DE (R : Rep B E p g s a as w) {b : X} (hb : (b.den E).bool=true) : Rep B E p g { s with known:=X.lL b ++ s.known} a as w :=
 ⟨R.mem,R.frame,R.stk,fun c hc=>by
  rcases List.mem_append.1 hc with hc | hc
  ·exact MJ hb c hc
  ·exact R.known c hc,R.fa⟩
theorem sG {b : X} {k : St→Tree} (R : Rep B E p g s a as w) (h : (nY b s k).den Γ Q E J) : ∃ s',s'.nx=s.nx∧s'.h=s.h∧(k s').den Γ Q E J∧Rep B E p g s' a as w:=by
 cases hb : (b.den E).bool with
 | true=>exact ⟨{ s with known:=X.lL b ++ s.known},rfl,rfl,h.1 hb,R.DE hb⟩
 | false=>exact ⟨{ s with known:=X.lL (neg b) ++ s.known},rfl,rfl,h.2 hb,R.DE (by rw [neg_den,hb];rfl)⟩
theorem xy {n : X} {neg b : Bool} {d : Option Nat} {next : St→Tree} (R : Rep B E p g s a as w) (h0 : b=true→(n.den E).int=0) (h : (nilT n neg s d next).den Γ Q E J) :
  ∃ s',s'.nx=s.nx∧s'.h=s.h∧(next s').den Γ Q E J∧Rep B E p g s' (a.put d (.bool (if neg then !b else b))) as w:=by
 have hz : ((mkEq n (.int 0)).den E).bool=decide ((n.den E).int=0):=by
  rw [ka]
  simp only [X.den,CD.bool,CD.int]
  rfl
 have go : ∀ {c : Bool} {e : X},(e.den E).bool=true→(if neg then !b else b)=c→Rep B E p g { s with tmps:=jX s.tmps d (.v (.one (.bool (.bool c)))),known:=X.lL e ++ s.known} (a.put d (.bool (if neg then !b else b))) as w:=fun {c e} he hc =>
  R.step (Pl.Le.refl _) (Gm.Le.refl _) R.mem (⟨c,rfl,by rw [hc]⟩ : ∃ x,(X.bool c).den E=.b x∧_) (R.DE he).known
 cases hb : ((mkEq n (.int 0)).den E).bool with
 | true =>
  obtain ⟨h1,h2⟩:=h.1 hb
  cases b with
  | true=>exact ⟨_,(by rfl),(by rfl),h1,go hb (by cases neg <;> rfl)⟩
  | false=>exact ⟨_,(by rfl),(by rfl),h2,go hb (by cases neg <;> rfl)⟩
 | false =>
  have : b=false:=by
   cases b with
   | false=>rfl
   | true=>rw [hz,h0 rfl] at hb;simp at hb
  subst this
  exact ⟨_,(by rfl),(by rfl),h.2 hb,go (by rw [neg_den,hb];rfl) (by cases neg <;> rfl)⟩
theorem lO {b : X} {c : Bool} (R : Rep B E p g s a as w) (h : (b.den E).bool=c) : Rep B E p g (written b c s) a as w:=by
 refine ⟨R.mem,⟨R.frame.defers,by simp only [written,List.length_map];exact R.frame.size,fun i r hr=>?_⟩,R.stk,R.known,R.fa⟩
 simp only [written,aW,List.getElem?_map,Option.map_eq_some_iff] at hr
 obtain ⟨r0,h0,h1⟩:=hr
 have h2:=R.frame.tmp i r0 (by rw [aW];exact h0)
 split at h1
 ·split at h1
  ·rename_i d hd
   subst h1
   have e:=X.av hd
   subst e
   obtain ⟨u,h3,h4⟩:=(h2 : ∃ u,d.den E=.b u∧_)
   refine ⟨c,rfl,?_⟩
   rw [h4,← h,h3];rfl
  ·subst h1;exact h2
 ·subst h1;exact h2
def ew (kd : List Kd) (row : List CD) : List CD:=match jY 0 kd with
 | [(j,_)]=>row.modify j CD.shut
 | _=>row
theorem BH {kd : List Kd} {x : X} {rows : List (List CD)} (h : x.den E=.l rows) : (CU kd x).den E=.l (rows.map (ew kd)):=by
 unfold CU
 split
 ·rename_i j e he
  simp only [X.den,h,CD.ax]
  congr 1
  exact List.map_congr_left fun row _=>by unfold ew;rw [he]
 ·rename_i hno
  rw [h]
  congr 1
  have : ew kd=id:=funext fun row=>by
   unfold ew
   split
   ·rename_i j e he;exact absurd he (hno j e)
   ·rfl
  rw [this,List.map_id]
theorem tj (kd : List Kd) (row : List CD) : (ew kd row).length=row.length:=by
 unfold ew
 split <;> simp
theorem jB {A : Ar} {rows : List (List CD)} (hx : A.x.den E=.l rows) {kn : List X} (hc : ld kn A=true) (hk : ∀ b∈kn,(b.den E).bool=true) :
  (jY 0 A.K.kd=[]∨∃ j e,jY 0 A.K.kd=[(j,e)])∧∀ (j e : Nat),A.K.kd[j]?=some (.os e)→∀ row∈rows,(row.getD j .u).isH=false:=by
 unfold ld at hc
 split at hc
 ·rename_i h0
  exact ⟨.inl h0,fun j e h=>absurd h (iZ h0 j e)⟩
 ·rename_i j0 e0 h0
  refine ⟨.inr ⟨_,_,h0⟩,fun j e h row hr=>?_⟩
  obtain ⟨_,_,o3⟩:=gY h0
  obtain ⟨h1,_⟩:=o3 j e h
  split at hc
  ·rename_i hd
   have:=gU hk hd
   simp only [X.den,hx,CD.ax,CD.gB,List.all_eq_true] at this
   have:=this row hr
   rw [h1]
   simpa using this
  ·cases hc
 ·cases hc
theorem zY {A : Ar} {rows : List (List CD)} (hx : A.x.den E=.l rows) (ho : osOk A.K.kd=true) (hn : ∀ b∈pL A,(b.den E).bool=true) : ∀ (j e : Nat),A.K.kd[j]?=some (.os e)→∀ row∈rows,(row.getD j .u).isH=false:=by
 intro j e h row hr
 unfold pL at hn
 split at hn
 ·rename_i j0 e0 h0
  obtain ⟨_,_,o3⟩:=gY h0
  obtain ⟨h1,_⟩:=o3 j e h
  have:=hn _ (List.mem_singleton.2 rfl)
  simp only [X.den,hx,CD.ax,CD.gB,List.all_eq_true] at this
  have:=this row hr
  rw [h1]
  simpa using this
 ·rename_i hno
  unfold osOk at ho
  split at ho
  ·rename_i h0;exact absurd h (iZ h0 j e)
  ·rename_i x h0;exact absurd h0 (hno x.1 x.2)
  ·cases ho
theorem B3 {kn : List X} (hkn : ∀ b∈kn,(b.den E).bool=true) {n x : X} {rows : List (List CD)} (h : DD kn n x=true) (e : x.den E=.l rows) : (n.den E).int≤rows.length:=by
 unfold DD at h
 rw [Bool.or_eq_true] at h
 rcases h with h | h
 ·split at h
  ·rename_i m r
   have hs:=X.av h
   subst hs
   simp only [X.den,CD.l.injEq] at e
   rw [← e,List.length_replicate]
   exact Int.self_le_toNat _
  ·cases h
 ·split at h
  ·rename_i hd
   have hle:=gU hkn hd
   rw [bz,ba,e] at hle
   exact of_decide_eq_true hle
  ·cases h
theorem Fc {A : Ar} {b : Nat} {kn : List X} (hkn : ∀ b∈kn,(b.den E).bool=true) {rows : List (List CD)} {ad : Option Addr} {cap : Nat} (e1 : p.arr b=some (ad,cap)) (e2 : A.x.den E=.l rows) (e4 : cap≤maxLen) (e5 : rows.length * A.K.by_≤B47)
  (hrd : 0 < cap→∃ bb,ad=some ⟨bb,0,none⟩∧∀ i row,rows[i]?=some row→aJ g' A.K.shut.kd (fun j=>g' bb (i * A.K.kd.length + j)) (ew A.K.kd row)) (hg : g.Le g') {q : Pl} (hp : p.Le q) {c : SC} {v : Value} (h : c.is E p g v) : (tK kn b A c).is E q g' v:=by
 cases c with
 | sl b' n =>
  simp only [tK]
  split
  ·rename_i hb
   have hb:=Nat.eq_of_beq_eq_true hb
   subst hb
   split
   ·rename_i hd
    obtain ⟨ad',c',m,c1,c2,c3,c4⟩:=h
    rw [e1] at c1
    cases c1
    have hle:=B3 hkn hd e2
    rw [c2] at hle
    simp only [CD.aR] at hle
    have hle : m≤rows.length:=by omega
    subst c4
    simp only [SC.is,Rd]
    have hkl : A.K.shut.kd.length=A.K.kd.length:=by simp [SK.shut]
    refine ⟨ad,m,cap,(rows.take m).map (ew A.K.kd),rfl,BH (by rw [db e2,c2];simp),by rw [List.length_map,List.length_take];omega,c3,e4,Nat.le_trans (Nat.mul_le_mul_right _ hle) e5,fun hm=>?_⟩
    obtain ⟨bb,f1,f2⟩:=hrd (by omega)
    refine ⟨bb,0,f1,fun i row hi=>?_⟩
    rw [List.getElem?_map,Option.map_eq_some_iff] at hi
    obtain ⟨row0,hi,rfl⟩:=hi
    rw [List.getElem?_take] at hi
    split at hi
    ·simp only [Nat.zero_add];rw [hkl];exact f2 i row0 hi
    ·cases hi
   ·trivial
  ·exact SC.is_le hp hg h
 | ep b' z i o =>
  simp only [tK]
  split
  ·trivial
  ·exact SC.is_le hp hg h
 | _=>exact SC.is_le hp hg h
theorem A7 {A : Ar} {b : Nat} {kn : List X} {q : Pl} (hc : ∀ c v,SC.is E p g c v→SC.is E q g' (tK kn b A c) v) {x : SV} {v : Value} (h : x.is E p g v) : (frzV kn b A x).is E q g' v:=by
 cases x with
 | one c=>exact hc c v h
 | agg l =>
  obtain ⟨vs,e,hv⟩:=h
  refine ⟨vs,e,?_⟩
  clear e
  induction l generalizing vs with
  | nil=>cases vs <;> first | trivial | exact hv.elim
  | cons c l ih=>cases vs with
   | nil=>exact hv.elim
   | cons u vs=>exact ⟨hc c u hv.1,ih vs hv.2⟩
theorem Fb {A : Ar} {b : Nat} {kn : List X} {q : Pl} (hc : ∀ c v,SC.is E p g c v→SC.is E q g' (tK kn b A c) v) {x : SR} {v : Value} (h : x.is E p g v) : (DP kn b A x).is E q g' v:=by
 cases x with
 | v x=>exact A7 hc h
 | tup l =>
  obtain ⟨vs,e,hv⟩:=h
  refine ⟨vs,e,?_⟩
  clear e
  induction l generalizing vs with
  | nil=>cases vs <;> first | trivial | exact hv.elim
  | cons c l ih=>cases vs with
   | nil=>exact hv.elim
   | cons u vs=>exact ⟨A7 hc hv.1,ih vs hv.2⟩
theorem vd {A : Ar} {b : Nat} {kn : List X} {q : Pl} (hc : ∀ c v,SC.is E p g c v→SC.is E q g' (tK kn b A c) v) {t : List SR} {a : Act} (R : cA E p g t a) : cA E q g' (t.map (DP kn b A)) a:=by
 refine ⟨R.defers,by rw [List.length_map];exact R.size,fun i c h=>?_⟩
 rw [aW,List.getElem?_map,Option.map_eq_some_iff] at h
 obtain ⟨c0,h0,h1⟩:=h
 subst h1
 exact Fb hc (R.tmp i c0 (by rw [aW];exact h0))
theorem tI {b : Nat} {s' : St} (R : Rep B E p g s a as w) (h : tJ b s=some s') : ∃ q g',p.Le q∧g.Le g'∧Rep B E q g' s' a as w∧rO E p s.h q s'.h w.heap.size∧s'.nx=s.nx∧s'.fn=s.fn ∧
  ∀ A ad cap rows,nth s.h.arrs b=some (.here A)→p.arr b=some (ad,cap)→A.x.den E=.l rows→0 < cap→∃ bb,ad=some ⟨bb,0,none⟩∧∀ i row,rows[i]?=some row→aJ g' A.K.shut.kd (fun j=>g' bb (i * A.K.kd.length + j)) (ew A.K.kd row):=by
 unfold tJ at h
 split at h
 ·rename_i A hA
  split at h
  rotate_left
  ·cases h
  rename_i hclean
  cases h
  obtain ⟨ad,cap,rows,e1,e2,e3,e4,e5,e6,e7,e8⟩:=(R.mem.arr b A hA).ex
  obtain ⟨hone,hnoh⟩:=jB e2 hclean R.known
  have hblk : ∃ (bb : Nat) (cur : Array Value),0 < cap→ad=some ⟨bb,0,none⟩∧p.ow bb=.arr b∧w.heap[bb]?=some (.cells cur A.e (0,0))∧cur.size=cap * A.K.kd.length∧(∀ i,i < cur.size→B.wr bb i)∧∀ i row,rows[i]?=some row→aJ g A.K.kd (fun j=>cur[i * A.K.kd.length + j]?) row:=by
   by_cases h0 : 0 < cap
   ·obtain ⟨bb,cur,k⟩:=e8 h0
    exact ⟨bb,cur,fun _=>k⟩
   ·exact ⟨0,#[],fun h=>absurd h h0⟩
  obtain ⟨bb,cur,hbl⟩:=hblk
  let Nb : Nat→Prop:=fun k=>(∃ i j,p.ow k=.nst b i j)∧∀ o v,w.cell? ⟨k,o,none⟩=some v→B.wr k o
  open Classical in
  let g' : Gm:=fun k o=>if 0 < cap∧k=bb then (if o < rows.length * A.K.kd.length then cur[o]? else none) else if Nb k then w.cell? ⟨k,o,none⟩ else g k o
  open Classical in
  let q : Pl:={ p with ow:=fun k=>if (0 < cap∧k=bb)∨Nb k then .z else p.ow k}
  have hnb : ∀ k,0 < cap∧k=bb→¬ Nb k:=fun k c1 ⟨⟨i,j,h⟩,_⟩=>by rw [c1.2,(hbl c1.1).2.1] at h;cases h
  have hp : p.Le q:=⟨fun _ _ h=>h,fun _ _ h=>h,fun _ _ h=>h⟩
  have hg : g.Le g':=fun k o v hk=>by
   have hz:=(R.mem.gg k o v hk).2
   show (if 0 < cap∧k=bb then _ else _)=_
   rw [if_neg,if_neg]
   ·exact hk
   ·rintro ⟨⟨i,j,h⟩,_⟩
    rw [hz] at h;cases h
   ·rintro ⟨c1,rfl⟩
    rw [(hbl c1).2.1] at hz;cases hz
  have how : ∀ k,¬ ((0 < cap∧k=bb)∨Nb k)→q.ow k=p.ow k:=fun k hk=>if_neg hk
  have hown : ∀ k,((0 < cap∧k=bb)∨Nb k)→(p.ow k).ofA b:=fun k hk=>by
   rcases hk with c1 | ⟨⟨i,j,h⟩,_⟩
   ·rw [c1.2,(hbl c1.1).2.1];rfl
   ·rw [h];rfl
  have how2 : ∀ k,¬ (p.ow k).ofA b→q.ow k=p.ow k:=fun k hk=>how k fun h=>hk (hown k h)
  have hrow : 0 < cap→∀ i row,rows[i]?=some row→aJ g' A.K.shut.kd (fun j=>g' bb (i * A.K.kd.length + j)) (ew A.K.kd row):=fun h0 i row hi=>by
   obtain ⟨b1,b2,b3,b4,b5,b6⟩:=hbl h0
   have R0:=b6 i row hi
   have hgc : ∀ {j : Nat} {v},j < A.K.kd.length→cur[i * A.K.kd.length + j]?=some v→g' bb (i * A.K.kd.length + j)=some v:=fun {j v} hj hv=>by
    show (if 0 < cap∧bb=bb then _ else _)=_
    rw [if_pos ⟨h0,rfl⟩,if_pos (dG hj (List.getElem?_eq_some_iff.1 hi).1)]
    exact hv
   refine aJ.of (by rw [tj];simpa [SK.shut] using R0.length) fun j k hk=>?_
   have hk : (A.K.kd.map Kd.shut)[j]?=some k:=hk
   rw [List.getElem?_map,Option.map_eq_some_iff] at hk
   obtain ⟨k0,hk0,rfl⟩:=hk
   have hj:=(List.getElem?_eq_some_iff.1 hk0).1
   obtain ⟨v,hv,hr⟩:=R0.cell hk0
   refine ⟨v,hgc hj hv,?_⟩
   have other : k0.DF=false→(ew A.K.kd row).getD j .u=row.getD j .u:=fun hno=>by
    unfold ew
    split
    ·rename_i j0 e0 hat
     have hne : j0≠j:=by
      rintro rfl
      obtain ⟨_,o2,_⟩:=gY hat
      rw [Nat.sub_zero,hk0] at o2
      cases o2
      cases hno
     rw [List.getD_eq_getElem?_getD,List.getElem?_modify,List.getD_eq_getElem?_getD]
     simp [hne]
    ·rfl
   cases k0 with
   | os e =>
    have hcell : w.cell? ⟨bb,i * A.K.kd.length + j,none⟩=some v:=by simp [World.cell?,b3,hv]
    have hN:=(R.mem.arr b A hA).ns j e bb cap rows hk0 (by rw [e1,b1]) e2 i row v hi hcell
    have hnh:=hnoh j e hk0 row (List.mem_of_getElem? hi)
    have hsh : (ew A.K.kd row).getD j .u=(row.getD j .u).shut:=by
     unfold ew
     split
     ·rename_i j0 e0 hat
      obtain ⟨_,_,o3⟩:=gY hat
      obtain ⟨h1,_⟩:=o3 j e hk0
      rw [h1,Nat.sub_zero]
      have hl : j0 < row.length:=by rw [R0.length];omega
      simp [List.getD_eq_getElem?_getD,hl]
     ·rename_i hno
      rcases hone with h | ⟨j0,e0,h⟩
      ·exact absurd hk0 (iZ h j e)
      ·exact absurd h (hno j0 e0)
    rw [hsh]
    cases hd : row.getD j .u with
    | l r =>
     rw [hd] at hr
     exact Rd.mono hg _ _ _ (xm.1 hr)
    | o r =>
     rw [hd] at hN
     obtain ⟨ad2,cap2,n1,n2,n3,n4,n5,n6,n7⟩:=hN
     subst n1
     refine xm.1 ⟨ad2,cap2,rfl,n2,n3,n4,fun hpos=>?_⟩
     obtain ⟨k2,cur2,m1,m2,m3,m4,m5,m6⟩:=n7 (by omega)
     refine ⟨k2,0,m1,fun i2 row2 hi2=>?_⟩
     have hrd2:=m6 i2 row2 hi2
     match row2,hrd2 with
     | [],h=>exact h.elim
     | [d],⟨⟨v2,q1,q2⟩,_⟩ =>
      simp only [Rd] at q2
      obtain ⟨n,rfl,rfl⟩:=q2
      refine ⟨n,rfl,?_⟩
      have q1 : cur2[i2]?=some (.int .i64 n):=by simpa [wa] using q1
      have hNb : Nb k2:=⟨⟨i,j,m2⟩,fun o v ho=>m5 o (by
       simp only [World.cell?,m3] at ho
       rcases Nat.lt_or_ge o cur2.size with hl | hl
       ·exact hl
       ·rw [Array.getElem?_eq_none hl] at ho;cases ho)⟩
      show (if 0 < cap∧k2=bb then _ else _)=_
      rw [if_neg (fun c1=>hnb k2 c1 hNb),if_pos hNb,Nat.zero_add]
      simp [World.cell?,m3,q1]
     | _ :: _ :: _,h=>exact h.2.elim
    | h s n=>rw [hd] at hnh;cases hnh
    | _=>rw [hd] at hN;exact hN.elim
   | _=>rw [other rfl];exact Rd.mono hg _ _ _ hr
  have hc : ∀ c v,SC.is E p g c v→SC.is E q g' (tK s.known b A c) v:=fun c v h=>Fc R.known e1 e2 e4 e5 (fun h0=>⟨bb,(hbl h0).1,hrow h0⟩) hg hp h
  have T : cd (fun _ _=>False) w w:=cd.refl _ _
  refine ⟨q,g',hp,hg,⟨⟨R.mem.fr,R.mem.g0.trans hg,fun k o v hk=>?_,fun k o v hk=>?_,fun r cs hr=>?_,fun r hr=>?_,fun b' A' hb'=>?_,fun b' hb'=>R.mem.afree b' (wo hb'),R.mem.mm.cU T rfl fun a' b' e1 e2 e3 e4=>(how2 b' fun h=>by rw [e2] at h;exact h).trans e2,fun k a hk=>by
   have hk : (if (0 < cap∧k=bb)∨Nb k then Ow.z else p.ow k).ofA a:=hk
   split at hk
   ·exact hk.elim
   ·exact R.mem.nz k a hk⟩,vd hc R.frame,?_,R.known,R.fa⟩,fun k i hk hkn=>?_,rfl,rfl,fun A' ad' cap' rows' k1 k2 k3 h0=>by
   rw [hA] at k1;cases k1
   rw [e1] at k2;cases k2
   rw [e2] at k3;cases k3
   exact ⟨bb,(hbl h0).1,hrow h0⟩⟩
  ·by_cases c1 : 0 < cap∧k=bb
   ·have hk : cur[o]?=some v:=by
     have hk : (if 0 < cap∧k=bb then (if o < rows.length * A.K.kd.length then cur[o]? else none) else if Nb k then w.cell? ⟨k,o,none⟩ else g k o)=some v:=hk
     rw [if_pos c1] at hk
     split at hk
     ·exact hk
     ·cases hk
    right
    rw [c1.2]
    exact (hbl c1.1).2.2.2.2.1 o (by
     rcases Nat.lt_or_ge o cur.size with hl | hl
     ·exact hl
     ·rw [Array.getElem?_eq_none hl] at hk;cases hk)
   ·have hk : (if 0 < cap∧k=bb then (if o < rows.length * A.K.kd.length then cur[o]? else none) else if Nb k then w.cell? ⟨k,o,none⟩ else g k o)=some v:=hk
    rw [if_neg c1] at hk
    split at hk
    ·rename_i c2;exact .inr (c2.2 o v hk)
    ·exact R.mem.g1 k o v hk
  ·by_cases c1 : 0 < cap∧k=bb
   ·have hk : cur[o]?=some v:=by
     have hk : (if 0 < cap∧k=bb then (if o < rows.length * A.K.kd.length then cur[o]? else none) else if Nb k then w.cell? ⟨k,o,none⟩ else g k o)=some v:=hk
     rw [if_pos c1] at hk
     split at hk
     ·exact hk
     ·cases hk
    refine ⟨?_,if_pos (.inl c1)⟩
    rw [c1.2]
    simp [World.cell?,(hbl c1.1).2.2.1,hk]
   ·have hk : (if 0 < cap∧k=bb then (if o < rows.length * A.K.kd.length then cur[o]? else none) else if Nb k then w.cell? ⟨k,o,none⟩ else g k o)=some v:=hk
    rw [if_neg c1] at hk
    split at hk
    ·rename_i c2;exact ⟨hk,if_pos (.inr c2)⟩
    ·rename_i c2
     exact ⟨(R.mem.gg k o v hk).1,(how k fun h=>h.elim c1 c2).trans (R.mem.gg k o v hk).2⟩
  ·rw [aW,List.getElem?_map,Option.map_eq_some_iff] at hr
   obtain ⟨r0,h0,h1⟩:=hr
   cases r0 with
   | here cs0 =>
    simp only [Pc.map,Pc.here.injEq] at h1
    subst h1
    obtain ⟨b1,q1,k1,k2,k3,k4⟩:=(R.mem.reg r cs0 (by rw [aW];exact h0)).ex
    refine ⟨b1,q1,k1,(how2 b1 fun h=>by rw [k2] at h;exact h).trans k2,k3,fun o c ho=>?_⟩
    ·rw [aW,List.getElem?_map,Option.map_eq_some_iff] at ho
     obtain ⟨c0,ho0,ho1⟩:=ho
     subst ho1
     obtain ⟨f1,f2,v,f3,f4⟩:=k4 o c0 (by rw [aW];exact ho0)
     exact ⟨f1,f2,v,f3,hc _ _ f4⟩
   | fr=>simp [Pc.map] at h1
   | go=>simp [Pc.map] at h1
  ·refine R.mem.rfree r ?_
   rw [aW,List.getElem?_map] at hr
   rw [aW]
   cases h0 : s.h.regs[r]? with
   | none=>exact .inl rfl
   | some r0 =>
    rw [h0] at hr
    cases r0 <;> simp [Pc.map] at hr ⊢
  ·have hb2 : b'≠b∧nth s.h.arrs b'=some (.here A'):=by
    rw [aS] at hb'
    split at hb'
    ·split at hb' <;> cases hb'
    ·rename_i hne;exact ⟨fun e=>hne e.symm,hb'⟩
   refine (R.mem.arr b' A' hb2.2).cU T (fun _ _ _ _ h=>h) hp hg fun b1 _ k4=>how2 b1 fun h=>?_
   cases ho : p.ow b1 with
   | arr a=>rw [ho] at h k4;exact hb2.1 (Eq.trans (Eq.symm k4) h)
   | nst a i j=>rw [ho] at h k4;exact hb2.1 (Eq.trans (Eq.symm k4) h)
   | _=>rw [ho] at h;exact h
  ·have hm : ∀ (l : List (List SR)) (m : List Act),aE (cA E p g) l m→aE (cA E q g') (l.map fun l=>l.map (DP s.known b A)) m:=by
    intro l
    induction l with
    | nil=>intro m h;cases m <;> first | trivial | exact h.elim
    | cons t l ih=>intro m h;cases m with
     | nil=>exact h.elim
     | cons u m=>exact ⟨vd hc h.1,ih m h.2⟩
   exact hm _ _ R.stk
  ·by_cases hbk : 0 < cap∧k=bb
   ·exact .inl (if_pos (.inl hbk))
   ·rcases hkn with k1 | ⟨r,cs,b1,q1,k1,k2,rfl,k3⟩ | ⟨b',A',b1,c,k1,k2,rfl,k3⟩
    ·exact .inl ((how2 k fun h=>by rw [k1] at h;exact h).trans k1)
    ·refine .inr (.inl ⟨r,cs.map (tK s.known b A),k,q1,?_,k2,rfl,by rw [List.length_map];exact k3⟩)
     rw [aW,List.getElem?_map,← aW,k1];rfl
    ·by_cases hbb : b'=b
     ·subst hbb
      rw [hA] at k1
      cases k1
      rw [e1] at k2
      cases k2
      rw [e2,CD.ax] at k3
      have h0 : 0 < cap:=by
       rcases Nat.eq_zero_or_pos cap with h0 | h0
       ·have : rows.length=0:=by omega
        rw [this,Nat.zero_mul] at k3;omega
       ·exact h0
      have:=(hbl h0).1
      cases this
      exact absurd ⟨h0,rfl⟩ hbk
     ·refine .inr (.inr ⟨b',A',k,c,?_,k2,rfl,k3⟩)
      rw [aS,if_neg (fun e=>hbb e.symm)];exact k1
 ·cases h
theorem Cd {b : Nat} {s' : St} (R : Rep B E p g s a as w) (h : tJ b s=some s') : ∃ q g',p.Le q∧g.Le g'∧Rep B E q g' s' a as w∧rO E p s.h q s'.h w.heap.size∧s'.nx=s.nx∧s'.fn=s.fn:=by
 obtain ⟨q,g',h1,h2,h3,h4,h5,h6,_⟩:=tI R h
 exact ⟨q,g',h1,h2,h3,h4,h5,h6⟩
theorem Rep.df (R : Rep B E p g s a as w) {ns : List X} (hn : ∀ b∈ns,(b.den E).bool=true) : Rep B E p g { s with known:=Sy.df s.known ns} a as w:=⟨R.mem,R.frame,R.stk,fS R.known hn,R.fa⟩
theorem ia {b : Nat} {k : St→Tree} (R : Rep B E p g s a as w) (h : (lp b s k).den Γ Q E J) : ∃ s' q g',p.Le q∧g.Le g'∧Rep B E q g' s' a as w∧rO E p s.h q s'.h w.heap.size∧s'.nx=s.nx∧s'.fn=s.fn∧(k s').den Γ Q E J:=by
 unfold lp at h
 obtain ⟨hn,h⟩:=cC R.known h
 split at h
 ·rename_i s' hs
  obtain ⟨q,g',h1,h2,h3,h4,h5,h6⟩:=Cd (R.df hn) hs
  exact ⟨s',q,g',h1,h2,h3,h4,h5,h6,h⟩
 ·exact h.elim
end
end Go.Sy
