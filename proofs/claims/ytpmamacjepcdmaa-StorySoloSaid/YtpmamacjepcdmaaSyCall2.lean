import Derived.Test.YtpmamacjepcdmaaSyDen
namespace Go.Sy
open Go.RowKit
section
variable {P : Program} {Z : Cx} {Γ : Gam} {B : cT} {Q : List CD→Prop} {E : Env} {J : JJ} {p : Pl} {g : Gm} {h : Hp} {s : St} {a : Act} {as : List Act} {w : World}
theorem sV {rows : List (List CD)} {i0 o : Nat} {d : CD} {i : Nat} {row : List CD} (h : (rows.modify i0 fun r=>r.set o d)[i]?=some row) : ∃ row0,rows[i]?=some row0∧row=if i0=i then row0.set o d else row0:=by
 rw [List.getElem?_modify] at h
 cases h0 : rows[i]? with
 | none=>rw [h0] at h;simp at h
 | some row0 =>
  rw [h0] at h
  simp only [Option.map_eq_map,Option.map_some,Option.some.injEq] at h
  exact ⟨row0,rfl,h.symm⟩
theorem nA.yR {a0 i0 j e : Nat} {A : Ar} {rows : List (List CD)} {d : CD} {x : X} {q : Pl} (R : nA B E p g a0 A w) (hx : A.x.den E=.l rows) (hj : A.K.kd[j]?=some (.os e)) (hx' : x.den E=.l (rows.modify i0 fun r=>r.set j d))
  (hp : p.Le q) (how : ∀ b,b < w.heap.size→p.ow b=.arr a0→q.ow b=.arr a0) (hnst : ∀ b i' j',b < w.heap.size→p.ow b=.nst a0 i' j'→(i'≠i0∨j'≠j)→q.ow b=.nst a0 i' j')
  (hv : ∀ b c v,p.arr a0=some (some ⟨b,0,none⟩,c)→w.cell? ⟨b,i0 * A.K.kd.length + j,none⟩=some v→yA g v d∧jG B q g a0 i0 j e w v d) : nA B E q g a0 { A with x:=x} w:=by
 obtain ⟨ad,cap,rows',e1,e2,e3,e4,e5,e6,e7,e8⟩:=R.ex
 rw [hx] at e2;cases e2
 have T : cd (fun _ _=>False) w w:=cd.refl _ _
 refine ⟨⟨ad,cap,_,hp.arr _ _ e1,hx',by simpa using e3,e4,by simpa using e5,e6,e7,fun hc=>?_⟩,fun j1 e9 b c rows1 k1 k2 k3 i row1 v k4 k5=>?_⟩
 ·obtain ⟨b,cur,f1,f2,f3,f4,f5,f6⟩:=e8 hc
  refine ⟨b,cur,f1,how b (lt_of_block f3) f2,f3,f4,f5,fun i r hr=>?_⟩
  obtain ⟨row0,h0,rfl⟩:=sV hr
  have R0:=f6 i row0 h0
  split
  ·rename_i e
   subst e
   refine aJ.of (by simpa using R0.length) fun j1 k hk=>?_
   obtain ⟨v,hv1,hr1⟩:=R0.cell hk
   refine ⟨v,hv1,?_⟩
   by_cases ej : j=j1
   ·subst ej
    rw [hj] at hk;cases hk
    have hl : j < row0.length:=by rw [R0.length];exact (List.getElem?_eq_some_iff.1 hj).1
    simp only [List.getD_eq_getElem?_getD,List.getElem?_set_self hl,Option.getD_some]
    subst f1
    simp only [Rd]
    exact (hv b cap v e1 (by simp [World.cell?,f3,hv1])).1
   ·rw [List.getD_eq_getElem?_getD,List.getElem?_set_ne ej,← List.getD_eq_getElem?_getD];exact hr1
  ·exact R0
 ·have k2 : p.arr a0=some (some ⟨b,0,none⟩,c):=by
   have k2 : q.arr a0=some (some ⟨b,0,none⟩,c):=k2
   rw [hp.arr _ _ e1] at k2
   rw [e1];exact k2
  have k1 : A.K.kd[j1]?=some (.os e9):=k1
  have k3 : x.den E=.l rows1:=k3
  rw [hx'] at k3
  cases k3
  obtain ⟨row0,h0,rfl⟩:=sV k4
  have k5 : w.cell? ⟨b,i * A.K.kd.length + j1,none⟩=some v:=k5
  have hrl : row0.length=A.K.kd.length:=by
   have hpos : 0 < cap:=by have:=(List.getElem?_eq_some_iff.1 h0).1;omega
   obtain ⟨_,cur,_,_,_,_,_,f6⟩:=e8 hpos
   exact (f6 i row0 h0).length
  by_cases hij : i0=i∧j=j1
  ·obtain ⟨rfl,rfl⟩:=hij
   rw [hj] at k1;cases k1
   rw [if_pos rfl]
   have hl : j < row0.length:=by rw [hrl];exact (List.getElem?_eq_some_iff.1 hj).1
   rw [List.getD_eq_getElem?_getD,List.getElem?_set_self hl,Option.getD_some]
   exact (hv b c v k2 k5).2
  ·have hsame : (if i0=i then row0.set j d else row0).getD j1 .u=row0.getD j1 .u:=by
    split
    ·rename_i e
     rw [List.getD_eq_getElem?_getD,List.getElem?_set_ne (fun e2=>hij ⟨e,e2⟩),← List.getD_eq_getElem?_getD]
    ·rfl
   rw [hsame]
   exact (R.ns j1 e9 b c rows k1 k2 hx i row0 v h0 k5).cU T (fun _ _ _ _ h=>h) hp (Gm.Le.refl _) fun b' hb' ho=>hnst b' i j1 hb' ho (by
    by_cases e1 : i=i0
    ·right;exact fun e2=>hij ⟨e1.symm,e2.symm⟩
    ·exact .inl e1)
theorem yX {a0 : Nat} {i : X} {o : Nat} {ns : List X} {s' : St} (R : Rep B E p g s a as w) (h : yY a0 i o s=some (ns,s')) (hn : ∀ b∈ns,(b.den E).bool=true) :
  ∃ q,p.Le q∧Rep B E q g s' a as w∧rO E p s.h q s'.h w.heap.size∧s'.nx=s.nx∧s'.fn=s.fn∧s'.known=s.known:=by
 unfold yY at h
 split at h
 ·rename_i A hA
  split at h
  ·rename_i e hkd
   cases h
   rw [aW] at hkd
   have H:=R.mem
   have hlen:=cn hA
   obtain ⟨ad0,cap0,rows,e1,e2,e3,e4,e5,e6,e7,e8⟩:=(H.arr a0 A hA).ex
   obtain ⟨h0,h1⟩:=dN (ba A.x) (fun b hb=>hn b (List.mem_append_left _ hb))
   rw [e2] at h1
   have h1 : (i.den E).int.toNat < rows.length:=h1
   obtain ⟨i0,hi0⟩ : ∃ i0,(i.den E).int.toNat=i0:=⟨_,rfl⟩
   rw [hi0] at h1
   obtain ⟨row,hrow⟩ : ∃ row,rows[i0]?=some row:=⟨_,List.getElem?_eq_getElem h1⟩
   obtain ⟨b,c,f1,f2,f3,f4,f5,_⟩:=H.sd hA e2 hrow
   obtain ⟨v,f6,f7⟩:=f5 o _ hkd
   have hcell : w.cell? ⟨b,i0 * A.K.kd.length + o,none⟩=some v:=f6 w (bj.refl _ _ _ _)
   have hol : o < row.length:=by rw [f4];exact (List.getElem?_eq_some_iff.1 hkd).1
   have hm : (cD A.x i o).den E=row.getD o .u:=by
    rw [dz ⟨row,by rw [e2,hi0];exact hrow,hol⟩]
    simp only [X.den,e2,CD.ax,hi0]
    rw [List.getD_eq_getElem?_getD (l:=rows),hrow,Option.getD_some]
   have hO:=hn (.isO (cD A.x i o)) (by simp)
   simp only [X.den,CD.gB,hm] at hO
   have hN:=(H.arr a0 A hA).ns o e b c rows hkd f1 e2 i0 row v hrow hcell
   cases hd : row.getD o .u with
   | o r =>
    rw [hd] at hN hm
    obtain ⟨ad,cap,n1,n2,n3,n4,n5,n6,n7⟩:=hN
    obtain ⟨k0,hk0⟩ : ∃ k0,s.h.arrs.length=k0:=⟨_,rfl⟩
    have hpk : p.arr k0=none:=H.afree k0 (.inl (dt (by omega)))
    let own : Nat→Prop:=fun k=>0 < cap∧ad=some ⟨k,0,none⟩
    have hown : ∀ k,own k→p.ow k=.nst a0 i0 o∧k < w.heap.size:=fun k ⟨c1,c2⟩=>by
     obtain ⟨b',cur,m1,m2,m3,_⟩:=n7 c1
     rw [m1] at c2;cases c2
     exact ⟨m2,lt_of_block m3⟩
    open Classical in
    let q : Pl:={ p with arr:=fun j=>if j=k0 then some (ad,cap) else p.arr j,ow:=fun k=>if own k then .arr k0 else p.ow k}
    have hq : p.Le q:=⟨fun _ _ h=>h,fun j x hx=>by
     show (if j=k0 then _ else _)=_
     rw [if_neg (fun e=>by rw [e,hpk] at hx;cases hx)];exact hx,fun _ _ h=>h⟩
    have how : ∀ k,p.ow k≠.nst a0 i0 o→q.ow k=p.ow k:=fun k hk=>if_neg fun h=>hk (hown k h).1
    have T : cd (fun _ _=>False) w w:=cd.refl _ _
    have hxd : (mkSet A.x i o (.ref s.h.arrs.length (.len (.shut (cD A.x i o))))).den E=.l (rows.modify i0 fun r'=>r'.set o (.h k0 r.length)):=by
     rw [qi]
     simp only [X.den,e2,CD.ax,hi0,hm,CD.CS,CD.aR,Int.toNat_natCast,hk0]
    have hnew : ∀ j,nth (bl s.h.arrs a0 (.here { A with x:=mkSet A.x i o (.ref s.h.arrs.length (.len (.shut (cD A.x i o))))}) ++ [.here { e:=e,K:=wa,x:=.shut (cD A.x i o)}]) j =
      if j < k0 then nth (bl s.h.arrs a0 (.here { A with x:=mkSet A.x i o (.ref s.h.arrs.length (.len (.shut (cD A.x i o))))})) j else if j=k0 then some (.here { e:=e,K:=wa,x:=.shut (cD A.x i o)}) else none:=fun j=>by
     rw [xu,cL,hk0]
    refine ⟨q,hq,⟨⟨H.fr,H.g0,H.g1,fun k o' v' hk=>⟨(H.gg k o' v' hk).1,?_⟩,fun r' cs hr=>?_,H.rfree,fun a' A' ha'=>?_,fun j hj=>?_,H.mm.cU T rfl fun a' b' g1 g2 g3 g4=>?_,fun k a' hk=>?_⟩,R.frame.le hq (Gm.Le.refl _),R.stk.mono fun _ _ h=>h.le hq (Gm.Le.refl _),R.known,fun j x hx=>hq.reg _ _ (R.fa j x hx)⟩,fun k i' hk hkn=>?_,rfl,rfl,rfl⟩
    ·have:=(H.gg k o' v' hk).2
     rw [how k (by rw [this];exact fun e=>by cases e)];exact this
    ·refine (H.reg r' cs hr).cU T (fun _ _ _ _ _ h=>h) hq (Gm.Le.refl _) fun b' q' g1=>?_
     have:=(H.reg r' cs hr).own g1
     rw [how b' (by rw [this];exact fun e=>by cases e)];exact this
    ·simp only at ha'
     rw [hnew] at ha'
     split at ha'
     ·rw [aS] at ha'
      split at ha'
      ·rename_i ea
       subst ea
       cases ha'
       refine (H.arr a0 A hA).yR e2 hkd hxd hq (fun b' _ ho=>(how b' (by rw [ho];exact fun e=>by cases e)).trans ho) (fun b' i' j' _ ho hne=>(how b' (by rw [ho];exact fun e=>by cases e;rcases hne with h | h <;> exact h rfl)).trans ho) fun b' c' v' g1 g2=>?_
       rw [f1] at g1;cases g1
       rw [hcell] at g2;cases g2
       exact ⟨⟨ad,cap,n1⟩,ad,cap,if_pos rfl,n2,n1⟩
      ·rename_i ea
       refine (H.arr a' A' ha').cU T (fun _ _ _ _ h=>h) hq (Gm.Le.refl _) fun b' _ ho=>how b' fun e=>?_
       rw [e] at ho
       exact ea ho
     ·split at ha'
      ·rename_i ea
       subst ea
       cases ha'
       have hsh : (X.shut (cD A.x i o)).den E=.l r:=by simp only [X.den,hm,CD.CS]
       refine ⟨⟨ad,cap,r,if_pos rfl,hsh,n2,n3,n4,n5,n6,fun hc=>?_⟩,fun j e' b' c' rows' g1=>?_⟩
       ·obtain ⟨b',cur,m1,m2,m3⟩:=n7 hc
        exact ⟨b',cur,m1,if_pos ⟨hc,m1⟩,m3⟩
       ·exfalso
        have g1 : ([Kd.int .i64] : List Kd)[j]?=some (.os e'):=g1
        cases j with
        | zero=>cases g1
        | succ j=>simp at g1
      ·cases ha'
    ·simp only at hj
     rw [hnew] at hj
     by_cases h2 : j < k0
     ·rw [if_pos h2] at hj
      show (if j=k0 then _ else _)=_
      rw [if_neg (by omega)]
      exact H.afree j (ji hj)
     ·rw [if_neg h2] at hj
      by_cases h3 : j=k0
      ·rw [if_pos h3] at hj;rcases hj with h | h <;> cases h
      ·show (if j=k0 then _ else _)=_
       rw [if_neg h3]
       exact H.afree j (.inl (dt (by omega)))
    ·rw [how b' (by rw [g2];exact fun e=>by cases e)];exact g2
    ·have hk : (if own k then Ow.arr k0 else p.ow k).ofA a':=hk
     split at hk
     ·rename_i ho;exact (hown k ho).2
     ·exact H.nz k a' hk
    ·rcases hkn with k1 | ⟨r',cs,b1,q1,k1,k2,rfl,k3⟩ | ⟨a',A',b1,c1,k1,k2,rfl,k3⟩
     ·exact .inl ((how k (by rw [k1];exact fun e=>by cases e)).trans k1)
     ·exact .inr (.inl ⟨r',cs,k,q1,k1,k2,rfl,k3⟩)
     ·have hlt:=cn k1
      by_cases ea : a0=a'
      ·subst ea
       rw [hA] at k1;cases k1
       refine .inr (.inr ⟨a0,_,k,c1,by simp only;rw [hnew,if_pos (by omega),aS,if_pos rfl,if_pos hlen],hq.arr _ _ k2,rfl,?_⟩)
       simp only
       rw [hxd]
       rw [e2] at k3
       simpa using k3
      ·exact .inr (.inr ⟨a',A',k,c1,by simp only;rw [hnew,if_pos (by omega),aS,if_neg ea];exact k1,hq.arr _ _ k2,rfl,k3⟩)
   | _=>rw [hd] at hO;cases hO
  ·cases h
 ·cases h
theorem o6 {a0 : Nat} {i : X} {o : Nat} {k : St→Tree} (R : Rep B E p g s a as w) (h : (o7 a0 i o s k).den Γ Q E J) : ∃ s' q,p.Le q∧Rep B E q g s' a as w∧rO E p s.h q s'.h w.heap.size∧s'.nx=s.nx∧s'.fn=s.fn∧(k s').den Γ Q E J:=by
 unfold o7 at h
 split at h
 ·rename_i ns s' ho
  obtain ⟨hn,h⟩:=cC R.known h
  obtain ⟨q,h1,h2,h3,h4,h5,h6⟩:=yX R ho hn
  refine ⟨{ s' with known:=df s.known ns},q,h1,?_,h3,h4,h5,h⟩
  have:=h2.df hn
  rw [h6] at this
  exact this
 ·exact h.elim
theorem jm : ∀ {l : List (Pc Ar)} {k a0 j e b : Nat} {i n : X},dK k l=some (a0,j,e,i,b,n)→∃ A,k≤a0∧nth l (a0 - k)=some (.here A)∧jY 0 A.K.kd=[(j,e)]∧pt j A.x=some (i,b,n)
 | [],_,_,_,_,_,_,_,h=>by simp [dK] at h
 | x :: l,k,a0,j,e,b,i,n,h=>by
  have rest : dK (k + 1) l=some (a0,j,e,i,b,n)→∃ A,k≤a0∧nth (x :: l) (a0 - k)=some (.here A)∧jY 0 A.K.kd=[(j,e)]∧pt j A.x=some (i,b,n):=fun h=>by
   obtain ⟨A,h1,h2,h3⟩:=jm h
   exact ⟨A,by omega,by rw [show a0 - k=(a0 - (k + 1)) + 1 from by omega];exact h2,h3⟩
  cases x with
  | here A =>
   simp only [dK] at h
   split at h
   ·rename_i j' e' hat
    split at h
    ·rename_i i' b' n' hh
     simp only [Option.some.injEq,Prod.mk.injEq] at h
     obtain ⟨rfl,rfl,rfl,rfl,rfl,rfl⟩:=h
     exact ⟨A,Nat.le_refl _,by rw [Nat.sub_self];rfl,hat,hh⟩
    ·exact rest h
   ·exact rest h
  | fr=>exact rest h
  | go=>exact rest h
theorem yg {a0 j e b : Nat} {i n : X} {ns : List X} {s' : St} (R : Rep B E p g s a as w) (hf : dK 0 s.h.arrs=some (a0,j,e,i,b,n)) (h : wA a0 j e i b n s=some (ns,s')) (hn : ∀ b∈ns,(b.den E).bool=true) :
  ∃ q,p.Le q∧Rep B E q g s' a as w∧s'.nx=s.nx∧s'.fn=s.fn∧s'.known=s.known:=by
 obtain ⟨A,_,hA,hat,hh⟩:=jm hf
 rw [Nat.sub_zero] at hA
 unfold wA at h
 split at h
 ·rename_i A' S hA' hS
  rw [hA] at hA';cases hA'
  split at h
  ·rename_i hc
   cases h
   simp only [Bool.and_eq_true,Bool.not_eq_true'] at hc
   obtain ⟨⟨hc1,hc2⟩,hc3⟩:=hc
   have hSK:=SK.av hc1
   have hSe:=Nat.eq_of_beq_eq_true hc2
   have hab : a0≠b:=fun e=>by rw [e,Nat.beq_refl] at hc3;cases hc3
   obtain ⟨_,hkd,_⟩:=gY hat
   rw [Nat.sub_zero] at hkd
   have H:=R.mem
   have hlen:=cn hA
   obtain ⟨ad0,cap0,rows,e1,e2,e3,e4,e5,e6,e7,e8⟩:=(H.arr a0 A hA).ex
   obtain ⟨h0,h1⟩:=dN (ba A.x) (fun b hb=>hn b (List.mem_append_left _ hb))
   rw [e2] at h1
   have h1 : (i.den E).int.toNat < rows.length:=h1
   have g1:=hn (mkLe (.int 0) (mkAdd (.int 0) n)) (by simp)
   have g2:=hn (mkLe (mkAdd (.int 0) n) (bn S.x)) (by simp)
   obtain ⟨ad,cap,srows,s1,s2,s3,s4,s5,s6,s7,s8⟩:=(H.arr b S hS).ex
   rw [bz] at g1 g2
   have g1:=of_decide_eq_true g1
   have g2:=of_decide_eq_true g2
   rw [eV] at g1 g2
   rw [ba,s2] at g2
   simp only [X.den,CD.aR,Int.zero_add,CD.ax] at g1 g2
   obtain ⟨m,hm⟩ : ∃ m : Nat,(n.den E).int=m:=⟨(n.den E).int.toNat,by omega⟩
   rw [hm] at g1 g2
   have hpos : 0 < cap0:=by omega
   obtain ⟨b0,cur0,t1,t2,t3,t4,t5,t6⟩:=e8 hpos
   subst t1
   have hrl : ∀ row,row∈rows→j < row.length:=fun row hr=>by
    obtain ⟨t,ht⟩:=List.getElem?_of_mem hr
    rw [(t6 t row ht).length]
    exact (List.getElem?_eq_some_iff.1 hkd).1
   obtain ⟨row,d1,d2,d3⟩:=vb hh e2 hrl h1
   obtain ⟨i0,hi0⟩ : ∃ i0,(i.den E).int.toNat=i0:=⟨_,rfl⟩
   rw [hi0] at d1 d3 h1
   rw [hm,Int.toNat_natCast] at d2
   have hjl:=(List.getElem?_eq_some_iff.1 hkd).1
   obtain ⟨v,hv⟩ : ∃ v,w.cell? ⟨b0,i0 * A.K.kd.length + j,none⟩=some v:=by
    obtain ⟨v,q1,_⟩:=(t6 i0 row d1).cell hkd
    exact ⟨v,by simp [World.cell?,t3,q1]⟩
   have hN:=(H.arr a0 A hA).ns j e b0 cap0 rows hkd e1 e2 i0 row v d1 hv
   rw [d2] at hN
   obtain ⟨ad',cap',n1,n2,n3⟩:=hN
   rw [s1] at n1;cases n1
   have hd : (X.own (dc (mkAdd (.int 0) n) S.x)).den E=.o (srows.take m):=by
    simp only [X.den,db s2,eV,hm,CD.aR,CD.ax,Int.zero_add,Int.toNat_natCast]
   have hxd:=d3 (.own (dc (mkAdd (.int 0) n) S.x))
   rw [hd] at hxd
   open Classical in
   let q : Pl:={ p with ow:=fun k=>if p.ow k=.arr b then .nst a0 i0 j else p.ow k}
   have hq : p.Le q:=⟨fun _ _ h=>h,fun _ _ h=>h,fun _ _ h=>h⟩
   have how : ∀ k,p.ow k≠.arr b→q.ow k=p.ow k:=fun k hk=>if_neg hk
   have T : cd (fun _ _=>False) w w:=cd.refl _ _
   have hml : (srows.take m).length=m:=by rw [List.length_take];omega
   refine ⟨q,hq,⟨⟨H.fr,H.g0,H.g1,fun k o' v' hk=>⟨(H.gg k o' v' hk).1,?_⟩,fun r' cs hr=>?_,H.rfree,fun a' A' ha'=>?_,fun j' hj'=>H.afree j' (ji (wo hj')),H.mm.cU T rfl fun a' b' g1 g2 g3 g4=>?_,fun k a' hk=>?_⟩,R.frame.le hq (Gm.Le.refl _),R.stk.mono fun _ _ h=>h.le hq (Gm.Le.refl _),R.known,fun j x hx=>hq.reg _ _ (R.fa j x hx)⟩,rfl,rfl,rfl⟩
   ·have:=(H.gg k o' v' hk).2
    rw [how k (by rw [this];exact fun e=>by cases e)];exact this
   ·refine (H.reg r' cs hr).cU T (fun _ _ _ _ _ h=>h) hq (Gm.Le.refl _) fun b' q' g1=>?_
    have:=(H.reg r' cs hr).own g1
    rw [how b' (by rw [this];exact fun e=>by cases e)];exact this
   ·rw [aS] at ha'
    split at ha'
    ·split at ha' <;> cases ha'
    ·rename_i hba
     rw [aS] at ha'
     split at ha'
     ·rename_i ea
      subst ea
      cases ha'
      refine (H.arr a0 A hA).yR e2 hkd hxd hq (fun b' _ ho=>(how b' (by rw [ho];exact fun e=>by cases e;exact hab rfl)).trans ho) (fun b' i' j' _ ho hne=>(how b' (by rw [ho];exact fun e=>by cases e)).trans ho) fun b' c' v' g3 g4=>?_
      rw [e1] at g3;cases g3
      rw [hv] at g4;cases g4
      have hnum : wI (srows.take m):=by
       refine ⟨?_,fun row' hr'=>?_⟩
       ·rw [hml]
        rw [hSK] at s5
        exact Nat.le_trans (Nat.mul_le_mul_right _ (by omega)) s5
       ·obtain ⟨t,ht⟩:=List.getElem?_of_mem (List.mem_of_mem_take hr')
        obtain ⟨b',cur,m1,m2,m3,m4,m5,m6⟩:=s8 (by have:=(List.getElem?_eq_some_iff.1 ht).1;omega)
        have:=m6 t row' ht
        rw [hSK] at this
        match row',this with
        | [d],⟨⟨v,_,k2⟩,_⟩ =>
         simp only [Rd] at k2
         obtain ⟨n,_,rfl⟩:=k2
         exact ⟨n,rfl⟩
        | [],h=>exact h.elim
        | _ :: _ :: _,h=>exact h.2.elim
      refine ⟨⟨⟨ad,cap,by rw [hml];exact n3⟩,hnum⟩,ad,cap,by rw [hml];exact n3,by rw [hml];exact n2,s4,?_,by rw [← hSK];exact s6,by rw [← hSK];exact s7,fun hc=>?_⟩
      ·rw [hml]
       rw [hSK] at s5
       exact Nat.le_trans (Nat.mul_le_mul_right _ (by omega)) s5
      ·obtain ⟨b',cur,m1,m2,m3,m4,m5,m6⟩:=s8 hc
       refine ⟨b',cur,m1,if_pos m2,by rw [← hSe];exact m3,by rw [← hSK];exact m4,m5,fun t rw' ht=>?_⟩
       rw [List.getElem?_take] at ht
       split at ht
       ·have:=m6 t rw' ht
        rw [hSK] at this
        exact this
       ·cases ht
     ·rename_i ea
      refine (H.arr a' A' ha').cU T (fun _ _ _ _ h=>h) hq (Gm.Le.refl _) fun b' _ ho=>how b' fun e=>?_
      rw [e] at ho
      exact hba ho
   ·rw [how b' (by rw [g2];exact fun e=>by cases e)];exact g2
   ·have hk : (if p.ow k=.arr b then Ow.nst a0 i0 j else p.ow k).ofA a':=hk
    split at hk
    ·rename_i ho;exact H.nz k b (by rw [ho];rfl)
    ·exact H.nz k a' hk
  ·cases h
 ·cases h
theorem zQ {b : Nat} {s' : St} (h : tJ b s=some s') : s'.h.arrs=bl s.h.arrs b .go:=by
 unfold tJ at h
 split at h
 ·split at h
  ·cases h;rfl
  ·cases h
 ·cases h
theorem zy {a0 j e b : Nat} {i n : X} {s' : St} (R : Rep B E p g s a as w) (hf : dK 0 s.h.arrs=some (a0,j,e,i,b,n)) (h : zA a0 j e b n s=some s') (hn : ∀ c∈K2 a0 b i n s,(c.den E).bool=true) :
  ∃ q g',Rep B E q g' s' a as w∧s'.nx=s.nx∧s'.fn=s.fn:=by
 obtain ⟨A,_,hA,hat,hh⟩:=jm hf
 rw [Nat.sub_zero] at hA
 unfold zA at h
 split at h
 ·rename_i A' S hA' hS
  rw [hA] at hA';cases hA'
  split at h
  ·rename_i hc
   split at h
   ·rename_i s1 hs1
    cases h
    have hn : ∀ c∈dF i (bn A.x) ++ [mkLe (.int 0) (mkAdd (.int 0) n),mkLe (mkAdd (.int 0) n) (bn S.x)],(c.den E).bool=true:=by
     unfold K2 at hn
     rw [hA,hS] at hn
     exact hn
    simp only [Bool.and_eq_true,Bool.not_eq_true'] at hc
    obtain ⟨⟨hc1,hc2⟩,hc3⟩:=hc
    have hSK:=SK.av hc1
    have hab : a0≠b:=fun e=>by rw [e,Nat.beq_refl] at hc3;cases hc3
    obtain ⟨_,hkd,_⟩:=gY hat
    rw [Nat.sub_zero] at hkd
    have H:=R.mem
    obtain ⟨ad0,cap0,rows,e1,e2,e3,e4,e5,e6,e7,e8⟩:=(H.arr a0 A hA).ex
    obtain ⟨h0,h1⟩:=dN (ba A.x) (fun b hb=>hn b (List.mem_append_left _ hb))
    rw [e2] at h1
    have h1 : (i.den E).int.toNat < rows.length:=h1
    have g1:=hn (mkLe (.int 0) (mkAdd (.int 0) n)) (by simp)
    have g2:=hn (mkLe (mkAdd (.int 0) n) (bn S.x)) (by simp)
    obtain ⟨ad,cap,srows,s1',s2,s3,s4,s5,s6,s7,s8⟩:=(H.arr b S hS).ex
    rw [bz] at g1 g2
    have g1:=of_decide_eq_true g1
    have g2:=of_decide_eq_true g2
    rw [eV] at g1 g2
    rw [ba,s2] at g2
    simp only [X.den,CD.aR,Int.zero_add,CD.ax] at g1 g2
    obtain ⟨m,hm⟩ : ∃ m : Nat,(n.den E).int=m:=⟨(n.den E).int.toNat,by omega⟩
    rw [hm] at g1 g2
    have hpos : 0 < cap0:=by omega
    obtain ⟨b0,cur0,t1,t2,t3,t4,t5,t6⟩:=e8 hpos
    subst t1
    have hrl : ∀ row,row∈rows→j < row.length:=fun row hr=>by
     obtain ⟨t,ht⟩:=List.getElem?_of_mem hr
     rw [(t6 t row ht).length]
     exact (List.getElem?_eq_some_iff.1 hkd).1
    obtain ⟨row,d1,d2,d3⟩:=vb hh e2 hrl h1
    obtain ⟨i0,hi0⟩ : ∃ i0,(i.den E).int.toNat=i0:=⟨_,rfl⟩
    rw [hi0] at d1 d3 h1
    rw [hm,Int.toNat_natCast] at d2
    obtain ⟨v,hv⟩ : ∃ v,w.cell? ⟨b0,i0 * A.K.kd.length + j,none⟩=some v:=by
     obtain ⟨v,q1,_⟩:=(t6 i0 row d1).cell hkd
     exact ⟨v,by simp [World.cell?,t3,q1]⟩
    have hN:=(H.arr a0 A hA).ns j e b0 cap0 rows hkd e1 e2 i0 row v d1 hv
    rw [d2] at hN
    obtain ⟨ad',cap',n1,n2,n3⟩:=hN
    rw [s1'] at n1;cases n1
    have hd : (dc (mkAdd (.int 0) n) S.x).den E=.l (srows.take m):=by
     simp only [db s2,eV,hm,CD.aR,X.den,Int.zero_add,Int.toNat_natCast]
    have hxd:=d3 (dc (mkAdd (.int 0) n) S.x)
    rw [hd] at hxd
    have hml : (srows.take m).length=m:=by rw [List.length_take];omega
    obtain ⟨q,g',k1,k2,R1,_,k3,k4,k5⟩:=tI R hs1
    have harr:=zQ hs1
    have hA1 : nth s1.h.arrs a0=some (.here A):=by rw [harr,aS,if_neg (fun e=>hab e.symm)];exact hA
    have H1:=R1.mem
    refine ⟨q,g',⟨⟨H1.fr,H1.g0,H1.g1,H1.gg,H1.reg,H1.rfree,fun a' A' ha'=>?_,fun j' hj'=>H1.afree j' (ji hj'),H1.mm,H1.nz⟩,R1.frame,R1.stk,R1.known,R1.fa⟩,k3,k4⟩
    rw [aS] at ha'
    split at ha'
    ·rename_i ea
     subst ea
     split at ha'
     ·cases ha'
      refine (H1.arr a0 A hA1).yR e2 hkd hxd (Pl.Le.refl _) (fun _ _ h=>h) (fun _ _ _ _ h _=>h) fun b' c' v' g3 g4=>?_
      rw [k1.arr _ _ e1] at g3;cases g3
      rw [hv] at g4;cases g4
      refine ⟨⟨ad,cap,by rw [hml];exact n3,by rw [hml];exact n2,s4,?_,fun hl=>?_⟩,trivial⟩
      ·rw [hml]
       rw [hSK] at s5
       exact Nat.le_trans (Nat.mul_le_mul_right _ (by omega)) s5
      ·rw [hml] at hl
       obtain ⟨bb,m1,m2⟩:=k5 S ad cap srows hS s1' s2 (by omega)
       refine ⟨bb,0,m1,fun t rw' ht=>?_⟩
       rw [List.getElem?_take] at ht
       split at ht
       ·have:=m2 t rw' ht
        rw [hSK] at this
        have this : aJ g' [.int .i64] (fun j=>g' bb (t * 1 + j)) rw':=this
        match rw',this with
        | [d],⟨⟨v,c1,c2⟩,_⟩ =>
         simp only [Rd] at c2
         obtain ⟨n,rfl,rfl⟩:=c2
         refine ⟨n,rfl,?_⟩
         have c1 : g' bb (t * 1 + 0)=some (.int .i64 n):=c1
         rw [Nat.zero_add]
         rw [Nat.mul_one,Nat.add_zero] at c1
         exact c1
        | [],h=>exact h.elim
        | _ :: _ :: _,h=>exact h.2.elim
       ·cases ht
     ·cases ha'
    ·exact H1.arr a' A' ha'
   ·cases h
  ·cases h
 ·cases h
theorem gv : ∀ {l : List Nat} {s : St} {p : Pl} {g : Gm} {k : St→Tree},Rep B E p g s a as w→(je l s k).den Γ Q E J→∃ s' q g',Rep B E q g' s' a as w∧s'.nx=s.nx∧s'.fn=s.fn∧(k s').den Γ Q E J
 | [],s,p,g,k,R,h=>⟨s,p,g,R,rfl,rfl,h⟩
 | b :: l,s,p,g,k,R,h=>by
  simp only [je] at h
  split at h
  ·rename_i a0 j e i c n hf
   split at h
   ·rename_i hbc
    have hbc:=Nat.eq_of_beq_eq_true hbc
    subst hbc
    obtain ⟨hn,h⟩:=cC R.known h
    split at h
    ·rename_i t ht
     obtain ⟨q,g',h1,h2,h3⟩:=zy (R.df hn) hf ht hn
     obtain ⟨s2,q2,g2,c1,c2,c3,c4⟩:=gv h1 h
     exact ⟨s2,q2,g2,c1,c2.trans h2,c3.trans h3,c4⟩
    ·exact h.elim
   ·exact gv R h
  ·exact gv R h
theorem fD : ∀ {m : Nat} {s : St} {p : Pl} {k : St→Tree},Rep B E p g s a as w→(fV m s k).den Γ Q E J→∃ s' q,p.Le q∧Rep B E q g s' a as w∧s'.nx=s.nx∧s'.fn=s.fn∧(k s').den Γ Q E J
 | 0,s,p,k,R,h=>⟨s,p,Pl.Le.refl _,R,rfl,rfl,h⟩
 | m + 1,s,p,k,R,h=>by
  simp only [fV] at h
  split at h
  ·exact ⟨s,p,Pl.Le.refl _,R,rfl,rfl,h⟩
  ·rename_i a0 j e i b n hf
   split at h
   ·rename_i ns s1 hc
    obtain ⟨hn,h⟩:=cC R.known h
    obtain ⟨q,h1,h2,h3,h4,h5⟩:=yg R hf hc hn
    have h2:=h2.df hn
    rw [h5] at h2
    obtain ⟨s2,q2,k1,k2,k3,k4,k5⟩:=fD h2 h
    exact ⟨s2,q2,h1.trans k1,k2,k3.trans h3,k4.trans h4,k5⟩
   ·exact h.elim
end
end Go.Sy

namespace Go.Sy
open Go.RowKit
section
variable {E E' : Env} {p p' : Pl} {g g' : Gm}
theorem aE.append {α β : Type} {R : α→β→Prop} : ∀ {l l' : List α} {m m' : List β},aE R l m→aE R l' m'→aE R (l ++ l') (m ++ m')
 | [],_,[],_,_,h=>h
 | _ :: _,_,_ :: _,_,h,h'=>⟨h.1,aE.append h.2 h'⟩
 | [],_,_ :: _,_,h,_=>h.elim
 | _ :: _,_,[],_,h,_=>h.elim
theorem aE.take {α β : Type} {R : α→β→Prop} : ∀ {l : List α} {m : List β} (n : Nat),aE R l m→aE R (l.take n) (m.take n)
 | _,_,0,_=>trivial
 | [],[],_ + 1,_=>trivial
 | _ :: _,_ :: _,n + 1,h=>⟨h.1,aE.take n h.2⟩
 | [],_ :: _,_,h=>h.elim
 | _ :: _,[],_,h=>h.elim
theorem aE.drop {α β : Type} {R : α→β→Prop} : ∀ {l : List α} {m : List β} (n : Nat),aE R l m→aE R (l.drop n) (m.drop n)
 | _,_,0,h=>h
 | [],[],_ + 1,_=>trivial
 | _ :: _,_ :: _,n + 1,h=>aE.drop n h.2
 | [],_ :: _,_,h=>h.elim
 | _ :: _,[],_,h=>h.elim
theorem aE.conv {α β γ : Type} {R : α→β→Prop} {S : α→γ→Prop} {U : γ→β→Prop} (hu : ∀ a b c,S a c→R a b→U c b) : ∀ {l : List α} {m : List β} {n : List γ},aE S l n→aE R l m→aE U n m
 | [],[],[],_,_=>trivial
 | _ :: _,_ :: _,_ :: _,h,k=>⟨hu _ _ _ h.1 k.1,aE.conv hu h.2 k.2⟩
 | [],_ :: _,_,_,h=>h.elim
 | _ :: _,[],_,_,h=>h.elim
 | [],_,_ :: _,h,_=>h.elim
 | _ :: _,_,[],h,_=>h.elim
def PK.po : PK→Bool | .own _ _=>true | _=>false
theorem fL : ∀ (ks : List PK) (nx na : Nat),(mkC nx na ks).length=ks.length
 | [],_,_=>rfl
 | k :: l,nx,na=>by cases k <;> simp [mkC,fL l]
def cnt : List PK→Nat
 | []=>0
 | .own _ _ :: l=>cnt l + 1
 | _ :: l=>cnt l
theorem k9 : ∀ (ks : List PK) (nx : Nat),(mkA nx ks).length=cnt ks
 | [],_=>rfl
 | k :: l,nx=>by cases k <;> simp [mkA,cnt,k9 l]
theorem Rd.flat {k : Kd} {v : Value} {d : CD} (hk : k.E8=false) (h : Rd g k v d) : Rd g' k v d:=by
 cases k <;> first
  | exact h
  | cases hk
theorem aJ.flat : ∀ {kd : List Kd} {f : Nat→Option Value} {row : List CD},dU Kd.E8 kd=false→aJ g kd f row→aJ g' kd f row
 | [],_,[],_,_=>trivial
 | k :: ks,f,d :: ds,hk,⟨⟨v,hv,hr⟩,hrest⟩=>by
  simp only [dU,Bool.or_eq_false_iff] at hk
  exact ⟨⟨v,hv,hr.flat hk.1⟩,aJ.flat hk.2 hrest⟩
 | [],_,_ :: _,_,h=>h.elim
 | _ :: _,_,[],_,h=>h.elim
theorem Ds {nx nx' na na' : Nat} : ∀ {ks : List PK},(∀ i,i < ks.length→E' (nx' + i)=E (nx + i))→(∀ i,i < cnt ks→p'.arr (na' + i)=p.arr (na + i))→(g.Le g'∨dU PK.B8 ks=false) →
  aE (fun c c'=>∀ v,SC.is E p g c v→SC.is E' p' g' c' v) (mkC nx na ks) (mkC nx' na' ks):=by
 intro ks
 induction ks generalizing nx nx' na na' with
 | nil=>intro _ _ _;trivial
 | cons k l ih =>
  intro hE hp hg
  have h0 : E' nx'=E nx:=hE 0 (by simp)
  have hE' : ∀ i,i < l.length→E' (nx' + 1 + i)=E (nx + 1 + i):=fun i hi=>by
   have:=hE (i + 1) (by simp;omega)
   rw [show nx' + 1 + i=nx' + (i + 1) from by omega,show nx + 1 + i=nx + (i + 1) from by omega];exact this
  have hg' : g.Le g'∨dU PK.B8 l=false:=by
   rcases hg with hg | hg
   ·exact .inl hg
   ·simp only [dU,Bool.or_eq_false_iff] at hg;exact .inr hg.2
  cases k with
  | int k=>exact ⟨fun v ⟨n,h1,h2⟩=>⟨n,by simp only [X.den] at h1 ⊢;rw [h0];exact h1,h2⟩,ih hE' hp hg'⟩
  | bool=>exact ⟨fun v ⟨n,h1,h2⟩=>⟨n,by simp only [X.den] at h1 ⊢;rw [h0];exact h1,h2⟩,ih hE' hp hg'⟩
  | str=>exact ⟨fun v ⟨n,h1,h2⟩=>⟨n,by simp only [X.den] at h1 ⊢;rw [h0];exact h1,h2⟩,ih hE' hp hg'⟩
  | fz K =>
   refine ⟨fun v h=>?_,ih hE' hp hg'⟩
   rcases hg with hg | hg
   ·have h : Rd g _ v _:=h
    simp only [SC.is,X.den] at h ⊢
    rw [h0];exact Rd.mono hg _ _ _ h
   ·simp [dU,PK.B8] at hg
  | own e K =>
   have hp0 : p'.arr na'=p.arr na:=hp 0 (by simp [cnt])
   refine ⟨fun v ⟨A,c,m,h1,h2,h3,h4⟩=>⟨A,c,m,by rw [hp0];exact h1,by simp only [X.den] at h2 ⊢;rw [h0];exact h2,h3,h4⟩,ih hE' (fun i hi=>?_) hg'⟩
   have:=hp (i + 1) (by simp [cnt];omega)
   rw [show na' + 1 + i=na' + (i + 1) from by omega,show na + 1 + i=na + (i + 1) from by omega];exact this
theorem qs {R : SC→SC→Prop} (hR : ∀ c c',R c c'→∀ v,SC.is E p g c v→SC.is E' p' g' c' v) : ∀ {rs : List RK} {cs cs' : List SC},aE R cs cs'→aE (fun x x'=>∀ v,SV.is E p g x v→SV.is E' p' g' x' v) (lN rs cs) (lN rs cs')
 | [],cs,cs',_=>by simp only [lN];trivial
 | .one k :: l,[],[],_=>by simp only [lN];trivial
 | .one k :: l,c :: cs,c' :: cs',h=>by simp only [lN];exact ⟨hR c c' h.1,qs hR h.2⟩
 | .agg ks :: l,cs,cs',h=>by
  have e : lN (.agg ks :: l) cs=.agg (cs.take ks.length) :: lN l (cs.drop ks.length):=by cases cs <;> rfl
  have e' : lN (.agg ks :: l) cs'=.agg (cs'.take ks.length) :: lN l (cs'.drop ks.length):=by cases cs' <;> rfl
  rw [e,e']
  refine ⟨fun v ⟨vs,e1,hv⟩=>⟨vs,e1,aE.conv (fun a b c h1 h2=>hR a c h1 b h2) (h.take ks.length) hv⟩,qs hR (h.drop ks.length)⟩
 | .one _ :: _,[],_ :: _,h=>h.elim
 | .one _ :: _,_ :: _,[],h=>h.elim
theorem Bw {xs xs' : List SV} {v : Value} (h : aE (fun x x'=>∀ v,SV.is E p g x v→SV.is E' p' g' x' v) xs xs') (hv : (wP xs).is E p g v) : (wP xs').is E' p' g' v:=by
 match xs,xs',h with
 | [],[],_ =>
  obtain ⟨vs,e,h2⟩:=hv
  cases vs with
  | nil=>exact ⟨[],e,trivial⟩
  | cons a l=>exact h2.elim
 | [x],[x'],h=>exact h.1 v hv
 | x :: y :: l,x' :: y' :: l',h =>
  obtain ⟨vs,e,h2⟩:=hv
  exact ⟨vs,e,aE.conv (fun a b c h1 h2=>h1 b h2) h h2⟩
 | [],_ :: _,h=>exact h.elim
 | _ :: _,[],h=>exact h.elim
 | [_],_ :: _ :: _,h=>exact h.2.elim
 | _ :: _ :: _,[_],h=>exact h.2.elim
theorem kj {R : SC→SC→Prop} : ∀ {as : List AK} {cs cs' : List SC},aE R cs cs'→aE (aE R) (dR as cs) (dR as cs')
 | [],_,_,_=>trivial
 | .ptr ks :: l,cs,cs',h=>⟨h.take ks.length,kj (as:=l) (h.drop ks.length)⟩
 | .one _ :: l,cs,cs',h=>by simp only [dR];exact kj h
 | .agg _ :: l,cs,cs',h=>by simp only [dR];exact kj h
 | .fn _ :: l,cs,cs',h=>by simp only [dR];exact kj h
end
section
variable {B : cT} {E : Env} {p : Pl} {g : Gm} {h : Hp} {w : World}
theorem SK.yV {K : SK} (h : K.pos=true) : 0 < K.by_∧0 < K.kd.length:=by
 simp only [SK.pos,Bool.and_eq_true] at h
 exact ⟨Hk h.1,Hk h.2⟩
def En (E : Env) (p : Pl) (h : Hp) (w : World) (gc : Gm) (a : Nat) : Prop:=∀ A b c,nth h.arrs a=some (.here A)→p.arr a=some (some ⟨b,0,none⟩,c)→0 < c→∀ i v,i < (A.x.den E).rows.length * A.K.kd.length→w.cell? ⟨b,i,none⟩=some v→gc b i=some v
def yz (E : Env) (p : Pl) (h : Hp) (o : Option Nat) (pl : Option Addr × Nat) (e : Nat) (K : SK) (d : CD) : Prop:=match o with
 | some a=>p.arr a=some pl∧∃ A n rows,nth h.arrs a=some (.here A)∧A.e=e∧A.K=K∧A.x.den E=.l rows∧n≤rows.length∧d=.l (rows.take n)∧∀ (j e' : Nat),K.kd[j]?=some (.os e')→∀ row∈rows,(row.getD j .u).isH=false
 | none=>pl.2=0∧d=.l []∧0 < K.by_∧0 < K.kd.length
def wH (E : Env) (p : Pl) (h : Hp) : List PK→List CD→List (Option Nat)→List (Option Addr × Nat)→Prop
 | [],[],[],[]=>True
 | .own e K :: ks,d :: ds,o :: os,pl :: pls=>yz E p h o pl e K d∧wH E p h ks ds os pls
 | .own _ _ :: _,_,_,_=>False
 | _ :: ks,_ :: ds,os,pls=>wH E p h ks ds os pls
 | _,_,_,_=>False
theorem BW (H : bq B E p g h w) {k : PK} {c : SC} {m : Mt} {u : Value} (hm : mtC h k c=some m) (hu : c.is E p g u) (hn : ∀ b∈m.need,(b.den E).bool=true) :
  ∃ x,m.data=[x]∧CD.ok k.kd (x.den E)∧((k.po=false∧m.own=[]∧∀ (Ec : Env) (pc : Pl) (gc : Gm) (nx na : Nat),Ec nx=x.den E→g.Le gc→(∀ a∈m.G4,En E p h w gc a)→∀ l,∃ c',mkC nx na (k :: l)=c' :: mkC (nx + 1) na l∧c'.is Ec pc gc u) ∨
   (∃ e K o pl,k=.own e K∧m.own=[o]∧m.G4=[]∧yz E p h o pl e K (x.den E)∧∀ (Ec : Env) (pc : Pl) (gc : Gm) (nx na : Nat),Ec nx=x.den E→pc.arr na=some pl→SC.is Ec pc gc (.sl na (.len (.var nx))) u)):=by
 unfold mtC at hm
 split at hm
 ·split at hm
  ·rename_i hk
   cases hm
   obtain ⟨n,h1,h2⟩:=hu
   refine ⟨_,rfl,⟨n,h1⟩,.inl ⟨rfl,rfl,fun Ec pc gc nx na hE _ _ l=>⟨_,rfl,n,by simp only [X.den];rw [hE];exact h1,by rw [h2,IntKind.av hk]⟩⟩⟩
  ·cases hm
 ·cases hm
  obtain ⟨n,h1,h2⟩:=hu
  exact ⟨_,rfl,⟨n,h1⟩,.inl ⟨rfl,rfl,fun Ec pc gc nx na hE _ _ l=>⟨_,rfl,n,by simp only [X.den];rw [hE];exact h1,h2⟩⟩⟩
 ·cases hm
  obtain ⟨n,h1,h2⟩:=hu
  exact ⟨_,rfl,⟨_,h1⟩,.inl ⟨rfl,rfl,fun Ec pc gc nx na hE _ _ l=>⟨_,rfl,n,by simp only [X.den];rw [hE];exact h1,h2⟩⟩⟩
 ·rename_i K
  split at hm
  ·cases hm
  rename_i hno
  have hno : iM K.kd=true:=by simpa using hno
  have hshut:=SK.IY hno
  split at hm
  ·rename_i ns x hsl
   cases hm
   obtain ⟨A,mm,cc,rows,news,y1,y2,y3,y4,y5,y6,y7,y8,y9,y10,_⟩:=oV H hsl hu hn
   have hokrow : ∀ row,row∈rows→CD.ny K.kd row:=fun row hr=>by
    obtain ⟨i,hi⟩:=List.getElem?_of_mem hr
    exact aJ.ny _ _ _ (y10 i row hi)
   refine ⟨x,rfl,⟨⟨rows,y2,by rw [y3];exact y6,hokrow⟩,CD.yi hno⟩,.inl ⟨rfl,rfl,fun Ec pc gc nx na hE hg hl l=>⟨_,rfl,?_⟩⟩⟩
   have key : Rd gc (.sl K.by_ K.kd) u (x.den E):=by
    unfold nZ at hsl
    split at hsl
    ·split at hsl
     ·rename_i hs
      cases hsl
      have:=SK.av hs
      rw [hshut] at this
      subst this
      exact Rd.mono hg _ _ _ hu
     ·cases hsl
    ·cases hsl
     have : u=.slice none 0 0:=hu
     subst this;exact Rd.nil _
    ·cases hsl
     obtain ⟨A,hA⟩:=hu
     subst hA;exact Rd.nil _
    ·rename_i b n
     split at hsl
     ·rename_i A' hA'
      split at hsl
      ·rename_i hs
       cases hsl
       simp only [Bool.and_eq_true] at hs
       have hs:=SK.av hs.1
       subst hs
       obtain ⟨ad,cap,rows',e1,e2,e3,e4,e5,e6,e7,e8⟩:=(H.arr b A' hA').ex
       obtain ⟨ad',c',k,c1,c2,c3,c4⟩:=hu
       rw [e1] at c1
       cases c1
       have hle:=hn (mkLe n (bn A'.x)) (by simp)
       rw [bz,ba,e2,c2] at hle
       have hle:=of_decide_eq_true hle
       simp only [CD.aR,CD.ax] at hle
       have hle : k≤rows'.length:=by omega
       subst c4
       simp only [Rd]
       refine ⟨ad,k,cap,rows'.take k,rfl,by rw [db e2,c2];simp,by rw [List.length_take];omega,c3,e4,Nat.le_trans (Nat.mul_le_mul_right _ hle) e5,fun hk=>?_⟩
       obtain ⟨bb,cur,f1,f2,f3,f4,f5,f6⟩:=e8 (by omega)
       subst f1
       refine ⟨bb,0,rfl,fun i row hi=>?_⟩
       rw [List.getElem?_take] at hi
       split at hi
       ·have hr:=f6 i row hi
        refine aJ.of hr.length fun j kk hkk=>?_
        obtain ⟨v,hv,hrd⟩:=hr.cell hkk
        refine ⟨v,?_,Rd.mono hg _ _ _ hrd⟩
        rw [Nat.zero_add]
        refine hl b (by simp) A' bb cap hA' e1 (by omega) _ v ?_ (by simp [World.cell?,f3,hv])
        rw [e2]
        exact dG (List.getElem?_eq_some_iff.1 hkk).1 (List.getElem?_eq_some_iff.1 hi).1
       ·cases hi
      ·cases hsl
     ·cases hsl
    ·cases hsl
   show Rd gc (.sl K.by_ K.kd) u ((X.var nx).den Ec)
   simp only [X.den]
   rw [hE]
   exact key
  ·cases hm
 ·rename_i e K a n
  split at hm
  ·rename_i A hA
   split at hm
   ·rename_i hs
    simp only [Bool.and_eq_true] at hs
    cases hm
    obtain ⟨ad,cap,rows,e1,e2,e3,e4,e5,e6,e7,e8⟩:=(H.arr a A hA).ex
    obtain ⟨ad',c',k,c1,c2,c3,c4⟩:=hu
    rw [e1] at c1
    cases c1
    have hle:=hn (mkLe n (bn A.x)) (by simp)
    rw [bz,ba,e2,c2] at hle
    have hle:=of_decide_eq_true hle
    simp only [CD.aR,CD.ax] at hle
    have hle : k≤rows.length:=by omega
    have hcl:=zY e2 hs.2.2 fun b hb=>hn b (by simp [hb])
    have hd : (dc n A.x).den E=.l (rows.take k):=by rw [db e2,c2];simp
    have hAK:=SK.av hs.2.1
    subst hAK
    refine ⟨_,rfl,⟨⟨rows.take k,hd,?_,fun row hr=>?_⟩,fun rs hrs j e' hj row hr=>?_⟩,.inr ⟨e,_,some a,(ad,cap),rfl,rfl,rfl,⟨e1,A,k,rows,hA,Nat.eq_of_beq_eq_true hs.1,rfl,e2,hle,hd,hcl⟩,fun Ec pc gc nx na hE hp=>⟨ad,cap,k,hp,?_,c3,c4⟩⟩⟩
    ·rw [List.length_take]
     exact Nat.le_trans (Nat.mul_le_mul_right _ (Nat.min_le_right _ _)) e5
    ·obtain ⟨i,hi⟩:=List.getElem?_of_mem hr
     rw [List.getElem?_take] at hi
     split at hi
     ·obtain ⟨bb,cur,f1,f2,f3,f4,f5,f6⟩:=e8 (by have:=(List.getElem?_eq_some_iff.1 hi).1;omega)
      exact aJ.ny _ _ _ (f6 i row hi)
     ·cases hi
    ·rw [hd] at hrs;cases hrs
     exact hcl j e' hj row (List.mem_of_mem_take hr)
    ·simp only [X.den]
     rw [hE,hd,CD.ax,List.length_take,Nat.min_eq_left hle]
   ·cases hm
  ·cases hm
 ·rename_i e K
  split at hm
  ·rename_i hK
   have hK:=SK.yV hK
   cases hm
   have hu : u=.slice none 0 0:=hu
   exact ⟨_,rfl,⟨⟨[],rfl,by simp,fun _ h=>by cases h⟩,CD.zZ⟩,.inr ⟨e,K,none,(none,0),rfl,rfl,rfl,⟨rfl,rfl,hK⟩,fun Ec pc gc nx na hE hp=>⟨none,0,0,hp,by simp only [X.den];rw [hE];rfl,Nat.le_refl _,hu⟩⟩⟩
  ·cases hm
 ·rename_i e K
  split at hm
  ·rename_i hK
   have hK:=SK.yV hK
   cases hm
   obtain ⟨A,hu⟩:=hu
   exact ⟨_,rfl,⟨⟨[],rfl,by simp,fun _ h=>by cases h⟩,CD.zZ⟩,.inr ⟨e,K,none,(A,0),rfl,rfl,rfl,⟨rfl,rfl,hK⟩,fun Ec pc gc nx na hE hp=>⟨A,0,0,hp,by simp only [X.den];rw [hE];rfl,Nat.le_refl _,hu⟩⟩⟩
  ·cases hm
 ·cases hm
theorem om (H : bq B E p g h w) : ∀ {ks : List PK} {cs : List SC} {us : List Value} {m : Mt},pe h ks cs=some m→aE (SC.is E p g) cs us→(∀ b∈m.need,(b.den E).bool=true) →
  m.data.length=ks.length∧CD.oks (ks.map PK.kd) (m.data.map (X.den E))∧∃ L : List (Option Addr × Nat),wH E p h ks (m.data.map (X.den E)) m.own L∧L.length=cnt ks∧m.own.length=cnt ks ∧
   ∀ (Ec : Env) (pc : Pl) (gc : Gm) (nx na : Nat),(∀ i x,m.data[i]?=some x→Ec (nx + i)=x.den E)→(∀ i pl,L[i]?=some pl→pc.arr (na + i)=some pl)→g.Le gc→(∀ a∈m.G4,En E p h w gc a)→aE (SC.is Ec pc gc) (mkC nx na ks) us
 | [],[],us,m,hm,hu,hn=>by
  simp only [pe,Option.some.injEq] at hm
  subst hm
  cases us with
  | nil=>exact ⟨rfl,trivial,[],trivial,rfl,rfl,fun _ _ _ _ _ _ _ _ _=>trivial⟩
  | cons u us=>exact hu.elim
 | k :: ks,c :: cs,us,m,hm,hu,hn=>by
  cases us with
  | nil=>exact hu.elim
  | cons u us =>
   simp only [pe] at hm
   split at hm
   ·rename_i m1 m2 h1 h2
    cases hm
    obtain ⟨x,d1,d2,d3⟩:=BW H h1 hu.1 (fun b hb=>hn b (List.mem_append_left _ hb))
    obtain ⟨i1,i2,L,i3,i4,i5,i6⟩:=om H h2 hu.2 (fun b hb=>hn b (List.mem_append_right _ hb))
    simp only [d1,List.singleton_append,List.map_cons,List.length_cons]
    refine ⟨by rw [i1],⟨d2,i2⟩,?_⟩
    rcases d3 with ⟨o1,o2,o3⟩ | ⟨e,K,o,pl,o1,o2,o3,o4,o5⟩
    ·refine ⟨L,?_,?_,?_,fun Ec pc gc nx na hE hL hg hl=>?_⟩
     ·rw [o2]
      cases k <;> first | exact i3 | cases o1
     ·cases k <;> first | exact i4 | cases o1
     ·rw [o2]
      cases k <;> first | exact i5 | cases o1
     ·obtain ⟨c',e1,e2⟩:=o3 Ec pc gc nx na (hE 0 x rfl) hg (fun a ha=>hl a (List.mem_append_left _ ha)) ks
      rw [e1]
      exact ⟨e2,i6 Ec pc gc (nx + 1) na (fun i x hi=>by rw [show nx + 1 + i=nx + (i + 1) from by omega];exact hE (i + 1) x (by simpa using hi)) hL hg fun a ha=>hl a (List.mem_append_right _ ha)⟩
    ·subst o1
     refine ⟨pl :: L,?_,by simp [cnt,i4],by simp [o2,cnt,i5],fun Ec pc gc nx na hE hL hg hl=>?_⟩
     ·rw [o2];exact ⟨o4,i3⟩
     ·exact ⟨o5 Ec pc gc nx na (hE 0 x rfl) (hL 0 pl rfl),i6 Ec pc gc (nx + 1) (na + 1) (fun i x hi=>by rw [show nx + 1 + i=nx + (i + 1) from by omega];exact hE (i + 1) x (by simpa using hi)) (fun i pl' hi=>by rw [show na + 1 + i=na + (i + 1) from by omega];exact hL (i + 1) pl' (by simpa using hi)) hg fun a ha=>hl a (List.mem_append_right _ ha)⟩
   ·cases hm
 | [],_ :: _,_,_,hm,_,_=>by simp [pe] at hm
 | _ :: _,[],_,_,hm,_,_=>by simp [pe] at hm
end
end Go.Sy

namespace Go.Sy
open Go.RowKit
def BO (r : Nat) : List Nat→Option Nat
 | []=>none
 | a :: l=>if a=r then some 0 else (BO r l).map (· + 1)
def js (r : Nat) : List (Option Nat)→Option Nat
 | []=>none
 | a :: l=>if a=some r then some 0 else (js r l).map (· + 1)
theorem uU {n : Nat} : ∀ {l : List Nat},rI n l=true↔n∈l
 | []=>by simp [rI]
 | m :: l=>by
  simp only [rI,List.mem_cons]
  split
  ·rename_i h;simp [Nat.eq_of_beq_eq_true h]
  ·rename_i h
   rw [uU]
   constructor
   ·exact .inr
   ·rintro (e | e)
    ·subst e;exact absurd (Nat.beq_refl n) h
    ·exact e
theorem tf {n : Nat} {l : List Nat} : rI n l=false↔n ∉ l:=by
 rw [← uU (l:=l)]
 cases rI n l <;> simp
theorem gI {a : Nat} {l : List Nat} (h : eJ (a :: l)=true) : a ∉ l∧eJ l=true:=by
 simp only [eJ,Bool.and_eq_true,Bool.not_eq_true'] at h
 exact ⟨tf.1 h.1,h.2⟩
theorem rT {r : Nat} : ∀ {l : List Nat} {j : Nat},eJ l=true→l[j]?=some r→BO r l=some j
 | [],j,_,h=>by simp at h
 | a :: l,0,_,h=>by
  simp only [List.getElem?_cons_zero,Option.some.injEq] at h
  simp [BO,h]
 | a :: l,j + 1,hd,h=>by
  simp only [List.getElem?_cons_succ] at h
  obtain ⟨h1,h2⟩:=gI hd
  have : a≠r:=fun e=>h1 (e ▸ List.mem_of_getElem? h)
  simp [BO,this,rT h2 h]
theorem iR {a : Nat} : ∀ {l : List (Option Nat)},a∈di l↔some a∈l
 | []=>by simp [di]
 | some b :: l=>by simp [di,iR (l:=l)]
 | none :: l=>by simp [di,iR (l:=l)]
theorem m8 {r : Nat} : ∀ {l : List (Option Nat)} {j : Nat},eJ (di l)=true→l[j]?=some (some r)→js r l=some j
 | [],j,_,h=>by simp at h
 | a :: l,0,_,h=>by
  simp only [List.getElem?_cons_zero,Option.some.injEq] at h
  simp [js,h]
 | none :: l,j + 1,hd,h=>by
  simp only [List.getElem?_cons_succ] at h
  simp [js,m8 (l:=l) hd h]
 | some a :: l,j + 1,hd,h=>by
  simp only [List.getElem?_cons_succ] at h
  obtain ⟨h1,h2⟩:=gI (l:=di l) hd
  have : a≠r:=fun e=>h1 (iR.2 (e ▸ List.mem_of_getElem? h))
  simp [js,this,m8 h2 h]
theorem GF {r : Nat} : ∀ {l : List (Option Nat)} {j : Nat},js r l=some j→some r∈l
 | [],j,h=>by simp [js] at h
 | a :: l,j,h=>by
  simp only [js] at h
  split at h
  ·rename_i e;simp [e]
  ·rw [Option.map_eq_some_iff] at h
   obtain ⟨i,h,_⟩:=h
   exact List.mem_cons_of_mem _ (GF h)
theorem AE {r : Nat} : ∀ {l : List (Option Nat)} {j : Nat},js r l=some j→l[j]?=some (some r)
 | [],j,h=>by simp [js] at h
 | a :: l,j,h=>by
  simp only [js] at h
  split at h
  ·rename_i e;cases h;simp [e]
  ·rw [Option.map_eq_some_iff] at h
   obtain ⟨i,h,rfl⟩:=h
   rw [List.getElem?_cons_succ];exact AE h
theorem oS {α : Type} {l m : List α} {n : Nat} (h : l.length=n) : (l ++ m).take n=l:=by subst h;simp
theorem mC {α : Type} {l m : List α} {n : Nat} (h : l.length=n) : (l ++ m).drop n=m:=by subst h;simp
theorem vY {α : Type} {R : SC→α→Prop} : ∀ {l : List SC} {f : Nat→Option α},(∀ j c,nth l j=some c→∃ v,f j=some v∧R c v)→∃ us,aE R l us∧∀ j u,nth us j=some u→f j=some u
 | [],_,_=>⟨[],trivial,fun j u h=>by simp [nth] at h⟩
 | c :: l,f,h=>by
  obtain ⟨v,h1,h2⟩:=h 0 c rfl
  obtain ⟨us,h3,h4⟩:=vY (l:=l) (f:=fun j=>f (j + 1)) fun j c hc=>h (j + 1) c hc
  refine ⟨v :: us,⟨h2,h3⟩,fun j u hj=>?_⟩
  cases j with
  | zero=>simp only [nth,Option.some.injEq] at hj;subst hj;exact h1
  | succ j=>exact h4 j u hj
section
variable {B : cT} {E : Env} {p : Pl} {g : Gm} {h : Hp} {w : World}
def RegIs (p : Pl) (h : Hp) (w : World) (Ec : Env) (pc : Pl) (gc : Gm) (x : Pc (List SC)) (ro : Nat × Nat) : Prop :=
 ∃ cs,x=.here cs∧∃ old b q,nth h.regs ro.1=some (.here old)∧p.reg ro.1=some (b,q)∧∀ i c,nth cs i=some c→(∃ c0,nth old (ro.2 + i)=some c0)∧∃ v,w.cell? ⟨b,q + ro.2 + i,none⟩=some v∧c.is Ec pc gc v
theorem xU (H : bq B E p g h w) : ∀ {l : List AK} {rs : List SR} {cs : List SC} {ps : List (Nat × Nat)} {vals : List Value},fm h l rs=some (cs,ps)→aE (SR.is E p g) rs vals →
  ∃ us,aE (SC.is E p g) cs us∧∀ (Ec : Env) (pc : Pl) (gc : Gm) (cs' : List SC) (j0 : Nat),aE (SC.is Ec pc gc) cs' us→(∀ i r o,ps[i]?=some (r,o)→∃ b q,p.reg r=some (b,q)∧pc.reg (j0 + i)=some (b,q + o)) →
   aE (SR.is Ec pc gc) (oG j0 l cs') vals∧aE (RegIs p h w Ec pc gc) (dv l cs') ps:=by
 intro l
 induction l with
 | nil =>
  intro rs cs ps vals hf hv
  cases rs with
  | cons=>simp [fm] at hf
  | nil =>
   simp only [fm,Option.some.injEq,Prod.mk.injEq] at hf
   obtain ⟨rfl,rfl⟩:=hf
   cases vals with
   | cons=>exact hv.elim
   | nil=>exact ⟨[],trivial,fun Ec pc gc cs' j0 hc _=>by cases cs' <;> first | exact ⟨trivial,trivial⟩ | exact hc.elim⟩
 | cons ak l ih =>
  intro rs cs ps vals hf hv
  cases ak with
  | one k =>
   cases rs with
   | nil=>simp [fm] at hf
   | cons r rs =>
    cases r with
    | tup=>simp [fm] at hf
    | v x =>
     cases x with
     | agg=>simp [fm] at hf
     | one c =>
      simp only [fm] at hf
      split at hf
      ·rename_i cs1 ps1 h1
       simp only [Option.some.injEq,Prod.mk.injEq] at hf
       obtain ⟨rfl,rfl⟩:=hf
       cases vals with
       | nil=>exact hv.elim
       | cons u vals =>
        obtain ⟨us,g1,g2⟩:=ih h1 hv.2
        refine ⟨u :: us,⟨hv.1,g1⟩,fun Ec pc gc cs' j0 hc hr=>?_⟩
        cases cs' with
        | nil=>exact hc.elim
        | cons c' cs' =>
         obtain ⟨k1,k2⟩:=g2 Ec pc gc cs' j0 hc.2 hr
         exact ⟨⟨hc.1,k1⟩,k2⟩
      ·cases hf
  | agg ks =>
   cases rs with
   | nil=>simp [fm] at hf
   | cons r rs =>
    cases r with
    | tup=>simp [fm] at hf
    | v x =>
     cases x with
     | one=>simp [fm] at hf
     | agg c =>
      simp only [fm] at hf
      split at hf
      ·rename_i hlen
       have hlen:=Nat.eq_of_beq_eq_true hlen
       split at hf
       ·rename_i cs1 ps1 h1
        simp only [Option.some.injEq,Prod.mk.injEq] at hf
        obtain ⟨rfl,rfl⟩:=hf
        cases vals with
        | nil=>exact hv.elim
        | cons u vals =>
         obtain ⟨us,g1,g2⟩:=ih h1 hv.2
         obtain ⟨vs,e,hvs⟩:=hv.1
         have hvl:=hvs.length
         refine ⟨vs ++ us,hvs.append g1,fun Ec pc gc cs' j0 hc hr=>?_⟩
         have ht:=hc.take ks.length
         have hd:=hc.drop ks.length
         rw [oS (l:=vs) (by omega)] at ht
         rw [mC (l:=vs) (by omega)] at hd
         obtain ⟨k1,k2⟩:=g2 Ec pc gc _ j0 hd hr
         have e1 : oG j0 (.agg ks :: l) cs'=.v (.agg (cs'.take ks.length)) :: oG j0 l (cs'.drop ks.length):=by cases cs' <;> rfl
         have e2 : dv (.agg ks :: l) cs'=dv l (cs'.drop ks.length):=by cases cs' <;> rfl
         rw [e1,e2]
         exact ⟨⟨⟨vs,e,ht⟩,k1⟩,k2⟩
       ·cases hf
      ·cases hf
  | ptr ks =>
   unfold fm at hf
   split at hf <;> try (cases hf;done)
   ·rename_i heq;cases heq
   ·rename_i heq;cases heq
   ·rename_i heq;cases heq
   ·rename_i r o rs heq
    cases heq
    split at hf
    ·rename_i old hold
     split at hf
     ·rename_i c cs1 ps1 hc1 h1
      simp only [Option.some.injEq,Prod.mk.injEq] at hf
      obtain ⟨rfl,rfl⟩:=hf
      cases vals with
      | nil=>exact hv.elim
      | cons u vals =>
       obtain ⟨us,g1,g2⟩:=ih h1 hv.2
       obtain ⟨b,q,e1,e2⟩:=hv.1
       obtain ⟨t1,t2,t3⟩:=ky hc1
       have Rg : ∀ i c0,nth old i=some c0→∃ v,w.cell? ⟨b,q + i,none⟩=some v∧c0.is E p g v:=fun i c0 hi=>by
        obtain ⟨b',q',f1,_,_,f4⟩:=(H.reg r old hold).ex
        rw [e1] at f1;cases f1
        exact (f4 i c0 hi).2.2
       obtain ⟨ws,w1,w2⟩:=vY (R:=SC.is E p g) (l:=c) (f:=fun j=>w.cell? ⟨b,q + (o + j),none⟩) fun j c0 hc0=>by
        have hj:=cn hc0
        rw [t3 j (by omega)] at hc0
        exact Rg _ _ hc0
       have hwl:=w1.length
       refine ⟨ws ++ us,w1.append g1,fun Ec pc gc cs' j0 hc hr=>?_⟩
       have ht:=hc.take ks.length
       have hd:=hc.drop ks.length
       rw [oS (l:=ws) (by omega)] at ht
       rw [mC (l:=ws) (by omega)] at hd
       obtain ⟨k1,k2⟩:=g2 Ec pc gc _ (j0 + 1) hd fun i r' o' hi=>by
        obtain ⟨b',q',f1,f2⟩:=hr (i + 1) r' o' (by simpa using hi)
        exact ⟨b',q',f1,by rw [show j0 + 1 + i=j0 + (i + 1) from by omega];exact f2⟩
       have e3 : oG j0 (.ptr ks :: l) cs'=.v (.one (.loc j0 0)) :: oG (j0 + 1) l (cs'.drop ks.length):=by cases cs' <;> rfl
       have e4 : dv (.ptr ks :: l) cs'=.here (cs'.take ks.length) :: dv l (cs'.drop ks.length):=by cases cs' <;> rfl
       rw [e3,e4]
       refine ⟨⟨?_,k1⟩,⟨_,rfl,old,b,q,hold,e1,fun i c' hi=>?_⟩,k2⟩
       ·obtain ⟨b',q',f1,f2⟩:=hr 0 r o (by simp)
        rw [e1] at f1;cases f1
        exact ⟨b,q + o,f2,e2⟩
       ·obtain ⟨v,hv1,hv2⟩:=ht.nth hi
        have hil : i < c.length:=by have:=cn hv1;omega
        refine ⟨?_,v,?_,hv2⟩
        ·rw [← t3 i (by omega)];exact cH hil
        ·have:=w2 i v hv1
         rw [show q + o + i=q + (o + i) from by omega];exact this
     ·cases hf
    ·cases hf
   ·rename_i heq;cases heq
  | fn f =>
   unfold fm at hf
   split at hf <;> try (cases hf;done)
   ·rename_i heq;cases heq
   ·rename_i heq;cases heq
   ·rename_i heq;cases heq
   ·rename_i heq;cases heq
   ·rename_i k rs heq
    cases heq
    split at hf
    ·rename_i he
     have he:=Nat.eq_of_beq_eq_true he
     subst he
     cases vals with
     | nil=>exact hv.elim
     | cons u vals =>
      obtain ⟨us,g1,g2⟩:=ih hf hv.2
      refine ⟨us,g1,fun Ec pc gc cs' j0 hc hr=>?_⟩
      obtain ⟨k1,k2⟩:=g2 Ec pc gc cs' j0 hc hr
      have e3 : oG j0 (.fn f :: l) cs'=.v (.one (.fn f [])) :: oG j0 l cs':=by cases cs' <;> rfl
      have e4 : dv (.fn f :: l) cs'=dv l cs':=by cases cs' <;> rfl
      rw [e3,e4]
      refine ⟨⟨?_,k1⟩,k2⟩
      obtain ⟨vs,h1,h2⟩:=hv.1
      cases vs with
      | nil=>exact ⟨[],h1,trivial⟩
      | cons=>exact h2.elim
    ·cases hf
theorem td : ∀ {ks : List PK} {nx j : Nat} {y : Pc Ar},nth (mkA nx ks) j=some y→∃ A,y=.here A
 | [],_,_,_,h=>by simp [mkA,nth] at h
 | k :: l,nx,j,y,h=>by
  cases k with
  | own e K =>
   cases j with
   | zero=>simp only [mkA,nth,Option.some.injEq] at h;exact ⟨_,h.symm⟩
   | succ j=>exact td (ks:=l) h
  | _=>exact td (ks:=l) h
theorem rW : ∀ {ks : List PK} {ds : List CD} {os : List (Option Nat)} {L : List (Option Addr × Nat)} {nx j : Nat} {A : Ar},wH E p h ks ds os L→nth (mkA nx ks) j=some (.here A) →
  ∃ i e K o pl d,nth ks i=some (.own e K)∧A=⟨e,K,.var (nx + i)⟩∧ds[i]?=some d∧os[j]?=some o∧L[j]?=some pl∧yz E p h o pl e K d
 | [],_,_,_,_,_,_,_,h=>by simp [mkA,nth] at h
 | k :: l,[],os,L,nx,j,A,ho,h=>by cases k <;> exact ho.elim
 | k :: l,d :: ds,os,L,nx,j,A,ho,h=>by
  cases k with
  | own e K =>
   match os,L,ho with
   | [],_,ho=>exact ho.elim
   | _ :: _,[],ho=>exact ho.elim
   | o :: os,pl :: L,ho =>
    cases j with
    | zero =>
     simp only [mkA,nth,Option.some.injEq,Pc.here.injEq] at h
     exact ⟨0,e,K,o,pl,d,rfl,h.symm,rfl,rfl,rfl,ho.1⟩
    | succ j =>
     obtain ⟨i,e',K',o',pl',d',h1,h2,h3,h4,h5,h6⟩:=rW (nx:=nx + 1) (j:=j) ho.2 h
     exact ⟨i + 1,e',K',o',pl',d',h1,by rw [h2,show nx + 1 + i=nx + (i + 1) from by omega],by simpa using h3,by simpa using h4,by simpa using h5,h6⟩
  | _ =>
   obtain ⟨i,e',K',o',pl',d',h1,h2,h3,h4,h5,h6⟩:=rW (nx:=nx + 1) (j:=j) (ks:=l) ho h
   exact ⟨i + 1,e',K',o',pl',d',h1,by rw [h2,show nx + 1 + i=nx + (i + 1) from by omega],by simpa using h3,h4,h5,h6⟩
def Cz (E : Env) (p : Pl) (h : Hp) (G4 : List Nat) (k o : Nat) : Prop:=∃ a A c,a∈G4∧nth h.arrs a=some (.here A)∧p.arr a=some (some ⟨k,0,none⟩,c)∧0 < c∧o < (A.x.den E).rows.length * A.K.kd.length
open Classical in
noncomputable def lend (E : Env) (p : Pl) (g : Gm) (h : Hp) (w : World) (G4 : List Nat) : Gm:=fun k o=>if Cz E p h G4 k o then w.cell? ⟨k,o,none⟩ else g k o
theorem tp {G4 : List Nat} {k o : Nat} (hl : Cz E p h G4 k o) : lend E p g h w G4 k o=w.cell? ⟨k,o,none⟩:=if_pos hl
theorem tq {G4 : List Nat} {k o : Nat} (hl : ¬ Cz E p h G4 k o) : lend E p g h w G4 k o=g k o:=if_neg hl
def yD (B : cT) (w : World) (k : Nat) : Prop:=∀ o,(w.cell? ⟨k,o,none⟩).isSome=true→B.wr k o
open Classical in
noncomputable def wX (p : Pl) (ps : List (Nat × Nat)) (own : List (Option Nat)) (L : List (Option Addr × Nat)) (W : Nat→Prop) : Pl where
 reg j:=match ps[j]? with | some (r,o)=>(p.reg r).map fun x=>(x.1,x.2 + o) | none=>none
 arr j:=L[j]?
 mp _:=none
 ow k:=match p.ow k with
  | .reg r=>(match BO r (ps.map (·.1)) with | some j=>.reg j | none=>.z)
  | .arr a=>(match js a own with | some j=>.arr j | none=>.z)
  | .nst a i' j'=>(match js a own with | some j=>if W k then .nst j i' j' else .z | none=>.z)
  | _=>.z
theorem BC {p : Pl} {ps : List (Nat × Nat)} {own : List (Option Nat)} {L : List (Option Addr × Nat)} {W : Nat→Prop} {k j i' j' : Nat} (h : (wX p ps own L W).ow k=.nst j i' j') : ∃ a,p.ow k=.nst a i' j'∧js a own=some j∧W k:=by
 unfold wX at h
 dsimp only at h
 split at h
 ·split at h <;> cases h
 ·split at h <;> cases h
 ·rename_i a i1 j1 he
  split at h
  ·rename_i j2 hp
   split at h
   ·rename_i hw;cases h;exact ⟨a,he,hp,hw⟩
   ·cases h
  ·cases h
 ·cases h
theorem BB {p : Pl} {ps : List (Nat × Nat)} {own : List (Option Nat)} {L : List (Option Addr × Nat)} {W : Nat→Prop} {k a : Nat} (h : ((wX p ps own L W).ow k).ofA a) : ∃ a',(p.ow k).ofA a':=by
 unfold wX at h
 dsimp only at h
 split at h
 ·split at h <;> exact h.elim
 ·rename_i a' he;exact ⟨a',by rw [he];rfl⟩
 ·rename_i a' i1 j1 he;exact ⟨a',by rw [he];rfl⟩
 ·exact h.elim
theorem nA.ow {a : Nat} {A : Ar} (R : nA B E p g a A w) {k c : Nat} (e : p.arr a=some (some ⟨k,0,none⟩,c)) (hc : 0 < c) : p.ow k=.arr a:=by
 obtain ⟨ad,cap,rows,h1,h2,h3,h4,h5,h6,h7,h8⟩:=R.ex
 rw [e] at h1;cases h1
 obtain ⟨b,cur,k1,k2,_⟩:=h8 hc
 cases k1;exact k2
structure Start (B : cT) (E : Env) (p : Pl) (g : Gm) (h : Hp) (w : World) (sg : Sig) (ps : List (Nat × Nat)) (m : Mt) (vals : List Value) (Ec : Env) (pc : Pl) (gc : Gm) : Prop where
 ec : aH Ec sg.ins.length=m.data.map (X.den E)
 oks : CD.oks sg.Jv (m.data.map (X.den E))
 le : g.Le gc
 G4 : m.G4=[]→gc=g
 mem : bq ⟨w,Mof sg.h0 pc,gc,pc.reg⟩ Ec pc gc sg.h0 w
 args : aE (SR.is Ec pc gc) sg.aM vals
 reg : ∀ j r o,ps[j]?=some (r,o)→∃ old b q,nth h.regs r=some (.here old)∧p.reg r=some (b,q)∧pc.reg j=some (b,q + o)
 regs : sg.h0.regs.length=ps.length
 own : m.own.length=cnt sg.ins
 mof : ∀ k i,Mof sg.h0 pc k i→(∃ j r o old b q cs,ps[j]?=some (r,o)∧nth h.regs r=some (.here old)∧p.reg r=some (b,q)∧nth sg.h0.regs j=some (.here cs)∧k=b∧q + o≤i∧i < q + o + cs.length∧(∃ c0,nth old (i - q)=some c0)) ∨
  (∃ a A c,a∈di m.own∧nth h.arrs a=some (.here A)∧p.arr a=some (some ⟨k,0,none⟩,c)∧0 < c) ∨
  (∃ a A i' j',a∈di m.own∧nth h.arrs a=some (.here A)∧p.ow k=.nst a i' j'∧yD B w k)
theorem rK {Ec : Env} {n i : Nat} (hi : i < n) : (aH Ec n)[i]?=some (Ec i):=by simp [aH,hi]
theorem FP (H : bq B E p g h w) {sg : Sig} {args : List SR} {vals : List Value} {cs : List SC} {ps : List (Nat × Nat)} {m : Mt} (hf : fm h sg.args args=some (cs,ps)) (hv : aE (SR.is E p g) args vals) (hm : pe h sg.ins cs=some m)
  (hn : ∀ b∈m.need,(b.den E).bool=true) (hd1 : eJ (di m.own)=true) (hl : ∀ a∈m.G4,a ∉ di m.own) (hd2 : eJ (ps.map (·.1))=true) : ∃ Ec pc gc,Start B E p g h w sg ps m vals Ec pc gc:=by
 obtain ⟨us,f1,f2⟩:=xU H hf hv
 obtain ⟨m1,m2,L,m3,m4,m5,m6⟩:=om H hm f1 hn
 let Ec : Env:=fun i=>(m.data.map (X.den E)).getD i .u
 let pc : Pl:=wX p ps m.own L (yD B w)
 let gc : Gm:=lend E p g h w m.G4
 have hlow : ∀ {k o},Cz E p h m.G4 k o→∃ a,a∈m.G4∧p.ow k=.arr a:=fun ⟨a,A,c,h1,h2,h3,h4,_⟩=>⟨a,h1,(H.arr a A h2).ow h3 h4⟩
 have hle : g.Le gc:=fun k o v hk=>by
  by_cases hL : Cz E p h m.G4 k o
  ·exact (tp hL).trans (H.gg k o v hk).1
  ·exact (tq hL).trans hk
 have hgg : ∀ k o v,gc k o=some v→w.cell? ⟨k,o,none⟩=some v∧pc.ow k=.z:=fun k o v hk=>by
  by_cases hlent : Cz E p h m.G4 k o
  ·obtain ⟨a,h1,h2⟩:=hlow hlent
   refine ⟨(tp (g:=g) (w:=w) hlent).symm.trans hk,?_⟩
   show (match p.ow k with | .reg r=>_ | .arr a=>_ | .nst a i' j'=>_ | _=>_)=_
   rw [h2]
   show (match js a m.own with | some j=>Ow.arr j | none=>.z)=_
   cases hp : js a m.own with
   | none=>rfl
   | some j=>exact absurd (iR.2 (GF hp)) (hl a h1)
  ·obtain ⟨h1,h2⟩:=H.gg k o v ((tq (g:=g) (w:=w) hlent).symm.trans hk)
   refine ⟨h1,?_⟩
   show (match p.ow k with | .reg r=>_ | .arr a=>_ | .nst a i' j'=>_ | _=>_)=_
   rw [h2]
 have hreg0 : ∀ (j r o : Nat),ps[j]?=some (r,o)→∀ b q,p.reg r=some (b,q)→pc.reg j=some (b,q + o):=fun j r o hj b q hb=>by
  show (match ps[j]? with | some (r,o)=>_ | none=>_)=_
  rw [hj]
  simp [hb]
 have hEc : ∀ i x,m.data[i]?=some x→Ec i=x.den E:=fun i x hi=>by
  show (m.data.map (X.den E)).getD i .u=_
  simp [hi]
 have hargs : aE (SC.is Ec pc gc) (mkC 0 0 sg.ins) us:=m6 Ec pc gc 0 0 (fun i x hi=>by rw [Nat.zero_add];exact hEc i x hi) (fun i pl hi=>by rw [Nat.zero_add];exact hi) hle fun a ha A b c h1 h2 h3 i v hi hc=>by
  exact (tp ⟨a,A,c,ha,h1,h2,h3,hi⟩).trans hc
 have hpsreg : ∀ (j r o : Nat),ps[j]?=some (r,o)→∃ b q,p.reg r=some (b,q):=by
  have aux : ∀ {l : List AK} {rs : List SR} {cs : List SC} {ps : List (Nat × Nat)},fm h l rs=some (cs,ps)→∀ x∈ps,∃ old,nth h.regs x.1=some (.here old):=by
   intro l
   induction l with
   | nil =>
    intro rs cs ps hf x hx
    cases rs <;> simp only [fm] at hf
    ·cases hf;cases hx
    ·cases hf
   | cons ak l ih =>
    intro rs cs ps hf x hx
    unfold fm at hf
    split at hf <;> try (cases hf;done)
    ·cases hf;cases hx
    ·rename_i heq
     cases heq
     split at hf
     ·rename_i h1;cases hf;exact ih h1 x hx
     ·cases hf
    ·rename_i heq
     cases heq
     split at hf
     ·split at hf
      ·rename_i h1;cases hf;exact ih h1 x hx
      ·cases hf
     ·cases hf
    ·rename_i heq
     cases heq
     split at hf
     ·rename_i old hold
      split at hf
      ·rename_i h1
       cases hf
       rcases List.mem_cons.1 hx with e | hx
       ·subst e;exact ⟨old,hold⟩
       ·exact ih h1 x hx
      ·cases hf
     ·cases hf
    ·rename_i heq
     cases heq
     split at hf
     ·exact ih hf x hx
     ·cases hf
  intro j r o hj
  obtain ⟨old,ho⟩:=aux hf (r,o) (List.mem_of_getElem? hj)
  obtain ⟨b,q,e,_⟩:=(H.reg r old ho).ex
  exact ⟨b,q,e⟩
 obtain ⟨a1,a2⟩:=f2 Ec pc gc _ 0 hargs fun i r o hi=>by
  obtain ⟨b,q,e⟩:=hpsreg i r o hi
  exact ⟨b,q,e,by rw [Nat.zero_add];exact hreg0 i r o hi b q e⟩
 have hlen : (dv sg.args (mkC 0 0 sg.ins)).length=ps.length:=a2.length
 have hAr : ∀ j A,nth sg.h0.arrs j=some (.here A)→∃ i e K o pl d,nth sg.ins i=some (.own e K)∧A=⟨e,K,.var i⟩∧Ec i=d∧m.own[j]?=some o∧L[j]?=some pl∧yz E p h o pl e K d:=fun j A hj=>by
  obtain ⟨i,e,K,o,pl,d,h1,h2,h3,h4,h5,h6⟩:=rW m3 (show nth (mkA 0 sg.ins) j=_ from hj)
  rw [Nat.zero_add] at h2
  refine ⟨i,e,K,o,pl,d,h1,h2,?_,h4,h5,h6⟩
  show (m.data.map (X.den E)).getD i .u=d
  simp [List.getD_eq_getElem?_getD,h3]
 refine ⟨Ec,pc,gc,⟨?_,m2,hle,fun e=>?_,⟨cd.refl _ _,Gm.Le.refl _,fun k o v hk=>.inl hk,hgg,fun j cs0 hj=>?_,fun j hj=>?_,fun j A hj=>?_,fun j hj=>?_,⟨fun a M ha=>(by cases a <;> cases ha),fun _ _=>rfl⟩,fun k a hk=>by obtain ⟨a',h⟩:=BB hk;exact H.nz k a' h⟩,a1,fun j r o hj=>?_,hlen,m5,fun k i hk=>?_⟩⟩
 ·refine List.ext_getElem? fun i=>?_
  by_cases hi : i < sg.ins.length
  ·rw [rK hi]
   have : i < (m.data.map (X.den E)).length:=by rw [List.length_map,m1];exact hi
   show some ((m.data.map (X.den E)).getD i .u)=_
   rw [List.getD_eq_getElem?_getD,List.getElem?_eq_getElem this];rfl
  ·rw [List.getElem?_eq_none (by simp [aH];omega),List.getElem?_eq_none (by rw [List.length_map,m1];omega)]
 ·funext k o
  refine tq ?_
  rintro ⟨a,A,c,h1,_⟩
  rw [e] at h1;cases h1
 ·obtain ⟨ro,h1,cs1,h2,old,b,q,h3,h4,h5⟩:=a2.nth hj
  cases h2
  rw [aW] at h1
  obtain ⟨b',q',e1,e2,e3,e4⟩:=(H.reg ro.1 old h3).ex
  rw [h4] at e1;cases e1
  refine ⟨b,q + ro.2,hreg0 j ro.1 ro.2 h1 b q h4,?_,e3,fun i c hi=>?_⟩
  ·show (match p.ow b with | .reg r=>_ | .arr a=>_ | .nst a i' j'=>_ | _=>_)=_
   rw [e2]
   show (match BO ro.1 (ps.map (·.1)) with | some j=>Ow.reg j | none=>.z)=_
   rw [rT hd2 (j:=j) (by rw [List.getElem?_map,h1];rfl)]
  ·obtain ⟨⟨c0,h6⟩,v,h7,h8⟩:=h5 i c hi
   obtain ⟨k1,k2,_⟩:=e4 _ c0 h6
   refine ⟨.inl (.inl ⟨j,cs0,b,q + ro.2,hj,hreg0 j ro.1 ro.2 h1 b q h4,rfl,by omega,?_⟩),?_,v,h7,h8⟩
   ·have:=cn hi;omega
   ·rw [show q + ro.2 + i=q + (ro.2 + i) from by omega];exact k2
 ·have : nth sg.h0.regs j=none:=by
   rcases hj with hj | hj
   ·exact hj
   ·obtain ⟨_,_,cs1,h2,_⟩:=a2.nth hj
    cases h2
  rw [aW,List.getElem?_eq_none_iff] at this
  have : ps[j]?=none:=List.getElem?_eq_none (by rw [← hlen];exact this)
  show (match ps[j]? with | some (r,o)=>_ | none=>_)=_
  rw [this]
 ·obtain ⟨i,e,K,o,pl,d,h1,h2,h3,h4,h5,h6⟩:=hAr j A hj
  subst h2
  cases o with
  | none =>
   obtain ⟨k1,k2,k3,k4⟩:=h6
   have hx : (X.var i).den Ec=.l []:=by simp only [X.den];rw [h3,k2]
   refine ⟨⟨pl.1,pl.2,[],h5,hx,by simp,by rw [k1];simp,by simp,k4,k3,fun h=>by omega⟩,fun j' e' b c rows g1 g2 g3=>?_⟩
   rw [hx] at g3;cases g3
   intro i' row v g4;simp at g4
  | some a =>
   obtain ⟨k1,A,n,rows,k2,k3,k4,k5,k6,k7,hcl⟩:=h6
   subst k3;subst k4
   obtain ⟨ad,cap,rows',e1,e2,e3,e4,e5,e6,e7,e8⟩:=(H.arr a A k2).ex
   rw [k1] at e1;cases e1
   rw [k5] at e2;cases e2
   have hx : (X.var i).den Ec=.l (rows.take n):=by simp only [X.den];rw [h3,k7]
   refine ⟨⟨ad,cap,rows.take n,h5,hx,by rw [List.length_take];omega,e4,?_,e6,e7,fun hc=>?_⟩,fun j' e' b c rows' g1 g2 g3 i' row v g4 g5=>?_⟩
   ·rw [List.length_take]
    exact Nat.le_trans (Nat.mul_le_mul_right _ (Nat.min_le_right _ _)) e5
   ·obtain ⟨b,cur,f1,f2,f3,f4,f5,f6⟩:=e8 hc
    subst f1
    refine ⟨b,cur,rfl,?_,f3,f4,fun i' _=>.inl (.inr (.inl ⟨j,_,b,cap,hj,h5,hc,rfl⟩)),fun i' row hi=>?_⟩
    ·show (match p.ow b with | .reg r=>_ | .arr a=>_ | .nst a i' j'=>_ | _=>_)=_
     rw [f2]
     show (match js a m.own with | some j=>Ow.arr j | none=>.z)=_
     rw [m8 hd1 h4]
    ·rw [List.getElem?_take] at hi
     split at hi
     ·exact aJ.mono hle _ _ _ _ (fun _ _ hv=>hv) (f6 i' row hi)
     ·cases hi
   ·rw [hx] at g3;cases g3
    have g2 : L[j]?=some (some ⟨b,0,none⟩,c):=g2
    rw [h5] at g2
    simp only [Option.some.injEq,Prod.mk.injEq] at g2
    obtain ⟨rfl,rfl⟩:=g2
    rw [List.getElem?_take] at g4
    split at g4
    ·have hN:=(H.arr a A k2).ns j' e' b _ rows g1 k1 k5 i' row v g4 g5
     have hH:=hcl j' e' g1 row (List.mem_of_getElem? g4)
     cases hd : row.getD j' .u with
     | l r=>trivial
     | o r =>
      rw [hd] at hN
      obtain ⟨ad',cap',n1,n2,n3,n4,n5,n6,n7⟩:=hN
      refine ⟨ad',cap',n1,n2,n3,n4,n5,n6,fun hc=>?_⟩
      obtain ⟨b',cur,m1,m2,m3,m4,m5,m6⟩:=n7 hc
      have hW : yD B w b':=fun t ht=>m5 t (by
       simp only [World.cell?,m3] at ht
       rcases Nat.lt_or_ge t cur.size with hl | hl
       ·exact hl
       ·simp [Array.getElem?_eq_none hl] at ht)
      have how : pc.ow b'=.nst j i' j':=by
       show (match p.ow b' with | .reg r=>_ | .arr a=>_ | .nst a i' j'=>_ | _=>_)=_
       rw [m2]
       show (match js a m.own with | some j=>@ite _ (yD B w b') (Classical.propDecidable _) (Ow.nst j i' j') .z | none=>.z)=_
       rw [m8 hd1 h4]
       exact if_pos hW
      exact ⟨b',cur,m1,how,m3,m4,fun t _=>.inl (.inr (.inr ⟨j,_,i',j',hj,how⟩)),fun t rw' ht=>aJ.mono hle _ _ _ _ (fun _ _ hv=>hv) (m6 t rw' ht)⟩
     | h t n=>rw [hd] at hH;cases hH
     | _=>rw [hd] at hN;exact hN.elim
    ·cases g4
 ·have : nth sg.h0.arrs j=none:=by
   rcases hj with hj | hj
   ·exact hj
   ·obtain ⟨A,e⟩:=td (show nth (mkA 0 sg.ins) j=_ from hj)
    cases e
  rw [aW,List.getElem?_eq_none_iff] at this
  show L[j]?=none
  exact List.getElem?_eq_none (by rw [m4,← k9 sg.ins 0];exact this)
 ·obtain ⟨b,q,e⟩:=hpsreg j r o hj
  have hjl : j < sg.h0.regs.length:=by
   show j < (dv sg.args (mkC 0 0 sg.ins)).length
   rw [hlen];exact (List.getElem?_eq_some_iff.1 hj).1
  obtain ⟨x,hx⟩:=cH hjl
  obtain ⟨ro,h1,cs1,h2,old,b',q',h3,h4,h5⟩:=a2.nth hx
  rw [aW,hj] at h1
  cases h1
  exact ⟨old,b,q,h3,e,hreg0 j r o hj b q e⟩
 ·rcases hk with ⟨j,cs0,b,q,h1,h2,h3,h4,h5⟩ | ⟨j,A,b,c,h1,h2,h3,h4⟩ | ⟨j,A,i1,j1,h1,h2⟩
  ·obtain ⟨ro,g1,cs1,g2,old,b',q',g3,g4,g5⟩:=a2.nth h1
   cases g2
   rw [aW] at g1
   rw [hreg0 j ro.1 ro.2 g1 b' q' g4] at h2
   cases h2
   refine .inl ⟨j,ro.1,ro.2,old,b,q',cs0,g1,g3,g4,h1,h3,h4,h5,?_⟩
   obtain ⟨c,hc⟩:=cH (l:=cs0) (i:=i - (q' + ro.2)) (by omega)
   obtain ⟨⟨c0,h6⟩,_⟩:=g5 _ c hc
   exact ⟨c0,by rw [show i - q'=ro.2 + (i - (q' + ro.2)) from by omega];exact h6⟩
  ·subst h4
   obtain ⟨i',e,K,o,pl,d,k1,k2,k3,k4,k5,k6⟩:=hAr j A h1
   have h2 : L[j]?=_:=h2
   rw [k5] at h2
   cases h2
   cases o with
   | none=>obtain ⟨k7,_⟩:=k6;simp only at k7;omega
   | some a =>
    obtain ⟨k7,A',n,rows,k8,_⟩:=k6
    exact .inr (.inl ⟨a,A',c,iR.2 (List.mem_of_getElem? k4),k8,k7,h3⟩)
  ·obtain ⟨a,g1,g2,g4⟩:=BC h2
   have g3:=AE g2
   obtain ⟨i',e,K,o,pl,d,k1,k2,k3,k4,k5,k6⟩:=hAr j A h1
   rw [g3] at k4;cases k4
   obtain ⟨k7,A',n,rows,k8,_⟩:=k6
   exact .inr (.inr ⟨a,A',i1,j1,iR.2 (List.mem_of_getElem? g3),k8,g1,g4⟩)
end
end Go.Sy
