import Derived.Test.YtpmamacjepcdmaaSyAop
import Derived.Deep.Upon
namespace Go.Sy
open Go.RowKit
theorem EF {P : Program} (w : World) (t ty e : TypeId) (i : TypeInfo) (z : Value) (ht : P.underlying t=some (.slice e)) (hi : P.info? e=some i) (hz : i.zero=some z) (hzs : z.cells.size=i.size)
  (A : Option Addr) (n cap0 : Nat) (hn : n≤cap0) (hcm : cap0≤maxLen) (cur : Array Value) (hA : 0 < cap0→∃ b,A=some ⟨b,0,none⟩∧w.heap[b]?=some (.cells cur e (0,0))∧cur.size=cap0 * i.size)
  (x : Value) (m : Nat) (news : List Value) (hs : Src P i.size t x m news w) (h63 : n + m≤maxLen) (hbytes : (n + m) * i.bytes≤140737488355328) :
  ∃ A' cap' w',(Builtin.append_ #[t,t] ty #[.slice A n cap0,x]).run P w=.ok (.slice A' (n + m) cap') w'∧n + m≤cap'∧cap'≤maxLen ∧
   ((cap'=0∧w'=w)∨∃ b cur',0 < cap'∧A'=some ⟨b,0,none⟩∧w'.heap[b]?=some (.cells cur' e (0,0))∧cur'.size=cap' * i.size∧(∀ j,j < n * i.size→cur'[j]?=cur[j]?)∧(∀ j,j < m * i.size→cur'[n * i.size + j]?=news[j]?) ∧
    ((b=w.heap.size∧Below w.heap.size w w')∨(A=some ⟨b,0,none⟩∧0 < cap0∧cd (fun k j=>k=b∧n * i.size≤j) w w'))):=by
 have hsmall : n + m≤9223372036854775807:=by simp only [maxLen] at h63;omega
 have hl:=hs.newsLen
 by_cases hroom : n + m≤cap0
 ·rcases Nat.eq_zero_or_pos cap0 with h0 | h0
  ·have hm : m=0:=by omega
   subst hm
   have hnl : news=[]:=List.eq_nil_of_length_eq_zero (by simpa using hl)
   subst hnl
   exact ⟨A,cap0,w,run_append_nothing w t t ty e i ht hi A n cap0 hn x hs,hroom,hcm,.inl ⟨h0,rfl⟩⟩
  ·obtain ⟨b,rfl,hb,hsz⟩:=hA h0
   have hmul : (n + m) * i.size≤cap0 * i.size:=Nat.mul_le_mul_right _ hroom
   rw [Nat.add_mul] at hmul
   have hr:=run_append_room_src (P:=P) w t t ty e i ht hi b 0 n cap0 x m news hs hroom (fun j hj=>by
    have : 0 + n * i.size + j < cur.size:=by omega
    simp [World.cell?,hb,show n * i.size + j < cur.size by omega]) (fun j _=>by simp only [World.frozen?,hb];simp)
   rw [Nat.zero_add] at hr
   obtain ⟨cur',c1,c2,c3⟩:=gf b news (n * i.size) w cur hb (by omega)
   refine ⟨some ⟨b,0,none⟩,cap0,_,hr,hroom,hcm,.inr ⟨b,cur',h0,rfl,c1,c2.trans hsz,fun j hj=>by rw [c3,if_neg (by omega)],fun j hj=>by rw [c3,if_pos (by omega),Nat.add_sub_cancel_left],.inr ⟨rfl,h0,(cK b news _ w).mono fun k j _ h=>⟨h.1,h.2.1⟩⟩⟩⟩
 ·have hge:=grownCap_ge w (n + m) cap0 e
  have hold : ∃ olds : List Value,olds.length=n * i.size∧(Builtin.firstCells i.size n (.slice A n cap0)).run P w.drew=.ok olds.toArray w.drew∧∀ j,j < n * i.size→olds[j]?=cur[j]?:=by
   rcases Nat.eq_zero_or_pos cap0 with h0 | h0
   ·have hn0 : n=0:=by omega
    subst hn0
    refine ⟨[],by simp,?_,fun j hj=>by simp at hj⟩
    cases A with
    | none=>exact run_firstCells_none w.drew i.size 0 0 cap0
    | some a=>exact run_firstCells_some w.drew i.size 0 a 0 cap0 [] (by simp) (fun j v h=>by simp at h)
   ·obtain ⟨b,rfl,hb,hsz⟩:=hA h0
    have hmul : n * i.size≤cap0 * i.size:=Nat.mul_le_mul_right _ hn
    refine ⟨cur.toList.take (n * i.size),by rw [List.length_take,Array.length_toList];omega,?_,fun j hj=>by rw [List.getElem?_take,if_pos hj];simp⟩
    refine run_firstCells_some w.drew i.size n ⟨b,0,none⟩ n cap0 _ (by rw [List.length_take,Array.length_toList];omega) (fun j v hj=>?_)
    rw [List.getElem?_take] at hj
    split at hj
    ·rw [et,Nat.zero_add]
     have hd : w.drew.heap[b]?=some (.cells cur e (0,0)):=hb
     simp only [World.cell?,hd]
     simpa using hj
    ·cases hj
  obtain ⟨olds,ho1,ho2,ho3⟩:=hold
  have hr:=run_append_grow_src (P:=P) w t t ty e i z ht hi hz A n cap0 olds ho2 x m news hs (by omega) (by omega) (growslice_fits (by omega) hbytes)
  refine ⟨_,_,_,hr,hge,grownCap_le_maxLen w _ _ e h63,.inr ⟨w.heap.size,_,?_,rfl,heap_alloc_new w.drew _,?_,fun j hj=>?_,fun j hj=>?_,.inl ⟨rfl,(Below.refl _ _).drew.alloc (by simp) _⟩⟩⟩
  ·omega
  ·simp only [Array.size_append,List.size_toArray,size_zeroCells,hzs,List.length_append,ho1,hl,← Nat.add_mul]
   congr 1
   omega
  ·rw [Array.getElem?_append_left (by simp;omega)]
   rw [List.getElem?_toArray,List.getElem?_append_left (by omega)]
   exact ho3 j hj
  ·rw [Array.getElem?_append_left (by simp;omega)]
   rw [List.getElem?_toArray,List.getElem?_append_right (by omega),show n * i.size + j - olds.length=j from by omega]
section
variable {P : Program} {T : TT} {B : cT} {E : Env} {p : Pl} {g : Gm} {h : Hp} {tm : List SR} {a : Act} {w : World}
def mQ (P : Program) (B : cT) (E : Env) (p : Pl) (g : Gm) (h : Hp) (a : Act) (w : World) (o : Oper) (r : SR) (h' : Hp) (qu : Bool) : Prop :=
 ∃ v w' q,(execOp a.eval o).run P w=.ok (.value v) w'∧bq B E q g h' w'∧r.is E q g v∧p.Le q∧w.heap.size≤w'.heap.size∧(qu=true→bj E p h w w'∧rO E p h q h' w.heap.size)
theorem dY {w' : World} (hb : Below w.heap.size w w') : bj E p h w w':=fun k i hk _=>hb.cell (p:=⟨k,i,none⟩) hk
def SlIs (E : Env) (p : Pl) (g : Gm) (h : Hp) (w : World) (K : SK) (v : Value) (x : X) : Prop :=
 ∃ (A : Option Addr) (m cc : Nat) (rows : List (List CD)) (news : List Value),v=.slice A m cc∧x.den E=.l rows∧rows.length=m∧m≤cc∧cc≤maxLen∧m * K.by_≤B47∧news.length=m * K.kd.length∧(A=none→m=0) ∧
   (∀ b q s,A=some ⟨b,q,s⟩→0 < m→s=none∧∀ (j : Nat) u,news[j]?=some u→∀ w',bj E p h w w'→w'.cell? ⟨b,q + j,none⟩=some u) ∧
   (∀ i row,rows[i]?=some row→aJ g K.kd (fun j=>news[i * K.kd.length + j]?) row) ∧
   ∀ (i j e : Nat) row v,rows[i]?=some row→K.kd[j]?=some (.os e)→news[i * K.kd.length + j]?=some v→lK p v (row.getD j .u)
theorem aJ.opened {kd : List Kd} {f : Nat→Option Value} {row : List CD} (h : aJ g (kd.map Kd.shut) f row) : aJ g kd f row∧∀ (j e : Nat),kd[j]?=some (.os e)→lK p Go.undef (row.getD j .u)∧(row.getD j .u).isL=true:=by
 have key : ∀ (j : Nat) k,kd[j]?=some k→∃ v,f j=some v∧Rd g k.shut v (row.getD j .u):=fun j k hk=>h.cell (by rw [List.getElem?_map,hk];rfl)
 refine ⟨aJ.of (by simpa using h.length) fun j k hk=>?_,fun j e hk=>?_⟩
 ·obtain ⟨v,h1,h2⟩:=key j k hk
  refine ⟨v,h1,?_⟩
  cases k with
  | os e =>
   have h2 : Rd g (.sl 8 [.int .i64]) v (row.getD j .u):=h2
   have hd : ∃ rows,row.getD j .u=.l rows:=by
    simp only [Rd] at h2
    obtain ⟨_,_,_,rows,_,h3,_⟩:=h2
    exact ⟨rows,h3⟩
   obtain ⟨rows,hd⟩:=hd
   simp only [Rd]
   rw [hd] at h2 ⊢
   exact xm.2 h2
  | _=>exact h2
 ·obtain ⟨v,h1,h2⟩:=key j _ hk
  have h2 : Rd g (.sl 8 [.int .i64]) v (row.getD j .u):=h2
  simp only [Rd] at h2
  obtain ⟨_,_,_,rows,_,h3,_⟩:=h2
  rw [h3]
  exact ⟨trivial,rfl⟩
theorem DH {v : Value} {d : CD} (h : d.isL=true) : lK p v d:=by
 cases d <;> first | trivial | cases h
theorem oV (H : bq B E p g h w) {K : SK} {c : SC} {ns : List X} {x : X} {v : Value} (ho : nZ h K c=some (ns,x)) (hc : c.is E p g v) (hn : ∀ b∈ns,(b.den E).bool=true) : SlIs E p g h w K v x:=by
 have mk : ∀ (m : Nat) (rows : List (List CD)) (b q : Nat) (ok : Nat→Prop),rows.length=m→(∀ i row,rows[i]?=some row→aJ g K.kd (fun j=>w.cell? ⟨b,q + (i * K.kd.length + j),none⟩) row)→(∀ i j k,i < m→K.kd[j]?=some k→Kn E p h b (q + (i * K.kd.length + j))∧b < w.heap.size) →
   ∃ news : List Value,news.length=m * K.kd.length∧(∀ (j : Nat) u,news[j]?=some u→∀ w',bj E p h w w'→w'.cell? ⟨b,q + j,none⟩=some u)∧(∀ i row,rows[i]?=some row→aJ g K.kd (fun j=>news[i * K.kd.length + j]?) row):=by
  intro m rows b q _ hl hrow hkn
  refine ⟨(List.range (m * K.kd.length)).map fun j=>(w.cell? ⟨b,q + j,none⟩).getD Go.undef,by simp,fun j u hj w' S=>?_,fun i row hi=>?_⟩
  ·rw [List.getElem?_map] at hj
   have hlt : j < m * K.kd.length:=by
    cases h0 : (List.range (m * K.kd.length))[j]? with
    | none=>rw [h0] at hj;cases hj
    | some _=>simpa using (List.getElem?_eq_some_iff.1 h0).1
   rw [List.getElem?_range hlt,Option.map_some,Option.some.injEq] at hj
   subst hj
   have hz : 0 < K.kd.length:=by
    rcases Nat.eq_zero_or_pos K.kd.length with h0 | h0
    ·rw [h0] at hlt;simp at hlt
    ·exact h0
   have hdiv : j=(j / K.kd.length) * K.kd.length + j % K.kd.length:=by rw [Nat.mul_comm];exact (Nat.div_add_mod j K.kd.length).symm
   have hi : j / K.kd.length < m:=Nat.div_lt_of_lt_mul (by rw [Nat.mul_comm];exact hlt)
   have hjm:=Nat.mod_lt j hz
   obtain ⟨k,hk⟩ : ∃ k,K.kd[j % K.kd.length]?=some k:=⟨_,List.getElem?_eq_getElem hjm⟩
   obtain ⟨row,hr⟩ : ∃ row,rows[j / K.kd.length]?=some row:=⟨_,List.getElem?_eq_getElem (by omega)⟩
   obtain ⟨u,hu,_⟩:=(hrow _ row hr).cell hk
   obtain ⟨k1,k2⟩:=hkn _ _ k hi hk
   rw [← hdiv] at hu k1
   rw [S _ _ k2 k1,hu];rfl
  ·refine aJ.mono (Gm.Le.refl _) _ _ _ _ (fun j v hv=>hv) ?_
   refine aJ.of (hrow i row hi).length fun j k hk=>?_
   obtain ⟨u,hu,hr⟩:=(hrow i row hi).cell hk
   refine ⟨u,?_,hr⟩
   have hlt : i * K.kd.length + j < m * K.kd.length:=dG (List.getElem?_eq_some_iff.1 hk).1 (by rw [← hl];exact (List.getElem?_eq_some_iff.1 hi).1)
   rw [List.getElem?_map,List.getElem?_range hlt,Option.map_some,hu];rfl
 have none_ : ∀ A,v=.slice A 0 0→SlIs E p g h w K v .nil :=
  fun A hA=>⟨A,0,0,[],[],hA,rfl,rfl,Nat.le_refl _,Nat.zero_le _,by simp,by simp,fun _=>rfl,fun _ _ _ _ h=>absurd h (Nat.lt_irrefl 0),fun i row h=>by simp at h,fun i j e row v h=>by simp at h⟩
 unfold nZ at ho
 split at ho
 ·rename_i L x'
  split at ho
  ·rename_i hs
   cases ho
   have:=SK.av hs
   subst this
   simp only [SC.is,Rd] at hc
   obtain ⟨A,m,cc,rows,e0,e1,e2,e3,e4,e5,e6⟩:=hc
   have ekl : K.shut.kd.length=K.kd.length:=by simp [SK.shut]
   rw [ekl] at e6
   have eop : ∀ {f : Nat→Option Value} {row : List CD},aJ g K.shut.kd f row→aJ g K.kd f row∧∀ (j e : Nat),K.kd[j]?=some (.os e)→lK p Go.undef (row.getD j .u)∧(row.getD j .u).isL=true:=fun h=>aJ.opened h
   rcases Nat.eq_zero_or_pos m with h0 | h0
   ·subst h0
    have : rows=[]:=List.eq_nil_of_length_eq_zero e2
    subst this
    exact ⟨A,0,cc,[],[],e0,e1,rfl,e3,e4,by simp,by simp,fun _=>rfl,fun _ _ _ _ h=>absurd h (Nat.lt_irrefl 0),fun i row h=>by simp at h,fun i j e row v h=>by simp at h⟩
   ·obtain ⟨b,q,e7,e8'⟩:=e6 h0
    have e8:=fun i row hi=>(eop (e8' i row hi)).1
    subst e7
    obtain ⟨news,n1,n2,n3⟩:=mk m rows b q (fun _=>True) e2 (fun i row hi=>aJ.mono (Gm.Le.refl _) _ _ _ _ (fun j v hv=>(H.gg _ _ _ hv).1) (e8 i row hi)) (fun i j k hi hk=>by
     obtain ⟨row,hr⟩ : ∃ row,rows[i]?=some row:=⟨_,List.getElem?_eq_getElem (by omega)⟩
     obtain ⟨u,hu,_⟩:=(e8 i row hr).cell hk
     obtain ⟨k1,k2⟩:=H.kn_g hu
     exact ⟨k2,k1⟩)
    exact ⟨_,m,cc,rows,news,e0,e1,e2,e3,e4,e5,n1,fun h=>(by cases h),fun b' q' s' he _=>(by cases he;exact ⟨rfl,n2⟩),n3,fun i j e row v hi hj _=>DH ((eop (e8' i row hi)).2 j e hj).2⟩
  ·cases ho
 ·cases ho
  exact none_ none hc
 ·cases ho
  obtain ⟨A,hA⟩:=hc
  exact none_ A hA
 ·rename_i b n
  split at ho
  ·rename_i A hA
   split at ho
   ·rename_i hs
    cases ho
    simp only [Bool.and_eq_true] at hs
    obtain ⟨hs,hos⟩:=hs
    have hs:=SK.av hs
    subst hs
    obtain ⟨ad,cap,m,c1,c2,c3,c4⟩:=hc
    obtain ⟨ad',cap',rows,e1,e2,e3,e4,e5,e6,e7,e8⟩:=(H.arr b A hA).ex
    rw [c1] at e1
    cases e1
    have hle:=hn _ (List.mem_singleton.2 rfl)
    rw [bz,ba,e2,c2] at hle
    have hle:=of_decide_eq_true hle
    simp only [CD.aR,CD.ax] at hle
    have hle : m≤rows.length:=by omega
    have hden : (dc n A.x).den E=.l (rows.take m):=by rw [db e2,c2];simp
    have hl : (rows.take m).length=m:=by rw [List.length_take];omega
    have hby : m * A.K.by_≤B47:=Nat.le_trans (Nat.mul_le_mul_right _ hle) e5
    rcases Nat.eq_zero_or_pos m with h0 | h0
    ·subst h0
     exact ⟨ad,0,cap,[],[],c4,by rw [hden];simp,rfl,c3,e4,by simp,by simp,fun _=>rfl,fun _ _ _ _ h=>absurd h (Nat.lt_irrefl 0),fun i row h=>by simp at h,fun i j e row v h=>by simp at h⟩
    ·obtain ⟨bb,cur,k1,k2,k3,k4,k5,k6⟩:=e8 (by omega)
     subst k1
     obtain ⟨news,n1,n2,n3⟩:=mk m (rows.take m) bb 0 (fun _=>True) hl (fun i row hi=>by
      rw [List.getElem?_take] at hi
      split at hi
      ·refine aJ.mono (Gm.Le.refl _) _ _ _ _ (fun j v hv=>?_) (k6 i row hi)
       rw [Nat.zero_add]
       simp [World.cell?,k3,hv]
      ·cases hi) (fun i j k hi hk=>by
      have hj:=(List.getElem?_eq_some_iff.1 hk).1
      have hlt : i * A.K.kd.length + j < rows.length * A.K.kd.length:=dG hj (by omega)
      exact ⟨.inr (.inr ⟨b,A,bb,cap,hA,c1,rfl,by rw [e2,Nat.zero_add];exact hlt⟩),lt_of_block k3⟩)
     refine ⟨_,m,cap,rows.take m,news,c4,hden,hl,c3,e4,hby,n1,fun h=>(by cases h),fun b' q' s' he _=>(by cases he;exact ⟨rfl,n2⟩),n3,fun i j e row v hi hj hv=>?_⟩
     simp only [Bool.or_eq_true] at hos
     rcases hos with hos | hos
     ·exact absurd hj (pb hos j e)
     ·unfold DA at hos
      split at hos
      ·rename_i j0 e0 hat
       obtain ⟨_,o2,o3⟩:=gY hat
       obtain ⟨rfl,rfl⟩:=o3 j e hj
       split at hos
       ·rename_i s n hrf
        obtain ⟨row0,r1,r2,_⟩:=oc (E:=E) hrf
        rw [e2] at r1
        cases r1
        rw [List.getElem?_take] at hi
        split at hi
        ·have h2:=n2 _ v hv w (bj.refl _ _ _ _)
         rw [Nat.zero_add] at h2
         have hcell:=(H.arr b A hA).ns _ e bb cap _ hj c1 e2 i row v hi h2
         have hrow : row=row0:=by
          cases i with
          | zero=>simpa using hi.symm
          | succ i=>simp at hi
         subst hrow
         rw [r2] at hcell ⊢
         exact hcell
        ·cases hi
       ·cases hos
      ·cases hos
   ·cases ho
  ·cases ho
 ·cases ho
end
end Go.Sy

namespace Go.Sy
open Go.RowKit
section
variable {P : Program} {T : TT} {B : cT} {E : Env} {p : Pl} {g : Gm} {h : Hp} {tm : List SR} {a : Act} {w : World}
def placeOf (T : TT) (k : TK) (i : Nat) : Option (Nat × Nat):=match k with
 | .struct fs=>(match nth fs i with | some (off,t)=>(T.get t).map fun j=>(off,j.sz) | none=>none)
 | .array n e=>if Nat.blt i n then (T.get e).map fun j=>(i * j.sz,j.sz) else none
 | _=>none
theorem ID {α : Type} (l : List α) (o : Nat) (c : α) (m : List α) : cq l o (c :: m)=cq (bl l o c) (o + 1) m:=by cases l <;> rfl
theorem aE.bl {α β : Type} {R : α→β→Prop} : ∀ {l : List α} {m : List β} {a : α} {b : β} (i : Nat),aE R l m→R a b→aE R (Sy.bl l i a) (Sy.bl m i b)
 | [],[],_,_,_,_,_=>trivial
 | _ :: _,_ :: _,_,_,0,h,r=>⟨r,h.2⟩
 | _ :: _,_ :: _,_,_,i + 1,h,r=>⟨h.1,aE.bl i h.2 r⟩
 | [],_ :: _,_,_,_,h,_=>h.elim
 | _ :: _,[],_,_,_,h,_=>h.elim
theorem aE.cq {α β : Type} {R : α→β→Prop} : ∀ {m : List α} {u : List β} {l : List α} {v : List β} (o : Nat),aE R l v→aE R m u→aE R (Sy.cq l o m) (Sy.cq v o u)
 | [],[],l,v,o,h,_=>by cases l <;> cases v <;> exact h
 | c :: m,d :: u,l,v,o,h,hm=>by
  rw [ID,ID]
  exact aE.cq (o + 1) (h.bl o hm.1) hm.2
 | [],_ :: _,_,_,_,_,h=>h.elim
 | _ :: _,[],_,_,_,_,h=>h.elim
theorem ve (off : Nat) : ∀ (u : List Value) (k : Nat) (cs : Array Value),((u.zipIdx k).foldl (fun cs (x : Value × Nat)=>cs.setIfInBounds (off + x.2) x.1) cs).toList=Sy.cq cs.toList (off + k) u
 | [],k,cs=>by cases h : cs.toList <;> simp [Sy.cq,h]
 | c :: u,k,cs=>by
  rw [List.zipIdx_cons,List.foldl_cons,ve off u (k + 1),ID,jT]
  simp [Nat.add_assoc]
theorem iN {k : TK} {place : Nat→Option (Nat × Nat)} (hp : ∀ i x,placeOf T k i=some x→place i=some x) : ∀ {parts : List (Nat × SR)} {vals : List (Nat × Value)} {cells cs : List SC} {zs : Array Value},
  lu T k cells parts=some cs→aE (fun (a : Nat × SR) (b : Nat × Value)=>a.1=b.1∧a.2.is E p g b.2∧(∀ c,a.2=.v (.one c)→b.2.oneCell'=true∨b.2=Go.undef)) parts vals→aE (SC.is E p g) cells zs.toList →
  ∃ out : Array Value,Instr.fill place zs vals=some out∧aE (SC.is E p g) cs out.toList
 | [],[],cells,cs,zs,h,_,hz=>by
  simp only [lu,Option.some.injEq] at h
  subst h
  exact ⟨zs,rfl,hz⟩
 | (i,.v x) :: l,(j,v) :: vals,cells,cs,zs,h,hv,hz=>by
  obtain ⟨⟨e,hx,hone⟩,hrest⟩:=hv
  dsimp only at e hx hone
  subst e
  have h' : (match placeOf T k i with
   | some (off,z)=>if (Nat.beq x.cells.length z).and (Nat.ble (off + z) cells.length) then lu T k (Sy.cq cells off x.cells) l else none
   | none=>none)=some cs:=h
  split at h'
  ·rename_i off z hpl
   split at h'
   ·rename_i hc
    simp only [Bool.and_eq_true] at hc
    have h1:=Nat.eq_of_beq_eq_true hc.1
    have h2:=Nat.le_of_ble_eq_true hc.2
    have hcx : aE (SC.is E p g) x.cells v.cells.toList:=tW hx fun c e=>hone c (by rw [e])
    have hl:=hcx.length
    have hlz:=hz.length
    obtain ⟨out,h3,h4⟩:=iN hp (zs:=v.cells.zipIdx.foldl (fun cs (x : Value × Nat)=>cs.setIfInBounds (off + x.2) x.1) zs) h' hrest (by
     have:=ve off v.cells.toList 0 zs
     rw [← Array.foldl_toList,Array.toList_zipIdx,this]
     exact hz.cq _ hcx)
    refine ⟨out,?_,h4⟩
    simp only [Instr.fill,hp i _ hpl]
    rw [if_neg]
    ·exact h3
    ·simp only [Array.length_toList] at hl hlz
     simp only [Bool.or_eq_true,decide_eq_true_eq,not_or]
     refine ⟨by simp;omega,by omega⟩
   ·cases h'
  ·cases h'
 | (i,.tup x) :: l,_,cells,cs,zs,h,hv,hz=>by simp [lu] at h
 | [],_ :: _,_,_,_,_,hv,_=>hv.elim
 | _ :: _,[],_,_,_,_,hv,_=>hv.elim
theorem oX {kd : List Kd} {z : Nat} (hz : kd.length=z) : ∀ {n : Nat} {cs : List SC} {vs : List Value} {x : X},rowsOf kd z n cs=some x→aE (SC.is E p g) cs vs→cs.length=n * z →
  ∃ rows,x.den E=.l rows∧rows.length=n∧(∀ i row,rows[i]?=some row→aJ g kd (fun j=>vs[i * z + j]?) row)∧∀ (i j e : Nat) row v,rows[i]?=some row→kd[j]?=some (.os e)→vs[i * z + j]?=some v→lK p v (row.getD j .u)
 | 0,cs,vs,x,h,_,_=>by
  simp only [rowsOf,Option.some.injEq] at h
  subst h
  exact ⟨[],rfl,rfl,fun i row h=>by simp at h,fun i j e row v h=>by simp at h⟩
 | n + 1,cs,vs,x,h,hv,hl=>by
  simp only [rowsOf] at h
  split at h
  ·rename_i r x' h1 h2
   cases h
   rw [Nat.add_mul] at hl
   have hvl:=hv.length
   have hv1 : aE (SC.is E p g) (cs.take z) (vs.take z):=aE.of (by simp;omega) fun i c v hc hv'=>by
    rw [De] at hc hv'
    split at hc
    ·rename_i hi
     rw [if_pos hi] at hv'
     obtain ⟨u,hu,hcu⟩:=hv.nth hc
     rw [hv'] at hu;cases hu;exact hcu
    ·cases hc
   have hv2 : aE (SC.is E p g) (cs.drop z) (vs.drop z):=aE.of (by simp;omega) fun i c v hc hv'=>by
    rw [Df] at hc hv'
    obtain ⟨u,hu,hcu⟩:=hv.nth hc
    rw [hv'] at hu;cases hu;exact hcu
   obtain ⟨rows,e1,e2,e3,e4⟩:=oX hz h2 hv2 (by rw [List.length_drop];omega)
   have hrow : aJ g kd (fun j=>vs[0 * z + j]?) (r.map (X.den E)):=by
    refine aJ.mono (Gm.Le.refl _) _ _ _ _ (fun j v hv=>?_) (lV h1 hv1 (f:=fun j=>(vs.take z)[j]?) fun j v hv=>hv)
    rw [List.getElem?_take] at hv
    split at hv
    ·rw [Nat.zero_mul,Nat.zero_add];exact hv
    ·cases hv
   refine ⟨(r.map (X.den E)) :: rows,?_,by simp [e2],fun i row hi=>?_,fun i j e row v hi hj hv0=>?_⟩
   rotate_right
   ·have hjz:=(List.getElem?_eq_some_iff.1 hj).1
    cases i with
    | zero =>
     simp only [List.getElem?_cons_zero,Option.some.injEq] at hi
     subst hi
     obtain ⟨d1,d2,d3⟩:=fI h1 hv1
     obtain ⟨v',x0,k1,k2,_⟩:=d3 j _ hj
     have hv' : (vs.take z)[j]?=some v:=by
      rw [List.getElem?_take,if_pos (by omega)]
      simpa using hv0
     have:=iH h1 hv1 j e v x0 hj hv' k2
     simpa [List.getD_eq_getElem?_getD,k2] using this
    | succ i =>
     refine e4 i j e row v (by simpa using hi) hj ?_
     rw [List.getElem?_drop,← hv0,show (i + 1) * z + j=z + (i * z + j) from by rw [Nat.add_mul];omega]
   ·split
    ·simp only [X.den,CD.l.injEq] at e1
     subst e1
     exact gK r
    ·simp only [X.den,gK,e1,CD.ax,List.singleton_append]
   ·cases i with
    | zero=>simp only [List.getElem?_cons_zero,Option.some.injEq] at hi;subst hi;exact hrow
    | succ i =>
     refine aJ.mono (Gm.Le.refl _) _ _ _ _ (fun j v hv=>?_) (e3 i row (by simpa using hi))
     rw [List.getElem?_drop] at hv
     rw [show (i + 1) * z + j=z + (i * z + j) from by rw [Nat.add_mul];omega]
     exact hv
  ·cases h
variable (H : bq B E p g h w) (ht : ∀ i c,nth tm i=some c→c.is E p g (a.tmps.getD i Go.undef)) (dst : Option Tmp) (type : TypeId) (pos : String) (after : Array Edge) (guard : Option (Nat × Bool)) (hT : TOk P T)
include H ht
omit H in
theorem pT : ∀ (parts : List (Nat × Operand)) (vs : List SR),evs tm (parts.map (·.2))=some vs→dD SR.full vs=true →
  aE (fun (x : Nat × SR) (y : Nat × Value)=>x.1=y.1∧x.2.is E p g y.2∧(∀ c,x.2=.v (.one c)→y.2.oneCell'=true∨y.2=Go.undef)) ((parts.map (·.1)).zip vs) (parts.map fun x=>(x.1,a.eval x.2))
 | [],vs,h,_=>by simp only [List.map_nil,evs,Option.some.injEq] at h;subst h;trivial
 | (i,x) :: l,vs,h,hf=>by
  simp only [List.map_cons,evs] at h
  split at h
  ·rename_i c m h1 h2
   cases h
   simp only [dD,Bool.and_eq_true] at hf
   have hc:=bw ht h1
   refine ⟨⟨rfl,hc,fun d e=>?_⟩,pT l m h2 hf.2⟩
   dsimp only at e hc
   subst e
   exact xQ (x:=.one d) hc hf.1 d rfl
  ·cases h
theorem y_box (t : TypeId) (x : Operand) {rx : SV} {r : Nat} (hx : ev tm x=some (.v rx)) (hfull : rx.full=true) (hf : dg h.regs r=true) :
  mQ P B E p g h a w ⟨dst,.box t x,type,pos,after,guard⟩ (.v (.one (.loc r 0))) { h with regs:=putAt h.regs r rx.cells} true:=by
 have hv : rx.is E p g (a.eval x):=bw ht hx
 have hc:=tW hv (xQ hv hfull)
 obtain ⟨q,h1,h2,h3,h4⟩:=H.Dp hf t hc
 refine ⟨.pointer (some ⟨w.heap.size,0,none⟩),_,q,by simp [execOp,Instr.box,newVar,newRow],h3,⟨_,_,h2,rfl⟩,h1,by simp,fun _=>⟨dY ((Below.refl _ _).alloc (Nat.le_refl _) _),h4⟩⟩
include hT
omit ht in
theorem Ez (t : TypeId) {ti : TI} {r : Nat} (hti : T.get t=some ti) (hf : dg h.regs r=true) :
  mQ P B E p g h a w ⟨dst,.alloc t,type,pos,after,guard⟩ (.v (.one (.loc r 0))) { h with regs:=putAt h.regs r ti.zero} true:=by
 obtain ⟨i,d,z,h1,h2,h3,h4,h5,h6,h7,_⟩:=(hT.get t ti hti).ex
 obtain ⟨q,g1,g2,g3,g4⟩:=H.Dp hf t (fJ (E:=E) (p:=p) (g:=g) h7)
 exact ⟨.pointer (some ⟨w.heap.size,0,none⟩),_,q,by simp [execOp,Instr.alloc,zeroValue,typeInfo,h1,h5,newVar,newRow],g3,⟨_,_,g2,rfl⟩,g1,by simp,fun _=>⟨dY ((Below.refl _ _).alloc (Nat.le_refl _) _),g4⟩⟩
theorem y_load (t : TypeId) (x : Operand) {rx r : SR} {ns : List X} {h' : Hp} {qu : Bool} (hx : ev tm x=some rx) (ho : loadAt T h t rx=.val ns r h' qu) (hn : ∀ b∈ns,(b.den E).bool=true) :
  h'=h∧Aa P E p g h a w ⟨dst,.load t x,type,pos,after,guard⟩ r:=by
 obtain ⟨e,v',h1,h2⟩:=pg hT H (bw ht hx) ho hn
 exact ⟨e,v',fun w' S=>by simp [execOp,h1 w' S],h2⟩
theorem Br (t : Nat) (x y : Operand) {b e : Nat} {n i : X} {A : Ar} {ti ei : TI} (hti : T.get t=some ti) (hk : ti.k=.slice e) (he : T.get e=some ei) (hx : ev tm x=some (.v (.one (.sl b n)))) (hy : ev tm y=some (.v (.one (.int .i64 i))))
  (hA : nth h.arrs b=some (.here A)) (hn : ∀ c∈dF i n ++ [mkLe n (bn A.x)],(c.den E).bool=true) :
  aU P E p g a ⟨dst,.indexAddr t x y,type,pos,after,guard⟩ (.v (.one (.ep b ei.sz i 0))):=by
 obtain ⟨ad,c,m,c1,c2,c3,ix⟩:=(bw ht hx : ∃ (A : Option Addr) (c m : Nat),p.arr b=some (A,c)∧n.den E=.i m∧m≤c∧a.eval x=.slice A m c)
 obtain ⟨k,h1,iy⟩:=(bw ht hy : ∃ n,i.den E=.i n∧a.eval y=.int .i64 n)
 obtain ⟨h0,h2⟩:=dN c2 (fun c hc=>hn c (List.mem_append_left _ hc))
 have h3:=hn (mkLe n (bn A.x)) (by simp)
 obtain ⟨ad',cap,rows,e1,e2,_⟩:=(H.arr b A hA).ex
 rw [c1] at e1
 cases e1
 rw [bz,ba,e2,c2] at h3
 have h3:=of_decide_eq_true h3
 simp only [CD.aR,CD.ax] at h3
 rw [h1] at h0 h2
 simp only [CD.aR] at h0 h2
 have hk0 : ((k.toNat : Nat) : Int)=k:=Int.toNat_of_nonneg h0
 have hno : ¬ ((m : Int)≤k):=by omega
 obtain ⟨row,hrow⟩ : ∃ row,rows[k.toNat]?=some row:=⟨_,List.getElem?_eq_getElem (by omega)⟩
 obtain ⟨bb,cc,k1,_⟩:=H.sd hA e2 hrow
 rw [c1] at k1
 cases k1
 obtain ⟨_,d,z,_,hu,_,_,_,_,_,_,_,h10⟩:=(hT.get t ti hti).ex
 rw [hk] at h10
 subst h10
 refine aU.same (v:=.pointer (some ((⟨bb,0,none⟩ : Addr).add (k.toNat * ei.sz)))) (fun w'=>?_) ⟨bb,c,k.toNat,c1,by rw [h1,hk0],by rw [et];simp⟩
 simp [execOp,ix,iy,Instr.indexAt,asIntOf,run_underlying hu,h0,hno,run_sizeOf hT he]
omit H ht in
theorem Gr {t : Nat} {ti : TI} {fs : List (Nat × Nat)} (ht : T.get t=some ti) (hk : ti.k=.struct fs) (hall : dD (fun (x : Nat × Nat)=>match T.get x.2 with | some _=>true | none=>false) fs=true) :
  ∃ flds qd,P.underlying t=some (.struct flds)∧(∀ w : World,(flds.mapM fun f=>(do pure (f.offset,← sizeOf f.type) : Sem (Nat × Nat))).run P w=.ok qd w)∧∀ i x,placeOf T (.struct fs) i=some x→qd[i]?=some x:=by
 obtain ⟨_,d,z,_,hd,_,_,_,_,_,_,_,h10⟩:=(hT.get t ti ht).ex
 rw [hk] at h10
 obtain ⟨flds,rfl,hlen,hfl⟩:=h10
 let g : Field→Nat × Nat:=fun f=>(f.offset,((T.get f.type).map (·.sz)).getD 0)
 have hrun : ∀ w,∀ f∈flds.toList,((do pure (f.offset,← sizeOf f.type) : Sem (Nat × Nat))).run P w=.ok (g f) w:=fun w f hf=>by
  obtain ⟨j,hj⟩:=List.getElem?_of_mem hf
  have hjl:=(List.getElem?_eq_some_iff.1 hj).1
  simp only [Array.length_toList] at hjl
  obtain ⟨⟨off,u⟩,hn⟩:=cH (l:=fs) (i:=j) (by omega)
  obtain ⟨f',hf',e1,e2⟩:=hfl j off u hn
  have : f'=f:=by
   have : flds.toList[j]?=some f':=by simpa using hf'
   rw [hj] at this;cases this;rfl
  subst this
  have h3:=eS hall hn
  simp only at h3
  split at h3
  ·rename_i ui hu
   rw [← e2] at hu
   simp [run_sizeOf hT hu,g,hu]
  ·cases h3
 refine ⟨flds,flds.map g,hd,fun w=>Cw flds (hrun w),fun i x hx=>?_⟩
 simp only [placeOf] at hx
 split at hx
 ·rename_i off u hn
  obtain ⟨f,hf,e1,e2⟩:=hfl i off u hn
  subst e1;subst e2
  cases hu : T.get f.type with
  | none=>rw [hu] at hx;cases hx
  | some ui =>
   rw [hu] at hx
   cases hx
   simp [hf,g,hu]
 ·cases hx
omit H in
theorem Ey (t : Nat) (parts : Array (Nat × Operand)) {ti : TI} {vs : List SR} {cs : List SC} (hti : T.get t=some ti) (hv : evs tm (parts.toList.map (·.2))=some vs) (hfull : dD SR.full vs=true) (hall : oz T ti.k=true)
  (hc : lu T ti.k ti.zero ((parts.toList.map (·.1)).zip vs)=some cs) : aU P E p g a ⟨dst,.build t parts,type,pos,after,guard⟩ (.v (.agg cs)):=by
 obtain ⟨i,d,z,h1,h2,h3,h4,h5,h6,h7,h8,h9,h10⟩:=(hT.get t ti hti).ex
 have hz : aE (SC.is E p g) ti.zero z.cells.toList:=fJ h7
 have hparts:=pT ht parts.toList vs hv hfull
 have hmap : (parts.map fun (x : Nat × Operand)=>(x.1,a.eval x.2)).toList=parts.toList.map fun x=>(x.1,a.eval x.2):=by simp
 have hzv : ∀ w : World,(zeroValue t).run P w=.ok z w:=fun w=>by simp [zeroValue,typeInfo,h1,h5]
 cases hk : ti.k with
 | struct fs =>
  rw [hk] at hall hc
  obtain ⟨flds,qd,hd,hm,hpl⟩:=Gr hT hti hk hall
  obtain ⟨out,ho,hout⟩:=iN (E:=E) (p:=p) (g:=g) (place:=fun i=>qd[i]?) hpl hc hparts hz
  refine aU.same (v:=.agg out) (fun w=>?_) ⟨out.toList,by simp,hout⟩
  simp only [execOp,Instr.build,Sem.run_bind,hzv w,run_underlying hd,Result.andThen_ok,hm w,hmap]
  simp [ho]
 | array n e =>
  rw [hk] at hc h10
  subst h10
  cases he : T.get e with
  | none=>rw [hk] at hall;simp only [oz,he] at hall;cases hall
  | some ei =>
   obtain ⟨out,ho,hout⟩:=iN (E:=E) (p:=p) (g:=g) (place:=fun i=>some (i * ei.sz,ei.sz)) (fun i x hx=>by
    simp only [placeOf,he,Option.map_some] at hx
    split at hx
    ·exact hx
    ·cases hx) hc hparts hz
   refine aU.same (v:=.agg out) (fun w=>?_) ⟨out.toList,by simp,hout⟩
   simp only [execOp,Instr.build,Sem.run_bind,hzv w,run_underlying h2,Result.andThen_ok,run_sizeOf hT he,hmap]
   simp [ho]
 | slice e=>rw [hk] at hall;cases hall
 | map k v=>rw [hk] at hall;cases hall
 | ptr e=>rw [hk] at hall;cases hall
 | other=>rw [hk] at hall;cases hall
theorem vB (t n : Nat) (parts : Array (Nat × Operand)) {ti ei : TI} {e sa : Nat} {vs : List SR} {cs : List SC} {kd : List Kd} {x : X} (hti : T.get t=some ti) (hk : ti.k=.slice e) (he : T.get e=some ei) (hv : evs tm (parts.toList.map (·.2))=some vs) (hfull : dD SR.full vs=true)
  (hc : lu T (.array n e) (List.replicate (n * ei.sz) .any) ((parts.toList.map (·.1)).zip vs)=some cs) (hz : 0 < ei.sz) (hle : n * ei.sz≤4096) (hkl : kd.length=ei.sz) (hby : n * ei.by_≤B47) (hb0 : 0 < ei.by_) (hx : rowsOf kd ei.sz n cs=some x) (hf : dg h.arrs sa=true) :
  mQ P B E p g h a w ⟨dst,.buildSlice t n parts,type,pos,after,guard⟩ (.v (.one (.sl sa (.int n)))) { h with arrs:=putAt h.arrs sa { e:=e,K:=⟨ei.by_,kd⟩,x:=x}} true:=by
 obtain ⟨i,d,z,h1,h2,h3,h4,h5,h6,h7,h8,h9,h10⟩:=(hT.get t ti hti).ex
 rw [hk] at h10
 subst h10
 obtain ⟨i2,d2,z2,g1,g2,g3,g4,g5,g6,g7,g8,g9,g10⟩:=(hT.get e ei he).ex
 have hparts:=pT ht parts.toList vs hv hfull
 have hmap : (parts.map fun (x : Nat × Operand)=>(x.1,a.eval x.2)).toList=parts.toList.map fun x=>(x.1,a.eval x.2):=by simp
 let zc : Array Value:=if n * ei.sz=0 then #[] else z2.cells
 have hz0 : aE (SC.is E p g) (List.replicate (n * ei.sz) SC.any) ((Array.range (n * ei.sz)).map (zc[· % zc.size]!)).toList:=aE.of (by simp) fun j c v hc _=>by
  rw [aW,List.getElem?_replicate] at hc
  split at hc <;> cases hc
  trivial
 obtain ⟨out,ho,hout⟩:=iN (E:=E) (p:=p) (g:=g) (place:=fun i=>some (i * ei.sz,ei.sz)) (fun i x hx=>by
  simp only [placeOf,he,Option.map_some] at hx
  split at hx
  ·exact hx
  ·cases hx) hc hparts hz0
 have hol : out.size=n * ei.sz:=by
  have : ∀ (l : List (Nat × Value)) (place : Nat→Option (Nat × Nat)) (z o : Array Value),Instr.fill place z l=some o→o.size=z.size:=by
   intro l
   induction l with
   | nil=>intro place z o h;simp only [Instr.fill,Option.some.injEq] at h;rw [← h]
   | cons y l ih =>
    intro place z o h
    obtain ⟨i,v⟩:=y
    simp only [Instr.fill] at h
    split at h
    ·cases h
    ·split at h
     ·cases h
     ·rw [ih _ _ _ h]
      have : ∀ (l : List (Value × Nat)) (z : Array Value) (off : Nat),(l.foldl (fun cs (x : Value × Nat)=>cs.setIfInBounds (off + x.2) x.1) z).size=z.size:=by
       intro l
       induction l with
       | nil=>intro z off;rfl
       | cons y l ih=>intro z off;rw [List.foldl_cons,ih];simp
      rw [← Array.foldl_toList]
      exact this _ _ _
  rw [this _ _ _ _ ho];simp
 have hcl : cs.length=n * ei.sz:=by rw [hout.length,Array.length_toList,hol]
 obtain ⟨rows,r1,r2,r3,r4⟩:=oX hkl hx hout hcl
 have hn : n≤4096:=Nat.le_trans (Nat.le_mul_of_pos_right n hz) hle
 have hbel : Below w.heap.size w (w.alloc (.cells out e)):=(Below.refl _ _).alloc (Nat.le_refl _) _
 obtain ⟨q,q1,q2,q3,q4⟩:=H.Dq hf (A:={ e:=e,K:=⟨ei.by_,kd⟩,x:=x}) (cap:=n) (cur:=out) r1 (by omega) (by simp only [maxLen];omega) (by rw [r2];exact hby) (by simp only;omega) hb0 (by simp only;rw [hkl];exact hol)
  (fun i row hi=>by simp only;rw [hkl];exact aJ.mono (Gm.Le.refl _) _ _ _ _ (fun j v hv=>by simpa using hv) (r3 i row hi)) hbel (heap_alloc_new w _) (fun i j e' row v hi hj hv=>by
   simp only at hv hj
   rw [hkl] at hv
   exact r4 i j e' row v hi hj (by simpa using hv))
 refine ⟨.slice (some ⟨w.heap.size,0,none⟩) n n,_,q,?_,q3,⟨_,n,n,q2,rfl,Nat.le_refl _,rfl⟩,q1,by simp,fun _=>⟨dY hbel,q4⟩⟩
 have hno : ¬ (n * ei.sz > 2 ^ 24):=by omega
 simp only [execOp,Instr.buildSlice,Sem.run_bind,run_underlying h2,Result.andThen_ok,run_sizeOf hT he,hmap]
 by_cases h0 : n * ei.sz=0
 ·have hzc : zc=#[]:=if_pos h0
  rw [hzc] at ho
  have hn0 : n=0:=by
   rcases Nat.mul_eq_zero.1 h0 with h | h
   ·exact h
   ·omega
  subst hn0
  simp only [Nat.zero_mul] at ho ⊢
  simp at ho
  simp [ho,newRow]
 ·have hzc : zc=z2.cells:=if_neg h0
  rw [hzc] at ho
  have hzr : (zeroValue e).run P w=.ok z2 w:=by simp [zeroValue,typeInfo,g1,g5]
  simp [hno,h0,hzr,ho,newRow]
theorem wJ (t : Nat) (x y : Operand) {ti ei : TI} {e sa : Nat} {n m : X} {kd : List Kd} {zd : List X} (hti : T.get t=some ti) (hk : ti.k=.slice e) (he : T.get e=some ei) (hx : ev tm x=some (.v (.one (.int .i64 n)))) (hy : ev tm y=some (.v (.one (.int .i64 m)))) (hnm : X.same n m=true)
  (hz : 0 < ei.sz) (hzd : cj kd ei.zero=some zd) (hkl : kd.length=ei.sz) (hb0 : 0 < ei.by_) (hn : ∀ b∈[mkLe (.int 0) n,mkLe n (.int (B47 / ei.by_))],(b.den E).bool=true) (hf : dg h.arrs sa=true) :
  mQ P B E p g h a w ⟨dst,.makeSlice t x y,type,pos,after,guard⟩ (.v (.one (.sl sa n))) { h with arrs:=putAt h.arrs sa { e:=e,K:=⟨ei.by_,kd⟩,x:=.rep n (iC zd)}} true:=by
 have e1:=X.av hnm
 subst e1
 obtain ⟨k,c1,ix⟩:=(bw ht hx : ∃ k,n.den E=.i k∧a.eval x=.int .i64 k)
 obtain ⟨k',c2,iy⟩:=(bw ht hy : ∃ k,n.den E=.i k∧a.eval y=.int .i64 k)
 rw [c1] at c2
 cases c2
 have h0:=hn (mkLe (.int 0) n) (by simp)
 have h1:=hn (mkLe n (.int (B47 / ei.by_))) (by simp)
 rw [bz,c1] at h0 h1
 have h0:=of_decide_eq_true h0
 have h1:=of_decide_eq_true h1
 simp only [X.den,CD.aR] at h0 h1
 obtain ⟨m,rfl⟩ : ∃ m : Nat,k=m:=⟨k.toNat,by omega⟩
 have h1 : m≤B47 / ei.by_:=by omega
 have hmb : m * ei.by_≤B47:=by
  have:=Nat.mul_le_mul_right ei.by_ h1
  exact Nat.le_trans this (Nat.div_mul_le_self _ _)
 have hm : m≤B47:=Nat.le_trans (Nat.le_mul_of_pos_right m hb0) hmb
 obtain ⟨i,d,z,k1,k2,_,_,_,_,_,_,_,k10⟩:=(hT.get t ti hti).ex
 rw [hk] at k10
 subst k10
 obtain ⟨i2,d2,z2,g1,g2,g3,g4,g5,g6,g7,g8,g9,g10⟩:=(hT.get e ei he).ex
 have hbytes : (i2.bytes : Int) * (m : Int)≤281474976710656:=by
  have h2 : i2.bytes * m≤140737488355328:=by rw [g4,Nat.mul_comm];exact hmb
  have h3 : ((i2.bytes * m : Nat) : Int)≤140737488355328:=by omega
  rw [Int.natCast_mul] at h3
  omega
 have hr:=run_make (P:=P) w t e i2 z2 k2 g1 g5 .i64 .i64 (m : Int) (m : Int) h0 (Int.le_refl _) hbytes (by simp only [B47] at hm;omega)
 simp only [Int.toNat_natCast] at hr
 have hzv : aE (SC.is E p g) ei.zero z2.cells.toList:=fJ g7
 have hzl : z2.cells.size=ei.sz:=by omega
 have hbel : Below w.heap.size w (w.alloc (.cells (madeCells z2.cells (m * i2.size)) e)):=(Below.refl _ _).alloc (Nat.le_refl _) _
 obtain ⟨q,q1,q2,q3,q4⟩:=H.Dq hf (A:={ e:=e,K:=⟨ei.by_,kd⟩,x:=.rep n (iC zd)}) (rows:=List.replicate m (zd.map (X.den E))) (cap:=m) (cur:=madeCells z2.cells (m * i2.size)) (by simp [X.den,c1,gK,CD.row]) (by simp) (by simp only [maxLen];simp only [B47] at hm;omega) (by simpa using hmb) (by simp only;omega) hb0 (by simp only;rw [hkl,← g3];simp [madeCells])
  (fun i row hi=>by
   rw [List.getElem?_replicate] at hi
   split at hi
   ·rename_i him
    cases hi
    simp only
    refine lV hzd hzv fun j v hv=>?_
    have hj : j < z2.cells.size:=by simpa using (List.getElem?_eq_some_iff.1 hv).1
    have hlt : i * kd.length + j < m * i2.size:=by rw [hkl,g3];exact dG (by omega) him
    have hmod : (i * kd.length + j) % z2.cells.size=j:=by rw [hkl,hzl,Nat.mul_comm,Nat.mul_add_mod,Nat.mod_eq_of_lt (by omega)]
    simp only [madeCells,Array.getElem?_map,Array.getElem?_range,hlt,if_true,Option.map_some,hmod]
    rw [getElem!_pos z2.cells j hj]
    have hv : z2.cells[j]?=some v:=by simpa using hv
    rw [Array.getElem?_eq_getElem hj] at hv
    exact hv
   ·cases hi) hbel (heap_alloc_new w _) (fun i j e' row v hi hj hv=>by
   rw [List.getElem?_replicate] at hi
   split at hi
   ·rename_i him
    cases hi
    simp only at hv hj
    have hjz : j < kd.length:=(List.getElem?_eq_some_iff.1 hj).1
    have hj' : j < z2.cells.size:=by omega
    have hlt : i * kd.length + j < m * i2.size:=by rw [hkl,g3];exact dG (by omega) him
    have hmod : (i * kd.length + j) % z2.cells.size=j:=by rw [hkl,hzl,Nat.mul_comm,Nat.mul_add_mod,Nat.mod_eq_of_lt (by omega)]
    simp only [madeCells,Array.getElem?_map,Array.getElem?_range,hlt,if_true,Option.map_some,hmod] at hv
    rw [getElem!_pos z2.cells j hj'] at hv
    obtain ⟨d1,d2,d3⟩:=fI hzd hzv
    obtain ⟨v',x0,k1,k2,_⟩:=d3 j _ hj
    have hv' : z2.cells.toList[j]?=some v:=by simpa [Array.getElem?_eq_getElem hj'] using hv
    have:=iH hzd hzv j e' v x0 hj hv' k2
    simpa [List.getD_eq_getElem?_getD,k2] using this
   ·cases hi)
 refine ⟨.slice (some ⟨w.heap.size,0,none⟩) m m,_,q,?_,q3,⟨_,m,m,q2,c1,Nat.le_refl _,rfl⟩,q1,by simp,fun _=>⟨dY hbel,q4⟩⟩
 simp [execOp,ix,iy,hr]
omit H ht in
theorem pZ (t : Nat) {ti ei : TI} {e : Nat} (hti : T.get t=some ti) (hk : ti.k=.slice e) (he : T.get e=some ei) (A : Option Addr) (n c l m : Nat) (hlm : l≤m) (hmc : m≤c) (x : Operand) (lo hi : Option Operand) (ix : a.eval x=.slice A n c)
  (hlo : (lo=none∧l=0)∨∃ y,lo=some y∧a.eval y=.int .i64 l) (hhi : (hi=none∧m=n)∨∃ y,hi=some y∧a.eval y=.int .i64 m) (w : World) :
  (execOp a.eval ⟨dst,.slice t x lo hi none,type,pos,after,guard⟩).run P w=.ok (.value (.slice (if c=l then A else A.map (·.add (l * ei.sz))) (m - l) (c - l))) w:=by
 obtain ⟨_,d,z,_,hu,_,_,_,_,_,_,_,h10⟩:=(hT.get t ti hti).ex
 rw [hk] at h10
 subst h10
 have hlc : l≤c:=Nat.le_trans hlm hmc
 rcases hlo with ⟨rfl,rfl⟩ | ⟨y,rfl,iy⟩ <;> rcases hhi with ⟨rfl,rfl⟩ | ⟨y2,rfl,iy2⟩
 ·simp [execOp,ix,Instr.sliceAt,run_underlying hu,Instr.slice,Instr.sliceBounds,run_sizeOf hT he]
 ·simp [execOp,ix,iy2,Instr.sliceAt,run_underlying hu,Instr.slice,Instr.sliceBounds,Instr.sliceBound,asIntOf,hmc,run_sizeOf hT he]
 ·simp [execOp,ix,iy,Instr.sliceAt,run_underlying hu,Instr.slice,Instr.sliceBounds,Instr.sliceBound,asIntOf,hlm,run_sizeOf hT he]
 ·simp [execOp,ix,iy,iy2,Instr.sliceAt,run_underlying hu,Instr.slice,Instr.sliceBounds,Instr.sliceBound,asIntOf,hlm,hmc,run_sizeOf hT he]
end
end Go.Sy
