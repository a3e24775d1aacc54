import Derived.Test.YtpmamacjepcdmaaSyAop2
import Derived.MapKept
import Derived.WideKeyRuns
namespace Go.Sy
open Go.RowKit
section
variable {P : Program} {T : TT} {B : cT} {E : Env} {p : Pl} {g : Gm} {h : Hp} {tm : List SR} {a : Act} {w : World}
def placeOf (T : TT) (k : TK) (i : Nat) : Option (Nat × Nat):=match k with
 | .struct fs=>(match nth fs i with | some (off,t)=>(T.get t).map fun j=>(off,j.sz) | none=>none)
 | .array n e=>if Nat.blt i n then (T.get e).map fun j=>(i * j.sz,j.sz) else none
 | _=>none
theorem ID {α : Type} (l : List α) (o : Nat) (c : α) (m : List α) : cq l o (c :: m)=cq (bl l o c) (o + 1) m:=by cases l <;> rfl
theorem aE.bl {α β : Type} {R : α→β→Prop} : ∀ {l : List α} {m : List β} {a : α} {b : β} (i : Nat),aE R l m→R a b→aE R (Sy.bl l i a) (Sy.bl m i b)
 | [],[],_,_,_,_,_=>trivial
 | _ :: _,_ :: _,_,_,0,h,r=>⟨r,h.2⟩
 | _ :: _,_ :: _,_,_,i + 1,h,r=>⟨h.1,aE.bl i h.2 r⟩
 | [],_ :: _,_,_,_,h,_=>h.elim
 | _ :: _,[],_,_,_,h,_=>h.elim
theorem aE.cq {α β : Type} {R : α→β→Prop} : ∀ {m : List α} {u : List β} {l : List α} {v : List β} (o : Nat),aE R l v→aE R m u→aE R (Sy.cq l o m) (Sy.cq v o u)
 | [],[],l,v,o,h,_=>by cases l <;> cases v <;> exact h
 | c :: m,d :: u,l,v,o,h,hm=>by
  rw [ID,ID]
  exact aE.cq (o + 1) (h.bl o hm.1) hm.2
 | [],_ :: _,_,_,_,_,h=>h.elim
 | _ :: _,[],_,_,_,_,h=>h.elim
theorem ve (off : Nat) : ∀ (u : List Value) (k : Nat) (cs : Array Value),((u.zipIdx k).foldl (fun cs (x : Value × Nat)=>cs.setIfInBounds (off + x.2) x.1) cs).toList=Sy.cq cs.toList (off + k) u
 | [],k,cs=>by cases h : cs.toList <;> simp [Sy.cq,h]
 | c :: u,k,cs=>by
  rw [List.zipIdx_cons,List.foldl_cons,ve off u (k + 1),ID,jT]
  simp [Nat.add_assoc]
theorem iN {k : TK} {place : Nat→Option (Nat × Nat)} (hp : ∀ i x,placeOf T k i=some x→place i=some x) : ∀ {parts : List (Nat × SR)} {vals : List (Nat × Value)} {cells cs : List SC} {zs : Array Value},
  lu T k cells parts=some cs→aE (fun (a : Nat × SR) (b : Nat × Value)=>a.1=b.1∧a.2.is E p g b.2∧(∀ c,a.2=.v (.one c)→b.2.oneCell'=true∨b.2=Go.undef)) parts vals→aE (SC.is E p g) cells zs.toList →
  ∃ out : Array Value,Instr.fill place zs vals=some out∧aE (SC.is E p g) cs out.toList
 | [],[],cells,cs,zs,h,_,hz=>by
  simp only [lu,Option.some.injEq] at h
  subst h
  exact ⟨zs,rfl,hz⟩
 | (i,.v x) :: l,(j,v) :: vals,cells,cs,zs,h,hv,hz=>by
  obtain ⟨⟨e,hx,hone⟩,hrest⟩:=hv
  dsimp only at e hx hone
  subst e
  have h' : (match placeOf T k i with
   | some (off,z)=>if (Nat.beq x.cells.length z).and (Nat.ble (off + z) cells.length) then lu T k (Sy.cq cells off x.cells) l else none
   | none=>none)=some cs:=h
  split at h'
  ·rename_i off z hpl
   split at h'
   ·rename_i hc
    simp only [Bool.and_eq_true] at hc
    have h1:=Nat.eq_of_beq_eq_true hc.1
    have h2:=Nat.le_of_ble_eq_true hc.2
    have hcx : aE (SC.is E p g) x.cells v.cells.toList:=tW hx fun c e=>hone c (by rw [e])
    have hl:=hcx.length
    have hlz:=hz.length
    obtain ⟨out,h3,h4⟩:=iN hp (zs:=v.cells.zipIdx.foldl (fun cs (x : Value × Nat)=>cs.setIfInBounds (off + x.2) x.1) zs) h' hrest (by
     have:=ve off v.cells.toList 0 zs
     rw [← Array.foldl_toList,Array.toList_zipIdx,this]
     exact hz.cq _ hcx)
    refine ⟨out,?_,h4⟩
    simp only [Instr.fill,hp i _ hpl]
    rw [if_neg]
    ·exact h3
    ·simp only [Array.length_toList] at hl hlz
     simp only [Bool.or_eq_true,decide_eq_true_eq,not_or]
     refine ⟨by simp;omega,by omega⟩
   ·cases h'
  ·cases h'
 | (i,.tup x) :: l,_,cells,cs,zs,h,hv,hz=>by simp [lu] at h
 | [],_ :: _,_,_,_,_,hv,_=>hv.elim
 | _ :: _,[],_,_,_,_,hv,_=>hv.elim
theorem oX {kd : List Kd} {z : Nat} (hz : kd.length=z) : ∀ {n : Nat} {cs : List SC} {vs : List Value} {x : X},rowsOf kd z n cs=some x→aE (SC.is E p g) cs vs→cs.length=n * z →
  ∃ rows,x.den E=.l rows∧rows.length=n∧(∀ i row,rows[i]?=some row→aJ g kd (fun j=>vs[i * z + j]?) row)∧∀ (i j e : Nat) row v,rows[i]?=some row→kd[j]?=some (.os e)→vs[i * z + j]?=some v→lK p v (row.getD j .u)
 | 0,cs,vs,x,h,_,_=>by
  simp only [rowsOf,Option.some.injEq] at h
  subst h
  exact ⟨[],rfl,rfl,fun i row h=>by simp at h,fun i j e row v h=>by simp at h⟩
 | n + 1,cs,vs,x,h,hv,hl=>by
  simp only [rowsOf] at h
  split at h
  ·rename_i r x' h1 h2
   cases h
   rw [Nat.add_mul] at hl
   have hvl:=hv.length
   have hv1 : aE (SC.is E p g) (cs.take z) (vs.take z):=aE.of (by simp;omega) fun i c v hc hv'=>by
    rw [De] at hc hv'
    split at hc
    ·rename_i hi
     rw [if_pos hi] at hv'
     obtain ⟨u,hu,hcu⟩:=hv.nth hc
     rw [hv'] at hu;cases hu;exact hcu
    ·cases hc
   have hv2 : aE (SC.is E p g) (cs.drop z) (vs.drop z):=aE.of (by simp;omega) fun i c v hc hv'=>by
    rw [Df] at hc hv'
    obtain ⟨u,hu,hcu⟩:=hv.nth hc
    rw [hv'] at hu;cases hu;exact hcu
   obtain ⟨rows,e1,e2,e3,e4⟩:=oX hz h2 hv2 (by rw [List.length_drop];omega)
   have hrow : aJ g kd (fun j=>vs[0 * z + j]?) (r.map (X.den E)):=by
    refine aJ.mono (Gm.Le.refl _) _ _ _ _ (fun j v hv=>?_) (lV h1 hv1 (f:=fun j=>(vs.take z)[j]?) fun j v hv=>hv)
    rw [List.getElem?_take] at hv
    split at hv
    ·rw [Nat.zero_mul,Nat.zero_add];exact hv
    ·cases hv
   refine ⟨(r.map (X.den E)) :: rows,?_,by simp [e2],fun i row hi=>?_,fun i j e row v hi hj hv0=>?_⟩
   rotate_right
   ·have hjz:=(List.getElem?_eq_some_iff.1 hj).1
    cases i with
    | zero =>
     simp only [List.getElem?_cons_zero,Option.some.injEq] at hi
     subst hi
     obtain ⟨d1,d2,d3⟩:=fI h1 hv1
     obtain ⟨v',x0,k1,k2,_⟩:=d3 j _ hj
     have hv' : (vs.take z)[j]?=some v:=by
      rw [List.getElem?_take,if_pos (by omega)]
      simpa using hv0
     have:=iH h1 hv1 j e v x0 hj hv' k2
     simpa [List.getD_eq_getElem?_getD,k2] using this
    | succ i =>
     refine e4 i j e row v (by simpa using hi) hj ?_
     rw [List.getElem?_drop,← hv0,show (i + 1) * z + j=z + (i * z + j) from by rw [Nat.add_mul];omega]
   ·split
    ·simp only [X.den,CD.l.injEq] at e1
     subst e1
     exact gK r
    ·simp only [X.den,gK,e1,CD.ax,List.singleton_append]
   ·cases i with
    | zero=>simp only [List.getElem?_cons_zero,Option.some.injEq] at hi;subst hi;exact hrow
    | succ i =>
     refine aJ.mono (Gm.Le.refl _) _ _ _ _ (fun j v hv=>?_) (e3 i row (by simpa using hi))
     rw [List.getElem?_drop] at hv
     rw [show (i + 1) * z + j=z + (i * z + j) from by rw [Nat.add_mul];omega]
     exact hv
  ·cases h
variable (H : bq B E p g h w) (ht : ∀ i c,nth tm i=some c→c.is E p g (a.tmps.getD i Go.undef)) (dst : Option Tmp) (type : TypeId) (pos : String) (after : Array Edge) (guard : Option (Nat × Bool)) (hT : TOk P T)
include H ht
omit H in
theorem pT : ∀ (parts : List (Nat × Operand)) (vs : List SR),evs tm (parts.map (·.2))=some vs→dD SR.full vs=true →
  aE (fun (x : Nat × SR) (y : Nat × Value)=>x.1=y.1∧x.2.is E p g y.2∧(∀ c,x.2=.v (.one c)→y.2.oneCell'=true∨y.2=Go.undef)) ((parts.map (·.1)).zip vs) (parts.map fun x=>(x.1,a.eval x.2))
 | [],vs,h,_=>by simp only [List.map_nil,evs,Option.some.injEq] at h;subst h;trivial
 | (i,x) :: l,vs,h,hf=>by
  simp only [List.map_cons,evs] at h
  split at h
  ·rename_i c m h1 h2
   cases h
   simp only [dD,Bool.and_eq_true] at hf
   have hc:=bw ht h1
   refine ⟨⟨rfl,hc,fun d e=>?_⟩,pT l m h2 hf.2⟩
   dsimp only at e hc
   subst e
   exact xQ (x:=.one d) hc hf.1 d rfl
  ·cases h
theorem y_box (t : TypeId) (x : Operand) {rx : SV} {r : Nat} (hx : ev tm x=some (.v rx)) (hfull : rx.full=true) (hf : dg h.regs r=true) :
  mQ P B E p g h a w ⟨dst,.box t x,type,pos,after,guard⟩ (.v (.one (.loc r 0))) { h with regs:=putAt h.regs r rx.cells} true:=by
 have hv : rx.is E p g (a.eval x):=bw ht hx
 have hc:=tW hv (xQ hv hfull)
 obtain ⟨q,h1,h2,h3,h4⟩:=H.Dp hf t hc
 refine ⟨.pointer (some ⟨w.heap.size,0,none⟩),_,q,by simp [execOp,Instr.box,newVar,newRow],h3,⟨_,_,h2,rfl⟩,h1,by simp,fun _=>⟨dY ((Below.refl _ _).alloc (Nat.le_refl _) _),h4⟩⟩
include hT
omit ht in
theorem Ez (t : TypeId) {ti : TI} {r : Nat} (hti : T.get t=some ti) (hf : dg h.regs r=true) :
  mQ P B E p g h a w ⟨dst,.alloc t,type,pos,after,guard⟩ (.v (.one (.loc r 0))) { h with regs:=putAt h.regs r ti.zero} true:=by
 obtain ⟨i,d,z,h1,h2,h3,h4,h5,h6,h7,_⟩:=(hT.get t ti hti).ex
 obtain ⟨q,g1,g2,g3,g4⟩:=H.Dp hf t (fJ (E:=E) (p:=p) (g:=g) h7)
 exact ⟨.pointer (some ⟨w.heap.size,0,none⟩),_,q,by simp [execOp,Instr.alloc,zeroValue,typeInfo,h1,h5,newVar,newRow],g3,⟨_,_,g2,rfl⟩,g1,by simp,fun _=>⟨dY ((Below.refl _ _).alloc (Nat.le_refl _) _),g4⟩⟩
theorem y_load (t : TypeId) (x : Operand) {rx r : SR} {ns : List X} {h' : Hp} {qu : Bool} (hx : ev tm x=some rx) (ho : loadAt T h t rx=.val ns r h' qu) (hn : ∀ b∈ns,(b.den E).bool=true) :
  h'=h∧Aa P E p g h a w ⟨dst,.load t x,type,pos,after,guard⟩ r:=by
 obtain ⟨e,v',h1,h2⟩:=pg hT H (bw ht hx) ho hn
 exact ⟨e,v',fun w' S=>by simp [execOp,h1 w' S],h2⟩
theorem Br (t : Nat) (x y : Operand) {b e : Nat} {n i : X} {A : Ar} {ti ei : TI} (hti : T.get t=some ti) (hk : ti.k=.slice e) (he : T.get e=some ei) (hx : ev tm x=some (.v (.one (.sl b n)))) (hy : ev tm y=some (.v (.one (.int .i64 i))))
  (hA : nth h.arrs b=some (.here A)) (hn : ∀ c∈dF i n ++ [mkLe n (bn A.x)],(c.den E).bool=true) :
  aU P E p g a ⟨dst,.indexAddr t x y,type,pos,after,guard⟩ (.v (.one (.ep b ei.sz i 0))):=by
 obtain ⟨ad,c,m,c1,c2,c3,ix⟩:=(bw ht hx : ∃ (A : Option Addr) (c m : Nat),p.arr b=some (A,c)∧n.den E=.i m∧m≤c∧a.eval x=.slice A m c)
 obtain ⟨k,h1,iy⟩:=(bw ht hy : ∃ n,i.den E=.i n∧a.eval y=.int .i64 n)
 obtain ⟨h0,h2⟩:=dN c2 (fun c hc=>hn c (List.mem_append_left _ hc))
 have h3:=hn (mkLe n (bn A.x)) (by simp)
 obtain ⟨ad',cap,rows,e1,e2,_⟩:=(H.arr b A hA).ex
 rw [c1] at e1
 cases e1
 rw [bz,ba,e2,c2] at h3
 have h3:=of_decide_eq_true h3
 simp only [CD.aR,CD.ax] at h3
 rw [h1] at h0 h2
 simp only [CD.aR] at h0 h2
 have hk0 : ((k.toNat : Nat) : Int)=k:=Int.toNat_of_nonneg h0
 have hno : ¬ ((m : Int)≤k):=by omega
 obtain ⟨row,hrow⟩ : ∃ row,rows[k.toNat]?=some row:=⟨_,List.getElem?_eq_getElem (by omega)⟩
 obtain ⟨bb,cc,k1,_⟩:=H.sd hA e2 hrow
 rw [c1] at k1
 cases k1
 obtain ⟨_,d,z,_,hu,_,_,_,_,_,_,_,h10⟩:=(hT.get t ti hti).ex
 rw [hk] at h10
 subst h10
 refine aU.same (v:=.pointer (some ((⟨bb,0,none⟩ : Addr).add (k.toNat * ei.sz)))) (fun w'=>?_) ⟨bb,c,k.toNat,c1,by rw [h1,hk0],by rw [et];simp⟩
 simp [execOp,ix,iy,Instr.indexAt,asIntOf,run_underlying hu,h0,hno,run_sizeOf hT he]
omit H ht in
theorem Gr {t : Nat} {ti : TI} {fs : List (Nat × Nat)} (ht : T.get t=some ti) (hk : ti.k=.struct fs) (hall : dD (fun (x : Nat × Nat)=>match T.get x.2 with | some _=>true | none=>false) fs=true) :
  ∃ flds qd,P.underlying t=some (.struct flds)∧(∀ w : World,(flds.mapM fun f=>(do pure (f.offset,← sizeOf f.type) : Sem (Nat × Nat))).run P w=.ok qd w)∧∀ i x,placeOf T (.struct fs) i=some x→qd[i]?=some x:=by
 obtain ⟨_,d,z,_,hd,_,_,_,_,_,_,_,h10⟩:=(hT.get t ti ht).ex
 rw [hk] at h10
 obtain ⟨flds,rfl,hlen,hfl⟩:=h10
 let g : Field→Nat × Nat:=fun f=>(f.offset,((T.get f.type).map (·.sz)).getD 0)
 have hrun : ∀ w,∀ f∈flds.toList,((do pure (f.offset,← sizeOf f.type) : Sem (Nat × Nat))).run P w=.ok (g f) w:=fun w f hf=>by
  obtain ⟨j,hj⟩:=List.getElem?_of_mem hf
  have hjl:=(List.getElem?_eq_some_iff.1 hj).1
  simp only [Array.length_toList] at hjl
  obtain ⟨⟨off,u⟩,hn⟩:=cH (l:=fs) (i:=j) (by omega)
  obtain ⟨f',hf',e1,e2⟩:=hfl j off u hn
  have : f'=f:=by
   have : flds.toList[j]?=some f':=by simpa using hf'
   rw [hj] at this;cases this;rfl
  subst this
  have h3:=eS hall hn
  simp only at h3
  split at h3
  ·rename_i ui hu
   rw [← e2] at hu
   simp [run_sizeOf hT hu,g,hu]
  ·cases h3
 refine ⟨flds,flds.map g,hd,fun w=>Cw flds (hrun w),fun i x hx=>?_⟩
 simp only [placeOf] at hx
 split at hx
 ·rename_i off u hn
  obtain ⟨f,hf,e1,e2⟩:=hfl i off u hn
  subst e1;subst e2
  cases hu : T.get f.type with
  | none=>rw [hu] at hx;cases hx
  | some ui =>
   rw [hu] at hx
   cases hx
   simp [hf,g,hu]
 ·cases hx
omit H in
theorem Ey (t : Nat) (parts : Array (Nat × Operand)) {ti : TI} {vs : List SR} {cs : List SC} (hti : T.get t=some ti) (hv : evs tm (parts.toList.map (·.2))=some vs) (hfull : dD SR.full vs=true) (hall : oz T ti.k=true)
  (hc : lu T ti.k ti.zero ((parts.toList.map (·.1)).zip vs)=some cs) : aU P E p g a ⟨dst,.build t parts,type,pos,after,guard⟩ (.v (.agg cs)):=by
 obtain ⟨i,d,z,h1,h2,h3,h4,h5,h6,h7,h8,h9,h10⟩:=(hT.get t ti hti).ex
 have hz : aE (SC.is E p g) ti.zero z.cells.toList:=fJ h7
 have hparts:=pT ht parts.toList vs hv hfull
 have hmap : (parts.map fun (x : Nat × Operand)=>(x.1,a.eval x.2)).toList=parts.toList.map fun x=>(x.1,a.eval x.2):=by simp
 have hzv : ∀ w : World,(zeroValue t).run P w=.ok z w:=fun w=>by simp [zeroValue,typeInfo,h1,h5]
 cases hk : ti.k with
 | struct fs =>
  rw [hk] at hall hc
  obtain ⟨flds,qd,hd,hm,hpl⟩:=Gr hT hti hk hall
  obtain ⟨out,ho,hout⟩:=iN (E:=E) (p:=p) (g:=g) (place:=fun i=>qd[i]?) hpl hc hparts hz
  refine aU.same (v:=.agg out) (fun w=>?_) ⟨out.toList,by simp,hout⟩
  simp only [execOp,Instr.build,Sem.run_bind,hzv w,run_underlying hd,Result.andThen_ok,hm w,hmap]
  simp [ho]
 | array n e =>
  rw [hk] at hc h10
  subst h10
  cases he : T.get e with
  | none=>rw [hk] at hall;simp only [oz,he] at hall;cases hall
  | some ei =>
   obtain ⟨out,ho,hout⟩:=iN (E:=E) (p:=p) (g:=g) (place:=fun i=>some (i * ei.sz,ei.sz)) (fun i x hx=>by
    simp only [placeOf,he,Option.map_some] at hx
    split at hx
    ·exact hx
    ·cases hx) hc hparts hz
   refine aU.same (v:=.agg out) (fun w=>?_) ⟨out.toList,by simp,hout⟩
   simp only [execOp,Instr.build,Sem.run_bind,hzv w,run_underlying h2,Result.andThen_ok,run_sizeOf hT he,hmap]
   simp [ho]
 | slice e=>rw [hk] at hall;cases hall
 | map k v=>rw [hk] at hall;cases hall
 | ptr e=>rw [hk] at hall;cases hall
 | other=>rw [hk] at hall;cases hall
theorem vB (t n : Nat) (parts : Array (Nat × Operand)) {ti ei : TI} {e sa : Nat} {vs : List SR} {cs : List SC} {kd : List Kd} {x : X} (hti : T.get t=some ti) (hk : ti.k=.slice e) (he : T.get e=some ei) (hv : evs tm (parts.toList.map (·.2))=some vs) (hfull : dD SR.full vs=true)
  (hc : lu T (.array n e) (List.replicate (n * ei.sz) .any) ((parts.toList.map (·.1)).zip vs)=some cs) (hz : 0 < ei.sz) (hle : n * ei.sz≤4096) (hkl : kd.length=ei.sz) (hby : n * ei.by_≤B47) (hb0 : 0 < ei.by_) (hx : rowsOf kd ei.sz n cs=some x) (hf : dg h.arrs sa=true) :
  mQ P B E p g h a w ⟨dst,.buildSlice t n parts,type,pos,after,guard⟩ (.v (.one (.sl sa (.int n)))) { h with arrs:=putAt h.arrs sa { e:=e,K:=⟨ei.by_,kd⟩,x:=x}} true:=by
 obtain ⟨i,d,z,h1,h2,h3,h4,h5,h6,h7,h8,h9,h10⟩:=(hT.get t ti hti).ex
 rw [hk] at h10
 subst h10
 obtain ⟨i2,d2,z2,g1,g2,g3,g4,g5,g6,g7,g8,g9,g10⟩:=(hT.get e ei he).ex
 have hparts:=pT ht parts.toList vs hv hfull
 have hmap : (parts.map fun (x : Nat × Operand)=>(x.1,a.eval x.2)).toList=parts.toList.map fun x=>(x.1,a.eval x.2):=by simp
 let zc : Array Value:=if n * ei.sz=0 then #[] else z2.cells
 have hz0 : aE (SC.is E p g) (List.replicate (n * ei.sz) SC.any) ((Array.range (n * ei.sz)).map (zc[· % zc.size]!)).toList:=aE.of (by simp) fun j c v hc _=>by
  rw [aW,List.getElem?_replicate] at hc
  split at hc <;> cases hc
  trivial
 obtain ⟨out,ho,hout⟩:=iN (E:=E) (p:=p) (g:=g) (place:=fun i=>some (i * ei.sz,ei.sz)) (fun i x hx=>by
  simp only [placeOf,he,Option.map_some] at hx
  split at hx
  ·exact hx
  ·cases hx) hc hparts hz0
 have hol : out.size=n * ei.sz:=by
  have : ∀ (l : List (Nat × Value)) (place : Nat→Option (Nat × Nat)) (z o : Array Value),Instr.fill place z l=some o→o.size=z.size:=by
   intro l
   induction l with
   | nil=>intro place z o h;simp only [Instr.fill,Option.some.injEq] at h;rw [← h]
   | cons y l ih =>
    intro place z o h
    obtain ⟨i,v⟩:=y
    simp only [Instr.fill] at h
    split at h
    ·cases h
    ·split at h
     ·cases h
     ·rw [ih _ _ _ h]
      have : ∀ (l : List (Value × Nat)) (z : Array Value) (off : Nat),(l.foldl (fun cs (x : Value × Nat)=>cs.setIfInBounds (off + x.2) x.1) z).size=z.size:=by
       intro l
       induction l with
       | nil=>intro z off;rfl
       | cons y l ih=>intro z off;rw [List.foldl_cons,ih];simp
      rw [← Array.foldl_toList]
      exact this _ _ _
  rw [this _ _ _ _ ho];simp
 have hcl : cs.length=n * ei.sz:=by rw [hout.length,Array.length_toList,hol]
 obtain ⟨rows,r1,r2,r3,r4⟩:=oX hkl hx hout hcl
 have hn : n≤4096:=Nat.le_trans (Nat.le_mul_of_pos_right n hz) hle
 have hbel : Below w.heap.size w (w.alloc (.cells out e)):=(Below.refl _ _).alloc (Nat.le_refl _) _
 obtain ⟨q,q1,q2,q3,q4⟩:=H.Dq hf (A:={ e:=e,K:=⟨ei.by_,kd⟩,x:=x}) (cap:=n) (cur:=out) r1 (by omega) (by simp only [maxLen];omega) (by rw [r2];exact hby) (by simp only;omega) hb0 (by simp only;rw [hkl];exact hol)
  (fun i row hi=>by simp only;rw [hkl];exact aJ.mono (Gm.Le.refl _) _ _ _ _ (fun j v hv=>by simpa using hv) (r3 i row hi)) hbel (heap_alloc_new w _) (fun i j e' row v hi hj hv=>by
   simp only at hv hj
   rw [hkl] at hv
   exact r4 i j e' row v hi hj (by simpa using hv))
 refine ⟨.slice (some ⟨w.heap.size,0,none⟩) n n,_,q,?_,q3,⟨_,n,n,q2,rfl,Nat.le_refl _,rfl⟩,q1,by simp,fun _=>⟨dY hbel,q4⟩⟩
 have hno : ¬ (n * ei.sz > 2 ^ 24):=by omega
 simp only [execOp,Instr.buildSlice,Sem.run_bind,run_underlying h2,Result.andThen_ok,run_sizeOf hT he,hmap]
 by_cases h0 : n * ei.sz=0
 ·have hzc : zc=#[]:=if_pos h0
  rw [hzc] at ho
  have hn0 : n=0:=by
   rcases Nat.mul_eq_zero.1 h0 with h | h
   ·exact h
   ·omega
  subst hn0
  simp only [Nat.zero_mul] at ho ⊢
  simp at ho
  simp [ho,newRow]
 ·have hzc : zc=z2.cells:=if_neg h0
  rw [hzc] at ho
  have hzr : (zeroValue e).run P w=.ok z2 w:=by simp [zeroValue,typeInfo,g1,g5]
  simp [hno,h0,hzr,ho,newRow]
theorem wJ (t : Nat) (x y : Operand) {ti ei : TI} {e sa : Nat} {n m : X} {kd : List Kd} {zd : List X} (hti : T.get t=some ti) (hk : ti.k=.slice e) (he : T.get e=some ei) (hx : ev tm x=some (.v (.one (.int .i64 n)))) (hy : ev tm y=some (.v (.one (.int .i64 m)))) (hnm : X.same n m=true)
  (hz : 0 < ei.sz) (hzd : cj kd ei.zero=some zd) (hkl : kd.length=ei.sz) (hb0 : 0 < ei.by_) (hn : ∀ b∈[mkLe (.int 0) n,mkLe n (.int (B47 / ei.by_))],(b.den E).bool=true) (hf : dg h.arrs sa=true) :
  mQ P B E p g h a w ⟨dst,.makeSlice t x y,type,pos,after,guard⟩ (.v (.one (.sl sa n))) { h with arrs:=putAt h.arrs sa { e:=e,K:=⟨ei.by_,kd⟩,x:=.rep n (iC zd)}} true:=by
 have e1:=X.av hnm
 subst e1
 obtain ⟨k,c1,ix⟩:=(bw ht hx : ∃ k,n.den E=.i k∧a.eval x=.int .i64 k)
 obtain ⟨k',c2,iy⟩:=(bw ht hy : ∃ k,n.den E=.i k∧a.eval y=.int .i64 k)
 rw [c1] at c2
 cases c2
 have h0:=hn (mkLe (.int 0) n) (by simp)
 have h1:=hn (mkLe n (.int (B47 / ei.by_))) (by simp)
 rw [bz,c1] at h0 h1
 have h0:=of_decide_eq_true h0
 have h1:=of_decide_eq_true h1
 simp only [X.den,CD.aR] at h0 h1
 obtain ⟨m,rfl⟩ : ∃ m : Nat,k=m:=⟨k.toNat,by omega⟩
 have h1 : m≤B47 / ei.by_:=by omega
 have hmb : m * ei.by_≤B47:=by
  have:=Nat.mul_le_mul_right ei.by_ h1
  exact Nat.le_trans this (Nat.div_mul_le_self _ _)
 have hm : m≤B47:=Nat.le_trans (Nat.le_mul_of_pos_right m hb0) hmb
 obtain ⟨i,d,z,k1,k2,_,_,_,_,_,_,_,k10⟩:=(hT.get t ti hti).ex
 rw [hk] at k10
 subst k10
 obtain ⟨i2,d2,z2,g1,g2,g3,g4,g5,g6,g7,g8,g9,g10⟩:=(hT.get e ei he).ex
 have hbytes : (i2.bytes : Int) * (m : Int)≤281474976710656:=by
  have h2 : i2.bytes * m≤140737488355328:=by rw [g4,Nat.mul_comm];exact hmb
  have h3 : ((i2.bytes * m : Nat) : Int)≤140737488355328:=by omega
  rw [Int.natCast_mul] at h3
  omega
 have hr:=run_make (P:=P) w t e i2 z2 k2 g1 g5 .i64 .i64 (m : Int) (m : Int) h0 (Int.le_refl _) hbytes (by simp only [B47] at hm;omega)
 simp only [Int.toNat_natCast] at hr
 have hzv : aE (SC.is E p g) ei.zero z2.cells.toList:=fJ g7
 have hzl : z2.cells.size=ei.sz:=by omega
 have hbel : Below w.heap.size w (w.alloc (.cells (madeCells z2.cells (m * i2.size)) e)):=(Below.refl _ _).alloc (Nat.le_refl _) _
 obtain ⟨q,q1,q2,q3,q4⟩:=H.Dq hf (A:={ e:=e,K:=⟨ei.by_,kd⟩,x:=.rep n (iC zd)}) (rows:=List.replicate m (zd.map (X.den E))) (cap:=m) (cur:=madeCells z2.cells (m * i2.size)) (by simp [X.den,c1,gK,CD.row]) (by simp) (by simp only [maxLen];simp only [B47] at hm;omega) (by simpa using hmb) (by simp only;omega) hb0 (by simp only;rw [hkl,← g3];simp [madeCells])
  (fun i row hi=>by
   rw [List.getElem?_replicate] at hi
   split at hi
   ·rename_i him
    cases hi
    simp only
    refine lV hzd hzv fun j v hv=>?_
    have hj : j < z2.cells.size:=by simpa using (List.getElem?_eq_some_iff.1 hv).1
    have hlt : i * kd.length + j < m * i2.size:=by rw [hkl,g3];exact dG (by omega) him
    have hmod : (i * kd.length + j) % z2.cells.size=j:=by rw [hkl,hzl,Nat.mul_comm,Nat.mul_add_mod,Nat.mod_eq_of_lt (by omega)]
    simp only [madeCells,Array.getElem?_map,Array.getElem?_range,hlt,if_true,Option.map_some,hmod]
    rw [getElem!_pos z2.cells j hj]
    have hv : z2.cells[j]?=some v:=by simpa using hv
    rw [Array.getElem?_eq_getElem hj] at hv
    exact hv
   ·cases hi) hbel (heap_alloc_new w _) (fun i j e' row v hi hj hv=>by
   rw [List.getElem?_replicate] at hi
   split at hi
   ·rename_i him
    cases hi
    simp only at hv hj
    have hjz : j < kd.length:=(List.getElem?_eq_some_iff.1 hj).1
    have hj' : j < z2.cells.size:=by omega
    have hlt : i * kd.length + j < m * i2.size:=by rw [hkl,g3];exact dG (by omega) him
    have hmod : (i * kd.length + j) % z2.cells.size=j:=by rw [hkl,hzl,Nat.mul_comm,Nat.mul_add_mod,Nat.mod_eq_of_lt (by omega)]
    simp only [madeCells,Array.getElem?_map,Array.getElem?_range,hlt,if_true,Option.map_some,hmod] at hv
    rw [getElem!_pos z2.cells j hj'] at hv
    obtain ⟨d1,d2,d3⟩:=fI hzd hzv
    obtain ⟨v',x0,k1,k2,_⟩:=d3 j _ hj
    have hv' : z2.cells.toList[j]?=some v:=by simpa [Array.getElem?_eq_getElem hj'] using hv
    have:=iH hzd hzv j e' v x0 hj hv' k2
    simpa [List.getD_eq_getElem?_getD,k2] using this
   ·cases hi)
 refine ⟨.slice (some ⟨w.heap.size,0,none⟩) m m,_,q,?_,q3,⟨_,m,m,q2,c1,Nat.le_refl _,rfl⟩,q1,by simp,fun _=>⟨dY hbel,q4⟩⟩
 simp [execOp,ix,iy,hr]
omit H ht in
theorem pZ (t : Nat) {ti ei : TI} {e : Nat} (hti : T.get t=some ti) (hk : ti.k=.slice e) (he : T.get e=some ei) (A : Option Addr) (n c l m : Nat) (hlm : l≤m) (hmc : m≤c) (x : Operand) (lo hi : Option Operand) (ix : a.eval x=.slice A n c)
  (hlo : (lo=none∧l=0)∨∃ y,lo=some y∧a.eval y=.int .i64 l) (hhi : (hi=none∧m=n)∨∃ y,hi=some y∧a.eval y=.int .i64 m) (w : World) :
  (execOp a.eval ⟨dst,.slice t x lo hi none,type,pos,after,guard⟩).run P w=.ok (.value (.slice (if c=l then A else A.map (·.add (l * ei.sz))) (m - l) (c - l))) w:=by
 obtain ⟨_,d,z,_,hu,_,_,_,_,_,_,_,h10⟩:=(hT.get t ti hti).ex
 rw [hk] at h10
 subst h10
 have hlc : l≤c:=Nat.le_trans hlm hmc
 rcases hlo with ⟨rfl,rfl⟩ | ⟨y,rfl,iy⟩ <;> rcases hhi with ⟨rfl,rfl⟩ | ⟨y2,rfl,iy2⟩
 ·simp [execOp,ix,Instr.sliceAt,run_underlying hu,Instr.slice,Instr.sliceBounds,run_sizeOf hT he]
 ·simp [execOp,ix,iy2,Instr.sliceAt,run_underlying hu,Instr.slice,Instr.sliceBounds,Instr.sliceBound,asIntOf,hmc,run_sizeOf hT he]
 ·simp [execOp,ix,iy,Instr.sliceAt,run_underlying hu,Instr.slice,Instr.sliceBounds,Instr.sliceBound,asIntOf,hlm,run_sizeOf hT he]
 ·simp [execOp,ix,iy,iy2,Instr.sliceAt,run_underlying hu,Instr.slice,Instr.sliceBounds,Instr.sliceBound,asIntOf,hlm,hmc,run_sizeOf hT he]
end
end Go.Sy

namespace Go.Sy
open Go.RowKit
section
variable {P : Program} {T : TT} {B : cT} {E : Env} {p : Pl} {g : Gm} {h : Hp} {tm : List SR} {a : Act} {w : World}
variable (H : bq B E p g h w) (ht : ∀ i c,nth tm i=some c→c.is E p g (a.tmps.getD i Go.undef)) (dst : Option Tmp) (type : TypeId) (pos : String) (after : Array Edge) (guard : Option (Nat × Bool)) (hT : TOk P T)
def vA (E : Env) (a : Act) (o : Option Operand) (x : X) : Prop:=∃ k,x.den E=.i k∧((o=none∧k=0)∨∃ y,o=some y∧a.eval y=.int .i64 k)
include ht hT
theorem uD (t : Nat) (x : Operand) (lo hi : Option Operand) {b e : Nat} {n m lx : X} {ti ei : TI} (hti : T.get t=some ti) (hk : ti.k=.slice e) (he : T.get e=some ei) (hx : ev tm x=some (.v (.one (.sl b n)))) (hlo : vA E a lo lx) (hl0 : lx=.int 0)
  (hhi : (hi=none∧m=n)∨∃ y,hi=some y∧ev tm y=some (.v (.one (.int .i64 m)))∧((mkLe (.int 0) m).den E).bool=true∧((mkLe m n).den E).bool=true) :
  aU P E p g a ⟨dst,.slice t x lo hi none,type,pos,after,guard⟩ (.v (.one (.sl b m))):=by
 obtain ⟨A,c,k,c1,c2,c3,ix⟩:=(bw ht hx : ∃ (A : Option Addr) (c m : Nat),p.arr b=some (A,c)∧n.den E=.i m∧m≤c∧a.eval x=.slice A m c)
 subst hl0
 obtain ⟨l,l1,l2⟩:=hlo
 simp only [X.den,CD.i.injEq] at l1
 subst l1
 have hmk : ∃ k' : Nat,m.den E=.i k'∧k'≤c∧((hi=none∧k'=k)∨∃ y,hi=some y∧a.eval y=.int .i64 k'):=by
  rcases hhi with ⟨e1,e2⟩ | ⟨y,e1,e2,e3,e4⟩
  ·subst e2;exact ⟨k,c2,c3,.inl ⟨e1,rfl⟩⟩
  ·obtain ⟨u,u1,u2⟩:=(bw ht e2 : ∃ u,m.den E=.i u∧a.eval y=.int .i64 u)
   rw [bz,u1] at e3 e4
   rw [c2] at e4
   have e3:=of_decide_eq_true e3
   have e4:=of_decide_eq_true e4
   simp only [X.den,CD.aR] at e3 e4
   have hu0 : ((u.toNat : Nat) : Int)=u:=Int.toNat_of_nonneg e3
   exact ⟨u.toNat,by rw [u1,hu0],by omega,.inr ⟨y,e1,by rw [u2,hu0]⟩⟩
 obtain ⟨k',m1,m2,m3⟩:=hmk
 have hr:=fun w=>pZ (P:=P) (T:=T) (a:=a) dst type pos after guard hT t hti hk he A k c 0 k' (Nat.zero_le _) m2 x lo hi ix (by rcases l2 with ⟨e,_⟩ | ⟨y,e,e2⟩;exact .inl ⟨e,rfl⟩;exact .inr ⟨y,e,by simpa using e2⟩) m3 w
 refine aU.same (v:=.slice (if c=0 then A else A.map (·.add (0 * ei.sz))) (k' - 0) (c - 0)) hr ⟨A,c,k',c1,m1,m2,?_⟩
 have : A.map (fun y=>y.add (0 * ei.sz))=A:=by cases A <;> simp [Addr.add]
 rw [this]
 simp
theorem uE (t : Nat) (x : Operand) (lo hi : Option Operand) {K : SK} {e : Nat} {u m lx : X} {ti ei : TI} (hti : T.get t=some ti) (hk : ti.k=.slice e) (he : T.get e=some ei) (hx : ev tm x=some (.v (.one (.fz K u)))) (hlo : vA E a lo lx) (hz : K.kd.length=ei.sz)
  (hn : ((mkLe (.int 0) lx).den E).bool=true) {r : X} (hhi : (hi=none∧r=qj lx u∧((mkLe lx (bn u)).den E).bool=true)∨∃ y,hi=some y∧r=qj lx (dc m u)∧ev tm y=some (.v (.one (.int .i64 m)))∧((mkLe lx m).den E).bool=true∧((mkLe m (bn u)).den E).bool=true) :
  aU P E p g a ⟨dst,.slice t x lo hi none,type,pos,after,guard⟩ (.v (.one (.fz K r))):=by
 have hr:=bw ht hx
 simp only [SR.is,SV.is,SC.is,Rd] at hr
 obtain ⟨A,n,c,rows,ix,e1,e2,e3,e4,e5,e6⟩:=hr
 obtain ⟨l,l1,l2⟩:=hlo
 rw [bz,l1] at hn
 have hn:=of_decide_eq_true hn
 simp only [X.den,CD.aR] at hn
 obtain ⟨l,rfl⟩ : ∃ l' : Nat,l=l':=⟨l.toNat,by omega⟩
 have hmk : ∃ k' : Nat,l≤k'∧k'≤n∧r.den E=.l ((rows.take k').drop l)∧((hi=none∧k'=n)∨∃ y,hi=some y∧a.eval y=.int .i64 k'):=by
  rcases hhi with ⟨f1,f2,f3⟩ | ⟨y,f1,f2,f3,f4,f5⟩
  ·rw [bz,ba,e1,l1] at f3
   have f3:=of_decide_eq_true f3
   simp only [CD.aR,CD.ax] at f3
   refine ⟨n,by omega,Nat.le_refl _,?_,.inl ⟨f1,rfl⟩⟩
   rw [f2,Ki e1,l1,CD.aR,Int.toNat_natCast,List.take_of_length_le (by omega)]
  ·obtain ⟨v,u1,u2⟩:=(bw ht f3 : ∃ v,m.den E=.i v∧a.eval y=.int .i64 v)
   rw [bz,u1,l1] at f4
   rw [bz,ba,u1,e1] at f5
   have f4:=of_decide_eq_true f4
   have f5:=of_decide_eq_true f5
   simp only [CD.aR,CD.ax] at f4 f5
   obtain ⟨v,rfl⟩ : ∃ v' : Nat,v=v':=⟨v.toNat,by omega⟩
   refine ⟨v,by omega,by omega,?_,.inr ⟨y,f1,u2⟩⟩
   rw [f2,Ki (db e1),l1,u1,CD.aR,CD.aR,Int.toNat_natCast,Int.toNat_natCast]
 obtain ⟨k,k1,k2,k3,k4⟩:=hmk
 have hr:=fun w=>pZ (P:=P) (T:=T) (a:=a) dst type pos after guard hT t hti hk he A n c l k k1 (by omega) x lo hi ix (by rcases l2 with ⟨e,e0⟩ | ⟨y,e,e2⟩;exact .inl ⟨e,by omega⟩;exact .inr ⟨y,e,e2⟩) k4 w
 refine aU.same (v:=.slice (if c=l then A else A.map (·.add (l * ei.sz))) (k - l) (c - l)) hr ?_
 simp only [SR.is,SV.is,SC.is,Rd]
 refine ⟨_,_,_,_,rfl,k3,by simp;omega,by omega,by omega,Nat.le_trans (Nat.mul_le_mul_right _ (by omega)) e5,fun hpos=>?_⟩
 obtain ⟨b,q,e7,e8⟩:=e6 (by omega)
 subst e7
 rw [if_neg (by omega)]
 refine ⟨b,q + l * ei.sz,by rw [Option.map_some,et],fun i row hi=>?_⟩
 rw [List.getElem?_drop,List.getElem?_take] at hi
 split at hi
 ·have:=e8 _ row hi
  rw [hz] at this ⊢
  have ef : (fun j=>g b (q + l * ei.sz + (i * ei.sz + j)))=fun j=>g b (q + ((l + i) * ei.sz + j)):=by funext j;rw [Nat.add_mul];congr 1;omega
  rw [ef]
  exact this
 ·cases hi
theorem iE (t : Nat) (x y z : Operand) (lo : Option Operand) {e : Nat} {c : SC} {ti ei : TI} (hti : T.get t=some ti) (hk : ti.k=.slice e) (he : T.get e=some ei) (hx : ev tm x=some (.v (.one c))) (hc : (∃ K u,c=.fz K u)∨(∃ b n,c=.sl b n)∨c=.nilsl∨c=.z0)
  (hlo : vA E a lo (.int 0)) (hy : ev tm y=some (.v (.one (.int .i64 (.int (.ofNat 0)))))) (hz : ev tm z=some (.v (.one (.int .i64 (.int (.ofNat 0)))))) :
  aU P E p g a ⟨dst,.slice t x lo (some y) (some z),type,pos,after,guard⟩ (.v (.one .z0)):=by
 have ix : SC.is E p g c (a.eval x):=bw ht hx
 have key : ∃ A m cc,a.eval x=.slice A m cc:=by
  rcases hc with ⟨K,u,rfl⟩ | ⟨b,n,rfl⟩ | rfl | rfl
  ·simp only [SC.is,Rd] at ix
   obtain ⟨A,m,cc,rows,e0,_⟩:=ix
   exact ⟨A,m,cc,e0⟩
  ·obtain ⟨A,cc,m,_,_,_,h3⟩:=ix;exact ⟨A,m,cc,h3⟩
  ·exact ⟨none,0,0,ix⟩
  ·obtain ⟨A,e0⟩:=ix;exact ⟨A,0,0,e0⟩
 obtain ⟨A,m,cc,ix⟩:=key
 obtain ⟨_,h1,iy⟩:=(bw ht hy : ∃ k,(X.int (.ofNat 0)).den E=.i k∧a.eval y=.int .i64 k)
 obtain ⟨_,h2,iz⟩:=(bw ht hz : ∃ k,(X.int (.ofNat 0)).den E=.i k∧a.eval z=.int .i64 k)
 simp only [X.den,CD.i.injEq] at h1 h2
 subst h1;subst h2
 obtain ⟨l,l1,l2⟩:=hlo
 simp only [X.den,CD.i.injEq] at l1
 subst l1
 obtain ⟨_,d,z',_,hu,_,_,_,_,_,_,_,h10⟩:=(hT.get t ti hti).ex
 rw [hk] at h10
 subst h10
 refine aU.same (v:=.slice A 0 0) (fun w=>?_) ⟨A,rfl⟩
 rcases l2 with ⟨rfl,_⟩ | ⟨y',rfl,il⟩
 ·simp [execOp,ix,iy,iz,Instr.sliceAt,run_underlying hu,Instr.slice,Instr.sliceBounds,Instr.sliceBound,asIntOf,run_sizeOf hT he]
 ·simp [execOp,ix,iy,iz,il,Instr.sliceAt,run_underlying hu,Instr.slice,Instr.sliceBounds,Instr.sliceBound,asIntOf,run_sizeOf hT he]
include H
theorem sf (x y : Operand) {t e sa : Nat} {ti ei : TI} {kd : List Kd} {xc yc : SC} {ns ns' : List X} {dy d nn : X} {h1 : Hp} {qu : Bool} (hti : T.get t=some ti) (hk : ti.k=.slice e) (he : T.get e=some ei) (hkd : kd.length=ei.sz) (hz : 0 < ei.sz) (hb0 : 0 < ei.by_)
  (hx : ev tm x=some (.v (.one xc))) (hy : ev tm y=some (.v (.one yc))) (hsl : nZ h ⟨ei.by_,kd⟩ yc=some (ns,dy)) (hns : ∀ b∈ns,(b.den E).bool=true) (hf : dg h.arrs sa=true)
  (hxc : ((xc=.nilsl∨xc=.z0)∧h1={ h with arrs:=fg kd h.arrs yc}∧d=dy∧nn=bn dy∧ns'=[mkLe (bn dy) (.int (zi ⟨ei.by_,kd⟩))]∧(qu=true→iM kd=true)) ∨
   ∃ b n A,xc=.sl b n∧nth h.arrs b=some (.here A)∧A.K=⟨ei.by_,kd⟩∧A.e=e∧(∀ c n',yc=.sl c n'→b≠c)∧h1={ h with arrs:=fg kd (bl h.arrs b .go) yc}∧d=.app (dc n A.x) dy∧nn=mkAdd n (bn dy)∧ns'=[mkLe n (bn A.x),mkLe (mkAdd n (bn dy)) (.int (zi ⟨ei.by_,kd⟩))]∧(qu=true→iM kd=true∧X.same n (bn A.x)=true))
  (hns' : ∀ b∈ns',(b.den E).bool=true) :
  mQ P B E p g h a w ⟨dst,.call { callee:=.builtin .append,args:=#[x,y],argTypes:=#[t,t]},type,pos,after,guard⟩ (.v (.one (.sl sa nn))) { h1 with arrs:=putAt h1.arrs sa { e:=e,K:=⟨ei.by_,kd⟩,x:=d}} qu:=by
 obtain ⟨i1,d1,z1,k1,k2,_,_,_,_,_,_,_,k10⟩:=(hT.get t ti hti).ex
 rw [hk] at k10
 subst k10
 obtain ⟨i2,d2,z2,g1,g2,g3,g4,g5,g6,g7,g8,g9,g10⟩:=(hT.get e ei he).ex
 have iy : SC.is E p g yc (a.eval y):=bw ht hy
 have ix : SC.is E p g xc (a.eval x):=bw ht hx
 obtain ⟨Ay,m,cc,rows,news,y1,y2,y3,y4,y5,y6,y7,y8,y9,y10,y11⟩:=oV H hsl iy hns
 simp only at y6 y7 y10 y11
 have hone : ∀ u∈news,u.oneCell'=true:=fun u hu=>by
  obtain ⟨idx,hidx⟩:=List.getElem?_of_mem hu
  have hlt:=(List.getElem?_eq_some_iff.1 hidx).1
  rw [y7,hkd] at hlt
  have hdiv : idx=(idx / ei.sz) * ei.sz + idx % ei.sz:=by rw [Nat.mul_comm];exact (Nat.div_add_mod idx ei.sz).symm
  have hi : idx / ei.sz < m:=Nat.div_lt_of_lt_mul (by rw [Nat.mul_comm];exact hlt)
  have hj:=Nat.mod_lt idx hz
  obtain ⟨row,hr⟩ : ∃ row,rows[idx / ei.sz]?=some row:=⟨_,List.getElem?_eq_getElem (by omega)⟩
  obtain ⟨k,hk⟩ : ∃ k,kd[idx % ei.sz]?=some k:=⟨_,List.getElem?_eq_getElem (by omega)⟩
  obtain ⟨v,hv,hrd⟩:=(y10 _ row hr).cell hk
  rw [hkd,← hdiv,hidx] at hv
  cases hv
  exact hrd.one
 have hsrc : Src P i2.size t (a.eval y) m news w:=by
  rw [y1]
  cases Ay with
  | none =>
   have:=y8 rfl
   subst this
   have : news=[]:=List.eq_nil_of_length_eq_zero (by simpa using y7)
   subst this
   exact Src.ofNil w k2 cc
  | some ad =>
   obtain ⟨b,q,s⟩:=ad
   refine Src.ofSlice w k2 _ m cc news (by rw [y7,hkd,g3]) (fun j u hj=>?_) hone
   rcases Nat.eq_zero_or_pos m with h0 | h0
   ·rw [h0,Nat.zero_mul] at y7
    have:=List.eq_nil_of_length_eq_zero y7
    subst this
    simp at hj
   ·obtain ⟨f1,f2⟩:=y9 b q s rfl h0
    subst f1
    rw [et]
    exact f2 j u hj w (bj.refl _ _ _ _)
 have hpre : ∃ (A : Option Addr) (n cap0 : Nat) (cur : Array Value) (rows0 : List (List CD)) (bo : Nat),a.eval x=.slice A n cap0∧n≤cap0∧cap0≤maxLen∧(0 < cap0→∃ b,A=some ⟨b,0,none⟩∧w.heap[b]?=some (.cells cur e (0,0))∧cur.size=cap0 * i2.size) ∧
   rows0.length=n∧d.den E=.l (rows0 ++ rows)∧nn.den E=.i ((n + m : Nat) : Int)∧(n + m) * ei.by_≤B47∧(∀ i row,rows0[i]?=some row→aJ g kd (fun j=>cur[i * kd.length + j]?) row) ∧
   bq B E p g h1 w∧dg h1.arrs sa=true∧(∀ b,A=some ⟨b,0,none⟩→0 < cap0→(∀ j,j < cur.size→B.wr b j)∧p.ow b=.arr bo)∧bo≠sa∧(∀ A',nth h1.arrs bo≠some (.here A')) ∧
   (∀ r cs,nth h1.regs r=some (.here cs)↔nth h.regs r=some (.here cs)) ∧
   (qu=true→∀ s A',nth h.arrs s=some (.here A')→nth h1.arrs s=some (.here A')∨(s=bo∧p.arr s=some (A,cap0)∧A'.K.kd.length=ei.sz∧(A'.x.den E).rows.length=n)) ∧
   (∀ (i j e' : Nat) row v,rows0[i]?=some row→kd[j]?=some (.os e')→cur[i * kd.length + j]?=some v→jG B p g bo i j e' w v (row.getD j .u)):=by
  have hcs : ∀ c n',yc=.sl c n'→c≠sa:=fun c n' e=>by
   subst e
   unfold nZ at hsl
   simp only at hsl
   split at hsl
   ·rename_i A0 hA0
    rintro rfl
    rcases fT hf with h | h <;> rw [hA0] at h <;> cases h
   ·cases hsl
  have hdl : ∀ {arrs : List (Pc Ar)},bq B E p g { h with arrs:=arrs} w→bq B E p g { h with arrs:=fg kd arrs yc} w:=fun {arrs} H=>by
   unfold fg
   split
   ·split
    ·exact H
    ·exact H.Bc _
   ·exact H
  have hdf : ∀ {arrs : List (Pc Ar)},dg arrs sa=true→dg (fg kd arrs yc) sa=true:=fun {arrs} hf=>by
   unfold fg
   split
   ·split
    ·exact hf
    ·rename_i c n' _
     have hc:=hcs c n' rfl
     simp only [dg,Bool.or_eq_true] at hf ⊢
     rcases hf with hf | hf
     ·left;rw [cL];exact hf
     ·right;rw [aS,if_neg hc];exact hf
   ·exact hf
  have hdg : ∀ {arrs : List (Pc Ar)} {s A'},nth (fg kd arrs yc) s=some (.here A')→nth arrs s=some (.here A'):=fun {arrs s A'} hs=>by
   unfold fg at hs
   split at hs
   ·split at hs
    ·exact hs
    ·rw [aS] at hs
     split at hs
     ·split at hs <;> cases hs
     ·exact hs
   ·exact hs
  have hdn : ∀ {arrs : List (Pc Ar)},iM kd=true→fg kd arrs yc=arrs:=fun {arrs} hn=>by
   unfold fg
   split
   ·rw [if_pos hn]
   ·rfl
  rcases hxc with ⟨e0,e1,e2,e3,e4,e5⟩ | ⟨b,n,A,e0,e1,e2,e3,e4,e5,e6,e7,e8,e9⟩
  ·have hx0 : ∃ A,a.eval x=.slice A 0 0:=by
    rcases e0 with rfl | rfl
    ·exact ⟨none,ix⟩
    ·exact ix
   obtain ⟨A,hA⟩:=hx0
   subst e1;subst e2;subst e3;subst e4
   have hmost:=hns' _ (List.mem_singleton.2 rfl)
   rw [bz,ba,y2] at hmost
   have hmost:=of_decide_eq_true hmost
   simp only [X.den,CD.aR,CD.ax,zi] at hmost
   refine ⟨A,0,0,#[],[],h.arrs.length + 1 + sa,hA,Nat.le_refl _,Nat.zero_le _,fun h=>absurd h (Nat.lt_irrefl 0),rfl,by simpa using y2,by rw [ba,y2,CD.ax,y3,Nat.zero_add],?_,fun i row h=>by simp at h,hdl H,hdf hf,fun b _ h=>absurd h (Nat.lt_irrefl 0),by omega,fun A' h=>(by
    have h:=hdg h
    rw [dt (by omega)] at h;cases h),fun _ _=>Iff.rfl,fun hq _ _ h=>.inl (by rw [hdn (e5 hq)];exact h),fun i j e' row v h=>by simp at h⟩
   rw [Nat.zero_add]
   exact y6
  ·subst e0
   obtain ⟨ad,cap,mm,c1,c2,c3,c4⟩:=(id ix : ∃ (A : Option Addr) (c m : Nat),p.arr b=some (A,c)∧n.den E=.i m∧m≤c∧a.eval x=.slice A m c)
   obtain ⟨ad',cap',rows0,r1,r2,r3,r4,r5,r6,r7,r8⟩:=(H.arr b A e1).ex
   rw [c1] at r1
   cases r1
   subst e5;subst e6;subst e7;subst e8
   have n1:=hns' (mkLe n (bn A.x)) (by simp)
   have n2:=hns' (mkLe (mkAdd n (bn dy)) (.int (zi ⟨ei.by_,kd⟩))) (by simp)
   rw [bz,ba,r2,c2] at n1
   rw [bz,eV,ba,y2,c2] at n2
   have n1:=of_decide_eq_true n1
   have n2:=of_decide_eq_true n2
   simp only [X.den,CD.aR,CD.ax,zi] at n1 n2
   have n1 : mm≤rows0.length:=by omega
   have n2 : mm + m≤B47 / ei.by_:=by omega
   have hne : sa≠b:=by
    rintro rfl
    rcases fT hf with h | h <;> rw [e1] at h <;> cases h
   have hfree : dg (bl h.arrs b .go) sa=true:=by
    simp only [dg,Bool.or_eq_true] at hf ⊢
    rcases hf with hf | hf
    ·left;rw [cL];exact hf
    ·right;rw [aS,if_neg (fun e=>hne e.symm)];exact hf
   have hAl : A.K.kd.length=ei.sz:=by rw [e2];exact hkd
   have hblk : ∃ cur : Array Value,0 < cap→∃ b',ad=some ⟨b',0,none⟩∧p.ow b'=.arr b∧w.heap[b']?=some (.cells cur e (0,0))∧cur.size=cap * i2.size∧(∀ i,i < cur.size→B.wr b' i)∧∀ i row,rows0[i]?=some row→aJ g kd (fun j=>cur[i * kd.length + j]?) row:=by
    by_cases h0 : 0 < cap
    ·obtain ⟨b',cur,s1,s2,s3,s4,s5,s6⟩:=r8 h0
     refine ⟨cur,fun _=>⟨b',s1,s2,by rw [← e3];exact s3,by rw [s4,hAl,g3],s5,fun i row hi=>?_⟩⟩
     have:=s6 i row hi
     rw [e2] at this
     exact this
    ·exact ⟨#[],fun h=>absurd h h0⟩
   obtain ⟨cur,hcur⟩:=hblk
   refine ⟨ad,mm,cap,cur,rows0.take mm,b,c4,c3,r4,fun h0=>?_,by rw [List.length_take];omega,by simp only [X.den];rw [db r2,c2,y2];simp,by rw [eV,ba,y2,c2];simp [y3],?_,fun i row hi=>?_,hdl (H.Bc b),hdf hfree,fun b' hb' h0=>?_,fun e=>hne e.symm,fun A' h2=>?_,fun _ _=>Iff.rfl,fun hq s A' hs=>?_,fun i j e' row v hi hj hv=>?_⟩
   ·obtain ⟨b',s1,_,s3,s4,_⟩:=hcur h0
    exact ⟨b',s1,s3,s4⟩
   ·have:=Nat.mul_le_mul_right ei.by_ n2
    exact Nat.le_trans this (Nat.div_mul_le_self _ _)
   ·rw [List.getElem?_take] at hi
    split at hi
    ·have h0 : 0 < cap:=by have:=(List.getElem?_eq_some_iff.1 hi).1;omega
     obtain ⟨b',s1,_,s3,s4,_,s6⟩:=hcur h0
     exact s6 i row hi
    ·cases hi
   ·obtain ⟨b2,s1,s2,_,_,s5,_⟩:=hcur h0
    rw [hb'] at s1
    cases s1
    exact ⟨s5,s2⟩
   ·have h2:=hdg h2
    rw [aS,if_pos rfl] at h2
    split at h2 <;> cases h2
   ·obtain ⟨hq1,hq2⟩:=e9 hq
    by_cases hsb : s=b
    ·subst hsb
     right
     refine ⟨rfl,c1,?_,?_⟩
     ·rw [e1] at hs;cases hs;exact hAl
     ·rw [e1] at hs
      cases hs
      have h9:=X.av hq2
      rw [h9,ba] at c2
      simp only [CD.i.injEq] at c2
      omega
    ·left
     show nth (fg kd (bl h.arrs b .go) yc) s=_
     rw [hdn hq1,aS,if_neg (fun e=>hsb e.symm)]
     exact hs
   ·rw [List.getElem?_take] at hi
    split at hi
    ·have h0 : 0 < cap:=by have:=(List.getElem?_eq_some_iff.1 hi).1;omega
     obtain ⟨b2,s1,s2,s3,_,_,_⟩:=hcur h0
     subst s1
     have hkl : A.K.kd=kd:=by rw [e2]
     refine (H.arr b A e1).ns j e' b2 cap rows0 (by rw [hkl];exact hj) c1 r2 i row v hi ?_
     rw [hkl]
     simp [World.cell?,s3,hv]
    ·cases hi
 obtain ⟨A,n,cap0,cur,rows0,bo,p1,p2,p3,p4,p5,p6,p7,p8,p9,p10,p11,p12,p16,p17,p13,p15,p20⟩:=hpre
 clear hxc hns' hns
 have hm63 : n + m≤maxLen:=by
  have : n + m≤(n + m) * ei.by_:=Nat.le_mul_of_pos_right _ hb0
  simp only [maxLen];simp only [B47] at p8;omega
 obtain ⟨A',cap',w',hrun,q1,q2,q3⟩:=EF (P:=P) w t type e i2 z2 k2 g1 g5 (by rw [g6,g3]) A n cap0 p2 p3 cur p4 (a.eval y) m news hsrc hm63 (by rw [g4];exact p8)
 have hT1 : ∃ Mc : Nat→Nat→Prop,cd Mc w w'∧(∀ k j,Mc k j→A=some ⟨k,0,none⟩∧0 < cap0∧n * i2.size≤j):=by
  rcases q3 with ⟨_,e2⟩ | ⟨b,cur',_,_,_,_,_,_,⟨_,hb⟩ | ⟨hb1,hb2,hb3⟩⟩
  ·subst e2;exact ⟨fun _ _=>False,cd.refl _ _,fun _ _ h=>h.elim⟩
  ·exact ⟨fun _ _=>False,cd.IQ hb,fun _ _ h=>h.elim⟩
  ·exact ⟨_,hb3,fun k j ⟨e,hj⟩=>by subst e;exact ⟨hb1,hb2,hj⟩⟩
 obtain ⟨Mc,hT1,hT2⟩:=hT1
 have hsz : 0 < i2.size:=by omega
 let Mc' : Nat→Nat→Prop:=fun k j=>Mc k j∧j < cur.size
 have hT1' : cd Mc' w w':=⟨hT1.os,hT1.tape,hT1.output,hT1.size,fun k o hk=>by
  obtain ⟨o',h1',h2'⟩:=hT1.obj k o hk
  refine ⟨o',h1',?_⟩
  cases o with
  | cells c e' f =>
   obtain ⟨c',rfl,s1,s2⟩:=h2'
   refine ⟨c',rfl,s1,fun i hi=>?_⟩
   by_cases hm : Mc k i
   ·obtain ⟨a1,a2,_⟩:=hT2 k i hm
    obtain ⟨b,b1,b2,b3⟩:=p4 a2
    rw [a1] at b1
    cases b1
    rw [hk] at b2
    cases b2
    have : ¬ i < cur.size:=fun hlt=>hi ⟨hm,hlt⟩
    rw [Array.getElem?_eq_none (by omega),Array.getElem?_eq_none (by omega)]
   ·exact s2 i hm
  | _=>exact h2'⟩
 have hown : ∀ k j,k < w.heap.size→Mc' k j→p.ow k=.arr bo∧B.wr k j:=fun k j _ ⟨hm,hj⟩=>by
  obtain ⟨f1,f2,_⟩:=hT2 k j hm
  obtain ⟨f3,f4⟩:=p12 k f1 f2
  exact ⟨f4,f3 j hj⟩
 have H1 : bq B E p g h1 w':=by
  refine ⟨p10.sc hT1' fun k i hk hm=>(hown k i hk hm).2,p10.g0,p10.g1,fun k o v hk=>⟨p10.K5 hT1' (fun k i hk hm=>?_) hk,(p10.gg k o v hk).2⟩,fun r cs hr=>?_,p10.rfree,fun s A'' hs=>?_,p10.afree,p10.mm.fa hT1',fun k a h=>Nat.lt_of_lt_of_le (p10.nz k a h) hT1'.size⟩
  ·rw [(hown k i hk hm).1];simp
  ·have R:=p10.reg r cs hr
   refine R.cU hT1' (fun b q o e1 ho hm=>?_) (Pl.Le.refl _) (Gm.Le.refl _) fun b q e1=>R.own e1
   have hlt : b < w.heap.size:=by obtain ⟨b',q',e2,_,e3,_⟩:=R.ex;rw [e1] at e2;cases e2;exact e3
   have f1:=(hown _ _ hlt hm).1
   rw [R.own e1] at f1;cases f1
  ·refine (p10.arr s A'' hs).cU hT1' (fun b i hlt ho hm=>?_) (Pl.Le.refl _) (Gm.Le.refl _) fun _ _ _=>rfl
   rw [(hown _ _ hlt hm).1] at ho
   have ho : bo=s:=ho
   subst ho
   exact p17 A'' hs
 have hrow : ∀ (cur' : Array Value),(∀ j,j < n * i2.size→cur'[j]?=cur[j]?)→(∀ j,j < m * i2.size→cur'[n * i2.size + j]?=news[j]?)→∀ i row,(rows0 ++ rows)[i]?=some row→aJ g kd (fun j=>cur'[i * kd.length + j]?) row:=fun cur' s1 s2 i row hi=>by
  rcases Nat.lt_or_ge i n with hin | hin
  ·rw [List.getElem?_append_left (by omega)] at hi
   refine aJ.of (p9 i row hi).length fun j k hk=>?_
   obtain ⟨v,hv,hr⟩:=(p9 i row hi).cell hk
   refine ⟨v,?_,hr⟩
   rw [s1]
   ·exact hv
   ·rw [g3,← hkd];exact dG (List.getElem?_eq_some_iff.1 hk).1 hin
  ·rw [List.getElem?_append_right (by omega),p5] at hi
   refine aJ.of (y10 _ row hi).length fun j k hk=>?_
   obtain ⟨v,hv,hr⟩:=(y10 _ row hi).cell hk
   refine ⟨v,?_,hr⟩
   have hlt : (i - n) * ei.sz + j < m * i2.size:=by rw [g3];exact dG (by have:=(List.getElem?_eq_some_iff.1 hk).1;omega) (by have:=(List.getElem?_eq_some_iff.1 hi).1;omega)
   have:=s2 ((i - n) * ei.sz + j) hlt
   rw [hkd] at hv ⊢
   rw [← hv,← this]
   congr 1
   rw [g3,← Nat.add_assoc,← Nat.add_mul,show n + (i - n)=i from by omega]
 have hofA : ∀ {k s},((p.rename bo sa).ow k).ofA s→k < w.heap.size:=fun {k s} hk=>by
  rcases p.gF bo sa k with ⟨a',i,j,e,e'⟩ | ⟨_,e⟩
  ·exact p10.nz k a' (by rw [e];rfl)
  ·rw [e] at hk;exact p10.nz k s hk
 have H1:=H1.rename (c:=sa) p17
 have hadd:=H1.Ei p11 (A:={ e:=e,K:=⟨ei.by_,kd⟩,x:=d}) (ad:=A') (cap:=cap') (rows:=rows0 ++ rows) p6 (by rw [List.length_append];omega) q2 (by rw [List.length_append,p5,y3];exact p8) (by simp only;omega) hb0 (fun hc=>by
  rcases q3 with ⟨e1,_⟩ | ⟨b,cur',s0,s1,s2,s3,s4,s5,s6⟩
  ·omega
  ·refine ⟨b,cur',s1,s2,by simp only;rw [s3,g3,hkd],fun i hi=>?_,hrow cur' s4 s5,fun r cs q hr e1=>?_,fun s A'' hs ho=>?_,fun o v hg=>?_⟩
   ·rcases s6 with ⟨f1,_⟩ | ⟨f1,f2,f3⟩
    ·right;rw [f1];exact H.fr.size
    ·obtain ⟨t1,_⟩:=p12 b f1 f2
     obtain ⟨b',t2,t3,t4⟩:=p4 f2
     rw [f1] at t2
     cases t2
     obtain ⟨o',t5,t6⟩:=f3.obj b _ t3
     rw [s2] at t5
     cases t5
     obtain ⟨c',t7,t8,_⟩:=t6
     cases t7
     exact t1 i (by omega)
   ·rcases s6 with ⟨f1,f2⟩ | ⟨f1,f2,_⟩
    ·obtain ⟨b',q',k1,_,k3,_⟩:=(p10.reg r cs hr).ex
     have e1 : p.reg r=some (b,q):=e1
     rw [e1] at k1;cases k1;omega
    ·have t1:=(p12 b f1 f2).2
     rw [(p10.reg r cs hr).own e1] at t1;cases t1
   ·rcases s6 with ⟨f1,f2⟩ | ⟨f1,f2,_⟩
    ·have:=hofA ho;omega
    ·have t1:=(p12 b f1 f2).2
     rcases p.gF bo sa b with ⟨a',i,j,e,_⟩ | ⟨_,e⟩
     ·rw [t1] at e;cases e
     ·rw [e,t1] at ho
      have ho : bo=s:=ho
      subst ho
      exact p17 A'' hs
   ·rcases s6 with ⟨f1,f2⟩ | ⟨f1,f2,_⟩
    ·have:=H.tH hg;omega
    ·have t1:=(p12 b f1 f2).2
     rw [(H.gg b o v hg).2] at t1;cases t1) (fun q v1 v2 v3 j e' b1 c rows1 f1 f2 f3 i row v f4 f5=>by
  have f1 : kd[j]?=some (.os e'):=f1
  have f3 : d.den E=.l rows1:=f3
  rw [p6] at f3
  cases f3
  rw [v2] at f2
  cases f2
  have hjl:=(List.getElem?_eq_some_iff.1 f1).1
  have hil:=(List.getElem?_eq_some_iff.1 f4).1
  rw [List.length_append,p5,y3] at hil
  rcases q3 with ⟨e1,_⟩ | ⟨b,cur',s0,s1,s2,s3,s4,s5,s6⟩
  ·omega
  ·cases s1
   have f6 : cur'[i * kd.length + j]?=some v:=by simpa [World.cell?,s2] using f5
   rcases Nat.lt_or_ge i n with hin | hin
   ·rw [List.getElem?_append_left (by omega)] at f4
    rw [s4 _ (by rw [g3,← hkd];exact dG hjl hin)] at f6
    refine (p20 i j e' row v f4 f1 f6).cU hT1' (fun b2 k2 hb2 ho hm=>?_) ((p.qn bo sa).trans v1) (Gm.Le.refl _) fun b2 hb2 ho=>?_
    ·rw [(hown _ _ hb2 hm).1] at ho;cases ho
    ·rw [v3 b2 fun b3 h0 e3 e4=>?_]
     ·rcases p.gF bo sa b2 with ⟨a',i',j',e,e2⟩ | ⟨h9,_⟩
      ·rw [ho] at e
       cases e
       rw [e2,if_pos rfl]
      ·exact absurd ho (h9 _ _ _)
     ·cases e3
      subst e4
      rcases s6 with ⟨f7,_⟩ | ⟨f7,f8,_⟩
      ·omega
      ·rw [(p12 _ f7 f8).2] at ho;cases ho
   ·rw [List.getElem?_append_right (by omega),p5] at f4
    have hlt : (i - n) * ei.sz + j < m * i2.size:=by rw [g3];exact dG (by omega) (by omega)
    have:=s5 ((i - n) * ei.sz + j) hlt
    have e9 : i * kd.length + j=n * i2.size + ((i - n) * ei.sz + j):=by
     rw [hkd,g3,← Nat.add_assoc,← Nat.add_mul,show n + (i - n)=i from by omega]
    rw [e9,this,← hkd] at f6
    have hs:=y11 (i - n) j e' row v f4 f1 f6
    refine lK.cell ?_
    cases hd : row.getD j .u with
    | h s n =>
     rw [hd] at hs
     obtain ⟨ad,c,k1,k2⟩:=hs
     exact ⟨ad,c,v1.arr _ _ k1,k2⟩
    | _=>rw [hd] at hs;exact hs)
 obtain ⟨q,u1,u2,u3,u4⟩:=hadd
 have hfin : ∀ A'',nth (putAt h1.arrs sa { e:=e,K:=⟨ei.by_,kd⟩,x:=d}) bo≠some (.here A''):=fun A'' h2=>by
  rw [eU p11,if_neg p16] at h2
  exact p17 A'' h2
 refine ⟨.slice A' (n + m) cap',w',q.disown bo,?_,u3.disown hfin,⟨A',cap',n + m,u2,p7,q1,rfl⟩,((p.qn bo sa).trans u1).trans (q.u5 bo),hT1.size,fun hq=>?_⟩
 ·simp [execOp,resolve,invoke,builtin,p1,hrun]
 ·
  have hold : ∀ s A'' b c i,nth h.arrs s=some (.here A'')→p.arr s=some (some ⟨b,0,none⟩,c)→i < (A''.x.den E).rows.length * A''.K.kd.length→p.ow b=.arr s∧0 < c:=fun s A'' b c i k1 k2 k3=>by
   obtain ⟨ad,cap2,rows2,u1,ux,ul,_,_,_,_,u8⟩:=(H.arr s A'' k1).ex
   rw [k2] at u1;cases u1
   rw [ux,CD.ax] at k3
   have hc0 : 0 < c:=by
    rcases Nat.eq_zero_or_pos c with h0 | h0
    ·have : rows2.length=0:=by omega
     rw [this,Nat.zero_mul] at k3
     omega
    ·exact h0
   obtain ⟨b',cur2,u9,u10,_⟩:=u8 hc0
   cases u9
   exact ⟨u10,hc0⟩
  have hkn : ∀ k i,k < w.heap.size→Kn E p h k i→¬ Mc' k i:=fun k i hk hkn hm=>by
   have f1:=(hown k i hk hm).1
   obtain ⟨f3,f4,f5⟩:=hT2 k i hm.1
   rcases hkn with k1 | ⟨r,cs,b,q',k1,k2,rfl,_⟩ | ⟨s,A'',b,c,k1,k2,rfl,k3⟩
   ·rw [f1] at k1;cases k1
   ·rw [(H.reg r cs k1).own k2] at f1;cases f1
   ·obtain ⟨o1,o2⟩:=hold s A'' k c i k1 k2 k3
    rw [f1] at o1
    cases o1
    rcases p15 hq bo A'' k1 with g1' | ⟨_,g1',g2',g3'⟩
    ·exact p17 A'' g1'
    ·rw [g3',g2'] at k3
     rw [g3] at f5
     omega
  refine ⟨fun k i hk hkn'=>hT1'.cell hk (hkn k i hk hkn'),fun k i hk hkn'=>?_⟩
  have how : ∀ k,(q.disown bo).ow k=if q.ow k=.arr bo then Ow.z else q.ow k:=fun _=>rfl
  by_cases hbk : 0 < cap'∧A'=some ⟨k,0,none⟩
  ·
   obtain ⟨hb1,hb2⟩:=hbk
   rcases q3 with ⟨e1,_⟩ | ⟨b,cur',s0,s1,s2,s3,s4,s5,s6⟩
   ·omega
   ·rw [hb2] at s1
    cases s1
    rcases s6 with ⟨f1,_⟩ | ⟨f1,f2,f3⟩
    ·omega
    ·have t1:=(p12 k f1 f2).2
     rcases hkn' with k1 | ⟨r,cs,b,q',k1,k2,rfl,_⟩ | ⟨s,A'',b,c,k1,k2,rfl,k3⟩
     ·rw [t1] at k1;cases k1
     ·rw [(H.reg r cs k1).own k2] at t1;cases t1
     ·refine .inr (.inr ⟨sa,{ e:=e,K:=⟨ei.by_,kd⟩,x:=d},k,cap',by rw [eU p11,if_pos rfl],by rw [← hb2];exact u2,rfl,?_⟩)
      simp only
      rw [p6,CD.ax,List.length_append,p5,y3,hkd]
      obtain ⟨o1,o2⟩:=hold s A'' k c i k1 k2 k3
      rw [t1] at o1
      cases o1
      rcases p15 hq bo A'' k1 with g1' | ⟨_,g1',g2',g3'⟩
      ·exact absurd g1' (p17 A'')
      ·rw [g3',g2'] at k3
       rw [Nat.add_mul]
       omega
  ·
   have howk : (∀ a i j,p.ow k≠.nst a i j)→q.ow k=p.ow k:=fun hn=>(u4 k fun b h0 e1 e2=>hbk ⟨h0,by rw [e2];exact e1⟩).trans (by
    rcases p.gF bo sa k with ⟨a',i',j',e,_⟩ | ⟨_,e⟩
    ·exact absurd e (hn _ _ _)
    ·exact e)
   rcases hkn' with k1 | ⟨r,cs,b,q',k1,k2,k3⟩ | ⟨s,A'',b,c,k1,k2,rfl,k3⟩
   ·left
    rw [how,howk fun a i j e=>(by rw [k1] at e;cases e),k1];simp
   ·exact .inr (.inl ⟨r,cs,b,q',(p13 r cs).2 k1,(u1.reg _ _ k2),k3⟩)
   ·rcases p15 hq s A'' k1 with g1' | ⟨g0',g1',g2',g3'⟩
    ·refine .inr (.inr ⟨s,A'',k,c,?_,u1.arr _ _ k2,rfl,k3⟩)
     rw [eU p11,if_neg]
     ·exact g1'
     ·rintro rfl
      rcases fT p11 with h | h <;> rw [g1'] at h <;> cases h
    ·left
     obtain ⟨o1,o2⟩:=hold s A'' k c i k1 k2 k3
     rw [how,howk fun a i j e=>(by rw [o1] at e;cases e),o1,g0'];simp
end
end Go.Sy

namespace Go.Sy
open Go.RowKit Go.MapKept
section
variable {kk : List Kd} {vs us : List Value} {a b : List CD}
theorem G9.isv : ∀ {kk : List Kd} {vs : List Value} {a : List CD},G9 kk vs a→aE Kd.isv kk vs
 | [],[],[],_=>trivial
 | k :: ks,v :: vs,d :: ds,h=>⟨by
   cases k with
   | int k=>obtain ⟨n,e,_⟩:=h.1;exact ⟨n,e⟩
   | bool=>obtain ⟨n,e,_⟩:=h.1;exact ⟨n,e⟩
   | str=>exact h.1.elim
   | sl _ _=>exact h.1.elim
   | os _=>exact h.1.elim,G9.isv h.2⟩
 | [],_ :: _,_,h=>h.elim
 | [],[],_ :: _,h=>h.elim
 | _ :: _,[],_,h=>h.elim
 | _ :: _,_ :: _,[],h=>h.elim
theorem G9.length : ∀ {kk : List Kd} {vs : List Value} {a : List CD},G9 kk vs a→vs.length=kk.length∧a.length=kk.length
 | [],[],[],_=>⟨rfl,rfl⟩
 | _ :: _,_ :: _,_ :: _,h=>⟨by simp [(G9.length h.2).1],by simp [(G9.length h.2).2]⟩
 | [],_ :: _,_,h=>h.elim
 | [],[],_ :: _,h=>h.elim
 | _ :: _,[],_,h=>h.elim
 | _ :: _,_ :: _,[],h=>h.elim
theorem cY.val {k : Kd} {v w : Value} {d : CD} (h : cY k v d) (h' : cY k w d) : v=w:=by
 cases k with
 | int k=>obtain ⟨n,rfl,rfl⟩:=h;obtain ⟨m,rfl,e⟩:=h';cases e;rfl
 | bool=>obtain ⟨n,rfl,rfl⟩:=h;obtain ⟨m,rfl,e⟩:=h';cases e;rfl
 | str=>exact h.elim
 | sl _ _=>exact h.elim
 | os _=>exact h.elim
theorem cY.dat {k : Kd} {v : Value} {d e : CD} (h : cY k v d) (h' : cY k v e) : d=e:=by
 cases k with
 | int k=>obtain ⟨n,rfl,rfl⟩:=h;obtain ⟨m,e,rfl⟩:=h';cases e;rfl
 | bool=>obtain ⟨n,rfl,rfl⟩:=h;obtain ⟨m,e,rfl⟩:=h';cases e;rfl
 | str=>exact h.elim
 | sl _ _=>exact h.elim
 | os _=>exact h.elim
theorem cY.eqs {k : Kd} {v w : Value} {d e : CD} (h : cY k v d) (h' : cY k w e) : d.eqs e=true↔d=e:=by
 cases k with
 | int k=>obtain ⟨n,rfl,rfl⟩:=h;obtain ⟨m,rfl,rfl⟩:=h';simp [CD.eqs]
 | bool=>obtain ⟨n,rfl,rfl⟩:=h;obtain ⟨m,rfl,rfl⟩:=h';simp [CD.eqs]
 | str=>exact h.elim
 | sl _ _=>exact h.elim
 | os _=>exact h.elim
theorem G9.val : ∀ {kk : List Kd} {vs us : List Value} {a : List CD},G9 kk vs a→G9 kk us a→vs=us
 | [],[],[],[],_,_=>rfl
 | _ :: _,_ :: _,_ :: _,_ :: _,h,h'=>by rw [h.1.val h'.1,G9.val h.2 h'.2]
 | [],_ :: _,_,_,h,_=>h.elim
 | [],[],_ :: _,_,_,h=>h.elim
 | [],[],[],_ :: _,h,_=>h.elim
 | _ :: _,[],_,_,h,_=>h.elim
 | _ :: _,_ :: _,[],_,_,h=>h.elim
 | _ :: _,_ :: _,_ :: _,[],h,_=>h.elim
theorem G9.dat : ∀ {kk : List Kd} {vs : List Value} {a b : List CD},G9 kk vs a→G9 kk vs b→a=b
 | [],[],[],[],_,_=>rfl
 | _ :: _,_ :: _,_ :: _,_ :: _,h,h'=>by rw [h.1.dat h'.1,G9.dat h.2 h'.2]
 | [],_ :: _,_,_,h,_=>h.elim
 | [],[],_ :: _,_,h,_=>h.elim
 | [],[],[],_ :: _,_,h=>h.elim
 | _ :: _,[],_,_,h,_=>h.elim
 | _ :: _,_ :: _,[],_,h,_=>h.elim
 | _ :: _,_ :: _,_ :: _,[],_,h=>h.elim
theorem G9.eqs : ∀ {kk : List Kd} {vs us : List Value} {a b : List CD},G9 kk vs a→G9 kk us b→(kJ a b=true↔a=b)
 | [],[],[],[],[],_,_=>by simp [kJ]
 | _ :: _,_ :: _,_ :: _,_ :: _,_ :: _,h,h'=>by
  simp only [kJ,Bool.and_eq_true,List.cons.injEq]
  rw [h.1.eqs h'.1,G9.eqs h.2 h'.2]
 | [],_ :: _,_,_,_,h,_=>h.elim
 | [],[],_ :: _,_,_,_,h=>h.elim
 | [],[],[],_ :: _,_,h,_=>h.elim
 | [],[],[],[],_ :: _,_,h=>h.elim
 | _ :: _,[],_,_,_,h,_=>h.elim
 | _ :: _,_ :: _,[],_,_,_,h=>h.elim
 | _ :: _,_ :: _,_ :: _,[],_,h,_=>h.elim
 | _ :: _,_ :: _,_ :: _,_ :: _,[],_,h=>h.elim
theorem oB : ∀ {kk : List Kd} {vs us : List Value},aE Kd.isv kk vs→aE Kd.isv kk us→(cS vs us=true↔vs=us)
 | [],[],[],_,_=>by simp [cS]
 | k :: _,_ :: _,_ :: _,h,h'=>by
  have ih:=oB h.2 h'.2
  cases k with
  | int k =>
   obtain ⟨n,rfl⟩:=h.1
   obtain ⟨m,rfl⟩:=h'.1
   simp only [cS,Bool.and_eq_true,beq_iff_eq,List.cons.injEq,Value.int.injEq,true_and,ih]
  | bool =>
   obtain ⟨n,rfl⟩:=h.1
   obtain ⟨m,rfl⟩:=h'.1
   simp only [cS,Bool.and_eq_true,beq_iff_eq,List.cons.injEq,Value.bool.injEq,ih]
  | str=>exact h.1.elim
  | sl _ _=>exact h.1.elim
  | os _=>exact h.1.elim
 | [],_ :: _,_,h,_=>h.elim
 | [],[],_ :: _,_,h=>h.elim
 | _ :: _,[],_,h,_=>h.elim
 | _ :: _,_ :: _,[],_,h=>h.elim
theorem G9.append : ∀ {k1 k2 : List Kd} {v1 v2 : List Value} {a1 a2 : List CD},G9 k1 v1 a1→G9 k2 v2 a2→G9 (k1 ++ k2) (v1 ++ v2) (a1 ++ a2)
 | [],_,[],_,[],_,_,h=>h
 | _ :: _,_,_ :: _,_,_ :: _,_,h,h'=>⟨h.1,G9.append h.2 h'⟩
 | [],_,_ :: _,_,_,_,h,_=>h.elim
 | [],_,[],_,_ :: _,_,h,_=>h.elim
 | _ :: _,_,[],_,_,_,h,_=>h.elim
 | _ :: _,_,_ :: _,_,[],_,h,_=>h.elim
theorem lW : ∀ {kk : List Kd} {vs : List Value},aE Kd.isv kk vs→∀ n,((vs.zip vs).all fun (x : Value × Value)=>Instr.sameBits (n + 1) x.1 x.2)=true
 | [],[],_,_=>rfl
 | k :: _,_ :: _,h,n=>by
  simp only [List.zip_cons_cons,List.all_cons,Bool.and_eq_true]
  refine ⟨?_,lW h.2 n⟩
  cases k with
  | int k=>obtain ⟨m,rfl⟩:=h.1;simp [Instr.sameBits]
  | bool=>obtain ⟨m,rfl⟩:=h.1;simp [Instr.sameBits]
  | str=>exact h.1.elim
  | sl _ _=>exact h.1.elim
  | os _=>exact h.1.elim
 | [],_ :: _,h,_=>h.elim
 | _ :: _,[],h,_=>h.elim
end
section
variable {P : Program} {T : TT} {B : cT} {E : Env} {p : Pl} {g : Gm} {h : Hp} {w : World}
theorem xI (hT : TOk P T) {tk : Nat} {ki : TI} {kk : List Kd} (ht : T.get tk=some ki) (hkd : ki.kd=some kk) (hk : tr ki kk=true) {vs : List Value} {k : List CD} (hv : G9 kk vs k) {es : List MapEntry} (hes : ∀ e∈es,∃ us k',e.key=vof ki.agg us∧G9 kk us k') :
  (∀ (w : World) (em : Bool),(Instr.checkKey em 10000 tk (vof ki.agg vs)).run P w=.ok () w)∧(∀ w : World,(Instr.keyThatStays (vof ki.agg vs) (vof ki.agg vs)).run P w=.ok (vof ki.agg vs) w) ∧
  ∀ w : World,((Instr.findKey tk (vof ki.agg vs) es).run P w=.ok none w∧∀ e∈es,e.key≠vof ki.agg vs)∨∃ j e,(Instr.findKey tk (vof ki.agg vs) es).run P w=.ok (some (j,e.val)) w∧es[j]?=some e∧e.key=vof ki.agg vs:=by
 simp only [tr,Bool.and_eq_true] at hk
 obtain ⟨h1,h2⟩:=hT.key tk ki ht hk.2
 cases ha : ki.agg with
 | false =>
  have key : ∃ d,P.underlying tk=some d∧(∀ us k',G9 kk us k'→IsKey d (vof false us)):=by
   rcases h1 ha with ⟨q,e1,e2⟩ | ⟨e1,e2⟩
   ·rw [hkd] at e2
    cases e2
    refine ⟨_,e1,fun us k' hu=>?_⟩
    match us,k',hu with
    | [u],[d],hu=>obtain ⟨n,rfl,_⟩:=hu.1;exact rfl
    | [],_,hu=>exact hu.elim
    | [_],[],hu=>exact hu.elim
    | _ :: _ :: _,[],hu=>exact hu.elim
    | [_],_ :: _ :: _,hu=>exact hu.2.elim
    | _ :: _ :: _,_ :: _,hu=>exact hu.2.elim
   ·rw [hkd] at e2
    cases e2
    refine ⟨_,e1,fun us k' hu=>?_⟩
    match us,k',hu with
    | [u],[d],hu=>obtain ⟨n,rfl,_⟩:=hu.1;exact trivial
    | [],_,hu=>exact hu.elim
    | [_],[],hu=>exact hu.elim
    | _ :: _ :: _,[],hu=>exact hu.elim
    | [_],_ :: _ :: _,hu=>exact hu.2.elim
    | _ :: _ :: _,_ :: _,hu=>exact hu.2.elim
  obtain ⟨d,hd,hkey⟩:=key
  have hK:=hkey vs k hv
  refine ⟨fun w em=>run_checkKey hd hK em 9999,fun w=>run_keyThatStays hK,fun w=>?_⟩
  have hks : ∀ e∈es,IsKey d e.key:=fun e he=>by
   obtain ⟨us,k',e1,e2⟩:=hes e he
   rw [e1,ha];exact hkey us k' e2
  rcases findNow_spec hK es 0 hks with ⟨f1,f2⟩ | ⟨j,e,f1,f2,f3⟩
  ·exact .inl ⟨run_findKey hd f1,f2⟩
  ·exact .inr ⟨j,e,by simpa using run_findKey hd f1,f2,f3⟩
 | true =>
  obtain ⟨⟨fs,hfs⟩,h3⟩:=h2 ha
  obtain ⟨h4,h5⟩:=h3 kk hkd
  have hvof : ∀ us : List Value,vof true us=.agg us.toArray:=fun _=>rfl
  refine ⟨fun w em=>by rw [hvof];exact h4 vs hv.isv w em,fun w=>?_,fun w=>?_⟩
  ·rw [hvof]
   have : Instr.sameBits 10000 (.agg vs.toArray) (.agg vs.toArray)=true:=by
    show Instr.sameBits (9999 + 1) (.agg vs.toArray) (.agg vs.toArray)=true
    simp only [Instr.sameBits,beq_self_eq_true,Bool.true_and]
    exact lW hv.isv 9998
   simp [Instr.keyThatStays,this]
  ·have hwide : (match P.underlying tk with | some (.array _ _) | some (.struct _)=>true | _=>false)=true:=by rw [hfs]
   rw [run_findKey_eq w hwide]
   have go : ∀ (l : List MapEntry) (i : Nat),(∀ e∈l,∃ us k',e.key=vof ki.agg us∧G9 kk us k') →
     ((Instr.findAsking tk (vof true vs) l i).run P w=.ok none w∧∀ e∈l,e.key≠vof true vs)∨∃ j e,(Instr.findAsking tk (vof true vs) l i).run P w=.ok (some (i + j,e.val)) w∧l[j]?=some e∧e.key=vof true vs:=by
    intro l
    induction l with
    | nil=>intro i _;exact .inl ⟨by simp [Instr.findAsking],by simp⟩
    | cons e l ih =>
     intro i hl
     obtain ⟨us,k',e1,e2⟩:=hl e (by simp)
     rw [ha] at e1
     have hr:=h5 vs us hv.isv e2.isv w
     rw [← hvof,← hvof,← e1] at hr
     by_cases he : vs=us
     ·rw [(oB hv.isv e2.isv).2 he] at hr
      exact .inr ⟨0,e,by simp [Instr.findAsking,hr],rfl,by rw [e1,he]⟩
     ·have hf : cS vs us=false:=by
       cases hx : cS vs us with
       | false=>rfl
       | true=>exact absurd ((oB hv.isv e2.isv).1 hx) he
      rw [hf] at hr
      have hne : e.key≠vof true vs:=fun hx=>by
       rw [e1,hvof,hvof] at hx
       injection hx with hx
       exact he (by simpa using hx.symm)
      rcases ih (i + 1) (fun y hy=>hl y (by simp [hy])) with ⟨g1,g2⟩ | ⟨j,e',g1,g2,g3⟩
      ·exact .inl ⟨by simp [Instr.findAsking,hr,g1],fun y hy=>by
        rcases List.mem_cons.1 hy with rfl | hy
        ·exact hne
        ·exact g2 y hy⟩
      ·exact .inr ⟨j + 1,e',by simp [Instr.findAsking,hr,g1,Nat.add_assoc,Nat.add_comm 1 j],by simpa using g2,g3⟩
   rcases go es 0 hes with h | ⟨j,e,g1,g2,g3⟩
   ·exact .inl h
   ·exact .inr ⟨j,e,by simpa using g1,g2,g3⟩
theorem qO {k : Kd} {c : SC} {x : X} {v : Value} (hk : oI k=true) (ho : jI k c=some x) (hc : c.is E p g v) : cY k v (x.den E):=by
 cases k with
 | int k =>
  cases c <;> simp only [jI,reduceCtorEq] at ho
  split at ho
  ·rename_i hs
   cases ho
   obtain ⟨n,e1,e2⟩:=hc
   rw [IntKind.av hs]
   exact ⟨n,e2,e1⟩
  ·cases ho
 | bool =>
  cases c <;> simp only [jI,reduceCtorEq] at ho
  cases ho
  obtain ⟨n,e1,e2⟩:=hc
  exact ⟨n,e2,e1⟩
 | str=>cases hk
 | sl _ _=>cases hk
 | os _=>cases hk
theorem iI : ∀ {kk : List Kd} {cs : List SC} {xs : List X} {vs : List Value},dD oI kk=true→cj kk cs=some xs→aE (SC.is E p g) cs vs→G9 kk vs (xs.map (X.den E))
 | [],[],xs,[],_,ho,_=>by simp only [cj,Option.some.injEq] at ho;subst ho;trivial
 | k :: kk,c :: cs,xs,v :: vs,hk,ho,hc=>by
  simp only [dD,Bool.and_eq_true] at hk
  simp only [cj] at ho
  split at ho
  ·rename_i x xs' h1 h2
   cases ho
   exact ⟨qO hk.1 h1 hc.1,iI hk.2 h2 hc.2⟩
  ·cases ho
 | [],[],_,_ :: _,_,_,h=>h.elim
 | [],_ :: _,_,_,_,h,_=>by simp [cj] at h
 | _ :: _,[],_,_,_,h,_=>by simp [cj] at h
 | _ :: _,_ :: _,_,[],_,_,h=>h.elim
theorem q8 {ki : TI} {kx : SV} {v : Value} (hf : lb ki kx=true) (hv : kx.is E p g v) : ∃ vs,v=vof ki.agg vs∧aE (SC.is E p g) kx.cells vs:=by
 cases kx with
 | one c =>
  simp only [lb,Bool.not_eq_true'] at hf
  rw [hf]
  exact ⟨[v],rfl,hv,trivial⟩
 | agg l =>
  simp only [lb] at hf
  rw [hf]
  obtain ⟨vs,e,h⟩:=hv
  exact ⟨vs,e,h⟩
theorem pH {kk : List Kd} {agg : Bool} {vk : Kd} {es : List MapEntry} {ents : List (List CD × CD)} (h : aE (yG kk agg vk) es ents) {j : Nat} {e : MapEntry} (he : es[j]?=some e) : ∃ x,ents[j]?=some x∧yG kk agg vk e x:=by
 obtain ⟨x,h1,h2⟩:=h.nth (by rw [aW];exact he)
 exact ⟨x,by rw [← aW];exact h1,h2⟩
theorem nt {kk : List Kd} {agg : Bool} {vk : Kd} {es : List MapEntry} {ents : List (List CD × CD)} (h : aE (yG kk agg vk) es ents) {x : List CD × CD} (hx : x∈ents) : ∃ e∈es,yG kk agg vk e x:=by
 induction es generalizing ents with
 | nil=>cases ents with
  | nil=>cases hx
  | cons _ _=>exact h.elim
 | cons e es ih=>cases ents with
  | nil=>exact h.elim
  | cons y ents =>
   rcases List.mem_cons.1 hx with rfl | hx
   ·exact ⟨e,by simp,h.1⟩
   ·obtain ⟨e',h1,h2⟩:=ih h.2 hx
    exact ⟨e',by simp [h1],h2⟩
theorem wL {kk : List Kd} {agg : Bool} {vs us : List Value} {a b : List CD} (h : G9 kk vs a) (h' : G9 kk us b) (hk : agg=false→kk.length=1) (e : vof agg vs=vof agg us) : a=b:=by
 have : vs=us:=by
  cases agg with
  | true =>
   have e : Value.agg vs.toArray=.agg us.toArray:=e
   injection e with e
   simpa using e
  | false =>
   have h1:=h.length.1
   have h2:=h'.length.1
   rw [hk rfl] at h1 h2
   match vs,us,h1,h2,e with
   | [v],[u],_,_,e=>simpa [vof] using e
 subst this
 exact h.dat h'
theorem rB {α β : Type} {R : α→β→Prop} : ∀ {l1 l2 : List α} {m1 m2 : List β},aE R l1 m1→aE R l2 m2→aE R (l1 ++ l2) (m1 ++ m2)
 | [],_,[],_,_,h=>h
 | _ :: _,_,_ :: _,_,h,h'=>⟨h.1,rB h.2 h'⟩
 | [],_,_ :: _,_,h,_=>h.elim
 | _ :: _,_,[],_,h,_=>h.elim
theorem zp {kk : List Kd} {agg : Bool} {vk : Kd} {es : List MapEntry} {rows : List (List CD)} (R : uf kk agg vk es rows) (hk1 : agg=false→kk.length=1) {vs : List Value} {k : List CD} (hv : G9 kk vs k) :
  ((∀ e∈es,e.key≠vof agg vs)→gQ rows k kk.length=none)∧∀ (j : Nat) (e : MapEntry),es[j]?=some e→e.key=vof agg vs→∃ d,cY vk e.val d∧gQ rows k kk.length=some d:=by
 obtain ⟨ents,h1,h2,h3,h4,h5⟩:=R
 refine ⟨fun hn=>h4 vs k hv fun x hx hxk=>?_,fun j e he hek=>?_⟩
 ·obtain ⟨e,he,hE⟩:=nt h1 hx
  obtain ⟨us,e1,e2⟩:=hE.key
  rw [hxk] at e2
  exact hn e he (by rw [e1,e2.val hv])
 ·obtain ⟨x,hx,hE⟩:=pH h1 he
  obtain ⟨us,e1,e2⟩:=hE.key
  rw [e1] at hek
  have : x.1=k:=wL e2 hv hk1 hek
  exact ⟨x.2,hE.val,by rw [← this];exact h3 x (List.mem_of_getElem? hx)⟩
theorem iJ {rows : List (List CD)} {k k' : List CD} {d : CD} {n : Nat} (hk : k.length=n) : gQ ((k ++ [d]) :: rows) k' n=if kJ k k'=true then some d else gQ rows k' n:=by
 subst hk
 unfold gQ CD.find
 simp only [List.find?_cons,List.take_left']
 cases h : kJ k k' with
 | true=>simp [List.getD_eq_getElem?_getD]
 | false=>simp
theorem zo {kk : List Kd} {agg : Bool} {vk : Kd} {es : List MapEntry} {rows : List (List CD)} (R : uf kk agg vk es rows) {vs : List Value} {k : List CD} (hv : G9 kk vs k) {u : Value} {d : CD} (hu : cY vk u d) {born : Nat} (hn : ∀ e∈es,e.key≠vof agg vs) :
  uf kk agg vk (es ++ [{ key:=vof agg vs,val:=u,born:=born}]) ((k ++ [d]) :: rows):=by
 obtain ⟨ents,h1,h2,h3,h4,h5⟩:=R
 have hlen:=hv.length.2
 have hne : ∀ x∈ents,x.1≠k:=fun x hx hxk=>by
  obtain ⟨e,he,hE⟩:=nt h1 hx
  obtain ⟨us,e1,e2⟩:=hE.key
  rw [hxk] at e2
  exact hn e he (by rw [e1,e2.val hv])
 have hfl : ∀ x∈ents,∃ us,G9 kk us x.1:=fun x hx=>by
  obtain ⟨e,he,hE⟩:=nt h1 hx
  obtain ⟨us,e1,e2⟩:=hE.key
  exact ⟨us,e2⟩
 refine ⟨ents ++ [(k,d)],rB h1 ⟨⟨⟨vs,rfl,hv⟩,hu⟩,trivial⟩,fun row hr=>?_,fun x hx=>?_,fun ws k' hw hx=>?_,?_⟩
 ·rcases List.mem_cons.1 hr with rfl | hr
  ·exact ⟨vs ++ [u],hv.append ⟨hu,trivial⟩⟩
  ·exact h2 row hr
 ·rw [iJ hlen]
  rcases List.mem_append.1 hx with hx | hx
  ·obtain ⟨us,hus⟩:=hfl x hx
   rw [if_neg (fun he=>hne x hx ((hv.eqs hus).1 he).symm)]
   exact h3 x hx
  ·rw [List.mem_singleton] at hx
   subst hx
   rw [if_pos ((hv.eqs hv).2 rfl)]
 ·rw [iJ hlen,if_neg (fun he=>hx (k,d) (by simp) ((hv.eqs hw).1 he))]
  exact h4 ws k' hw fun x hx'=>hx x (by simp [hx'])
 ·refine List.pairwise_append.2 ⟨h5,by simp,fun x hx y hy=>?_⟩
  rw [List.mem_singleton] at hy
  subst hy
  exact hne x hx
theorem rA {α β : Type} {R : α→β→Prop} {f : α→α} {f' : β→β} : ∀ {l : List α} {m : List β} {j : Nat} {x : α} {y : β},aE R l m→l[j]?=some x→m[j]?=some y→R (f x) (f' y)→aE R (l.modify j f) (m.modify j f')
 | [],_,_,_,_,_,h,_,_=>by simp at h
 | _ :: _,_ :: _,0,x,y,h,hx,hy,hr=>by
  simp only [List.getElem?_cons_zero,Option.some.injEq] at hx hy
  subst hx;subst hy
  exact ⟨hr,h.2⟩
 | _ :: _,_ :: _,j + 1,x,y,h,hx,hy,hr=>by
  simp only [List.getElem?_cons_succ] at hx hy
  exact ⟨h.1,rA h.2 hx hy hr⟩
 | _ :: _,[],_,_,_,h,_,_,_=>h.elim
theorem Mn {kk : List Kd} {agg : Bool} {vk : Kd} {es : List MapEntry} {rows : List (List CD)} (R : uf kk agg vk es rows) (hk1 : agg=false→kk.length=1) {vs : List Value} {k : List CD} (hv : G9 kk vs k) {u : Value} {d : CD} (hu : cY vk u d) {j : Nat} {e : MapEntry} (he : es[j]?=some e) (hek : e.key=vof agg vs) :
  uf kk agg vk (es.modify j fun e=>{ e with key:=vof agg vs,val:=u}) ((k ++ [d]) :: rows):=by
 obtain ⟨ents,h1,h2,h3,h4,h5⟩:=R
 have hlen:=hv.length.2
 obtain ⟨x0,hx0,hE0⟩:=pH h1 he
 have hx0k : x0.1=k:=by
  obtain ⟨us,e1,e2⟩:=hE0.key
  rw [e1] at hek
  exact wL e2 hv hk1 hek
 have hfl : ∀ x∈ents,∃ us,G9 kk us x.1:=fun x hx=>by
  obtain ⟨e,he,hE⟩:=nt h1 hx
  obtain ⟨us,e1,e2⟩:=hE.key
  exact ⟨us,e2⟩
 have hj : j < ents.length:=(List.getElem?_eq_some_iff.1 hx0).1
 have hone : ∀ i x,ents[i]?=some x→x.1=k→i=j:=fun i x hi hxk=>by
  rcases Nat.lt_trichotomy i j with hl | hl | hl
  ·exfalso
   have hi':=List.getElem?_eq_some_iff.1 hi
   have hj':=List.getElem?_eq_some_iff.1 hx0
   exact (List.pairwise_iff_getElem.1 h5 i j hi'.1 hj'.1 hl) (by rw [hi'.2,hj'.2,hxk,hx0k])
  ·exact hl
  ·exfalso
   have hi':=List.getElem?_eq_some_iff.1 hi
   have hj':=List.getElem?_eq_some_iff.1 hx0
   exact (List.pairwise_iff_getElem.1 h5 j i hj'.1 hi'.1 hl) (by rw [hi'.2,hj'.2,hxk,hx0k])
 have hkeys : (ents.modify j fun _=>(k,d)).map (·.1)=ents.map (·.1):=by
  apply List.ext_getElem?
  intro i
  simp only [List.getElem?_map,List.getElem?_modify]
  by_cases hij : j=i
  ·subst hij
   rw [hx0];simp [hx0k]
  ·simp [hij]
 refine ⟨ents.modify j fun _=>(k,d),rA h1 he hx0 ⟨⟨vs,rfl,hv⟩,hu⟩,fun row hr=>?_,fun x hx=>?_,fun ws k' hw hx=>?_,?_⟩
 ·rcases List.mem_cons.1 hr with rfl | hr
  ·exact ⟨vs ++ [u],hv.append ⟨hu,trivial⟩⟩
  ·exact h2 row hr
 ·rw [iJ hlen]
  obtain ⟨i,hi⟩:=List.getElem?_of_mem hx
  rw [List.getElem?_modify] at hi
  by_cases hij : j=i
  ·subst hij
   rw [hx0] at hi
   have hi : (k,d)=x:=by simpa using hi
   subst hi
   rw [if_pos ((hv.eqs hv).2 rfl)]
  ·simp only [if_neg hij] at hi
   have hi : ents[i]?=some x:=by simpa using hi
   have hm:=List.mem_of_getElem? hi
   obtain ⟨us,hus⟩:=hfl x hm
   rw [if_neg (fun he'=>hij (hone i x hi ((hv.eqs hus).1 he').symm).symm)]
   exact h3 x hm
 ·have hk' : k≠k':=fun hkk=>by
   have hm : (k,d)∈ents.modify j fun _=>(k,d):=by
    refine List.mem_of_getElem? (i:=j) ?_
    rw [List.getElem?_modify,hx0];simp
   exact hx _ hm hkk
  rw [iJ hlen,if_neg (fun he'=>hk' ((hv.eqs hw).1 he'))]
  refine h4 ws k' hw fun x hx' hxk=>?_
  have : x.1∈(ents.modify j fun _=>(k,d)).map (·.1):=by rw [hkeys];exact List.mem_map.2 ⟨x,hx',rfl⟩
  obtain ⟨y,hy1,hy2⟩:=List.mem_map.1 this
  exact hx y hy1 (by rw [hy2,hxk])
 ·have h6 : (ents.map (·.1)).Pairwise (·≠·):=List.pairwise_map.2 h5
  rw [← hkeys] at h6
  exact List.pairwise_map.1 h6
end
section
variable {P : Program} {T : TT} {B : cT} {E : Env} {p : Pl} {g : Gm} {h : Hp} {w : World}
theorem cY.rd {k : Kd} {v : Value} {d : CD} (h : cY k v d) : Rd g k v d:=by
 cases k with
 | int k=>exact h
 | bool=>exact h
 | str=>exact h.elim
 | sl _ _=>exact h.elim
 | os _=>exact h.elim
theorem Dy {x key d : X} {rows : List (List CD)} {k : List CD} {n : Nat} (hx : x.den E=.l rows) (hk : key.den E=.l [k]) (hr : ∀ r∈rows,r.length=n + 1) : (X.look x key d n n).den E=(gQ rows k n).getD (d.den E):=by
 simp only [X.den,hx,hk,CD.ax,CD.row,gQ,List.headD_cons]
 cases hf : CD.find rows k n with
 | none=>simp
 | some r =>
  have hm:=hr r (List.mem_of_find?_eq_some hf)
  simp only [Option.getD_some,Option.map_some]
  rw [List.getD_eq_getElem?_getD,List.getD_eq_getElem?_getD,List.getElem?_eq_getElem (by omega)]
  rfl
theorem G9.BR {k : Kd} {vs : List Value} {x : CD} (h : G9 [k] vs [x]) : ∃ v,vs=[v]∧cY k v x:=by
 match vs,h with
 | [v],h=>exact ⟨v,rfl,h.1⟩
 | _ :: _ :: _,h=>exact h.2.elim
theorem bq.newMap (H : bq B E p g h w) (M : Mp) (hM : M.x.den E=.l []) :
  ∃ q,p.Le q∧q.mp h.mps.length=some w.heap.size∧bq B E q g { h with mps:=h.mps ++ [.here M]} (w.alloc (.map #[] 0))∧rO E p h q { h with mps:=h.mps ++ [.here M]} w.heap.size:=by
 have hpm:=H.mm.free h.mps.length (Nat.le_refl _)
 let q : Pl:={ p with mp:=fun i=>if i=h.mps.length then some w.heap.size else p.mp i,ow:=fun k=>if k=w.heap.size then .mp h.mps.length else p.ow k}
 have hq : p.Le q:=⟨fun _ _ h=>h,fun _ _ h=>h,fun i x hx=>by
  show (if i=h.mps.length then _ else _)=_
  rw [if_neg (fun e=>by rw [e,hpm] at hx;cases hx)];exact hx⟩
 have how : ∀ k,k < w.heap.size→q.ow k=p.ow k:=fun k hk=>if_neg (by omega)
 have hbel : Below w.heap.size w (w.alloc (.map #[] 0)):=(Below.refl _ _).alloc (Nat.le_refl _) _
 have H1:=H.below hbel
 have T : cd (fun _ _=>False) (w.alloc (.map #[] 0)) (w.alloc (.map #[] 0)):=cd.refl _ _
 refine ⟨q,hq,if_pos rfl,⟨H1.fr,H1.g0,H1.g1,fun k o v hk=>⟨(H1.gg k o v hk).1,(how k (H.tH hk)).trans (H.gg k o v hk).2⟩,fun s cs' hs=>?_,H.rfree,fun a A ha=>?_,H.afree,⟨fun a M' ha=>?_,fun a ha=>?_⟩,fun k a hk=>by
  by_cases e1 : k=w.heap.size
  ·rw [show q.ow k=.mp h.mps.length from if_pos e1] at hk;exact hk.elim
  ·rw [show q.ow k=p.ow k from if_neg e1] at hk
   exact H1.nz k a hk⟩,fun k i hk hkn=>?_⟩
 ·refine (H1.reg s cs' hs).cU T (fun _ _ _ _ _ h=>h) hq (Gm.Le.refl _) fun b q' e1=>?_
  obtain ⟨b',q1,e2,e3,e4,_⟩:=(H.reg s cs' hs).ex
  rw [e1] at e2;cases e2
  rw [how _ e4];exact e3
 ·exact (H.arr a A ha).cU (cd.IQ (Mc:=fun _ _=>False) hbel) (fun _ _ _ _ h=>h) hq (Gm.Le.refl _) fun b e1 _=>how b e1
 ·rw [eG] at ha
  split at ha
  ·rename_i hlt
   obtain ⟨b,es,clock,rows,h1,h2,h3,h4,h5,h6⟩:=H1.mm.at_ a M' ha
   obtain ⟨b',_,_,_,k1,_,_,k4,_⟩:=H.mm.at_ a M' ha
   rw [h1] at k1;cases k1
   exact ⟨b,es,clock,rows,hq.mp _ _ h1,(how b (lt_of_block k4)).trans h2,h3,h4,h5,h6⟩
  ·rename_i hge
   obtain ⟨j,hj⟩ : ∃ j,a=h.mps.length + j:=⟨a - h.mps.length,by omega⟩
   subst hj
   simp only [Nat.add_sub_cancel_left] at ha
   cases j with
   | succ j=>simp [nth] at ha
   | zero =>
    cases ha
    refine ⟨w.heap.size,#[],0,[],if_pos rfl,if_pos rfl,H.fr.size,(heap_alloc w _).1,hM,[],trivial,by simp,by simp,fun _ _ _ _=>rfl,List.Pairwise.nil⟩
 ·show (if a=h.mps.length then _ else _)=_
  have : h.mps.length + 1≤a:=by simpa using ha
  rw [if_neg (by omega)]
  exact H.mm.free a (by omega)
 ·rcases hkn with h1 | ⟨s,cs',b,q',h1,h2,h3⟩ | ⟨a,A,b,c,h1,h2,h3⟩
  ·exact .inl ((how k hk).trans h1)
  ·exact .inr (.inl ⟨s,cs',b,q',h1,hq.reg _ _ h2,h3⟩)
  ·exact .inr (.inr ⟨a,A,b,c,h1,hq.arr _ _ h2,h3⟩)
theorem bq.CZ (H : bq B E p g h w) {a b : Nat} {M M' : Mp} {es es' : Array MapEntry} {clock clock' : Nat} {rows' : List (List CD)} (hM : nth h.mps a=some (.here M)) (hb : p.mp a=some b) (hes : w.heap[b]?=some (.map es clock)) (hx : M'.x.den E=.l rows') (hR : uf M'.kk M'.agg M'.vk es'.toList rows') :
  bq B E p g { h with mps:=bl h.mps a (.here M')} { w with heap:=w.heap.setIfInBounds b (.map es' clock')}:=by
 obtain ⟨b',es0,clock0,rows0,h1,h2,h3,h4,_,_⟩:=H.mm.at_ a M hM
 rw [hb] at h1;cases h1
 have hset:=heap_set (o':=.map es' clock') hes
 have blk : ∀ k o,w.heap[k]?=some o→k≠b→(w.heap.setIfInBounds b (.map es' clock'))[k]?=some o:=fun k o hk hne=>(hset.2 k hne).trans hk
 have cellne : ∀ (k o : Nat) (v : Value),w.cell? ⟨k,o,none⟩=some v→({ w with heap:=w.heap.setIfInBounds b (.map es' clock')} : World).cell? ⟨k,o,none⟩=some v:=fun k o v hk=>by
  have hne : k≠b:=fun e=>by
   subst e;simp [World.cell?,hes] at hk
  simp only [World.cell?] at hk ⊢
  rw [hset.2 k hne];exact hk
 have frzne : ∀ (k o : Nat),k≠b→({ w with heap:=w.heap.setIfInBounds b (.map es' clock')} : World).frozen? ⟨k,o,none⟩=w.frozen? ⟨k,o,none⟩:=fun k o hne=>by
  simp only [World.frozen?,hset.2 k hne]
 have hfr:=H.fr
 refine ⟨⟨hfr.os,hfr.tape,hfr.output,by simpa using hfr.size,fun k o ho=>?_⟩,H.g0,H.g1,fun k o v hk=>⟨cellne k o v (H.gg k o v hk).1,(H.gg k o v hk).2⟩,fun r cs hr=>?_,H.rfree,fun s A ha=>?_,H.afree,⟨fun s M1 hs=>?_,fun s hs=>H.mm.free s (by simpa [cL] using hs)⟩,fun k a hk=>by simpa using H.nz k a hk⟩
 ·obtain ⟨o',e1,e2⟩:=hfr.obj k o ho
  have:=lt_of_block ho
  exact ⟨o',blk k o' e1 (by omega),e2⟩
 ·obtain ⟨k,q',e1,e2,e3,e4⟩:=(H.reg r cs hr).ex
  have hne : k≠b:=fun e=>by rw [e,h2] at e2;cases e2
  refine ⟨k,q',e1,e2,by simpa using e3,fun o c hc=>?_⟩
  obtain ⟨g1,g2,v,g3,g4⟩:=e4 o c hc
  exact ⟨g1,(frzne k _ hne).trans g2,v,cellne k _ v g3,g4⟩
 ·obtain ⟨ad,cap,rows,e1,e2,e3,e4,e5,e6,e7,e8⟩:=(H.arr s A ha).ex
  refine ⟨⟨ad,cap,rows,e1,e2,e3,e4,e5,e6,e7,fun hc=>?_⟩,fun j e b1 c rows1 k1 k2 k3 i row v k4 k5=>?_⟩
  ·obtain ⟨k,cur,g1,g2,g3,g4⟩:=e8 hc
   exact ⟨k,cur,g1,g2,blk k _ g3 (fun e=>by rw [e,h2] at g2;cases g2),g4⟩
  ·obtain ⟨_,m2,_⟩:=(H.arr s A ha).AN k2 k3 k4
   have hb1 : b1≠b:=fun e=>by rw [e,h2] at m2;cases m2
   have k5' : w.cell? ⟨b1,i * A.K.kd.length + j,none⟩=some v:=by
    simp only [World.cell?] at k5 ⊢
    rw [hset.2 b1 hb1] at k5;exact k5
   have hN:=(H.arr s A ha).ns j e b1 c rows1 k1 k2 k3 i row v k4 k5'
   cases hd : row.getD j .u with
   | o r =>
    rw [hd] at hN
    obtain ⟨ad2,cap2,f1,f2,f3,f4,f5,f6,f7⟩:=hN
    refine ⟨ad2,cap2,f1,f2,f3,f4,f5,f6,fun hc=>?_⟩
    obtain ⟨k,cur,g1,g2,g3,g4⟩:=f7 hc
    exact ⟨k,cur,g1,g2,blk k _ g3 (fun e=>by rw [e,h2] at g2;cases g2),g4⟩
   | _=>rw [hd] at hN;exact hN
 ·rw [aS] at hs
  split at hs
  ·rename_i e
   subst e
   split at hs
   ·cases hs
    exact ⟨b,es',clock',rows',hb,h2,h3,hset.1,hx,hR⟩
   ·cases hs
  ·rename_i hne
   obtain ⟨k,es1,cl1,rows1,g1,g2,g3,g4,g5,g6⟩:=H.mm.at_ s M1 hs
   exact ⟨k,es1,cl1,rows1,g1,g2,g3,blk k _ g4 (fun e=>by rw [e,h2] at g2;cases g2;exact hne rfl),g5,g6⟩
theorem ot {M : Mp} {ki vi : TI} {tk tv : Nat} (h : uX M ki vi tk tv=true) : ki.kd=some M.kk∧vi.kd=some [M.vk]∧M.agg=ki.agg∧tr ki M.kk=true∧dD oI M.kk=true∧oI M.vk=true∧vi.agg=false:=by
 simp only [uX,Bool.and_eq_true] at h
 obtain ⟨_,h⟩:=h
 split at h
 ·rename_i kk vk h1 h2
  simp only [Bool.and_eq_true,Du,Bool.not_eq_true'] at h
  obtain ⟨⟨⟨e1,e2⟩,e3⟩,e4,e5,e6⟩:=h
  have e1:=Kd.fu _ _ e1
  have e2:=Kd.av _ _ e2
  subst e1;subst e2
  refine ⟨h1,h2,iq e3,e4,?_,e5,e6⟩
  simp only [tr,Bool.and_eq_true] at e4
  exact e4.1
 ·cases h
theorem AX (hT : TOk P T) {tk : Nat} {ki : TI} {kk : List Kd} (ht : T.get tk=some ki) (hkd : ki.kd=some kk) (hk : tr ki kk=true) (ha : ki.agg=false) : kk.length=1:=by
 simp only [tr,Bool.and_eq_true] at hk
 rcases (hT.key tk ki ht hk.2).1 ha with ⟨k,_,e⟩ | ⟨_,e⟩ <;> (rw [hkd] at e;cases e;rfl)
end
section
variable {P : Program} {T : TT} {B : cT} {E : Env} {p : Pl} {g : Gm} {h : Hp} {tm : List SR} {a : Act} {w : World}
variable (H : bq B E p g h w) (ht : ∀ i c,nth tm i=some c→c.is E p g (a.tmps.getD i Go.undef)) (dst : Option Tmp) (type : TypeId) (pos : String) (after : Array Edge) (guard : Option (Nat × Bool)) (hT : TOk P T)
include H ht hT
omit ht hT in
theorem Bq (t : TypeId) (M : Mp) (hM : M.x=.nil) :
  mQ P B E p g h a w ⟨dst,.makeMap t none,type,pos,after,guard⟩ (.v (.one (.mp h.mps.length))) { h with mps:=h.mps ++ [.here M]} true:=by
 obtain ⟨q,h1,h2,h3,h4⟩:=H.newMap M (by rw [hM];rfl)
 exact ⟨.map (some w.heap.size),_,q,by simp [execOp,Instr.makeMap],h3,⟨_,h2,rfl⟩,h1,by simp,fun _=>⟨dY ((Below.refl _ _).alloc (Nat.le_refl _) _),h4⟩⟩
theorem CB (t : TypeId) (m x : Operand) {ti ki vi : TI} {tk tv b : Nat} {kx : SV} {M : Mp} {ks : List X} {z : X} (hti : T.get t=some ti) (hk : ti.k=.map tk tv) (hm : ev tm m=some (.v (.one (.mp b)))) (hx : ev tm x=some (.v kx)) (hM : nth h.mps b=some (.here M)) (hki : T.get tk=some ki) (hvi : T.get tv=some vi)
  (hmap : uX M ki vi tk tv=true) (hkf : lb ki kx=true) (hks : cj M.kk kx.cells=some ks) (hz : iW vi=some [z]) :
  mQ P B E p g h a w ⟨dst,.lookup t m x false,type,pos,after,guard⟩ (.v (.one (v9 (.look M.x (iC ks) z M.kk.length M.kk.length) M.vk))) h true:=by
 obtain ⟨i,d,zz,h1,h2,_,_,_,_,_,_,_,h10⟩:=(hT.get t ti hti).ex
 rw [hk] at h10
 subst h10
 obtain ⟨a1,a2,a3,a4,a5,a6,a7⟩:=ot hmap
 obtain ⟨bb,k1,im⟩:=(bw ht hm : ∃ b',p.mp b=some b'∧a.eval m=.map (some b'))
 obtain ⟨b',es,clock,rows,g1,g2,g3,g4,g5,g6⟩:=H.mm.at_ b M hM
 rw [k1] at g1;cases g1
 obtain ⟨vs,ix,hvs⟩:=q8 hkf (bw ht hx : kx.is E p g (a.eval x))
 have hflat:=iI a5 hks hvs
 have hk1 : M.agg=false→M.kk.length=1:=fun e=>AX hT hki a1 a4 (by rw [← a3];exact e)
 have hes : ∀ e∈es.toList,∃ us k',e.key=vof ki.agg us∧G9 M.kk us k':=fun e he=>by
  obtain ⟨ents,r1,_⟩:=g6
  obtain ⟨j,hj⟩:=List.getElem?_of_mem he
  obtain ⟨y,_,hE⟩:=pH r1 hj
  obtain ⟨us,e1,e2⟩:=hE.key
  exact ⟨us,y.1,by rw [e1,a3],e2⟩
 obtain ⟨c1,c2,c3⟩:=xI hT hki a1 a4 hflat hes
 obtain ⟨i2,d2,z2,j1,j2,j3,j4,j5,j6,j7,j8,_⟩:=(hT.get tv vi hvi).ex
 have hzv : cY M.vk z2 (z.den E):=by
  unfold iW at hz
  rw [a2] at hz
  dsimp only at hz
  have hzr:=iI (E:=E) (p:=p) (g:=g) (by simp [dD,a6]) hz (fJ j7)
  obtain ⟨v,hv1,hv2⟩:=G9.BR hzr
  have hna : ∀ cs,z2≠.agg cs:=fun cs e=>by
   have:=j8.2 ⟨cs,e⟩
   rw [a7] at this;cases this
  have : z2.cells=#[z2]:=by
   cases z2 <;> first | rfl | exact absurd rfl (hna _)
  rw [this] at hv1
  simp only [List.cons.injEq,and_true] at hv1
  rw [hv1];exact hv2
 obtain ⟨l1,l2⟩:=zp g6 hk1 hflat
 have hden:=Dy (x:=M.x) (d:=z) g5 (gK ks) fun r hr=>by
  obtain ⟨_,r2,_⟩:=g6.choose_spec
  obtain ⟨us,hus⟩:=r2 r hr
  have:=hus.length.2
  simpa using this
 have main : ∃ v,(Instr.lookup t (.map (some bb)) (vof ki.agg vs) false).run P w=.ok v w∧cY M.vk v ((gQ rows (ks.map (X.den E)) M.kk.length).getD (z.den E)):=by
  rcases c3 w with ⟨f1,f2⟩ | ⟨j,e,f1,f2,f3⟩
  ·refine ⟨z2,?_,?_⟩
   ·simp [Instr.lookup,run_underlying h2,Go.MapKept.run_getObj_map g4,c1,f1,zeroValue,typeInfo,j1,j5,Result.andThen]
   ·rw [l1 (by rw [a3];exact f2)];exact hzv
  ·obtain ⟨dd,l3,l4⟩:=l2 j e f2 (by rw [a3];exact f3)
   refine ⟨e.val,?_,by rw [l4];exact l3⟩
   simp [Instr.lookup,run_underlying h2,Go.MapKept.run_getObj_map g4,c1,f1,Result.andThen]
 obtain ⟨v,m1,m2⟩:=main
 refine ⟨v,w,p,by simp [execOp,im,ix,m1],H,?_,Pl.Le.refl _,Nat.le_refl _,fun _=>⟨bj.refl _ _ _ _,fun _ _ _ h=>h⟩⟩
 exact u6 (g:=g) (by rw [hden];exact m2.rd) (fun hk=>by
  have:=(ot ‹_›).2.2.2.2.2.1
  cases hv : M.vk <;> rw [hv] at this hk <;> simp [oI,Kd.DF] at this hk)
theorem qH (t : TypeId) (m x y : Operand) {ti ki vi : TI} {tk tv b : Nat} {kx : SV} {c : SC} {M : Mp} {ks : List X} {d : X} (hti : T.get t=some ti) (hk : ti.k=.map tk tv) (hm : ev tm m=some (.v (.one (.mp b)))) (hx : ev tm x=some (.v kx)) (hy : ev tm y=some (.v (.one c))) (hM : nth h.mps b=some (.here M)) (hki : T.get tk=some ki)
  (hmap : uX M ki vi tk tv=true) (hkf : lb ki kx=true) (hks : cj M.kk kx.cells=some ks) (hd : jI M.vk c=some d) :
  ∃ w',(∀ op,op=.mapUpdate t m x y∨op=.insert t m x y→(execOp a.eval ⟨dst,op,type,pos,after,guard⟩).run P w=.ok .skip w')∧bq B E p g { h with mps:=bl h.mps b (.here { M with x:=.app (iC (ks ++ [d])) M.x})} w'∧w.heap.size≤w'.heap.size:=by
 obtain ⟨i,dd,zz,h1,h2,_,_,_,_,_,_,_,h10⟩:=(hT.get t ti hti).ex
 rw [hk] at h10
 subst h10
 obtain ⟨a1,a2,a3,a4,a5,a6,a7⟩:=ot hmap
 obtain ⟨bb,k1,im⟩:=(bw ht hm : ∃ b',p.mp b=some b'∧a.eval m=.map (some b'))
 obtain ⟨b',es,clock,rows,g1,g2,g3,g4,g5,g6⟩:=H.mm.at_ b M hM
 rw [k1] at g1;cases g1
 obtain ⟨vs,ix,hvs⟩:=q8 hkf (bw ht hx : kx.is E p g (a.eval x))
 have hflat:=iI a5 hks hvs
 have hval:=qO a6 hd (bw ht hy : c.is E p g (a.eval y))
 have hk1 : M.agg=false→M.kk.length=1:=fun e=>AX hT hki a1 a4 (by rw [← a3];exact e)
 have hes : ∀ e∈es.toList,∃ us k',e.key=vof ki.agg us∧G9 M.kk us k':=fun e he=>by
  obtain ⟨ents,r1,_⟩:=g6
  obtain ⟨j,hj⟩:=List.getElem?_of_mem he
  obtain ⟨y,_,hE⟩:=pH r1 hj
  obtain ⟨us,e1,e2⟩:=hE.key
  exact ⟨us,y.1,by rw [e1,a3],e2⟩
 obtain ⟨c1,c2,c3⟩:=xI hT hki a1 a4 hflat hes
 have hden : ({ M with x:=X.app (iC (ks ++ [d])) M.x} : Mp).x.den E=.l ((ks.map (X.den E) ++ [d.den E]) :: rows):=by
  simp only [X.den,gK,g5,CD.ax,List.map_append,List.map_cons,List.map_nil,List.cons_append,List.nil_append]
 rcases c3 w with ⟨f1,f2⟩ | ⟨j,e,f1,f2,f3⟩
 ·have hR:=zo g6 hflat hval (born:=clock) (by rw [a3];exact f2)
  refine ⟨_,?_,H.CZ (es':=es.push { key:=vof ki.agg vs,val:=a.eval y,born:=clock}) (clock':=clock + 1) hM k1 g4 hden ?_,by simp⟩
  ·intro op hop
   rcases hop with e | e <;> subst e <;> simp [execOp,im,ix,Instr.mapUpdate,run_underlying h2,Go.MapKept.run_getObj_map g4,c1,f1,Go.MapKept.run_setObj_map _ g4,Result.andThen]
  ·rw [Array.toList_push,← a3];exact hR
 ·have hj : es[j]?=some e:=by simpa using f2
  have hR:=Mn g6 hk1 hflat hval f2 (by rw [a3];exact f3)
  refine ⟨_,?_,H.CZ (es':=es.modify j fun e=>{ e with key:=vof ki.agg vs,val:=a.eval y}) (clock':=clock) hM k1 g4 hden ?_,by simp⟩
  ·intro op hop
   rcases hop with e | e <;> subst e <;> simp [execOp,im,ix,Instr.mapUpdate,run_underlying h2,Go.MapKept.run_getObj_map g4,c1,f1,hj,f3,c2,Go.MapKept.run_setObj_map _ g4,Result.andThen]
  ·rw [Array.toList_modify,← a3];exact hR
end
end Go.Sy
