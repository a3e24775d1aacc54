import Derived.Test.YtpmamacjepcdmaaSyMdl
import Derived.SizedLaws
import Derived.ChangeSlices
import Derived.Carry
import Derived.OpenShut
import Derived.ProofKit
namespace Go.Sy
open Go.RowKit Go.ChangeShapes Go.WideShapes
section
variable {H : Type} {enc : TypeId × Value→H} {P : Program} {W : World} {sp : Nat→Bool} {held : Bool} {E : Env} {p : Pl} {g g' : Gm}
def Wg (W : World) : Gm:=fun k o=>W.cell? ⟨k,o,none⟩
def kdF (chk : TypeId→List Kd→Bool) (P : Program) : List Field→Nat→List Kd→Bool
 | [],_,ks=>ks.isEmpty
 | f :: l,off,ks=>(Nat.beq f.offset off).and ((Nat.ble (P.cellsOf f.type) ks.length).and ((chk f.type (ks.take (P.cellsOf f.type))).and (kdF chk P l (off + P.cellsOf f.type) (ks.drop (P.cellsOf f.type)))))
def nK (P : Program) : Nat→TypeId→List Kd→Bool
 | 0,_,_=>false
 | d + 1,t,ks=>match P.underlying t with
  | some .bool=>(match ks with | [.bool]=>true | _=>false)
  | some (.int k)=>(match ks with | [.int j]=>IntKind.same k j | _=>false)
  | some .string=>(match ks with | [.str]=>true | _=>false)
  | some (.slice e)=>(match ks with | [.sl b kd]=>(Nat.beq b (P.bytesOf e)).and ((Nat.beq kd.length (P.cellsOf e)).and ((Nat.blt 0 kd.length).and (nK P d e kd))) | _=>false)
  | some (.struct fs)=>kdF (nK P d) P fs.toList 0 ks
  | _=>false
theorem aJ.append : ∀ {k1 k2 : List Kd} {f : Nat→Option Value} {r1 r2 : List CD},aJ g k1 f r1→aJ g k2 (fun j=>f (k1.length + j)) r2→aJ g (k1 ++ k2) f (r1 ++ r2)
 | [],_,f,[],_,_,h=>by
  have e : (fun j=>f (([] : List Kd).length + j))=f:=funext fun j=>by simp
  rw [e] at h
  exact h
 | k :: ks,k2,f,d :: ds,_,h,h'=>⟨h.1,aJ.append h.2 (by
   have e : (fun j=>f ((k :: ks).length + j))=fun j=>f (ks.length + j + 1):=funext fun j=>by congr 1;simp;omega
   rw [e] at h'
   exact h')⟩
 | [],_,_,_ :: _,_,h,_=>h.elim
 | _ :: _,_,_,[],_,h,_=>h.elim
theorem Ax {R : Nat→List CD→Prop} : ∀ n : Nat,(∀ i,i < n→∃ row,R i row)→∃ rows : List (List CD),rows.length=n∧∀ i row,rows[i]?=some row→R i row
 | 0,_=>⟨[],rfl,fun i row h=>by simp at h⟩
 | n + 1,h=>by
  obtain ⟨rows,h1,h2⟩:=Ax n fun i hi=>h i (by omega)
  obtain ⟨row,hr⟩:=h n (by omega)
  refine ⟨rows ++ [row],by simp [h1],fun i r hi=>?_⟩
  rcases Nat.lt_or_ge i n with hl | hg
  ·rw [List.getElem?_append_left (by omega)] at hi
   exact h2 i r hi
  ·rw [List.getElem?_append_right (by omega)] at hi
   have : i=n:=by
    have:=(List.getElem?_eq_some_iff.1 hi).1
    simp at this
    omega
   subst this
   rw [h1,Nat.sub_self] at hi
   simp at hi
   subst hi
   exact hr
theorem vf {n : Nat} {cs : List Value} (ih : ∀ t ks (cs : List Value) x,nK P n t ks=true→(∃ fuel,DataW.trod enc P W 0 sp held fuel t cs=some x)→(∀ m∈x.1.weights P t,m≤reachBytes)→∃ row,aJ (Wg W) ks (fun j=>cs[j]?) row) {fuel : Nat} :
  ∀ (l : List Field) (xs : List (DataW H × List MemPlace)) (off : Nat) (ks : List Kd),kdF (nK P n) P l off ks=true→xs.length=l.length →
   (∀ (i : Nat) (f : Field),l[i]?=some f→DataW.trod enc P W 0 sp held fuel f.type ((cs.drop f.offset).take (P.cellsOf f.type))=xs[i]?) →
   (∀ m∈DataW.weightsEach P (l.map (·.type)) (xs.map (·.1)),m≤reachBytes)→∃ row,aJ (Wg W) ks (fun j=>cs[off + j]?) row
 | [],xs,off,ks,h,_,_,_=>by
  simp only [kdF,List.isEmpty_iff] at h
  subst h
  exact ⟨[],trivial⟩
 | f :: l,[],_,_,_,h,_,_=>by simp at h
 | f :: l,x :: xs,off,ks,h,hl,ht,hw=>by
  simp only [kdF,Bool.and_eq_true] at h
  obtain ⟨h1,h2,h3,h4⟩:=h
  have h1:=Nat.eq_of_beq_eq_true h1
  have h2:=Nat.le_of_ble_eq_true h2
  obtain ⟨r1,hr1⟩:=ih f.type _ _ x h3 ⟨fuel,ht 0 f rfl⟩ fun m hm=>hw m (by simp only [List.map_cons,DataW.weightsEach,List.mem_append];exact .inl hm)
  obtain ⟨r2,hr2⟩:=vf ih l xs _ _ h4 (by simpa using hl) (fun i f' hf=>ht (i + 1) f' (by simpa using hf)) fun m hm=>hw m (by simp only [List.map_cons,DataW.weightsEach,List.mem_append];exact .inr hm)
  refine ⟨r1 ++ r2,?_⟩
  rw [← List.take_append_drop (P.cellsOf f.type) ks]
  refine aJ.append (aJ.mono (Gm.Le.refl _) _ _ _ _ (fun j v hv=>?_) hr1) (aJ.mono (Gm.Le.refl _) _ _ _ _ (fun j v hv=>?_) hr2)
  ·simp only [List.getElem?_take,List.getElem?_drop] at hv
   split at hv
   ·rw [← h1];exact hv
   ·cases hv
  ·simp only [List.length_take,Nat.min_eq_left h2]
   rw [← Nat.add_assoc]
   exact hv
theorem lP {e : TypeId} : ∀ {ds : List (DataW H)} {d : DataW H} {m : Nat},d∈ds→m∈d.weights P e→m∈DataW.weightsAll P e ds
 | d0 :: ds,d,m,hd,hm=>by
  simp only [DataW.weightsAll,List.mem_append]
  rcases List.mem_cons.1 hd with rfl | hd
  ·exact .inl hm
  ·exact .inr (lP hd hm)
 | [],_,_,hd,_=>by cases hd
theorem rP : ∀ (n : Nat) (t : TypeId) (ks : List Kd) (cs : List Value) (x : DataW H × List MemPlace),nK P n t ks=true→(∃ fuel,DataW.trod enc P W 0 sp held fuel t cs=some x) →
  (∀ m∈x.1.weights P t,m≤reachBytes)→∃ row,aJ (Wg W) ks (fun j=>cs[j]?) row
 | 0,_,_,_,_,h,_,_=>by simp [nK] at h
 | n + 1,t,ks,cs,x,h,⟨fuel,hf⟩,hw=>by
  unfold nK at h
  split at h
  ·rename_i hu
   split at h
   ·obtain ⟨b,rfl,_⟩:=DataW.trod_bool hu hf
    exact ⟨[.b b],⟨_,rfl,by simp only [Rd];exact ⟨b,rfl,rfl⟩⟩,trivial⟩
   ·cases h
  ·rename_i k hu
   split at h
   ·have e:=IntKind.av h
    subst e
    obtain ⟨m,rfl,_⟩:=DataW.trod_int hu hf
    exact ⟨[.i m],⟨_,rfl,by simp only [Rd];exact ⟨m,rfl,rfl⟩⟩,trivial⟩
   ·cases h
  ·rename_i hu
   split at h
   ·cases fuel with
    | zero=>simp [DataW.trod] at hf
    | succ fuel =>
     unfold DataW.trod at hf
     rw [hu] at hf
     split at hf <;> simp_all
     rename_i s
     exact ⟨[.s s.data.toList],⟨_,rfl,by simp only [Rd];exact ⟨s,rfl,rfl⟩⟩,trivial⟩
   ·cases h
  ·rename_i e hu
   split at h
   ·rename_i b kd
    simp only [Bool.and_eq_true] at h
    obtain ⟨h1,h2,h3,h4⟩:=h
    have h1:=Nat.eq_of_beq_eq_true h1
    have h2:=Nat.eq_of_beq_eq_true h2
    have h3:=Hk h3
    rcases DataW.trod_slice hu hf with ⟨rfl,_⟩ | ⟨a,len,cap,elems,rest,m,_,rfl,rfl,hb,hl,hm,hlen,hel,_,_⟩
    ·refine ⟨[.l []],⟨_,rfl,?_⟩,trivial⟩
     simp only [Rd]
     exact ⟨none,0,0,[],rfl,rfl,rfl,Nat.le_refl _,Nat.zero_le _,by simp,fun h=>absurd h (by omega)⟩
    ·have hrow : ∀ i,i < len→∃ row,∃ csi y,W.cells? 0 (a.add (i * P.cellsOf e)) (P.cellsOf e)=some csi∧elems[i]?=some y∧aJ (Wg W) kd (fun j=>csi[j]?) row:=by
      intro i hi
      obtain ⟨y,hy⟩ : ∃ y,elems[i]?=some y:=⟨_,List.getElem?_eq_getElem (by omega)⟩
      have:=hel i hi
      rw [hy,Option.bind_eq_some_iff] at this
      obtain ⟨csi,k1,k2⟩:=this
      obtain ⟨row,hr⟩:=rP n e kd csi y h4 ⟨m,k2⟩ fun q hq=>hw q (by
       simp only [DataW.weights,hu,List.mem_cons,List.mem_append]
       exact .inr (.inl (lP (List.mem_map.2 ⟨y,List.mem_of_getElem? hy,rfl⟩) hq)))
      exact ⟨row,csi,y,k1,hy,hr⟩
     obtain ⟨rows,r1,r2⟩:=Ax len hrow
     have hbyt : len * b≤B47:=by
      have:=hw ((elems.length + rest.length) * P.bytesOf e) (by simp [DataW.weights,hu])
      rw [hlen] at this
      have h5 : len * b≤(len + rest.length) * b:=Nat.mul_le_mul_right _ (by omega)
      rw [← h1] at this
      unfold reachBytes at this
      show len * b≤140737488355328
      omega
     refine ⟨[.l rows],⟨_,rfl,?_⟩,trivial⟩
     simp only [Rd]
     refine ⟨some a,len,cap,rows,rfl,rfl,r1,hl,hm,hbyt,fun h0=>?_⟩
     have hspot : a.spot=none:=by
      obtain ⟨_,csi,_,k1,_,_⟩:=hrow 0 h0
      rw [Nat.zero_mul] at k1
      obtain ⟨_,k2,k3⟩:=World.cells?_some k1
      have:=k3 0 (by omega)
      have e0 : (a.add 0).add 0=a:=by simp [Addr.add]
      rw [e0,List.getElem?_eq_getElem (by omega)] at this
      unfold World.cell? at this
      split at this
      ·split at this
       ·cases this
       ·rename_i hs;simpa using hs
      ·cases this
     obtain ⟨ab,ao,as⟩:=a
     simp only at hspot
     subst hspot
     refine ⟨ab,ao,rfl,fun i row hi=>?_⟩
     obtain ⟨csi,_,k1,_,k3⟩:=r2 i row hi
     refine aJ.mono (Gm.Le.refl _) _ _ _ _ (fun j v hv=>?_) k3
     obtain ⟨_,k4,k5⟩:=World.cells?_some k1
     have hj : j < P.cellsOf e:=by
      have:=(List.getElem?_eq_some_iff.1 hv).1
      omega
     have:=k5 j hj
     rw [et,et,hv] at this
     show W.cell? _=_
     rw [h2,← this,Nat.add_assoc]
   ·cases h
  ·rename_i fs hu
   obtain ⟨xs,m,_,rfl,hcl,hxl,hel⟩:=DataW.trod_struct hu hf
   have:=vf (cs:=cs) (fun t ks cs x h1 h2 h3=>rP n t ks cs x h1 h2 h3) fs.toList xs 0 ks h (by rw [hxl];simp) (fun i f hi=>hel i f (by simpa using hi)) fun q hq=>hw q (by simpa [DataW.weights,hu] using hq)
   simpa using this
  ·cases h
theorem Dr {vals : List Value} : ∀ (ks : List PK) (nx na o : Nat) (row : List CD),dU PK.po ks=false→aJ g (ks.map PK.kd) (fun j=>vals[o + j]?) row→(∀ i,i < row.length→E (nx + i)=row.getD i .u)→vals.length=o + ks.length →
  aE (SC.is E p g) (mkC nx na ks) (vals.drop o)
 | [],nx,na,o,[],_,_,_,hl=>by
  rw [List.drop_eq_nil_of_le (by simp at hl;omega)]
  trivial
 | k :: ks,nx,na,o,d :: ds,ho,⟨⟨v,hv,hr⟩,hrest⟩,hE,hl=>by
  simp only [dU,Bool.or_eq_false_iff] at ho
  simp only [List.length_cons] at hl
  have hlt : o < vals.length:=by omega
  rw [List.drop_eq_getElem_cons hlt]
  have hv' : vals[o]=v:=by
   have hv : vals[o + 0]?=some v:=hv
   rw [Nat.add_zero,List.getElem?_eq_getElem hlt] at hv
   exact Option.some.inj hv
  have e0 : E nx=d:=by have:=hE 0 (by simp);simpa using this
  have ih:=Dr ks (nx + 1) na (o + 1) ds ho.2 (by
   have e : (fun j=>vals[o + 1 + j]?)=fun j=>vals[o + (j + 1)]?:=funext fun j=>by congr 1;omega
   rw [e];exact hrest) (fun i hi=>by
    have:=hE (i + 1) (by simp;omega)
    rw [show nx + 1 + i=nx + (i + 1) by omega,this]
    simp) (by omega)
  rw [hv']
  cases k with
  | int k =>
   refine ⟨?_,ih⟩
   simp only [PK.kd,Rd] at hr
   obtain ⟨n,rfl,rfl⟩:=hr
   exact ⟨n,e0,rfl⟩
  | bool =>
   refine ⟨?_,ih⟩
   simp only [PK.kd,Rd] at hr
   obtain ⟨n,rfl,rfl⟩:=hr
   exact ⟨n,e0,rfl⟩
  | str =>
   refine ⟨?_,ih⟩
   simp only [PK.kd,Rd] at hr
   obtain ⟨n,rfl,rfl⟩:=hr
   exact ⟨n,e0,rfl⟩
  | fz K =>
   refine ⟨?_,ih⟩
   show Rd g _ v (E nx)
   rw [e0];exact hr
  | own _ _=>simp [PK.po] at ho
 | [],_,_,_,_ :: _,_,h,_,_=>h.elim
 | _ :: _,_,_,_,[],_,h,_,_=>h.elim
def vw (P : Program) (t : TypeId) : AK→Bool
 | .one k=>(k.po.not).and ((nK P 20 t [k.kd]).and (match P.underlying t with | some (.struct _)=>false | _=>true))
 | .agg ks=>((dU PK.po ks).not).and ((nK P 20 t (ks.map PK.kd)).and ((match P.underlying t with | some (.struct _)=>true | _=>false).and (Nat.beq (P.cellsOf t) ks.length)))
 | .ptr _=>false
 | .fn _=>false
def sH : List PK→Bool
 | []=>true
 | .fz K :: l=>(iM K.kd).and (sH l)
 | .own _ K :: l=>(iM K.kd).and (sH l)
 | _ :: l=>sH l
theorem lT : ∀ {k l : List PK},sH k=true→sH l=true→sH (k ++ l)=true
 | [],_,_,h=>h
 | k :: l,m,h,h'=>by
  cases k <;> simp only [sH,List.cons_append,Bool.and_eq_true] at h ⊢ <;> first
   | exact lT (k:=l) h h'
   | exact ⟨h.1,lT (k:=l) h.2 h'⟩
theorem yS {g : Gm} : ∀ {ks : List PK} {f : Nat→Option Value} {row : List CD},sH ks=true→aJ g (ks.map PK.kd) f row→CD.oks (ks.map PK.kd) row
 | [],_,[],_,_=>trivial
 | k :: ks,_,d :: ds,hn,⟨⟨v,_,hr⟩,hrest⟩=>by
  have h:=Rd.ok0 _ _ _ hr
  cases k <;> simp only [sH,Bool.and_eq_true] at hn <;> first
   | exact ⟨h,yS hn hrest⟩
   | exact ⟨⟨h,CD.yi hn.1⟩,yS hn.2 hrest⟩
 | [],_,_ :: _,_,h=>h.elim
 | _ :: _,_,[],_,h=>h.elim
def lC (P : Program) : List TypeId→List AK→Bool
 | [],[]=>true
 | t :: ts,a :: as=>((vw P t a).and (sH a.ks)).and (lC P ts as)
 | _,_=>false
theorem Fo {t : TypeId} {a : AK} {v : Value} {d : DataW H} {ps : List MemPlace} {r : Reach} {b0 : Nat} (hc : vw P t a=true) (hv : Value.okWide P W r b0 t v) (hd : DataW.Trod enc P W 0 sp held t v d ps) (hw : ∀ m∈d.weights P t,m≤reachBytes) :
  ∃ row,aJ (Wg W) (a.ks.map PK.kd) (fun j=>v.cells.toList[j]?) row∧v.cells.toList.length=a.ks.length∧dU PK.po a.ks=false ∧
   ((∃ k,a=.one k∧v.cells.toList=[v])∨(∃ ks vs,a=.agg ks∧v=.agg vs∧v.cells.toList=vs.toList)):=by
 obtain ⟨fuel,hf⟩:=hd
 cases a with
 | one k =>
  simp only [vw,Bool.and_eq_true,Bool.not_eq_true'] at hc
  obtain ⟨h1,h2,h3⟩:=hc
  obtain ⟨row,hr⟩:=rP 20 t _ _ _ h2 ⟨fuel,hf⟩ hw
  have hvc : v.cells.toList=[v]:=by
   unfold nK at h2
   split at h2
   ·rename_i hu;obtain ⟨b,rfl⟩:=okWide_bool hu hv;rfl
   ·rename_i hu;obtain ⟨b,rfl⟩:=okWide_int hu hv;rfl
   ·rename_i hu;obtain ⟨b,rfl⟩:=okWide_string hu hv;rfl
   ·rename_i hu;obtain ⟨_,_,_,rfl⟩:=okWide_slice hu hv;rfl
   ·rename_i hu;rw [hu] at h3;cases h3
   ·cases h2
  exact ⟨row,hr,by rw [hvc];rfl,by simp [AK.ks,dU,h1],.inl ⟨k,rfl,hvc⟩⟩
 | agg ks =>
  simp only [vw,Bool.and_eq_true,Bool.not_eq_true'] at hc
  obtain ⟨h1,h2,h3,h4⟩:=hc
  obtain ⟨row,hr⟩:=rP 20 t _ _ _ h2 ⟨fuel,hf⟩ hw
  split at h3
  ·rename_i fs hu
   have hv':=hv
   simp only [Value.okWide,hu] at hv'
   obtain ⟨cs,rfl,hs,_⟩:=hv'
   exact ⟨row,hr,by simp [Value.cells,hs,AK.ks,Nat.eq_of_beq_eq_true h4],h1,.inr ⟨ks,cs,rfl,rfl,rfl⟩⟩
  ·cases h3
 | ptr _=>cases hc
 | fn _=>cases hc
theorem rz {α : Type} {f : α→Bool} : ∀ {l m : List α},dU f l=false→dU f m=false→dU f (l ++ m)=false
 | [],_,_,h=>h
 | a :: l,m,h,h'=>by
  simp only [dU,Bool.or_eq_false_iff] at h
  simp only [List.cons_append,dU,h.1,rz h.2 h',Bool.or_false]
theorem wk {r : Nat} : ∀ {as : List AK} {cs : List SC} {vs : List Value},aE (fun (a : AK) (v : Value)=>v.cells.toList.length=a.ks.length∧((∃ k,a=.one k∧v.cells.toList=[v])∨(∃ ks us,a=.agg ks∧v=.agg us∧v.cells.toList=us.toList))) as vs →
  aE (SC.is E p g) cs (vs.flatMap fun v=>v.cells.toList)→aE (SR.is E p g) (oG r as cs) vs
 | [],cs,[],_,h=>by
  cases cs
  ·trivial
  ·exact h.elim
 | a :: as,cs,v :: vs,⟨⟨hl,h1⟩,h2⟩,h=>by
  simp only [List.flatMap_cons] at h
  rcases h1 with ⟨k,rfl,hv⟩ | ⟨ks,us,rfl,rfl,hv⟩
  ·rw [hv] at h
   cases cs with
   | nil=>exact h.elim
   | cons c cs=>exact ⟨h.1,wk h2 h.2⟩
  ·have e1 : oG r (.agg ks :: as) cs=.v (.agg (cs.take ks.length)) :: oG r as (cs.drop ks.length):=by cases cs <;> rfl
   rw [e1]
   rw [hv] at hl
   have ht:=aE.take ks.length h
   have hdp:=aE.drop ks.length h
   simp only [AK.ks] at hl
   rw [hv,← hl,List.take_left] at ht
   rw [hv,← hl,List.drop_left] at hdp
   rw [hl] at ht hdp
   exact ⟨⟨us.toList,by simp,ht⟩,wk h2 hdp⟩
 | [],_,_ :: _,h,_=>h.elim
 | _ :: _,_,[],h,_=>h.elim
theorem vu {r : Reach} {b0 : Nat} : ∀ {ts : List TypeId} {as : List AK} {vs : List Value} {ds : List (DataW H)} {ps : List MemPlace},lC P ts as=true→(∀ (j : Nat) t v,ts[j]?=some t→vs[j]?=some v→Value.okWide P W r b0 t v) →
  DataW.TrodAll enc P W 0 sp held ts vs ds ps→(∀ m∈DataW.weightsEach P ts ds,m≤reachBytes) →
  ∃ row,aJ (Wg W) ((as.flatMap AK.ks).map PK.kd) (fun j=>(vs.flatMap fun v=>v.cells.toList)[j]?) row∧dU PK.po (as.flatMap AK.ks)=false∧(vs.flatMap fun v=>v.cells.toList).length=(as.flatMap AK.ks).length ∧
   aE (fun (a : AK) (v : Value)=>v.cells.toList.length=a.ks.length∧((∃ k,a=.one k∧v.cells.toList=[v])∨(∃ ks us,a=.agg ks∧v=.agg us∧v.cells.toList=us.toList))) as vs
 | [],[],[],[],ps,_,_,_,_=>⟨[],trivial,rfl,rfl,trivial⟩
 | t :: ts,a :: as,v :: vs,d :: ds,ps,hc,hv,⟨p,q,hd,hrest,_⟩,hw=>by
  simp only [lC,Bool.and_eq_true] at hc
  obtain ⟨r1,h1,h2,h3,h4⟩:=Fo hc.1.1 (hv 0 t v rfl rfl) hd fun m hm=>hw m (by simp only [DataW.weightsEach,List.mem_append];exact .inl hm)
  obtain ⟨r2,k1,k2,k3,k4⟩:=vu hc.2 (fun j t' v' ht hv'=>hv (j + 1) t' v' (by simpa using ht) (by simpa using hv')) hrest fun m hm=>hw m (by simp only [DataW.weightsEach,List.mem_append];exact .inr hm)
  refine ⟨r1 ++ r2,?_,rz h3 k2,by simp only [List.flatMap_cons,List.length_append,h2,k3],⟨h2,h4⟩,k4⟩
  simp only [List.flatMap_cons,List.map_append]
  refine aJ.append (aJ.mono (Gm.Le.refl _) _ _ _ _ (fun j u hu=>?_) h1) (aJ.mono (Gm.Le.refl _) _ _ _ _ (fun j u hu=>?_) k1)
  ·rw [List.getElem?_append_left (by have:=(List.getElem?_eq_some_iff.1 hu).1;exact this)];exact hu
  ·rw [List.getElem?_append_right (by rw [h2,List.length_map];omega),h2,List.length_map,Nat.add_sub_cancel_left];exact hu
 | [],_ :: _,_,_,_,h,_,_,_=>by cases h
 | _ :: _,[],_,_,_,h,_,_,_=>by cases h
 | [],[],_ :: _,_,_,_,_,h,_=>h.elim
 | [],[],[],_ :: _,_,_,_,h,_=>h.elim
 | _ :: _,_ :: _,[],_,_,_,_,h,_=>h.elim
 | _ :: _,_ :: _,_ :: _,[],_,_,_,h,_=>h.elim
def uP : List AK→Bool
 | []=>true
 | .ptr _ :: _=>false
 | _ :: l=>uP l
theorem lj : ∀ {as : List AK} {cs : List SC},uP as=true→dv as cs=[]
 | [],_,_=>rfl
 | .one _ :: l,[],_=>rfl
 | .one _ :: l,_ :: cs,h=>lj (as:=l) h
 | .agg ks :: l,cs,h=>by
  have e1 : dv (.agg ks :: l) cs=dv l (cs.drop ks.length):=by cases cs <;> rfl
  rw [e1];exact lj (as:=l) h
 | .ptr _ :: _,_,h=>by cases h
 | .fn f :: l,cs,h=>by
  have e1 : dv (.fn f :: l) cs=dv l cs:=by cases cs <;> rfl
  rw [e1];exact lj (as:=l) h
theorem B0 : ∀ (ks : List PK) (nx : Nat),dU PK.po ks=false→mkA nx ks=[]:=by
 intro ks
 induction ks with
 | nil=>intro _ _;rfl
 | cons k l ih =>
  intro nx h
  simp only [dU,Bool.or_eq_false_iff] at h
  cases k <;> first
   | exact ih (nx + 1) h.2
   | (simp [PK.po] at h)
theorem Eg : ∀ {ts : List TypeId} {as : List AK},lC P ts as=true→sH (as.flatMap AK.ks)=true
 | [],[],_=>rfl
 | t :: ts,a :: as,h=>by
  simp only [lC,Bool.and_eq_true] at h
  rw [List.flatMap_cons]
  exact lT h.1.2 (Eg h.2)
 | [],_ :: _,h=>by cases h
 | _ :: _,[],h=>by cases h
theorem sT : ∀ {ts : List TypeId} {as : List AK},lC P ts as=true→uP as=true
 | [],[],_=>rfl
 | t :: ts,a :: as,h=>by
  simp only [lC,Bool.and_eq_true] at h
  cases a with
  | one k=>exact (sT (ts:=ts) (as:=as) h.2 : uP as=true)
  | agg k=>exact (sT (ts:=ts) (as:=as) h.2 : uP as=true)
  | ptr k=>simp [vw] at h
  | fn k=>simp [vw] at h
 | [],_ :: _,h=>by cases h
 | _ :: _,[],h=>by cases h
theorem B5 {f : FuncId} {as : List AK} {ts : List TypeId} {vs : List Value} {ds : List (DataW H)} {ps : List MemPlace} {r : Reach} {b0 : Nat}
  (ok : cB P f ⟨⟨as,[.one .bool]⟩,fun _=>True,fun _ o=>o=[.b true]⟩) (hc : lC P ts as=true) (hv : ∀ (j : Nat) t v,ts[j]?=some t→vs[j]?=some v→Value.okWide P W r b0 t v)
  (hd : DataW.TrodAll enc P W 0 sp held ts vs ds ps) (hw : ∀ m∈DataW.weightsEach P ts ds,m≤reachBytes) :
  Calls P f vs.toArray W fun e w'=>e=.returned (.bool true)∧Below W.heap.size W w':=by
 obtain ⟨row,h1,h2,h3,h4⟩:=vu hc hv hd hw
 have hn:=sT hc
 let p0 : Pl:=⟨fun _=>none,fun _=>none,fun _=>none,fun _=>.z⟩
 let E0 : Env:=fun i=>row.getD i .u
 have hins : Sig.ins ⟨as,[.one .bool]⟩=as.flatMap AK.ks:=rfl
 have hh0 : Sig.h0 ⟨as,[.one .bool]⟩=⟨[],[],[]⟩:=by
  simp only [Sig.h0,hins,B0 _ _ h2]
  rw [lj hn]
 have hmem : bq ⟨W,Mof (Sig.h0 ⟨as,[.one .bool]⟩) p0,Wg W,p0.reg⟩ E0 p0 (Wg W) (Sig.h0 ⟨as,[.one .bool]⟩) W:=by
  rw [hh0]
  exact ⟨cd.refl _ _,Gm.Le.refl _,fun k o v h=>.inl h,fun k o v h=>⟨h,rfl⟩,fun r cs h=>by simp [nth] at h,fun _ _=>rfl,fun r cs h=>by simp [nth] at h,fun _ _=>rfl,⟨fun a M ha=>(by cases a <;> cases ha),fun _ _=>rfl⟩,fun k a h=>h.elim⟩
 have hlen : row.length=(as.flatMap AK.ks).length:=by rw [h1.length,List.length_map]
 have hcells : aE (SC.is E0 p0 (Wg W)) (mkC 0 0 (as.flatMap AK.ks)) (vs.flatMap fun v=>v.cells.toList):=by
  have:=Dr (E:=E0) (p:=p0) (vals:=vs.flatMap fun v=>v.cells.toList) (as.flatMap AK.ks) 0 0 0 row h2 (by simpa using h1) (fun i _=>by simp [E0]) (by simpa using h3)
  simpa using this
 have hargs : aE (SR.is E0 p0 (Wg W)) (Sig.aM ⟨as,[.one .bool]⟩) vs:=wk h4 hcells
 have hlet : aH E0 (Sig.ins ⟨as,[.one .bool]⟩).length=row:=by
  rw [hins,← hlen]
  apply List.ext_getElem?
  intro i
  simp only [aH,List.getElem?_map]
  rcases Nat.lt_or_ge i row.length with hl | hg
  ·rw [List.getElem?_range hl,List.getElem?_eq_getElem hl]
   simp [E0,hl]
  ·rw [List.getElem?_eq_none (by simpa using hg),List.getElem?_eq_none hg]
   rfl
 have hoks : CD.oks (Sig.Jv ⟨as,[.one .bool]⟩) (aH E0 (Sig.ins ⟨as,[.one .bool]⟩).length):=by
  rw [hlet]
  exact yS (Eg hc) h1
 refine (ok.2 W (Wg W) p0 E0 vs hmem hargs hoks trivial).mono fun e w' he=>?_
 obtain ⟨outs,p1,g1,v,rfl,k2,k3,k4,k5,k6⟩:=he
 subst k3
 have hv : v=.bool true:=by
  have k6 : (Sig.C2 ⟨as,[.one .bool]⟩).is (E0.put (Sig.ins ⟨as,[.one .bool]⟩).length [.b true]) p1 g1 v:=k6
  have : Sig.nP ⟨as,[.one .bool]⟩=0:=by
   show (as.flatMap AK.ps).length=0
   have : ∀ l : List AK,uP l=true→l.flatMap AK.ps=[]:=fun l=>by
    induction l with
    | nil=>intro _;rfl
    | cons a l ih =>
     intro hl
     cases a with
     | one k=>exact ih hl
     | agg k=>exact ih hl
     | ptr k=>cases hl
     | fn k=>exact ih hl
   rw [this as hn];rfl
  have ho : Sig.outs ⟨as,[.one .bool]⟩=[.bool]:=by
   show as.flatMap AK.ps ++ [PK.bool]=_
   have : as.flatMap AK.ps=[]:=List.length_eq_zero_iff.1 this
   rw [this];rfl
  simp only [Sig.C2,ho,this,mkC,List.drop_zero,lN,wP] at k6
  obtain ⟨b,k7,k8⟩ : ∃ b,_∧_:=k6
  simp only [X.den,Env.put,Nat.lt_irrefl,if_false,Nat.sub_self,List.getD_cons_zero,CD.b.injEq] at k7
  rw [k8,← k7]
 refine ⟨by rw [hv],⟨k5.fr.os,k5.fr.tape,k5.fr.output,k5.fr.size,fun k hk=>?_⟩⟩
 obtain ⟨o,ho⟩:=fW hk
 obtain ⟨o',e1,e2⟩:=k5.fr.obj k o ho
 have : o'=o:=e2.none fun i hi=>by
  have hi : Mof (Sig.h0 ⟨as,[.one .bool]⟩) p0 k i:=hi
  rw [hh0] at hi
  rcases hi with ⟨r,cs,b,q,h,_⟩ | ⟨a,A,b,c,h,_⟩ | ⟨a,A,i1,j1,h,_⟩
  ·simp [nth] at h
  ·simp [nth] at h
  ·simp [nth] at h
 rw [e1,this,ho]
end
end Go.Sy

namespace Go.Sy
open Go.RowKit Go.ChangeShapes Go.WideShapes
section
variable {H : Type} {enc : TypeId × Value→H} {P : Program} {W W' : World}
theorem nC (hl : laidOutB P=true) (hb : Below W.heap.size W W') : ∀ {ts : List TypeId} {vs : List Value} {ds : List (DataW H)} {ps : List MemPlace},(∀ t∈ts,P.readableRec t=true∧t < P.types.size) →
  DataW.TrodAll enc P W 0 (fun _=>true) true ts vs ds ps→DataW.TrodAll enc P W' 0 (fun b=>decide (b < W.heap.size)) true ts vs ds ps
 | [],[],[],_,_,h=>h
 | t :: ts,v :: vs,d :: ds,ps,hr,⟨p,q,h1,h2,e⟩=>by
  have hlt : ∀ x∈p,x.block < W.heap.size:=by obtain ⟨m,hm⟩:=h1;exact DataW.trod_lt m _ _ _ hm
  exact ⟨p,q,Below.trod hl (hr t (by simp)).1 (hr t (by simp)).2 h1 hb hlt,nC hl hb (fun t' ht=>hr t' (by simp [ht])) h2,e⟩
 | [],[],_ :: _,_,_,h=>h.elim
 | [],_ :: _,_,_,_,h=>h.elim
 | _ :: _,[],_,_,_,h=>h.elim
 | _ :: _,_ :: _,[],_,_,h=>h.elim
theorem lR : ∀ {ts : List TypeId} {vs : List Value} {ds : List (DataW H)} {ps : List MemPlace} {sp : Nat→Bool},DataW.TrodAll enc P W 0 sp true ts vs ds ps→ds.length=ts.length
 | [],[],[],_,_,_=>rfl
 | _ :: _,_ :: _,_ :: _,_,_,⟨_,_,_,h2,_⟩=>by simp [lR h2]
 | [],[],_ :: _,_,_,h=>h.elim
 | [],_ :: _,_,_,_,h=>h.elim
 | _ :: _,[],_,_,_,h=>h.elim
 | _ :: _,_ :: _,[],_,_,h=>h.elim
end
theorem zE {C : Checked} {os : Os} {f : FuncId} {fn : Func} {s : ChangeSpec} {conds : List PathCond} {as : List AK} {t4 : TypeId} {n : Nat} (own : ownKnob C.prog.godebug=none) (started : os.Started) (H : Type) (enc : TypeId × Value→H)
  (noInit : C.prog.inits.idxOf? f=none) (hfn : C.prog.funcs[f]?=some fn) (hlaid : laidOutB C.prog=true)
  (witness : ∃ (w : World) (tape : Tape) (i : Input),w.os=os∧(w.forCall tape i).Shaped C.prog∧i.vars=[]∧Input.okWide C.prog (w.forCall tape i) .any w.heap.size f i ∧
   s.pre6 enc C.prog fn conds false (w.forCall tape i).memory i.args∧({} : Assume).holds C.prog (lone (Frame.enter C.prog f i.args .normal) [] (w.forCall tape i)))
  (hvars : s.vars=[]) (hvt : s.plain.varTypes C.prog=[]) (hs : ∀ ds : List (DataW H),ds.length=n→s.fn H ds={ results:=[.lit (.bool true)],args:=ds})
  (hn : fn.params.toList.length=n) (hres : fn.resultTypes=#[t4]) (h4 : C.prog.underlying t4=some .bool) (hr : ∀ t∈fn.params.toList,C.prog.readableRec t=true∧t < C.prog.types.size)
  (hc : lC C.prog fn.params.toList as=true) (ok : cB C.prog f ⟨⟨as,[.one .bool]⟩,fun _=>True,fun _ o=>o=[.b true]⟩) :
  ReturnsInHanded {} C os f .any (s.pre6 enc C.prog fn conds false) (s.post enc C.prog fn false true false false):=by
 refine returnsInHanded_of_change_sized own started noInit hfn witness ?_
 intro W base args ds gs before hval hW _ hsz _
 have hW':=hW
 obtain ⟨p,q,hA,hV,rfl,hfz,hnd⟩:=hW
 rw [hvars] at hV
 obtain ⟨rfl,rfl⟩:=trodVars_none hV
 rw [hvt,List.append_nil,List.append_nil] at hsz
 have:=B5 ok hc (fun j t v h1 h2=>hval j t v (by simpa using h1) (by simpa using h2)) hA (fun m hm=>by simpa using List.all_eq_true.1 hsz m hm)
 rw [Array.toArray_toList] at this
 refine this.mono fun e W' ⟨he,bel⟩=>?_
 subst he
 have e:=hs (ds ++ []) (by rw [List.append_nil,lR hA,hn])
 simp only [List.append_nil] at hW' e
 refine ⟨_,rfl,ds,[],p,[],p,[],by simpa using hW',?_,?_,?_,bel.frame _,fun h=>by cases h⟩
 ·rw [List.append_nil,e,hres]
  exact trodAll_mk1 (shut_bool h4 _)
 ·rw [List.append_nil,e]
  exact nC hlaid bel hr hA
 ·rw [hvars,List.append_nil,e]
  rfl
end Go.Sy
