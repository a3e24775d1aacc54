import Derived.Test.YtpmamacjepcdmaaSyTypes
import Derived.Laws.StructEq
import Derived.MapKept
namespace Go.Sy
open Go.RowKit
def eqF (T : TT) (chk : Nat→List Kd→Bool) : List Field→Nat→List Kd→Bool
 | [],_,ks=>ks.isEmpty
 | f :: l,off,ks=>((decide (f.name≠ "_")).and (Nat.beq f.offset off)).and (match T.get f.type with
  | some ti=>((Nat.ble ti.sz ks.length).and (Nat.blt 0 ti.sz)).and ((chk f.type (ks.take ti.sz)).and (eqF T chk l (off + ti.sz) (ks.drop ti.sz)))
  | none=>false)
def tN (P : Program) (T : TT) : Nat→Nat→List Kd→Bool
 | 0,_,_=>false
 | d + 1,t,ks=>match P.underlying t with
  | some .bool=>(match ks with | [.bool]=>true | _=>false)
  | some (.int _)=>(match ks with | [.int _]=>true | _=>false)
  | some (.struct fs)=>(P.stoodInHeld t).not.and (eqF T (tN P T d) fs.toList 0 ks)
  | _=>false
def BT (T : TT) : TT:=T.map fun x=>(x.1,{ x.2 with eq:=false,key:=false})
def B6 (P : Program) (T : TT) : List Field→Nat→List Kd→Bool
 | [],_,_=>true
 | f :: l,off,k :: ks=>(((decide (f.name≠ "_")).and (Nat.beq f.offset off)).and (match T.get f.type,P.underlying f.type,k with
  | some ti,some (.int q),.int q'=>((Nat.beq ti.sz 1).and ti.agg.not).and (IntKind.same q q')
  | some ti,some .bool,.bool=>(Nat.beq ti.sz 1).and ti.agg.not
  | _,_,_=>false)).and (B6 P T l (off + 1) ks)
 | _,_,_=>false
def zG (P : Program) (T : TT) (t : Nat) (ti : TI) : Bool:=match P.underlying t,ti.kd with
 | some (.int q),some [.int q']=>(IntKind.same q q').and ti.agg.not
 | some .bool,some [.bool]=>ti.agg.not
 | some (.struct fs),some kd=>ti.agg.and ((tN P T 20 t kd).and (B6 P T fs.toList 0 kd))
 | _,_=>false
def tw (P : Program) (T : TT) : TT→Bool
 | []=>true
 | (t,ti) :: l=>(if ti.key then zG P T t ti else true).and (tw P T l)
def Bb (P : Program) (T : TT) : TT→Bool
 | []=>true
 | (t,ti) :: l=>(if ti.eq then (match ti.kd with | some kd=>(tN P T 20 t kd).and (if ti.agg then (P.eqGuardType P.depth t).not else (match kd with | [.bool]=>true | _=>false)) | none=>true) else true).and (Bb P T l)
section
variable {P : Program} {T : TT}
theorem la : ∀ {ks : List Kd} {xs : List Value} (n : Nat),aE Kd.isv ks xs→aE Kd.isv (ks.take n) (xs.take n)∧aE Kd.isv (ks.drop n) (xs.drop n)
 | [],[],n,_=>by cases n <;> exact ⟨trivial,trivial⟩
 | k :: ks,x :: xs,0,h=>⟨trivial,h⟩
 | k :: ks,x :: xs,n + 1,h=>⟨⟨h.1,(la n h.2).1⟩,(la n h.2).2⟩
 | [],_ :: _,_,h=>h.elim
 | _ :: _,[],_,h=>h.elim
theorem pG : ∀ {ks : List Kd} {xs ys : List Value} (n : Nat),aE Kd.isv ks xs→aE Kd.isv ks ys→cS xs ys=(cS (xs.take n) (ys.take n) && cS (xs.drop n) (ys.drop n))
 | [],[],[],n,_,_=>by cases n <;> rfl
 | k :: ks,x :: xs,y :: ys,0,_,_=>rfl
 | k :: ks,x :: xs,y :: ys,n + 1,h1,h2=>by
  have ih:=pG n h1.2 h2.2
  cases k with
  | int k =>
   obtain ⟨a,rfl⟩:=h1.1
   obtain ⟨b,rfl⟩:=h2.1
   simp only [cS,List.take_succ_cons,List.drop_succ_cons,ih,Bool.and_assoc]
  | bool =>
   obtain ⟨a,rfl⟩:=h1.1
   obtain ⟨b,rfl⟩:=h2.1
   simp only [cS,List.take_succ_cons,List.drop_succ_cons,ih,Bool.and_assoc]
  | str=>exact h1.1.elim
  | sl b k=>exact h1.1.elim
  | os e=>exact h1.1.elim
 | [],_ :: _,_,_,h,_=>h.elim
 | _ :: _,[],_,_,h,_=>h.elim
 | [],[],_ :: _,_,_,h=>h.elim
 | _ :: _,_ :: _,[],_,_,h=>h.elim
theorem qe (hT : TOk P T) {t : Nat} {ti : TI} (ht : T.get t=some ti) (hz : 0 < ti.sz) (xs : List Value) (off : Nat) (h : off + ti.sz≤xs.length) (w : World) :
  (part t xs.toArray off).run P w=.ok (vof ti.agg ((xs.drop off).take ti.sz)) w:=by
 simp only [part,Sem.run_bind,jU hT ht,Result.andThen_ok]
 cases hg : ti.agg with
 | true =>
  simp only [if_true,Sem.run_bind,run_sizeOf hT ht,Result.andThen_ok,Sem.run_pure,vof]
  congr 2
  apply Array.ext'
  simp only [List.extract_toArray]
  simp
 | false =>
  have hlt : off < xs.length:=by omega
  simp only [Bool.false_eq_true,if_false,vof]
  have e1 : xs.toArray[off]?=some xs[off]:=by simp [hlt]
  have e2 : ((xs.drop off).take ti.sz).headD Go.undef=xs[off]:=by
   cases hs : ti.sz with
   | zero=>omega
   | succ k=>rw [List.drop_eq_getElem_cons hlt];rfl
  rw [e1,e2]
  rfl
theorem vg (hT : TOk P T) {d : Nat} {w : World} {chk : Nat→List Kd→Bool}
  (hchk : ∀ t ti ks xs ys,T.get t=some ti→chk t ks=true→aE Kd.isv ks xs→aE Kd.isv ks ys→(Op.equalIn d t (vof ti.agg xs) (vof ti.agg ys)).run P w=.ok (cS xs ys) w) (xs ys : List Value) (hxy : xs.length=ys.length) :
  ∀ {l : List Field} {off : Nat} {ks : List Kd},eqF T chk l off ks=true→aE Kd.isv ks (xs.drop off)→aE Kd.isv ks (ys.drop off)→(Op.eqFields d xs.toArray ys.toArray l).run P w=.ok (cS (xs.drop off) (ys.drop off)) w
 | [],off,ks,h,h1,h2=>by
  simp only [eqF,List.isEmpty_iff] at h
  subst h
  cases hx : xs.drop off with
  | cons x l=>rw [hx] at h1;exact h1.elim
  | nil =>
   cases hy : ys.drop off with
   | cons y l=>rw [hy] at h2;exact h2.elim
   | nil=>rfl
 | f :: l,off,ks,h,h1,h2=>by
  simp only [eqF,Bool.and_eq_true,decide_eq_true_eq] at h
  obtain ⟨⟨hn,ho⟩,h⟩:=h
  have ho:=Nat.eq_of_beq_eq_true ho
  split at h
  ·rename_i ti ht
   simp only [Bool.and_eq_true] at h
   obtain ⟨⟨hl,hz⟩,hc,hr⟩:=h
   have hl:=Nat.le_of_ble_eq_true hl
   have hz:=Hk hz
   have lx:=h1.length
   have ly:=h2.length
   rw [List.length_drop] at lx ly
   obtain ⟨a1,a2⟩:=la ti.sz h1
   obtain ⟨b1,b2⟩:=la ti.sz h2
   rw [List.drop_drop] at a2 b2
   have hv:=hchk f.type ti _ _ _ ht hc a1 b1
   have ih:=vg hT hchk xs ys hxy hr a2 b2
   simp only [Op.eqFields]
   rw [if_pos hn,ho]
   simp only [Sem.run_bind,qe hT ht hz xs off (by omega) w,qe hT ht hz ys off (by omega) w,Result.andThen_ok,hv]
   rw [pG ti.sz h1 h2,List.drop_drop,List.drop_drop]
   cases he : cS ((xs.drop off).take ti.sz) ((ys.drop off).take ti.sz) with
   | false=>simp
   | true=>simp only [Bool.not_true,Bool.false_eq_true,if_false,Bool.true_and];exact ih
  ·cases h
theorem mA (hT : TOk P T) {w : World} : ∀ (d D t : Nat) (ti : TI) (ks : List Kd) (xs ys : List Value),d≤D→T.get t=some ti→tN P T d t ks=true→aE Kd.isv ks xs→aE Kd.isv ks ys →
  (Op.equalIn D t (vof ti.agg xs) (vof ti.agg ys)).run P w=.ok (cS xs ys) w
 | 0,_,_,_,_,_,_,_,_,h,_,_=>by simp [tN] at h
 | d + 1,0,_,_,_,_,_,hd,_,_,_,_=>by omega
 | d + 1,D + 1,t,ti,ks,xs,ys,hd,ht,h,h1,h2=>by
  obtain ⟨i,de,z,_,hu,_,_,_,_,_,_,hagg,_⟩:=(hT.get t ti ht).ex
  simp only [tN] at h
  have one : ∀ {v w : Value},xs=[v]→ys=[w]→ti.agg=false→vof ti.agg xs=v∧vof ti.agg ys=w:=fun e1 e2 e3=>by subst e1;subst e2;rw [e3];exact ⟨rfl,rfl⟩
  split at h
  ·rename_i hb
   rw [hu] at hb
   cases hb
   have hag : ti.agg=false:=by
    cases hq : ti.agg with
    | false=>rfl
    | true=>rcases hagg.1 hq with ⟨_,e⟩ | ⟨_,_,e⟩ <;> cases e
   split at h
   ·match xs,ys,h1,h2 with
    | [x],[y],h1,h2 =>
     obtain ⟨a,rfl⟩:=h1.1
     obtain ⟨b,rfl⟩:=h2.1
     rw [hag]
     simp only [vof,Bool.false_eq_true,if_false,List.headD_cons,run_equalIn_bool' w D t a b hu,cS,Bool.and_true]
   ·cases h
  ·rename_i k hb
   rw [hu] at hb
   cases hb
   have hag : ti.agg=false:=by
    cases hq : ti.agg with
    | false=>rfl
    | true=>rcases hagg.1 hq with ⟨_,e⟩ | ⟨_,_,e⟩ <;> cases e
   split at h
   ·match xs,ys,h1,h2 with
    | [x],[y],h1,h2 =>
     obtain ⟨a,rfl⟩:=h1.1
     obtain ⟨b,rfl⟩:=h2.1
     rw [hag]
     simp only [vof,Bool.false_eq_true,if_false,List.headD_cons,run_equalIn_int w D t _ _ a b hu,cS,Bool.and_true]
   ·cases h
  ·rename_i fs hb
   rw [hu] at hb
   cases hb
   have hag : ti.agg=true:=hagg.2 (.inl ⟨_,rfl⟩)
   simp only [Bool.and_eq_true,Bool.not_eq_true'] at h
   have hf : P.fieldsOf t=fs:=by simp [Program.fieldsOf,hu]
   rw [hag]
   simp only [vof,if_true]
   rw [run_equalIn_agg w D t _ _ (by rw [hf];exact hu) h.1,hf]
   have:=vg hT (d:=D) (w:=w) (fun t' ti' ks' xs' ys' a1 a2 a3 a4=>mA hT d D t' ti' ks' xs' ys' (by omega) a1 a2 a3 a4) xs ys (by rw [← h1.length,← h2.length]) h.2 (by simpa using h1) (by simpa using h2)
   simpa using this
  ·cases h
theorem jZ : ∀ {T : TT} {t : Nat},(BT T).get t=(T.get t).map fun ti=>{ ti with eq:=false,key:=false}
 | [],_=>rfl
 | (u,i) :: l,t=>by
  simp only [BT,List.map_cons,TT.get]
  split
  ·rfl
  ·exact jZ (T:=l)
theorem sA (hG : ∀ t ti,T.get t=some ti→Ek P t ti) : TOk P (BT T):=by
 refine ⟨fun t ti h=>?_,fun t ti _ h he=>?_,fun t ti h he=>?_⟩
 ·rw [jZ] at h
  cases hq : T.get t with
  | none=>rw [hq] at h;cases h
  | some x =>
   rw [hq] at h
   cases h
   exact ⟨(hG t x hq).ex⟩
 ·rw [jZ] at h
  cases hq : T.get t with
  | none=>rw [hq] at h;cases h
  | some x=>rw [hq] at h;cases h;cases he
 ·rw [jZ] at h
  cases hq : T.get t with
  | none=>rw [hq] at h;cases h
  | some x=>rw [hq] at h;cases h;cases he
theorem tu {S : TT} : ∀ {l : TT},tw P S l=true→∀ t ti,l.get t=some ti→ti.key=true→zG P S t ti=true
 | [],_,_,_,h,_=>by simp [TT.get] at h
 | (u,i) :: l,hc,t,ti,h,he=>by
  simp only [tw,Bool.and_eq_true] at hc
  simp only [TT.get] at h
  split at h
  ·rename_i e
   cases h
   have hc:=hc.1
   rw [← Nat.eq_of_beq_eq_true e]
   rw [if_pos he] at hc
   exact hc
  ·exact tu hc.2 t ti h he
theorem tt (hT : TOk P T) (em : Bool) (n : Nat) (w : World) (xs : List Value) : ∀ {l : List Field} {off : Nat} {ks : List Kd},B6 P T l off ks=true→aE Kd.isv ks (xs.drop off) →
  ∀ f∈l,f.name≠ "_"∧∃ v,(part f.type xs.toArray f.offset).run P w=.ok v w∧(Instr.checkKey em (n + 1) f.type v).run P w=.ok () w
 | [],_,_,_,_,f,hf=>by cases hf
 | f :: l,off,[],h,_,_,_=>by simp [B6] at h
 | f :: l,off,k :: ks,h,hx,f',hf=>by
  simp only [B6,Bool.and_eq_true,decide_eq_true_eq] at h
  obtain ⟨⟨⟨hn,ho⟩,h3⟩,h4⟩:=h
  have ho:=Nat.eq_of_beq_eq_true ho
  cases hd : xs.drop off with
  | nil=>rw [hd] at hx;exact hx.elim
  | cons x ys =>
   rw [hd] at hx
   have hlt : off < xs.length:=by
    rcases Nat.lt_or_ge off xs.length with hl | hg
    ·exact hl
    ·rw [List.drop_eq_nil_of_le hg] at hd;cases hd
   rcases List.mem_cons.1 hf with rfl | hf
   ·refine ⟨hn,x,?_⟩
    have hp : ∀ {ti : TI},T.get f'.type=some ti→ti.sz=1→ti.agg=false→(part f'.type xs.toArray f'.offset).run P w=.ok x w:=fun {ti} h1 h2 h3=>by
     rw [ho,qe hT h1 (by omega) xs off (by omega) w,h2,h3,hd]
     rfl
    split at h3
    ·rename_i ti q q' h1 h2
     simp only [Bool.and_eq_true,Bool.not_eq_true'] at h3
     have e:=IntKind.av h3.2
     subst e
     obtain ⟨m,rfl⟩:=hx.1
     exact ⟨hp h1 (Nat.eq_of_beq_eq_true h3.1.1) h3.1.2,Go.MapKept.run_checkKey h2 (k:=.int q m) rfl em n⟩
    ·rename_i ti h1 h2
     simp only [Bool.and_eq_true,Bool.not_eq_true'] at h3
     obtain ⟨m,rfl⟩:=hx.1
     exact ⟨hp h1 (Nat.eq_of_beq_eq_true h3.1) h3.2,Go.MapKept.run_checkKey h2 (k:=.bool m) trivial em n⟩
    ·cases h3
   ·refine tt hT em n w xs h4 ?_ f' hf
    rw [← List.drop_drop,hd]
    exact hx.2
theorem rL (hT : TOk P T) {t : Nat} {fs : Array Field} {ks : List Kd} (hu : P.underlying t=some (.struct fs)) (h : B6 P T fs.toList 0 ks=true) {xs : List Value} (hx : aE Kd.isv ks xs) (w : World) (em : Bool) :
  (Instr.checkKey em 10000 t (.agg xs.toArray)).run P w=.ok () w:=by
 have all:=tt hT em 9998 w xs h (by simpa using hx)
 rw [show (10000 : Nat)=9999 + 1 from rfl,Instr.checkKey]
 simp only [Sem.run_bind,run_underlying hu,Result.andThen_ok]
 rw [← Array.forIn_toList]
 generalize fs.toList=L at all
 induction L with
 | nil=>simp
 | cons f L ih =>
  obtain ⟨hn,v,p1,p2⟩:=all f (by simp)
  simp only [List.forIn_cons,Sem.run_bind,hn,ne_eq,not_false_eq_true,if_true,Result.andThen_ok,p1,p2,Sem.run_pure]
  exact ih (fun y hy=>all y (by simp [hy]))
theorem E7 (hG : ∀ t ti,T.get t=some ti→Ek P t ti) (h : tw P (BT T) T=true) (t : Nat) (ti : TI) (ht : T.get t=some ti) (hk : ti.key=true) :
  (ti.agg=false→(∃ k,P.underlying t=some (.int k)∧ti.kd=some [.int k])∨(P.underlying t=some .bool∧ti.kd=some [.bool])) ∧
  (ti.agg=true→(∃ fs,P.underlying t=some (.struct fs))∧∀ kd,ti.kd=some kd→(∀ xs,aE Kd.isv kd xs→∀ (w : World) (em : Bool),(Instr.checkKey em 10000 t (.agg xs.toArray)).run P w=.ok () w) ∧
   ∀ xs ys,aE Kd.isv kd xs→aE Kd.isv kd ys→∀ w : World,(Op.equal t (.agg xs.toArray) (.agg ys.toArray)).run P w=.ok (cS xs ys) w):=by
 have hc:=tu h t ti ht hk
 unfold zG at hc
 split at hc
 ·rename_i q q' h1 h2
  simp only [Bool.and_eq_true,Bool.not_eq_true'] at hc
  have e:=IntKind.av hc.1
  subst e
  exact ⟨fun _=>.inl ⟨q,h1,h2⟩,fun ha=>by rw [hc.2] at ha;cases ha⟩
 ·rename_i h1 h2
  simp only [Bool.not_eq_true'] at hc
  exact ⟨fun _=>.inr ⟨h1,h2⟩,fun ha=>by rw [hc] at ha;cases ha⟩
 ·rename_i fs kd h1 h2
  simp only [Bool.and_eq_true] at hc
  refine ⟨fun ha=>(by rw [hc.1] at ha;cases ha),fun ha=>⟨⟨fs,h1⟩,fun kd' hk'=>?_⟩⟩
  rw [h2] at hk';cases hk'
  refine ⟨fun xs hx w em=>rL (sA hG) h1 hc.2.2 hx w em,fun xs ys hx hy w=>?_⟩
  have hv:=mA (sA hG) (w:=w) 20 10000 t { ti with eq:=false,key:=false} kd xs ys (by omega) (by rw [jZ,ht];rfl) hc.2.1 hx hy
  simp only [vof,ha,if_true] at hv
  simp only [Op.equal,Op.maxDepth]
  exact hv
 ·cases hc
theorem vh {S : TT} : ∀ {l : TT},Bb P S l=true→∀ t ti kd,l.get t=some ti→ti.eq=true→ti.kd=some kd→tN P S 20 t kd=true∧(ti.agg=true→P.eqGuardType P.depth t=false)∧(ti.agg=false→kd=[.bool])
 | [],_,_,_,_,h,_,_=>by simp [TT.get] at h
 | (u,i) :: l,hc,t,ti,kd,h,he,hk=>by
  simp only [Bb,Bool.and_eq_true] at hc
  simp only [TT.get] at h
  split at h
  ·rename_i e
   cases h
   have hc:=hc.1
   rw [← Nat.eq_of_beq_eq_true e]
   rw [if_pos he,hk] at hc
   simp only [Bool.and_eq_true] at hc
   refine ⟨hc.1,fun ha=>?_,fun ha=>?_⟩
   ·have:=hc.2;rw [if_pos ha] at this;simpa using this
   ·have:=hc.2
    rw [ha] at this
    simp only [Bool.false_eq_true,if_false] at this
    split at this
    ·rfl
    ·cases this
  ·exact vh hc.2 t ti kd h he hk
theorem tOk_of (h1 : Ae P T=true) (h2 : Bb P (BT T) T=true) (h3 : tw P (BT T) T=true) : TOk P T:=by
 have hG:=uF h1
 refine ⟨hG,fun t ti kd ht he hk xs ys hx hy w x y op hop=>?_,E7 hG h3⟩
 obtain ⟨g1,g2,g3⟩:=vh h2 t ti kd ht he hk
 have hv:=mA (sA hG) (w:=w) 20 10000 t { ti with eq:=false,key:=false} kd xs ys (by omega) (by rw [jZ,ht];rfl) g1 hx hy
 cases ha : ti.agg with
 | true =>
  simp only [vof,ha,if_true] at hv ⊢
  rw [Sem.run_bind,run_eqGuard_agg w op t x y _ _ (g2 ha),Result.andThen_ok]
  rcases hop with e | e <;> subst e
  ·rw [run_eql_struct,hv];rfl
  ·rw [run_neq_struct,hv];rfl
 | false =>
  rw [g3 ha] at hx hy
  match xs,ys,hx,hy with
  | [u],[v],hx,hy =>
   obtain ⟨b1,rfl⟩:=hx.1
   obtain ⟨b2,rfl⟩:=hy.1
   simp only [vof,ha,Bool.false_eq_true,if_false,List.headD_cons] at hv ⊢
   have hg : (eqGuard op t x y (.bool b1) (.bool b2)).run P w=.ok () w:=by unfold eqGuard;split <;> rfl
   rw [Sem.run_bind,hg,Result.andThen_ok]
   rcases hop with e | e <;> subst e
   ·simp only [binOp,Sem.run_bind,Op.equal,Op.maxDepth,hv,Result.andThen_ok];rfl
   ·simp only [binOp,Sem.run_bind,Op.equal,Op.maxDepth,hv,Result.andThen_ok];rfl
end
end Go.Sy

namespace Go.Sy
section
variable {E : Env} {x y : X}
theorem lt_t : ((X.lt x y).den E).bool=true↔(x.den E).int < (y.den E).int:=by simp [X.den,CD.bool]
theorem le_t : ((X.le x y).den E).bool=true↔(x.den E).int≤(y.den E).int:=by simp [X.den,CD.bool]
theorem fit_t : ((X.fit x).den E).bool=true↔-9223372036854775808≤(x.den E).int∧(x.den E).int≤9223372036854775807:=by simp [X.den,CD.bool]
end
end Go.Sy
