import Derived.Test.YtpmamacjepcdmaaSyFour
namespace Go.Sy
open Go.RowKit
section
variable {P : Program} {Z : Cx} {Γ : Gam} {B : cT} {Q : List CD→Prop} {as : List Act} {Qx : Exit→Act→World→Prop} {ops : Array Oper} {m rb ab : Nat}
def El (Γ : Gam) (B : cT) (Q : List CD→Prop) (Qx : Exit→Act→World→Prop) (as : List Act) (kk : St→Tree) (n : Nat) (E : Env) (J : JJ) : Prop :=
 ∀ s' E' J' q g' a' w',JJ.HC n J' J→(kk s').den Γ Q E' J'→n≤s'.nx→E.bW n E'→Rep B E' q g' s' a' as w'→Qx .normal a' w'
theorem El.mono {kk : St→Tree} {n n' : Nat} {E E' : Env} {J J' : JJ} (h : El Γ B Q Qx as kk n E J) (hn : n≤n') (hE : E.bW n E') (hJ : JJ.HC n J' J) : El Γ B Q Qx as kk n' E' J' :=
 fun s' E2 J2 q g' a' w' h1 h2 h3 h4 h5=>h s' E2 J2 q g' a' w' (h1.trans hJ hn) h2 (by omega) (hE.trans (h4.mono hn)) h5
theorem sh {i : Nat} {o : Oper} {K : Act→World→Prop} {a : Act} {w : World} (hi : ops[i]?=some o) (h : HD P ops.toList o K Qx a w) : wpOp P ops Qx i K a w:=by
 unfold HD at h
 unfold wpOp
 rw [hi]
 simpa using h
theorem zP {i : Nat} {o : Oper} {K : Act→World→Prop} {a : Act} {w : World} (hi : ops[i]?=some o) (h : wpOp P ops Qx i K a w) : HD P ops.toList o K Qx a w:=by
 unfold wpOp at h
 rw [hi] at h
 unfold HD
 simpa using h
theorem yQ (S : Told P Z Γ) {inl : Func→Nat→List SR→Option Nat→St→(St→Tree)→Tree} (hI : Eo P Γ B Q inl) (hns : Region.noSelect ops=true) (hQ : ∀ c a w,¬ Qx (.panic c) a w) {sl : Bool} {kk : St→Tree} :
  ∀ (n : Nat) (L : Sts) (E : Env) (J : JJ) (p : Pl) (g : Gm) (a : Act) (w : World) (D : Nat→Nat→Prop) (fuel : Nat) (mask : Array Bool) (md : Nat) (s : St),
   (lM Z inl (dC ops.toList) ops m rb ab sl n L kk).den Γ Q E J→(mask,md,s)∈L→Good E s.nx L→yy ops mask→Rep B E p g s a as w→yF D md E p s.h w→left ops mask≤fuel→El Γ B Q Qx as kk s.nx E J→qC P ops Qx D (inF ops m) fuel mask a w:=by
 intro n
 induction n with
 | zero=>intro L E J p g a w D fuel mask md s hd;exact hd.elim
 | succ n ih =>
  intro L E J p g a w D fuel mask md s hd hL hG hS R hH hf hk
  have again : ∀ {s' : St} {q : Pl} {g' : Gm},s'.nx=s.nx→(lM Z inl (dC ops.toList) ops m rb ab sl n [(mask,md,s')] kk).den Γ Q E J→Rep B E q g' s' a as w→mU E p s.h E q s'.h w.heap.size→qC P ops Qx D (inF ops m) fuel mask a w:=fun {s' q g'} h1 h2 h3 h4 =>
   ih _ E J q g' a w D fuel mask md s' h2 (by simp) (fun x hx=>by rw [List.mem_singleton.1 hx];exact ⟨rfl,h3.known⟩) hS h3 (hH.two h4) hf (by rw [h1];exact hk)
  have take : ∀ {fuel' i : Nat} {o : Oper},fuel=fuel' + 1→i∈Region.ready .any ops mask→ops[i]?=some o→qU ops m md i=true →
    (pX Z inl (still ops m md i) (slot sl rb i s.h.regs) (slot sl ab i s.h.arrs) s o ops.toList (fun s=>lM Z inl (dC ops.toList) ops m rb ab sl n [(mask,md,s)] kk) (fun s=>lM Z inl (dC ops.toList) ops m rb ab sl n [(mask.setIfInBounds i true,gL ops m md i,s)] kk)).den Γ Q E J →
    wpOp P ops Qx i (fun a' w'=>(inF ops m i=true→dV D w w')∧qC P ops Qx D (inF ops m) fuel' (mask.setIfInBounds i true) a' w') a w:=fun {fuel' i o} e hr hi hm ht=>by
   subst e
   refine sh hi (oU S hI ht R (fun s' q g' h1 h2 h3 h4=>?_) (fun s' E' J' q g' a' w' h1 h2 h3 h4 h5 h6=>?_))
   ·exact zP hi ((again h1 h2 h3 h4).2 i hr)
   ·obtain ⟨n1,n2⟩:=hH.step hi hm h6
    have:=gG hr
    refine ⟨n1,ih _ E' J' q g' a' w' D fuel' _ _ s' h2 (by simp) (fun x hx=>by rw [List.mem_singleton.1 hx];exact ⟨rfl,h5.known⟩) (hS.add hr) h5 n2 (by omega) (hk.mono h3 h4 h1)⟩
  have covers : ∀ {ns : List X} {L' : Sts},Region.ready .any ops mask≠[]→Ac Z ops m rb ab mask md s (Region.ready .any ops mask) ns L'→Good E s.nx L'→(∀ b∈ns,(b.den E).bool=true)→(lM Z inl (dC ops.toList) ops m rb ab sl n L' kk).den Γ Q E J→qC P ops Qx D (inF ops m) fuel mask a w:=fun {ns L'} hne hc hg hn hd=>by
   cases fuel with
   | zero =>
    cases hr : Region.ready .any ops mask with
    | nil=>exact absurd hr hne
    | cons i l =>
     have:=gG (ops:=ops) (l:=mask) (i:=i) (by rw [hr];simp)
     omega
   | succ fuel =>
    refine ⟨fun h0=>absurd h0 hne,fun i hr=>?_⟩
    obtain ⟨ns',s',t,c1,c2,c3,c4⟩:=hc i hr
    obtain ⟨o,hi,hm,hgoal⟩:=uo (Qx:=Qx) S c1 (fun b hb=>hn b (c2 b hb)) R
    have hnx:=(nF (E:=E) c1).1
    refine sh hi (hgoal _ fun q a' w' h5 h6=>?_)
    obtain ⟨n1,n2⟩:=hH.step hi hm h6
    have hle:=gG hr
    have ht:=hg _ c3
    have ht1 : t.nx=s.nx:=ht.1
    have hh : t.h=s'.h∧Rep B E q g t a' as w':=by
     rcases c4 with e | e
     ·subst e;exact ⟨rfl,h5⟩
     ·have e:=St.av e
      cases s'
      cases t
      simp only [St.mk.injEq] at e
      obtain ⟨e1,e2,e3,e4,e5,_⟩:=e
      subst e1;subst e2;subst e3;subst e4;subst e5
      exact ⟨rfl,h5.mem,h5.frame,h5.stk,ht.2,h5.fa⟩
    refine ⟨n1,ih _ E J q g a' w' D fuel _ _ t hd c3 (by rw [ht1];exact hg) (hS.add hr) hh.2 (by rw [hh.1];exact n2) (by omega) (by rw [ht1];exact hk)⟩
  match L,hL with
  | [(mask',md',s0)],hL =>
   have e:=List.mem_singleton.1 hL
   cases e
   simp only [lM] at hd
   split at hd
   ·rename_i hr
    exact Cu hr (hk s E J p g a w (JJ.HC.refl _ _) hd (Nat.le_refl _) (Env.bW.refl _ _) R) fuel
   ·rename_i rs0 hne
    have hpos : ∃ fuel',fuel=fuel' + 1:=by
     cases hr : Region.ready .any ops mask with
     | nil=>exact absurd hr hne
     | cons i l =>
      have:=gG (ops:=ops) (l:=mask) (i:=i) (by rw [hr];simp)
      exact ⟨fuel - 1,by omega⟩
    obtain ⟨fuel',hfu⟩:=hpos
    split at hd
    ·rename_i i hfi
     have hr:=List.mem_of_find?_eq_some hfi
     have hpa:=List.find?_some hfi
     split at hd
     ·exact hd.elim
     ·rename_i o hio
      have hi : ops[i]?=some o:=by rw [aW] at hio;simpa using hio
      obtain ⟨p1,p2⟩:=xd hi hpa
      refine qN S (by simp only [gi,Bool.and_eq_true] at p1;exact p1.1) hd R (fun s' q g' h1 h2 h3 h4=>again h1 h2 h3 h4) (fun s' v h1 h2 h3 h4 h5 h6=>?_)
      have hle:=gG hr
      subst hfu
      refine Cs hi (Region.noSelect_spec hns) (fun c a w hh=>absurd hh (hQ c _ w)) fuel' mask a w hS p2 hr (by simpa using h5 p1) ?_
      exact ih _ E J p g _ w D fuel' _ md s' h3 (by simp) (fun x hx=>by rw [List.mem_singleton.1 hx];exact ⟨rfl,h6.known⟩) (hS.add hr) h6 (by rw [h2];exact hH) (by omega) (by rw [h1];exact hk)
    ·split at hd
     ·rename_i i hri
      split at hd
      ·exact hd.elim
      ·rename_i o hio
       have hi : ops[i]?=some o:=by rw [aW] at hio;simpa using hio
       split at hd
       ·rename_i hm
        subst hfu
        refine ⟨fun h0=>absurd h0 hne,fun j hj=>?_⟩
        rw [hri] at hj
        have:=List.mem_singleton.1 hj
        subst this
        exact take rfl (by rw [hri];simp) hi hm hd
       ·exact hd.elim
     ·split at hd
      ·rename_i i hfi
       have hr:=List.mem_of_find?_eq_some hfi
       have hpa:=List.find?_some hfi
       split at hd
       ·exact hd.elim
       ·rename_i o hio
        have hi : ops[i]?=some o:=by rw [aW] at hio;simpa using hio
        simp only [qW,hi,Bool.and_eq_true] at hpa
        obtain ⟨_,⟨l1,l2⟩,l3,l4⟩:=hpa
        have l1:=Nat.le_of_ble_eq_true l1
        refine qN S l3 hd R (fun s' q g' h1 h2 h3 h4=>again h1 h2 h3 h4) (fun s' v h1 h2 h3 h4 h5 h6=>?_)
        have hle:=gG hr
        subst hfu
        let D' : Nat→Nat→Prop:=fun k j=>k < w.heap.size∧Kn E p s.h k j
        have hDD : ∀ k j,D k j→D' k j:=fun k j hd=>by
         by_cases h0 : md=0
         ·exact absurd hd (hH.1 h0 k j)
         ·exact hH.2 h0 (by omega) k j hd
        refine vv hDD _ _ _ _ ?_
        have h4' : jr P ops (dV D' w) o v a:=by
         have : (fun w'=>bj E p s.h w w')=dV D' w:=by
          funext w'
          apply propext
          exact ⟨fun h k i hd=>h k i hd.1 hd.2,fun h k i h1 h2=>h k i ⟨h1,h2⟩⟩
         rw [← this]
         simpa using h4
        refine FR (w1:=w) hi (Region.noSelect_spec hns) (fun c a w hh=>absurd hh (hQ c _ w)) fuel' mask a w hS (xS hi l4) hr h4' (dV.refl _ _) ?_
        exact ih _ E J p g _ w D' fuel' _ 1 s' h3 (by simp) (fun x hx=>by rw [List.mem_singleton.1 hx];exact ⟨rfl,h6.known⟩) (hS.add hr) h6 ⟨fun h=>(by cases h),fun _ _ k j hd=>by rw [h2];exact hd⟩ (by omega) (by rw [h1];exact hk)
      ·split at hd
       ·rename_i ns L' hsm
        obtain ⟨hn,hd⟩:=cC R.known hd
        have hsm : kF Z ops m rb ab mask md s (Region.ready .any ops mask) ([],[])=some (ns,L'):=by
         split at hsm
         ·exact hsm
         ·cases hsm
        obtain ⟨_,_,j3,j4⟩:=kE hsm
        exact covers hne j3 (j4 E s.nx rfl R.known hn (fun x hx=>by cases hx)) hn hd
       ·have hall:=Ee hd
        subst hfu
        refine ⟨fun h0=>absurd h0 hne,fun i hr=>?_⟩
        have ht:=hall _ (List.mem_map.2 ⟨i,hr,rfl⟩)
        split at ht
        ·exact ht.elim
        ·rename_i o hio
         have hi : ops[i]?=some o:=by rw [aW] at hio;simpa using hio
         split at ht
         ·rename_i hm
          exact take rfl hr hi hm ht
         ·exact ht.elim
  | (m1,d1,s1) :: y :: l,hL =>
   simp only [lM] at hd
   split at hd
   ·rename_i ns L' hsm
    have hg1:=hG (m1,d1,s1) (by simp)
    obtain ⟨hn,hd⟩:=cC hg1.2 hd
    obtain ⟨_,_,j3,j4⟩:=lU hsm
    obtain ⟨hne,hc⟩:=j3 _ hL
    exact covers hne hc (j4 E s.nx hG hn (fun x hx=>by cases hx)) hn hd
   ·exact hd.elim
end
end Go.Sy

namespace Go.Sy
open Go.RowKit
theorem iS {α : Type} {n : Nat} {x : α} : ∀ {l : List (Nat × α)},fk n l=some x→(n,x)∈l
 | [],h=>by simp [fk] at h
 | (m,y) :: l,h=>by
  simp only [fk] at h
  split at h
  ·rename_i e
   have e:=Nat.eq_of_beq_eq_true e
   cases h;subst e;simp
  ·exact List.mem_cons_of_mem _ (iS h)
inductive Cl (L : LI) (s : St) (ls : List (Nat × Kd × X)) (as : List (Nat × Nat)) : SC→SC→Prop where
 | any (c : SC) : Cl L s ls as .any c
 | old (c : SC) (h : c.old L=true) : Cl L s ls as c c
 | int (k : IntKind) (i : Nat) (x : X) (h : (i,Kd.int k,x)∈ls) : Cl L s ls as (.int k (.var i)) (.int k x)
 | bool (i : Nat) (x : X) (h : (i,Kd.bool,x)∈ls) : Cl L s ls as (.bool (.var i)) (.bool x)
 | str (i : Nat) (x : X) (h : (i,Kd.str,x)∈ls) : Cl L s ls as (.str (.var i)) (.str x)
 | fz (K : SK) (i : Nat) (x : X) (h : (i,Kd.sl K.by_ K.kd,x)∈ls) : Cl L s ls as (.fz K (.var i)) (.fz K x)
 | fzn (K : SK) (i : Nat) (h : (i,Kd.sl K.by_ K.kd,X.nil)∈ls) : Cl L s ls as (.fz K (.var i)) .nilsl
 | fzz (K : SK) (i : Nat) (h : (i,Kd.sl K.by_ K.kd,X.nil)∈ls) : Cl L s ls as (.fz K (.var i)) .z0
 | sl (a a' i : Nat) (n : X) (k : Kd) (A' : Ar) (h : (i,k,dc n A'.x)∈ls) (ha : (a,a' + 1)∈as) (hA : nth s.h.arrs a'=some (.here A')) (hd : X.dec s.known (mkLe n (bn A'.x))=some true) : Cl L s ls as (.sl a (.len (.var i))) (.sl a' n)
 | sln (a i : Nat) (k : Kd) (h : (i,k,X.nil)∈ls) (ha : (a,0)∈as) : Cl L s ls as (.sl a (.len (.var i))) .nilsl
theorem Cl.mono {L : LI} {s : St} {ls ls' : List (Nat × Kd × X)} {as as' : List (Nat × Nat)} (h1 : ∀ x∈ls,x∈ls') (h2 : ∀ x∈as,x∈as') {c d : SC} (h : Cl L s ls as c d) : Cl L s ls' as' c d:=by
 cases h with
 | any=>exact .any _
 | old _ h=>exact .old _ h
 | int _ _ _ h=>exact .int _ _ _ (h1 _ h)
 | bool _ _ h=>exact .bool _ _ (h1 _ h)
 | str _ _ h=>exact .str _ _ (h1 _ h)
 | fz _ _ _ h=>exact .fz _ _ _ (h1 _ h)
 | fzn _ _ h=>exact .fzn _ _ (h1 _ h)
 | fzz _ _ h=>exact .fzz _ _ (h1 _ h)
 | sl _ _ _ _ _ _ h ha hA hd=>exact .sl _ _ _ _ _ _ (h1 _ h) (h2 _ ha) hA hd
 | sln _ _ _ h ha=>exact .sln _ _ _ (h1 _ h) (h2 _ ha)
def Er (L : LI) (s : St) (ls : List (Nat × Kd × X)) (a c : Nat) : Prop:=L.a0≤a∧∃ A i,nth L.hd.h.arrs a=some (.here A)∧A.x=.var i ∧
 match c with
 | 0=>A.K.pos=true∧(i,Kd.sl A.K.by_ A.K.kd,X.nil)∈ls
 | c + 1=>∃ A' n,nth s.h.arrs c=some (.here A')∧A.e=A'.e∧A.K=A'.K∧X.dec s.known (mkLe n (bn A'.x))=some true∧(i,Kd.sl A.K.by_ A.K.kd,dc n A'.x)∈ls∧ld s.known A'=true
theorem Er.mono {L : LI} {s : St} {ls ls' : List (Nat × Kd × X)} (h1 : ∀ x∈ls,x∈ls') {a c : Nat} (h : Er L s ls a c) : Er L s ls' a c:=by
 obtain ⟨h0,A,i,h2,h3,h4⟩:=h
 refine ⟨h0,A,i,h2,h3,?_⟩
 cases c with
 | zero=>exact ⟨h4.1,h1 _ h4.2⟩
 | succ c=>obtain ⟨A',n,k1,k2,k3,k4,k5,k6⟩:=h4;exact ⟨A',n,k1,k2,k3,k4,h1 _ k5,k6⟩
structure BOk (E : Env) (L : LI) (s : St) (b : Sub) : Prop where
 ls : ∀ x∈b.ls,(L.nx0 < x.1∧x.1 < L.hd.nx)∧CD.ok x.2.1 (x.2.2.den E)
 as : ∀ x∈b.as,Er L s b.ls x.1 x.2
structure lF (E : Env) (L : LI) (s : St) (b b' : Sub) : Prop where
 no : b.no=[]
 ls : ∀ x∈b.ls,x∈b'.ls
 as : ∀ x∈b.as,x∈b'.as
 ok : BOk E L s b→BOk E L s b'
theorem lF.refl {E : Env} {L : LI} {s : St} {b : Sub} (h : b.no=[]) : lF E L s b b:=⟨h,fun _ h=>h,fun _ h=>h,fun h=>h⟩
theorem lF.trans {E : Env} {L : LI} {s : St} {a b c : Sub} (h : lF E L s a b) (k : lF E L s b c) : lF E L s a c:=⟨h.no,fun x hx=>k.ls x (h.ls x hx),fun x hx=>k.as x (h.as x hx),fun x=>k.ok (h.ok x)⟩
theorem bs {b : Sub} {l : List Nat} (h : (b.fail l).no=[]) : False:=by simp [Sub.fail] at h
section
variable {B : cT} {E : Env} {p : Pl} {g : Gm} {L : LI} {s : St} {a : Act} {as : List Act} {w : World} {b : Sub}
theorem lF.gD {i : Nat} {k : Kd} {x : X} (h : b.no=[]) (hi : pq L i=true) (hk : CD.ok k (x.den E)) : lF E L s b (b.gD i k x):=by
 simp only [pq,Bool.and_eq_true] at hi
 refine ⟨h,fun y hy=>List.mem_cons_of_mem _ hy,fun y hy=>hy,fun ok=>⟨fun y hy=>?_,fun y hy=>(ok.as y hy).mono fun z hz=>List.mem_cons_of_mem _ hz⟩⟩
 rcases List.mem_cons.1 hy with e | hy
 ·subst e;exact ⟨⟨Hk hi.1,Hk hi.2⟩,hk⟩
 ·exact ok.ls y hy
theorem lF.arr {i a' c : Nat} {k : Kd} {x : X} (h : b.no=[]) (hi : pq L i=true) (hk : CD.ok k (x.den E)) (hA : Er L s ((i,k,x) :: b.ls) a' c) : lF E L s b { b.gD i k x with as:=(a',c) :: b.as}:=by
 have G:=lF.gD (s:=s) h hi hk
 refine ⟨h,G.ls,fun y hy=>List.mem_cons_of_mem _ hy,fun ok=>⟨(G.ok ok).ls,fun y hy=>?_⟩⟩
 rcases List.mem_cons.1 hy with e | hy
 ·subst e;exact hA
 ·exact (G.ok ok).as y hy
theorem gO {wh : List Nat} {hc c : SC} (h : (mO L wh hc c b).no=[]) : lF E L s b (mO L wh hc c b)∧Cl L s (mO L wh hc c b).ls (mO L wh hc c b).as hc c:=by
 unfold mO at h ⊢
 split at h
 ·rename_i hs
  rw [if_pos hs]
  simp only [Bool.and_eq_true] at hs
  have e:=SC.av _ _ hs.1
  subst e
  exact ⟨.refl h,.old _ hs.2⟩
 ·exact (bs h).elim
theorem ze (by_ : Nat) (kd : List Kd) : CD.ok (.sl by_ kd) (X.nil.den E):=by
 simp only [X.den]
 exact ⟨⟨[],rfl,by simp,fun _ h=>by cases h⟩,CD.zZ⟩
theorem yp (H : bq B E p g s.h w) (hkn : ∀ b∈s.known,(b.den E).bool=true) {wh : List Nat} {hc c : SC} {v : Value} (hv : c.is E p g v) (h : (bkC L s wh hc c b).no=[]) :
  lF E L s b (bkC L s wh hc c b)∧Cl L s (bkC L s wh hc c b).ls (bkC L s wh hc c b).as hc c:=by
 generalize hb' : bkC L s wh hc c b=b' at h ⊢
 unfold bkC at hb'
 split at hb'
 ·subst hb';exact ⟨.refl h,.any _⟩
 ·rename_i k i
  split at hb'
  ·rename_i hi
   split at hb'
   ·rename_i j x
    split at hb'
    ·rename_i hkj
     have:=IntKind.av hkj
     subst this
     subst hb'
     obtain ⟨n,e,_⟩:=hv
     exact ⟨.gD h hi (by rw [e];exact ⟨n,rfl⟩),.int _ _ _ (by simp [Sub.gD])⟩
    ·subst hb';exact (bs h).elim
   ·subst hb';exact (bs h).elim
  ·subst hb';exact gO h
 ·rename_i i
  split at hb'
  ·rename_i hi
   split at hb'
   ·rename_i x
    subst hb'
    obtain ⟨n,e,_⟩:=hv
    exact ⟨.gD h hi (by rw [e];exact ⟨n,rfl⟩),.bool _ _ (by simp [Sub.gD])⟩
   ·subst hb';exact (bs h).elim
  ·subst hb';exact gO h
 ·rename_i i
  split at hb'
  ·rename_i hi
   split at hb'
   ·rename_i x
    subst hb'
    obtain ⟨n,e,_⟩:=hv
    exact ⟨.gD h hi (by rw [e];exact ⟨_,rfl⟩),.str _ _ (by simp [Sub.gD])⟩
   ·subst hb';exact (bs h).elim
  ·subst hb';exact gO h
 ·rename_i K i
  split at hb'
  ·rename_i hi
   split at hb'
   ·rename_i J x
    split at hb'
    ·rename_i hkj
     simp only [Bool.and_eq_true] at hkj
     have:=SK.av hkj.1
     subst this
     subst hb'
     have hv : Rd g (.sl K.by_ K.kd) v (x.den E):=hv
     exact ⟨.gD h hi ⟨Rd.ok0 _ _ _ hv,CD.yi hkj.2⟩,.fz _ _ _ (by simp [Sub.gD])⟩
    ·subst hb';exact (bs h).elim
   ·subst hb';exact ⟨.gD h hi (ze _ _),.fzn _ _ (by simp [Sub.gD])⟩
   ·subst hb';exact ⟨.gD h hi (ze _ _),.fzz _ _ (by simp [Sub.gD])⟩
   ·subst hb';exact (bs h).elim
  ·subst hb';exact gO h
 ·rename_i a' i
  split at hb'
  ·rename_i hi
   simp only [Bool.and_eq_true] at hi
   obtain ⟨hi,ha0⟩:=hi
   have ha0:=Nat.le_of_ble_eq_true ha0
   split at hb'
   ·rename_i A hA
    split at hb'
    ·rename_i hAx
     have hAx:=X.av hAx
     split at hb'
     ·rename_i c' n
      split at hb'
      ·rename_i A' hA'
       split at hb'
       ·rename_i hd
        split at hb'
        ·rename_i c2 k2 x2 l1 l2
         split at hb'
         ·rename_i hs
          simp only [Bool.and_eq_true] at hs
          have e1:=Nat.eq_of_beq_eq_true hs.1
          have e2:=X.av hs.2
          subst e1;subst e2
          subst hb'
          exact ⟨.refl h,.sl _ _ _ _ _ _ (iS l2) (iS l1) hA' hd⟩
         ·subst hb';exact (bs h).elim
        split at hb'
        ·rename_i hs
         simp only [Bool.and_eq_true] at hs
         have hs1:=Nat.eq_of_beq_eq_true hs.1
         have hs2:=SK.av hs.2.1
         subst hb'
         obtain ⟨ad,cap,rows,e1,e2,e3,e4,e5,e6,e7,e8⟩:=(H.arr c' A' hA').ex
         have hok : CD.ok (.sl A.K.by_ A.K.kd) ((dc n A'.x).den E):=by
          rw [db e2,hs2]
          refine ⟨⟨_,rfl,?_,fun row hr=>?_⟩,fun rs hrs j e' hj row hr=>?_⟩
          ·rw [List.length_take]
           exact Nat.le_trans (Nat.mul_le_mul_right _ (Nat.min_le_right _ _)) e5
          ·obtain ⟨j,hj⟩:=List.getElem?_of_mem hr
           rw [List.getElem?_take] at hj
           split at hj
           ·obtain ⟨bb,cur,f1,f2,f3,f4,f5,f6⟩:=e8 (by have:=(List.getElem?_eq_some_iff.1 hj).1;omega)
            exact aJ.ny _ _ _ (f6 j row hj)
           ·cases hj
          ·cases hrs
           exact (jB e2 hs.2.2 hkn).2 j e' hj row (List.mem_of_mem_take hr)
         exact ⟨.arr h hi hok ⟨ha0,A,i,hA,hAx,A',n,hA',hs1,hs2,hd,by simp,hs.2.2⟩,.sl _ _ _ _ (.sl A.K.by_ A.K.kd) _ (by simp [Sub.gD]) (by simp) hA' hd⟩
        ·subst hb';exact (bs h).elim
       ·subst hb';exact (bs h).elim
      ·subst hb';exact (bs h).elim
     ·split at hb'
      ·rename_i hp
       subst hb'
       exact ⟨.arr h hi (ze _ _) ⟨ha0,A,i,hA,hAx,hp,by simp⟩,.sln _ _ (.sl A.K.by_ A.K.kd) (by simp [Sub.gD]) (by simp)⟩
      ·subst hb';exact (bs h).elim
     ·subst hb';exact (bs h).elim
    ·subst hb';exact (bs h).elim
   ·subst hb';exact (bs h).elim
  ·subst hb';exact gO h
 ·subst hb';exact gO h
def Tl (L : LI) (s : St) (ls : List (Nat × Kd × X)) (as : List (Nat × Nat)) (t u : SR) : Prop:=t=.v (.one .any)∨(∃ c d,t=.v (.one c)∧u=.v (.one d)∧Cl L s ls as c d)∨(t=u∧t.old L=true)
theorem Tl.mono {ls ls' : List (Nat × Kd × X)} {as as' : List (Nat × Nat)} (h1 : ∀ x∈ls,x∈ls') (h2 : ∀ x∈as,x∈as') {t u : SR} (h : Tl L s ls as t u) : Tl L s ls' as' t u:=by
 rcases h with h | ⟨c,d,e1,e2,h⟩ | h
 ·exact .inl h
 ·exact .inr (.inl ⟨c,d,e1,e2,h.mono h1 h2⟩)
 ·exact .inr (.inr h)
theorem D8 (H : bq B E p g s.h w) (hkn : ∀ b∈s.known,(b.den E).bool=true) {wh : List Nat} {t u : SR} {v : Value} (hv : u.is E p g v) (h : (bkR L s wh t u b).no=[]) :
  lF E L s b (bkR L s wh t u b)∧Tl L s (bkR L s wh t u b).ls (bkR L s wh t u b).as t u:=by
 generalize hb' : bkR L s wh t u b=b' at h ⊢
 unfold bkR at hb'
 split at hb'
 ·subst hb';exact ⟨.refl h,.inl rfl⟩
 ·rename_i hc c _
  subst hb'
  obtain ⟨h1,h2⟩:=yp H hkn (c:=c) hv h
  exact ⟨h1,.inr (.inl ⟨hc,c,rfl,rfl,h2⟩)⟩
 ·split at hb'
  ·rename_i hs
   simp only [Bool.and_eq_true] at hs
   subst hb'
   exact ⟨.refl h,.inr (.inr ⟨SR.av _ _ hs.1,hs.2⟩)⟩
  ·subst hb';exact (bs h).elim
theorem rq (H : bq B E p g s.h w) (hkn : ∀ b∈s.known,(b.den E).bool=true) : ∀ {l m : List SR} {b : Sub} {i : Nat},(∀ j u,nth m j=some u→∃ v,u.is E p g v)→(mM L s i l m b).no=[] →
  lF E L s b (mM L s i l m b)∧aE (Tl L s (mM L s i l m b).ls (mM L s i l m b).as) l m
 | [],[],b,i,_,h=>⟨.refl h,trivial⟩
 | t :: l,u :: m,b,i,hv,h=>by
  simp only [mM] at h ⊢
  obtain ⟨v,hv0⟩:=hv 0 u rfl
  obtain ⟨h3,h4⟩:=rq H hkn (l:=l) (m:=m) (fun j u hj=>hv (j + 1) u hj) h
  obtain ⟨h1,h2⟩:=D8 H hkn (wh:=[1,i]) (t:=t) hv0 h3.no
  exact ⟨h1.trans h3,h2.mono h3.ls h3.as,h4⟩
 | [],_ :: _,b,i,_,h=>(bs h).elim
 | _ :: _,[],b,i,_,h=>(bs h).elim
theorem pQ (H : bq B E p g s.h w) (hkn : ∀ b∈s.known,(b.den E).bool=true) {r : Nat} : ∀ {l m : List SC} {b : Sub} {i : Nat},(∀ j u,nth m j=some u→∃ v,u.is E p g v)→(IK L s r i l m b).no=[] →
  lF E L s b (IK L s r i l m b)∧aE (Cl L s (IK L s r i l m b).ls (IK L s r i l m b).as) l m
 | [],[],b,i,_,h=>⟨.refl h,trivial⟩
 | t :: l,u :: m,b,i,hv,h=>by
  simp only [IK] at h ⊢
  obtain ⟨v,hv0⟩:=hv 0 u rfl
  obtain ⟨h3,h4⟩:=pQ H hkn (l:=l) (m:=m) (fun j u hj=>hv (j + 1) u hj) h
  obtain ⟨h1,h2⟩:=yp H hkn (wh:=[2,r,i]) (hc:=t) hv0 h3.no
  exact ⟨h1.trans h3,h2.mono h3.ls h3.as,h4⟩
 | [],_ :: _,b,i,_,h=>(bs h).elim
 | _ :: _,[],b,i,_,h=>(bs h).elim
def Rl (L : LI) (s : St) (ls : List (Nat × Kd × X)) (as : List (Nat × Nat)) (x : Pc (List SC)) (y : Option (Pc (List SC))) : Prop:=x≠.fr∧∀ cs,x=.here cs→∃ ds,y=some (.here ds)∧aE (Cl L s ls as) cs ds
theorem mN (H : bq B E p g s.h w) (hkn : ∀ b∈s.known,(b.den E).bool=true) : ∀ {l m : List (Pc (List SC))} {b : Sub} {r : Nat},(∀ j cs,nth m j=some (.here cs)→∀ i c,nth cs i=some c→∃ v,c.is E p g v)→(fq L s r l m b).no=[] →
  lF E L s b (fq L s r l m b)∧∀ j x,nth l j=some x→Rl L s (fq L s r l m b).ls (fq L s r l m b).as x (nth m j)
 | [],m,b,r,_,h=>by
  simp only [fq] at h ⊢
  exact ⟨.refl h,fun j x hj=>by simp [nth] at hj⟩
 | x :: l,m,b,r,hv,h=>by
  cases x with
  | fr=>simp only [fq] at h;exact (bs h).elim
  | go =>
   cases m with
   | nil=>simp only [fq] at h;exact (bs h).elim
   | cons y m =>
    simp only [fq] at h ⊢
    obtain ⟨h1,h2⟩:=mN H hkn (l:=l) (m:=m) (fun j cs hj=>hv (j + 1) cs hj) h
    refine ⟨h1,fun j x hj=>?_⟩
    cases j with
    | zero=>simp only [nth,Option.some.injEq] at hj;subst hj;exact ⟨by simp,fun _ e=>by cases e⟩
    | succ j=>exact h2 j x hj
  | here c =>
   cases m with
   | nil=>simp only [fq] at h;exact (bs h).elim
   | cons y m =>
    cases y with
    | here d =>
     simp only [fq] at h ⊢
     obtain ⟨h1,h2⟩:=mN H hkn (l:=l) (m:=m) (fun j cs hj=>hv (j + 1) cs hj) h
     obtain ⟨h3,h4⟩:=pQ H hkn (l:=c) (m:=d) (hv 0 d rfl) h1.no
     refine ⟨h3.trans h1,fun j x hj=>?_⟩
     cases j with
     | zero =>
      simp only [nth,Option.some.injEq] at hj
      subst hj
      refine ⟨by simp,fun cs e=>?_⟩
      cases e
      exact ⟨d,rfl,h4.mono fun _ _ h=>h.mono h1.ls h1.as⟩
     | succ j=>exact h2 j x hj
    | fr=>simp only [fq] at h;exact (bs h).elim
    | go=>simp only [fq] at h;exact (bs h).elim
def Al (L : LI) (s : St) (as : List (Nat × Nat)) (a : Nat) (x : Pc Ar) : Prop:=x≠.fr∧∀ A,x=.here A→(a < L.a0∧∃ A',nth s.h.arrs a=some (.here A')∧A.e=A'.e∧A.K=A'.K∧A.x=A'.x∧A.x.under L.nx0=true∧ld s.known A'=true)∨(L.a0≤a∧∃ c,fk a as=some c)
theorem jE : ∀ {l : List (Pc Ar)} {b : Sub} {a : Nat},(jP L s a l b).no=[]→jP L s a l b=b∧∀ j x,nth l j=some x→Al L s b.as (a + j) x
 | [],b,a,h=>⟨rfl,fun j x hj=>by simp [nth] at hj⟩
 | .go :: l,b,a,h=>by
  simp only [jP] at h ⊢
  obtain ⟨h1,h2⟩:=jE h
  refine ⟨h1,fun j x hj=>?_⟩
  cases j with
  | zero=>simp only [nth,Option.some.injEq] at hj;subst hj;exact ⟨by simp,fun _ e=>by cases e⟩
  | succ j=>rw [show a + (j + 1)=a + 1 + j from by omega];exact h2 j x hj
 | .fr :: l,b,a,h=>by
  simp only [jP] at h
  have:=(jE h).1
  rw [this] at h
  exact (bs h).elim
 | .here A :: l,b,a,h=>by
  simp only [jP] at h ⊢
  obtain ⟨h1,h2⟩:=jE h
  rw [h1] at h ⊢
  have key : ∀ {b1 : Sub},b1=b→b1.as=b.as:=fun h=>by rw [h]
  split at h
  ·rename_i ha
   have ha':=Hk ha
   simp only [if_pos ha] at h2 ⊢
   split at h
   ·rename_i A' hA'
    simp only [hA'] at h2 ⊢
    split at h
    ·rename_i hc
     simp only [if_pos hc] at h2 ⊢
     simp only [Bool.and_eq_true] at hc
     refine ⟨trivial,fun j x hj=>?_⟩
     cases j with
     | zero =>
      simp only [nth,Option.some.injEq] at hj
      subst hj
      refine ⟨by simp,fun A0 e=>?_⟩
      cases e
      exact .inl ⟨by omega,A',hA',Nat.eq_of_beq_eq_true hc.1.1,SK.av hc.1.2.1,X.av hc.2.1,hc.2.2,hc.1.2.2⟩
     | succ j=>rw [show a + (j + 1)=a + 1 + j from by omega];exact h2 j x hj
    ·exact (bs h).elim
   ·exact (bs h).elim
  ·rename_i ha
   simp only [if_neg ha] at h2 ⊢
   split at h
   ·rename_i c hc
    simp only [hc] at h2 ⊢
    refine ⟨trivial,fun j x hj=>?_⟩
    cases j with
    | zero =>
     simp only [nth,Option.some.injEq] at hj
     subst hj
     refine ⟨by simp,fun A0 e=>?_⟩
     have : ¬ a < L.a0:=fun hl=>ha (by rw [Nat.blt_eq];exact hl)
     exact .inr ⟨by omega,c,hc⟩
    | succ j=>rw [show a + (j + 1)=a + 1 + j from by omega];exact h2 j x hj
   ·exact (bs h).elim
end
end Go.Sy

namespace Go.Sy
open Go.RowKit
theorem m9 {α : Type} {n : Nat} {x : α} : ∀ {l : List (Nat × α)},eJ (l.map (·.1))=true→(n,x)∈l→fk n l=some x
 | [],_,h=>by cases h
 | (m,y) :: l,hd,h=>by
  rw [List.map_cons] at hd
  obtain ⟨h1,h2⟩:=gI hd
  simp only [fk]
  rcases List.mem_cons.1 h with e | h'
  ·cases e
   rw [if_pos (Nat.beq_refl n)]
  ·rw [if_neg,m9 h2 h']
   intro e
   have e:=Nat.eq_of_beq_eq_true e
   exact h1 (List.mem_map.2 ⟨(n,x),h',e⟩)
theorem pK {ls : List (Nat × Kd × X)} : ∀ {ks : List Kd} {i : Nat} {cs : List X},collect ls i ks=some cs→cs.length=ks.length∧∀ j k,ks[j]?=some k→∃ x,cs[j]?=some x∧fk (i + j) ls=some (k,x)
 | [],i,cs,h=>by
  simp only [collect,Option.some.injEq] at h
  subst h
  exact ⟨rfl,fun j k hj=>by simp at hj⟩
 | k :: ks,i,cs,h=>by
  simp only [collect] at h
  split at h
  ·rename_i k' x l h1 h2
   split at h
   ·rename_i hk
    have hk:=Kd.av _ _ hk
    subst hk
    cases h
    obtain ⟨i1,i2⟩:=pK h2
    refine ⟨by simp [i1],fun j k0 hj=>?_⟩
    cases j with
    | zero =>
     simp only [List.getElem?_cons_zero,Option.some.injEq] at hj
     subst hj
     exact ⟨x,rfl,h1⟩
    | succ j =>
     obtain ⟨y,y1,y2⟩:=i2 j k0 (by simpa using hj)
     exact ⟨y,by simpa using y1,by rw [show i + (j + 1)=i + 1 + j from by omega];exact y2⟩
   ·cases h
  ·cases h
theorem oks_of {ks : List Kd} {ds : List CD} (hl : ds.length=ks.length) (h : ∀ (j : Nat) (k : Kd),ks[j]?=some k→∃ d,ds[j]?=some d∧CD.ok k d) : CD.oks ks ds:=by
 induction ks generalizing ds with
 | nil=>cases ds <;> first | trivial | simp at hl
 | cons k ks ih =>
  cases ds with
  | nil=>simp at hl
  | cons d ds =>
   obtain ⟨d',h1,h2⟩:=h 0 k rfl
   simp only [List.getElem?_cons_zero,Option.some.injEq] at h1
   subst h1
   exact ⟨h2,ih (by simpa using hl) fun j k hj=>by simpa using h (j + 1) k (by simpa using hj)⟩
def tgt (L : LI) (as : List (Nat × Nat)) (a : Nat) : Option Nat:=if a < L.a0 then some a else match fk a as with | some (c + 1)=>some c | _=>none
theorem sq {L : LI} {b : Sub} : ∀ {l : List (Pc Ar)} {a j : Nat} {A : Ar} {c : Nat},nth l j=some (.here A)→tgt L b.as (a + j)=some c→c∈Kw L b a l
 | [],_,_,_,_,h,_=>by simp [nth] at h
 | x :: l,a,0,A,c,h,ht=>by
  simp only [nth,Option.some.injEq] at h
  subst h
  simp only [Kw,List.mem_append]
  left
  simp only [Nat.add_zero,tgt] at ht
  split at ht
  ·rename_i hl
   cases ht
   rw [if_pos (by rw [Nat.blt_eq];exact hl)]
   simp
  ·rename_i hl
   rw [if_neg (fun h=>hl (Hk h))]
   split at ht
   ·rename_i hc;cases ht;rw [hc];simp
   ·cases ht
 | x :: l,a,j + 1,A,c,h,ht=>by
  have:=sq (L:=L) (b:=b) (l:=l) (a:=a + 1) (j:=j) h (by rw [show a + 1 + j=a + (j + 1) from by omega];exact ht)
  cases x with
  | fr=>exact this
  | go=>exact this
  | here y=>simp only [Kw,List.mem_append];exact .inr this
theorem kX {l m : List Nat} (h : eJ (l ++ m)=true) : eJ m=true∧∀ x∈l,x ∉ m:=by
 induction l with
 | nil=>exact ⟨h,fun _ h=>by cases h⟩
 | cons a l ih =>
  obtain ⟨h1,h2⟩:=gI (l:=l ++ m) h
  obtain ⟨h3,h4⟩:=ih h2
  refine ⟨h3,fun x hx=>?_⟩
  rcases List.mem_cons.1 hx with e | hx
  ·subst e;exact fun hm=>h1 (List.mem_append_right _ hm)
  ·exact h4 x hx
theorem J7 {L : LI} {b : Sub} : ∀ {l : List (Pc Ar)} {a j j' : Nat} {A A' : Ar} {c : Nat},eJ (Kw L b a l)=true→nth l j=some (.here A)→nth l j'=some (.here A')→tgt L b.as (a + j)=some c→tgt L b.as (a + j')=some c→j=j'
 | [],_,_,_,_,_,_,_,h,_,_,_=>by simp [nth] at h
 | x :: l,a,j,j',A,A',c,hd,h,h',ht,ht'=>by
  have head : ∀ {A0 : Ar},x=.here A0→tgt L b.as a=some c→c∈(if Nat.blt a L.a0 then [a] else (match fk a b.as with | some (c + 1)=>[c] | _=>[])):=fun _ ht=>by
   simp only [tgt] at ht
   split at ht
   ·rename_i hl
    cases ht
    rw [if_pos (by rw [Nat.blt_eq];exact hl)]
    simp
   ·rename_i hl
    rw [if_neg (fun h=>hl (Hk h))]
    split at ht
    ·rename_i hc;cases ht;simp
    ·cases ht
  have tail : eJ (Kw L b (a + 1) l)=true:=by
   cases x with
   | fr=>exact hd
   | go=>exact hd
   | here y=>exact (kX hd).1
  cases j with
  | zero =>
   cases j' with
   | zero=>rfl
   | succ j' =>
    exfalso
    simp only [nth,Option.some.injEq] at h
    subst h
    exact (kX hd).2 c (head rfl ht) (sq (j:=j') h' (by rw [show a + 1 + j'=a + (j' + 1) from by omega];exact ht'))
  | succ j =>
   cases j' with
   | zero =>
    exfalso
    simp only [nth,Option.some.injEq] at h'
    subst h'
    exact (kX hd).2 c (head rfl ht') (sq (j:=j) h (by rw [show a + 1 + j=a + (j + 1) from by omega];exact ht))
   | succ j' =>
    have:=J7 (l:=l) (a:=a + 1) (j:=j) (j':=j') tail h h' (by rw [show a + 1 + j=a + (j + 1) from by omega];exact ht) (by rw [show a + 1 + j'=a + (j' + 1) from by omega];exact ht')
    omega
section
variable {B : cT} {E : Env} {p : Pl} {g : Gm} {L : LI} {s : St} {a : Act} {as : List Act} {w : World}
open Classical in
noncomputable def HH (p : Pl) (L : LI) (as : List (Nat × Nat)) : Pl where
 reg r:=if r < L.r0 then p.reg r else none
 arr a:=if a < L.a0 then p.arr a else match fk a as with
  | some 0=>some (none,0)
  | some (c + 1)=>p.arr c
  | none=>none
 mp a:=if a < L.hd.h.mps.length then p.mp a else none
 ow k:=match p.ow k with
  | .arr c=>if h : ∃ a A,nth L.hd.h.arrs a=some (.here A)∧tgt L as a=some c then .arr h.choose else .z
  | .nst c i j=>if h : ∃ a A,nth L.hd.h.arrs a=some (.here A)∧tgt L as a=some c then .nst h.choose i j else .z
  | o=>o
theorem oE {ls : List (Nat × Nat)} {r : Nat} (h : r < L.r0) : (HH p L ls).reg r=p.reg r:=if_pos h
theorem zM {ls : List (Nat × Nat)} {a : Nat} (h : a < L.a0) : (HH p L ls).arr a=p.arr a:=if_pos h
theorem tD {ls : List (Nat × Nat)} {a : Nat} (h : L.a0≤a) (hl : fk a ls=some 0) : (HH p L ls).arr a=some (none,0):=by
 simp only [HH,if_neg (show ¬ a < L.a0 by omega),hl]
theorem oF {ls : List (Nat × Nat)} {a c : Nat} (h : L.a0≤a) (hl : fk a ls=some (c + 1)) : (HH p L ls).arr a=p.arr c:=by
 simp only [HH,if_neg (show ¬ a < L.a0 by omega),hl]
theorem qq {ls : List (Nat × Nat)} {k : Nat} (h : ∀ c,¬ (p.ow k).ofA c) : (HH p L ls).ow k=p.ow k:=by
 simp only [HH]
 split
 ·rename_i c e;exact absurd (show (p.ow k).ofA c by rw [e];rfl) (h c)
 ·rename_i c i j e;exact absurd (show (p.ow k).ofA c by rw [e];rfl) (h c)
 ·rfl
theorem zN {ls : List (Nat × Nat)} {k a : Nat} (h : ((HH p L ls).ow k).ofA a) : ∃ c,(p.ow k).ofA c:=by
 simp only [HH] at h
 split at h
 ·rename_i c e;exact ⟨c,by rw [e];rfl⟩
 ·rename_i c i j e;exact ⟨c,by rw [e];rfl⟩
 ·exact ⟨a,h⟩
theorem tC {b : Sub} {k c a i j : Nat} {A : Ar} (hd : eJ (Kw L b 0 L.hd.h.arrs)=true) (h : p.ow k=.nst c i j) (hA : nth L.hd.h.arrs a=some (.here A)) (ht : tgt L b.as a=some c) : (HH p L b.as).ow k=.nst a i j:=by
 have hex : ∃ a A,nth L.hd.h.arrs a=some (.here A)∧tgt L b.as a=some c:=⟨a,A,hA,ht⟩
 simp only [HH,h,dif_pos hex]
 obtain ⟨A',h1,h2⟩:=hex.choose_spec
 congr 1
 exact J7 hd h1 hA (by rw [Nat.zero_add];exact h2) (by rw [Nat.zero_add];exact ht)
theorem jG.head {q : Pl} {a a' i j e : Nat} {v : Value} {d : CD} (hN : jG B p g a i j e w v d) (hd : d.isH=false) (ho : ∀ b,p.ow b=.nst a i j→q.ow b=.nst a' i j) : jG B q g a' i j e w v d:=by
 cases d with
 | l r=>trivial
 | o r =>
  obtain ⟨ad,cap,e1,e2⟩:=hN
  exact ⟨ad,cap,e1,rF.cU (Mc:=fun _ _=>False) e2 (cd.refl _ _) (fun _ _ _ _ h=>h) (Gm.Le.refl _) fun b _ h=>ho b h⟩
 | h s n=>cases hd
 | _=>exact hN.elim
theorem tB {b : Sub} {k c a : Nat} {A : Ar} (hd : eJ (Kw L b 0 L.hd.h.arrs)=true) (h : p.ow k=.arr c) (hA : nth L.hd.h.arrs a=some (.here A)) (ht : tgt L b.as a=some c) : (HH p L b.as).ow k=.arr a:=by
 have hex : ∃ a A,nth L.hd.h.arrs a=some (.here A)∧tgt L b.as a=some c:=⟨a,A,hA,ht⟩
 simp only [HH,h,dif_pos hex]
 obtain ⟨A',h1,h2⟩:=hex.choose_spec
 congr 1
 exact J7 hd h1 hA (by rw [Nat.zero_add];exact h2) (by rw [Nat.zero_add];exact ht)
end
end Go.Sy
