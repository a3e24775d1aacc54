import Derived.Test.YtpmamacjepcdmaaSyCall5
namespace Go.Sy
open Go.RowKit
def HD (P : Program) (all : List Oper) (o : Oper) (K : Act→World→Prop) (Q : Exit→Act→World→Prop) (a : Act) (w : World) : Prop :=
 if Region.wanted o (yielded all.toArray a.tmps) then o.wp P a w K Q∨(o.asks P a w∧LetsOut Q) else K (a.put o.dst undef) w
def DN (E : Env) : Option X→Bool→Bool
 | none,_=>true
 | some b,want=>(b.den E).bool ==want
section
variable {P : Program} {Z : Cx} {Γ : Gam} {B : cT} {Q : List CD→Prop} {E F : Env} {J : JJ} {p q : Pl} {g g' : Gm} {s : St} {a : Act} {as : List Act} {w w' : World} {K : Act→World→Prop} {Qx : Exit→Act→World→Prop} {o : Oper} {all : List Oper}
theorem mv {gd : Option X} {want : Bool} (R : cA E p g s.tmps a) (h : guardOf all s.tmps o=some (gd,want)) :
  Region.wanted o (yielded all.toArray a.tmps)=DN E gd want:=by
 unfold guardOf at h
 unfold Region.wanted
 split at h
 ·rename_i hg
  cases h
  rw [hg]
  rfl
 ·rename_i j wt hg
  rw [hg]
  split at h
  ·rename_i oj hj
   split at h
   ·rename_i d hd
    have hget : ((all.toArray[j]?).bind (·.dst))=some d:=by
     rw [aW] at hj
     simp [hj,hd]
    split at h
    ·rename_i b hb
     cases h
     obtain ⟨c,hc,hv⟩:=(R.tmp d _ hb : ∃ c,b.den E=.b c∧a.tmps.getD d Go.undef=.bool c)
     have hs : a.tmps[d]?=some (.bool c):=by
      rw [Array.getD_eq_getD_getElem?] at hv
      cases hx : a.tmps[d]? with
      | none=>rw [hx] at hv;cases hv
      | some x=>rw [hx] at hv;exact congrArg some hv
     have : yielded all.toArray a.tmps j=some c:=by
      unfold yielded
      rw [hget,Option.bind_some,hs]
     simp only [this,DN,hc,CD.bool]
     cases c <;> cases want <;> rfl
    ·rename_i hb
     cases h
     have hv : a.tmps.getD d Go.undef=Go.undef:=R.tmp d _ hb
     have hs : yielded all.toArray a.tmps j=none:=by
      rw [Array.getD_eq_getD_getElem?] at hv
      cases hx : a.tmps[d]? with
      | none =>
       unfold yielded
       rw [hget,Option.bind_some,hx]
      | some x =>
       rw [hx] at hv
       have : x=Go.undef:=hv
       subst this
       unfold yielded
       rw [hget,Option.bind_some,hx]
       rfl
     simp only [hs,DN,X.den,CD.bool]
     cases want <;> rfl
    ·cases h
   ·cases h
  ·cases h
theorem lz {gd : Option X} {want x : Bool} {known : List X} (hk : ∀ b∈known,(b.den E).bool=true)
  (h : (match gd with | none=>some true | some b=>(match X.dec known b with | some x=>some (if want then x else x.not) | none=>none))=some x) : DN E gd want=x:=by
 cases gd with
 | none=>exact Option.some.inj h
 | some b =>
  dsimp only [DN] at h ⊢
  split at h
  ·rename_i y hy
   rw [gU hk hy]
   cases want <;> cases y <;> simp_all
  ·cases h
theorem oH {v : Value} (hw : Region.wanted o (yielded all.toArray a.tmps)=true) (h : (execOp a.eval o).run P w=.ok (.value v) w') (hk : K (a.put o.dst v) w') : HD P all o K Qx a w:=by
 unfold HD
 rw [if_pos hw]
 left
 unfold Oper.wp
 rw [h]
 exact hk
theorem vc (hw : Region.wanted o (yielded all.toArray a.tmps)=true) (h : (execOp a.eval o).run P w=.ok .skip w') (hk : K (a.put o.dst undef) w') : HD P all o K Qx a w:=by
 unfold HD
 rw [if_pos hw]
 left
 unfold Oper.wp
 rw [h]
 exact hk
theorem tG {f : FuncId} {args : Array Value} (hw : Region.wanted o (yielded all.toArray a.tmps)=true) (h : (execOp a.eval o).run P w=.ok (.enter f args) w)
  (hk : Calls P f args w fun e w''=>∃ v,e=.returned v∧K (a.put o.dst v) w'') : HD P all o K Qx a w:=by
 unfold HD
 rw [if_pos hw]
 left
 unfold Oper.wp
 rw [h]
 exact hk.mono fun e w'' ⟨v,e1,e2⟩=>by subst e1;exact e2
theorem xN (hw : Region.wanted o (yielded all.toArray a.tmps)=false) (hk : K (a.put o.dst undef) w) : HD P all o K Qx a w:=by
 unfold HD
 rw [if_neg (by rw [hw];exact Bool.false_ne_true)]
 exact hk
theorem xv {T : TT} {tm : List SR} {h : Hp} {sr sa : Nat} {op : Op} {f : Nat} {args : List SR} (ho : aop T tm h sr sa op=.call f args) : ∃ x as ats,op=.call ⟨.value x,as,ats⟩:=by
 cases op with
 | call c =>
  obtain ⟨callee,as,ats⟩:=c
  cases callee with
  | value x=>exact ⟨x,as,ats,rfl⟩
  | builtin b =>
   simp only [aop] at ho
   split at ho
   ·rename_i h1 _;cases h1
   ·unfold fN at ho
    repeat (first | (split at ho <;> try (cases ho;done)) | dsimp only at ho)
   ·cases ho
  | invoke r m=>simp only [aop] at ho;cases ho
 | load t x =>
  simp only [aop] at ho
  split at ho
  ·unfold loadAt at ho
   repeat (split at ho <;> try (cases ho;done))
  ·cases ho
 | store t a x =>
  simp only [aop] at ho
  split at ho
  ·unfold storeAt at ho
   repeat (split at ho <;> try (cases ho;done))
  ·cases ho
 | binOp op t x y yt =>
  simp only [aop] at ho
  split at ho
  ·unfold IL at ho
   repeat (split at ho <;> try (cases ho;done))
  ·cases ho
 | unOp op t x =>
  cases op <;> simp only [aop] at ho <;> repeat (split at ho <;> try (cases ho;done))
  all_goals cases ho
 | makeMap t r =>
  cases r <;> simp only [aop] at ho <;> repeat (split at ho <;> try (cases ho;done))
  all_goals cases ho
 | lookup t m x c =>
  cases c <;> simp only [aop] at ho <;> repeat (split at ho <;> try (cases ho;done))
  all_goals cases ho
 | makeFunc f first caps =>
  cases f <;> simp only [aop] at ho <;> repeat (split at ho <;> try (cases ho;done))
  all_goals cases ho
 | _ =>
  simp only [aop] at ho
  first
   | (cases ho;done)
   | (repeat (split at ho <;> try (cases ho;done)))
theorem Dg {T : TT} {tm : List SR} {h : Hp} {sr sa : Nat} {op : Op} {ns : List X} {h' : Hp} (ho : aop T tm h sr sa op=.skip ns h') : (∃ t a x,op=.store t a x)∨∃ t m k x,op=.mapUpdate t m k x∨op=.insert t m k x:=by
 cases op with
 | call c =>
  obtain ⟨callee,as,ats⟩:=c
  cases callee with
  | value x =>
   simp only [aop] at ho
   split at ho
   ·split at ho <;> cases ho
   ·rename_i h1 _;cases h1
   ·cases ho
  | builtin b =>
   simp only [aop] at ho
   split at ho
   ·rename_i h1 _;cases h1
   ·unfold fN at ho
    repeat (first | (split at ho <;> try (cases ho;done)) | dsimp only at ho)
   ·cases ho
  | invoke r m=>simp only [aop] at ho;cases ho
 | load t x =>
  simp only [aop] at ho
  split at ho
  ·unfold loadAt at ho
   repeat (split at ho <;> try (cases ho;done))
  ·cases ho
 | store t a x=>exact .inl ⟨t,a,x,rfl⟩
 | mapUpdate t m k x=>exact .inr ⟨t,m,k,x,.inl rfl⟩
 | insert t m k x=>exact .inr ⟨t,m,k,x,.inr rfl⟩
 | binOp op t x y yt =>
  simp only [aop] at ho
  split at ho
  ·unfold IL at ho
   repeat (split at ho <;> try (cases ho;done))
  ·cases ho
 | unOp op t x =>
  cases op <;> simp only [aop] at ho <;> repeat (split at ho <;> try (cases ho;done))
  all_goals cases ho
 | makeMap t r =>
  cases r <;> simp only [aop] at ho <;> repeat (split at ho <;> try (cases ho;done))
  all_goals cases ho
 | lookup t m x c =>
  cases c <;> simp only [aop] at ho <;> repeat (split at ho <;> try (cases ho;done))
  all_goals cases ho
 | makeFunc f first caps =>
  cases f <;> simp only [aop] at ho <;> repeat (split at ho <;> try (cases ho;done))
  all_goals cases ho
 | _ =>
  simp only [aop] at ho
  first
   | (cases ho;done)
   | (repeat (split at ho <;> try (cases ho;done)))
theorem Dh {T : TT} {tm : List SR} {h : Hp} {sr sa : Nat} {op : Op} {n : X} {neg : Bool} (ho : aop T tm h sr sa op=.nilq n neg) : ∃ p t x y yt rx ry,op=.binOp p t x y yt∧ev tm x=some rx∧ev tm y=some ry∧IL T h p t rx ry=.nilq n neg:=by
 cases op with
 | call c =>
  obtain ⟨callee,as,ats⟩:=c
  cases callee with
  | value x =>
   simp only [aop] at ho
   split at ho
   ·split at ho <;> cases ho
   ·rename_i h1 _;cases h1
   ·cases ho
  | builtin b =>
   simp only [aop] at ho
   split at ho
   ·rename_i h1 _;cases h1
   ·unfold fN at ho
    repeat (first | (split at ho <;> try (cases ho;done)) | dsimp only at ho)
   ·cases ho
  | invoke r m=>simp only [aop] at ho;cases ho
 | load t x =>
  simp only [aop] at ho
  split at ho
  ·unfold loadAt at ho
   repeat (split at ho <;> try (cases ho;done))
  ·cases ho
 | store t a x =>
  simp only [aop] at ho
  split at ho
  ·unfold storeAt at ho
   repeat (split at ho <;> try (cases ho;done))
  ·cases ho
 | binOp p t x y yt =>
  simp only [aop] at ho
  split at ho
  ·rename_i rx ry h1 h2
   exact ⟨p,t,x,y,yt,_,_,rfl,h1,h2,ho⟩
  ·cases ho
 | unOp op t x =>
  cases op <;> simp only [aop] at ho <;> repeat (split at ho <;> try (cases ho;done))
  all_goals cases ho
 | makeMap t r =>
  cases r <;> simp only [aop] at ho <;> repeat (split at ho <;> try (cases ho;done))
  all_goals cases ho
 | lookup t m x c =>
  cases c <;> simp only [aop] at ho <;> repeat (split at ho <;> try (cases ho;done))
  all_goals cases ho
 | makeFunc f first caps =>
  cases f <;> simp only [aop] at ho <;> repeat (split at ho <;> try (cases ho;done))
  all_goals cases ho
 | _ =>
  simp only [aop] at ho
  first
   | (cases ho;done)
   | (repeat (split at ho <;> try (cases ho;done)))
theorem yq {T : TT} {tm : List SR} {h : Hp} {sr sa : Nat} (H : bq B E p g h w) (ht : ∀ i c,nth tm i=some c→c.is E p g (a.tmps.getD i Go.undef)) (hT : TOk P T) {n : X} {neg : Bool} (ho : aop T tm h sr sa o.op=.nilq n neg) :
  ∃ b : Bool,(∀ w',(execOp a.eval o).run P w'=.ok (.value (.bool (if neg then !b else b))) w')∧(b=true→(n.den E).int=0):=by
 obtain ⟨dst,op,type,pos,after,guard⟩:=o
 obtain ⟨p',t,x,y,yt,rx,ry,e,h1,h2,h3⟩:=Dh ho
 dsimp only at e
 subst e
 exact y_nilq ht dst type pos after guard hT H p' t x y yt h1 h2 h3
theorem AV : ∀ {caps : List (Nat × Nat)} {vs : List Value},aE (fun (x : Nat × Nat) u=>∃ b q,p.reg x.1=some (b,q)∧u=Value.pointer (some ⟨b,q + x.2,none⟩)) caps vs→aE (SR.is E p g) (caps.map fun x=>SR.v (.one (.loc x.1 x.2))) vs
 | [],[],_=>trivial
 | _ :: _,_ :: _,h=>⟨h.1,AV h.2⟩
 | [],_ :: _,h=>h.elim
 | _ :: _,[],h=>h.elim
theorem yu {T : TT} {tm : List SR} {h : Hp} {sr sa : Nat} (ht : ∀ i c,nth tm i=some c→c.is E p g (a.tmps.getD i Go.undef)) {f : Nat} {args : List SR} (hK : Bp P f) (ho : aop T tm h sr sa o.op=.call f args) :
  ∃ vals,aE (SR.is E p g) args vals∧(execOp a.eval o).run P w=.ok (.enter f vals.toArray) w:=by
 obtain ⟨dst,op,type,pos,after,guard⟩:=o
 obtain ⟨x,as,ats,e⟩:=xv ho
 dsimp only at e
 subst e
 simp only [aop] at ho
 split at ho
 ·rename_i f' args' h1 h2
  cases h1
  split at ho
  ·rename_i g' caps h3
   cases ho
   obtain ⟨vs,hf,hvs⟩:=(bw ht h3 : ∃ vs : List Value,a.eval x=.func (.func f) #[] vs.toArray∧aE _ caps vs)
   have ha:=DW ht h2
   obtain ⟨fn,c,k1,k2,k3⟩:=hK
   refine ⟨as.toList.map a.eval ++ vs,ha.append (AV hvs),?_⟩
   have k5 : ¬ fn.name= "runtime.NumGoroutine":=by simpa using k3
   have e2 : as.map a.eval ++ vs.toArray=(as.toList.map a.eval ++ vs).toArray:=by apply Array.ext';simp
   simp [execOp,resolve,hf,Deferred.ofValue,invoke,callFunc,k1,k5,k2,e2]
  ·cases ho
 ·rename_i h1 _;cases h1
 ·cases ho
theorem BD {T : TT} {tm : List SR} {h : Hp} {sr sa : Nat} {t : TypeId} {x y : Operand} {ns : List X} {r : SR} {h' : Hp} {qu : Bool} (ho : aop T tm h sr sa (.store t x y)=.val ns r h' qu) : False:=by
 simp only [aop] at ho
 split at ho
 ·unfold storeAt at ho
  repeat (split at ho <;> try (cases ho;done))
 ·cases ho
theorem CM {T : TT} {tm : List SR} {h : Hp} {sr sa : Nat} {t : TypeId} {x y : Operand} {ns : List X} {h' : Hp} (H : bq B E p g h w) (ho : aop T tm h sr sa (.store t x y)=.skip ns h') : ∀ k i,Kn E p h k i→Kn E p h' k i:=by
 simp only [aop] at ho
 split at ho
 ·unfold storeAt at ho
  split at ho
  ·cases ho
  ·split at ho
   ·cases ho
   ·split at ho
    ·split at ho
     ·split at ho
      ·rename_i r o' _ _ cs hcs
       split at ho
       ·cases ho
        intro k i hk
        rcases hk with hk | ⟨r',cs',b,q,h1,h2,h3⟩ | hk
        ·exact .inl hk
        ·refine .inr (.inl ?_)
         by_cases e : r=r'
         ·subst e
          rw [hcs] at h1;cases h1
          exact ⟨r,_,b,q,by rw [aS,if_pos rfl,if_pos (cn hcs)],h2,by rw [gq];exact h3⟩
         ·exact ⟨r',cs',b,q,by rw [aS,if_neg e];exact h1,h2,h3⟩
        ·exact .inr (.inr hk)
       ·cases ho
      ·cases ho
     ·split at ho
      ·rename_i b z i o' _ _ A hA
       split at ho
       ·split at ho
        ·cases ho
        ·split at ho
         ·rename_i ds _
          cases ho
          intro k j hk
          rcases hk with hk | hk | ⟨a',A',b',c',h1,h2,h3,h4⟩
          ·exact .inl hk
          ·exact .inr (.inl hk)
          ·refine .inr (.inr ?_)
           by_cases e : b=a'
           ·subst e
            rw [hA] at h1;cases h1
            refine ⟨b,_,b',c',by rw [aS,if_pos rfl,if_pos (cn hA)],h2,h3,?_⟩
            obtain ⟨_,_,rows,_,e2,_⟩:=(H.arr b A hA).ex
            rw [e2] at h4
            have h5:=kG (E:=E) (i:=i) ds A.x o' e2
            dsimp only
            split
            ·rw [qi]
             simp only [X.den,e2]
             simpa using h4
            ·rw [h5]
             simpa using h4
           ·exact ⟨a',A',b',c',by rw [aS,if_neg e];exact h1,h2,h3,h4⟩
         ·cases ho
       ·cases ho
      ·cases ho
     ·cases ho
    ·cases ho
 ·cases ho
structure qF (E : Env) (p : Pl) (h : Hp) (w : World) (o : Oper) (fp : Bool) (E' : Env) (q : Pl) (h' : Hp) (w' : World) : Prop where
 qt : fp=true→bj E p h w w'∧mU E p h E' q h' w.heap.size
 pu : gi o=true→w'=w∧mU E p h E' q h' w.heap.size
 st : ni o=true→mU E p h E' q h' w.heap.size
 size : fp=true∨gi o=true∨ni o=true→w.heap.size≤w'.heap.size
theorem qF.refl (fp : Bool) : qF E p s.h w o fp E p s.h w:=⟨fun _=>⟨bj.refl _ _ _ _,fun _ _ _ h=>h⟩,fun _=>⟨rfl,fun _ _ _ h=>h⟩,fun _ _ _ _ h=>h,fun _=>Nat.le_refl _⟩
theorem yT (h : reads o=false) : gi o=false:=by simp [gi,h]
theorem wM (hT : TOk P Z.T) (R : Rep B E p g s a as w) {sr sa : Nat} {ns : List X} {r : SR} {h' : Hp} {qu fp : Bool} (ho : aop Z.T s.tmps s.h sr sa o.op=.val ns r h' qu) (hn : ∀ b∈ns,(b.den E).bool=true) (hfp : (fp.and qu.not)=false) :
  ∃ v w' q,(execOp a.eval o).run P w=.ok (.value v) w'∧Rep B E q g { s with tmps:=jX s.tmps o.dst r,h:=h',known:=df s.known ns} (a.put o.dst v) as w'∧qF E p s.h w o fp E q h' w':=by
 have hk:=fS R.known hn
 rcases Bk R.mem R.frame.tmp hT ho hn with ⟨e,v,h1,h2⟩ | ⟨e,e0,v,h1,h2⟩ | ⟨e0,v,w',q,h1,h2,h3,h4,h5,h6⟩
 ·subst e
  exact ⟨v,w,p,h1 w,R.step (Pl.Le.refl _) (Gm.Le.refl _) R.mem h2 hk,qF.refl fp⟩
 ·subst e
  exact ⟨v,w,p,h1 w (bj.refl _ _ _ _),R.step (Pl.Le.refl _) (Gm.Le.refl _) R.mem h2 hk,qF.refl fp⟩
 ·refine ⟨v,w',q,h1,R.step h4 (Gm.Le.refl _) h2 h3 hk,fun e=>?_,fun e=>?_,fun e=>?_,fun _=>h5⟩
  ·subst e
   have : qu=true:=by cases qu <;> first | rfl | cases hfp
   exact h6 this
  ·rw [yT e0] at e;cases e
  ·exfalso
   obtain ⟨dst,op,type,pos,after,guard⟩:=o
   cases op <;> simp only [ni,Bool.false_eq_true] at e
   exact BD ho
theorem uM (hT : TOk P Z.T) (R : Rep B E p g s a as w) {sr sa : Nat} {ns : List X} {h' : Hp} (ho : aop Z.T s.tmps s.h sr sa o.op=.skip ns h') (hn : ∀ b∈ns,(b.den E).bool=true) :
  ∃ w',(execOp a.eval o).run P w=.ok .skip w'∧Rep B E p g { s with tmps:=jX s.tmps o.dst (.v (.one .undef)),h:=h',known:=df s.known ns} (a.put o.dst undef) as w'∧qF E p s.h w o false E p h' w':=by
 obtain ⟨w',h1,h2,h3⟩:=Ed R.mem R.frame.tmp hT ho hn
 refine ⟨w',h1,R.step (Pl.Le.refl _) (Gm.Le.refl _) h2 rfl (fS R.known hn),fun e=>(by cases e),fun e=>?_,fun e=>?_,fun _=>h3⟩
 ·exfalso
  obtain ⟨dst,op,type,pos,after,guard⟩:=o
  rcases Dg ho with ⟨t,x,y,e2⟩ | ⟨t,m,x,y,e2⟩
  ·dsimp only at e2
   subst e2
   cases e
  ·dsimp only at e2
   rcases e2 with e2 | e2 <;> subst e2 <;> cases e
 ·obtain ⟨dst,op,type,pos,after,guard⟩:=o
  cases op <;> simp only [ni,Bool.false_eq_true] at e
  intro k i _ hk
  exact CM R.mem ho k i hk
end
end Go.Sy

namespace Go.Sy
open Go.RowKit
structure Told (P : Program) (Z : Cx) (Γ : Gam) : Prop where
 T : TOk P Z.T
 C : ∀ f sg,Z.C.get f=some sg→∃ ct,Γ f=some ct∧ct.sig=sg∧cB P f ct
 F : ∀ f fn,Z.F.get f=some fn→P.funcs[f]?=some fn∧(fn.name == "runtime.NumGoroutine")=false∧∃ c,fn.body=some c
 m : P.follows .mixedOrders=true
section
variable {P : Program} {Z : Cx} {Γ : Gam} {B : cT} {Q : List CD→Prop} {E F : Env} {J : JJ} {p q : Pl} {g g' : Gm} {s : St} {a : Act} {as : List Act} {w w' : World} {K : Act→World→Prop} {Qx : Exit→Act→World→Prop} {o : Oper} {all : List Oper}
theorem rO.two {h' : Hp} {n : Nat} (h : rO E p s.h q h' n) : mU E p s.h E q h' n:=h
def Eo (P : Program) (Γ : Gam) (B : cT) (Q : List CD→Prop) (inl : Func→Nat→List SR→Option Nat→St→(St→Tree)→Tree) : Prop :=
 ∀ (fn : Func) (f : Nat) (args : List SR) (vals : List Value) (dst : Option Nat) (s : St) (next : St→Tree) (E : Env) (J : JJ) (p : Pl) (g : Gm) (a : Act) (as : List Act) (w : World) (K : Act→World→Prop),
  P.funcs[f]?=some fn→(inl fn f args dst s next).den Γ Q E J→Rep B E p g s a as w→aE (SR.is E p g) args vals →
  (∀ s' E' J' q g' v w',JJ.HC s.nx J' J→(next s').den Γ Q E' J'→s.nx≤s'.nx→E.bW s.nx E'→Rep B E' q g' s' (a.put dst v) as w'→K (a.put dst v) w') →
  Calls P f vals.toArray w fun e w''=>∃ v,e=.returned v∧K (a.put dst v) w''
theorem oU (S : Told P Z Γ) {inl : Func→Nat→List SR→Option Nat→St→(St→Tree)→Tree} (hI : Eo P Γ B Q inl) {fp : Bool} {sr sa : Nat} {again next : St→Tree}
  (hd : (pX Z inl fp sr sa s o all again next).den Γ Q E J) (R : Rep B E p g s a as w)
  (hag : ∀ s' q g',s'.nx=s.nx→(again s').den Γ Q E J→Rep B E q g' s' a as w→mU E p s.h E q s'.h w.heap.size→HD P all o K Qx a w)
  (hnx : ∀ s' E' J' q g' a' w',JJ.HC s.nx J' J→(next s').den Γ Q E' J'→s.nx≤s'.nx→E.bW s.nx E'→Rep B E' q g' s' a' as w'→qF E p s.h w o fp E' q s'.h w'→K a' w') : HD P all o K Qx a w:=by
 have two : ∀ {b : X},(nY b s again).den Γ Q E J→HD P all o K Qx a w:=fun {b} h=>by
  obtain ⟨s',e1,e2,h1,h2⟩:=sG R h
  exact hag s' p g e1 h1 h2 (by rw [e2];exact fun _ _ _ h=>h)
 unfold pX at hd
 split at hd
 ·exact hd.elim
 ·rename_i gd want hg
  have hw:=mv R.frame hg
  split at hd
  ·split at hd
   ·exact two hd
   ·exact hd.elim
  ·rename_i hdec
   rw [lz R.known hdec] at hw
   refine xN hw (hnx _ E J p g _ _ (JJ.HC.refl _ _) hd (Nat.le_refl _) (Env.bW.refl _ _) ?_ (qF.refl fp))
   exact R.step (Pl.Le.refl _) (Gm.Le.refl _) R.mem rfl R.known
  ·rename_i hdec
   rw [lz R.known hdec] at hw
   split at hd
   ·rename_i ns r h qu ho
    split at hd
    ·exact hd.elim
    ·rename_i hf
     obtain ⟨hn,hd⟩:=cC R.known hd
     obtain ⟨v,w',q,h1,h2,h3⟩:=wM S.T R ho hn (fp:=fp) (by simpa using hf)
     exact oH hw h1 (hnx _ E J q g _ _ (JJ.HC.refl _ _) hd (Nat.le_refl _) (Env.bW.refl _ _) h2 h3)
   ·rename_i ns h ho
    split at hd
    ·exact hd.elim
    ·rename_i hf
     have hf : fp=false:=by simpa using hf
     subst hf
     obtain ⟨hn,hd⟩:=cC R.known hd
     obtain ⟨w',h1,h2,h3⟩:=uM S.T R ho hn
     exact vc hw h1 (hnx _ E J p g _ _ (JJ.HC.refl _ _) hd (Nat.le_refl _) (Env.bW.refl _ _) h2 h3)
   ·rename_i b ho
    split at hd
    ·rename_i c hc
     exact hag (written b c s) p g rfl hd (lO R (gU R.known hc)) (fun _ _ _ h=>h)
    ·exact two hd
   ·rename_i b ho
    obtain ⟨s',q,g',h1,h2,h3,h4,h5,h6,h7⟩:=ia R hd
    exact hag s' q g' h5 h7 h3 h4
   ·rename_i a1 i1 o1 ho
    obtain ⟨s',q,h1,h2,h3,h4,_,h5⟩:=o6 R hd
    exact hag s' q g h4 h5 h2 h3
   ·rename_i n neg ho
    obtain ⟨b,h1,h2⟩:=yq R.mem R.frame.tmp S.T ho
    obtain ⟨s',e1,e2,h3,h4⟩:=xy R h2 hd
    refine oH hw (h1 w) (hnx s' E J p g _ _ (JJ.HC.refl _ _) h3 (by rw [e1];exact Nat.le_refl _) (Env.bW.refl _ _) h4 (by rw [e2];exact qF.refl fp))
   ·rename_i f args ho
    obtain ⟨x,as',ats,ho'⟩:=xv ho
    have hpu : gi o=false:=by
     obtain ⟨dst,op,type,pos,after,guard⟩:=o
     dsimp only at ho'
     subst ho'
     rfl
    have hst : ni o=false:=by
     obtain ⟨dst,op,type,pos,after,guard⟩:=o
     dsimp only at ho'
     subst ho'
     rfl
    split at hd
    ·rename_i sg hsg
     split at hd
     ·exact hd.elim
     ·rename_i hf
      obtain ⟨ct,k1,k2,k3⟩:=S.C f sg hsg
      obtain ⟨vals,hv,hrun⟩:=yu (w:=w) (o:=o) R.frame.tmp k3.1 ho
      rcases yj S.C hsg R hd hv with ⟨s',q,g',h1,h2,h3,h4,h5,h6,h7⟩ | ⟨_,hc⟩
      ·exact hag s' q g' h5 h7 h3 h4
      ·refine tG hw hrun (hc.mono fun e w' ⟨v,e1,s',E',q,g',h1,h2,h3,h4,h5,h6,h7,h8⟩=>⟨v,e1,hnx s' E' J q g' _ _ (JJ.HC.refl _ _) h5 h2 h1 h6 ⟨fun e=>h8 ?_,fun e=>(by rw [hpu] at e;cases e),fun e=>(by rw [hst] at e;cases e),fun _=>h7⟩⟩)
       subst e
       cases hq : sg.quiet with
       | true=>rfl
       | false=>rw [hq] at hf;exact absurd rfl hf
    ·split at hd
     ·rename_i fn hfn
      split at hd
      ·exact hd.elim
      ·rename_i hf
       have hf : fp=false:=by simpa using hf
       subst hf
       obtain ⟨f1,f2,c,hb⟩:=S.F f fn hfn
       have hK : Bp P f:=⟨fn,c,f1,hb,f2⟩
       obtain ⟨vals,hv,hrun⟩:=yu (w:=w) (o:=o) R.frame.tmp hK ho
       refine tG hw hrun (hI fn f args vals o.dst s next E J p g a as w _ f1 hd R hv fun s' E' J' q g' v w' h1 h2 h3 h4 h5=>hnx s' E' J' q g' _ _ h1 h2 h3 h4 h5 ⟨fun e=>(by cases e),fun e=>(by rw [hpu] at e;cases e),fun e=>(by rw [hst] at e;cases e),fun e=>(by rw [hpu,hst] at e;simp at e)⟩)
     ·exact hd.elim
   ·exact hd.elim
theorem qN (S : Told P Z Γ) {G : Prop} {again next : St→Tree} (hr : reads o=true) (hd : (Au Z s o all again next).den Γ Q E J) (R : Rep B E p g s a as w)
  (hag : ∀ s' q g',s'.nx=s.nx→(again s').den Γ Q E J→Rep B E q g' s' a as w→mU E p s.h E q s'.h w.heap.size→G)
  (hnx : ∀ s' v,s'.nx=s.nx→s'.h=s.h→(next s').den Γ Q E J→jr P all.toArray (fun w'=>bj E p s.h w w') o v a→(gi o=true→jr P all.toArray (fun _=>True) o v a)→Rep B E p g s' (a.put o.dst v) as w→G) : G:=by
 have two : ∀ {b : X},(nY b s again).den Γ Q E J→G:=fun {b} h=>by
  obtain ⟨s',e1,e2,h1,h2⟩:=sG R h
  exact hag s' p g e1 h1 h2 (by rw [e2];exact fun _ _ _ h=>h)
 unfold Au at hd
 split at hd
 ·exact hd.elim
 ·rename_i gd want hg
  have hw:=mv R.frame hg
  split at hd
  ·split at hd
   ·exact two hd
   ·exact hd.elim
  ·rename_i hdec
   rw [lz R.known hdec] at hw
   exact hnx _ Go.undef (by rfl) (by rfl) hd (.inr ⟨hw,rfl⟩) (fun _=>.inr ⟨hw,rfl⟩) (R.step (Pl.Le.refl _) (Gm.Le.refl _) R.mem (by rfl) R.known)
  ·rename_i hdec
   rw [lz R.known hdec] at hw
   split at hd
   ·rename_i ns r h qu ho
    obtain ⟨hn,hd⟩:=cC R.known hd
    have hk:=fS R.known hn
    rcases Bk R.mem R.frame.tmp S.T ho hn with ⟨_,v,h1,h2⟩ | ⟨_,e0,v,h1,h2⟩ | ⟨e0,_⟩
    ·exact hnx _ v (by rfl) (by rfl) hd (.inl ⟨hw,fun w' _=>h1 w'⟩) (fun _=>.inl ⟨hw,fun w' _=>h1 w'⟩) (R.step (Pl.Le.refl _) (Gm.Le.refl _) R.mem h2 hk)
    ·exact hnx _ v (by rfl) (by rfl) hd (.inl ⟨hw,fun w' hw'=>h1 w' hw'⟩) (fun e=>by rw [e0] at e;cases e) (R.step (Pl.Le.refl _) (Gm.Le.refl _) R.mem h2 hk)
    ·rw [hr] at e0;cases e0
   ·rename_i b ho
    split at hd
    ·rename_i c hc
     exact hag (written b c s) p g rfl hd (lO R (gU R.known hc)) (fun _ _ _ h=>h)
    ·exact two hd
   ·rename_i b ho
    obtain ⟨s',q,g',h1,h2,h3,h4,h5,h6,h7⟩:=ia R hd
    exact hag s' q g' h5 h7 h3 h4
   ·rename_i a1 i1 o1 ho
    obtain ⟨s',q,h1,h2,h3,h4,_,h5⟩:=o6 R hd
    exact hag s' q g h4 h5 h2 h3
   ·rename_i n neg ho
    obtain ⟨b,h1,h2⟩:=yq R.mem R.frame.tmp S.T ho
    obtain ⟨s',e1,e2,h3,h4⟩:=xy R h2 hd
    exact hnx s' _ e1 e2 h3 (.inl ⟨hw,fun w' _=>h1 w'⟩) (fun _=>.inl ⟨hw,fun w' _=>h1 w'⟩) h4
   ·exact hd.elim
   ·exact hd.elim
end
end Go.Sy

namespace Go.Sy
open Go.RowKit
theorem Pc.av {α : Type} {f : α→α→Bool} (hf : ∀ a b,f a b=true→a=b) (x y : Pc α) (h : Pc.same f x y=true) : x=y:=by
 cases x <;> cases y <;> first
  | rfl
  | (simp only [Pc.same,Bool.false_eq_true] at h;done)
  | (simp only [Pc.same] at h;rw [hf _ _ h])
theorem Ar.av (x y : Ar) (h : Ar.same x y=true) : x=y:=by
 simp only [Ar.same,Bool.and_eq_true] at h
 cases x;cases y
 simp only [Ar.mk.injEq]
 exact ⟨Nat.eq_of_beq_eq_true h.1,SK.av h.2.1,X.av h.2.2⟩
theorem Mp.av (x y : Mp) (h : Mp.same x y=true) : x=y:=by
 simp only [Mp.same,Bool.and_eq_true] at h
 cases x;cases y
 simp only [Mp.mk.injEq]
 exact ⟨Nat.eq_of_beq_eq_true h.1.1,Nat.eq_of_beq_eq_true h.1.2,Kd.fu _ _ h.2.1.1,iq h.2.1.2,Kd.av _ _ h.2.2.1,X.av h.2.2.2⟩
theorem Hp.av (x y : Hp) (h : Hp.same x y=true) : x=y:=by
 simp only [Hp.same,Bool.and_eq_true] at h
 cases x;cases y
 simp only [Hp.mk.injEq]
 exact ⟨bH (Pc.av fun _ _ h=>bH SC.av h) h.1,bH (Pc.av Ar.av) h.2.1,bH (Pc.av Mp.av) h.2.2⟩
theorem St.av {s t : St} (h : St.same s t=true) : t={ s with known:=t.known}:=by
 simp only [St.same,Bool.and_eq_true] at h
 cases s;cases t
 simp only [St.mk.injEq,and_true]
 exact ⟨(Nat.eq_of_beq_eq_true h.1.1).symm,(bH SR.av h.2.1).symm,(bH (fun _ _ h=>bH SR.av h) h.2.2.1).symm,(Hp.av _ _ h.2.2.2).symm,(Nat.eq_of_beq_eq_true h.1.2).symm⟩
theorem xA {a b : Array Bool} (h : xB a b=true) : a=b:=by
 apply Array.ext'
 exact bH (fun _ _ h=>iq h) h
theorem ue {mask : Array Bool} {md : Nat} {s : St} : ∀ {L L' : Sts},yx mask md s L=some L'→(∀ x∈L,x∈L')∧(∃ t,(mask,md,t)∈L'∧(t=s∨St.same t s=true))∧∀ x∈L',x∈L∨x=(mask,md,s)
 | [],L',h=>by
  simp only [yx,Option.some.injEq] at h
  subst h
  exact ⟨fun x hx=>(by cases hx),⟨s,by simp,.inl rfl⟩,fun x hx=>.inr (List.mem_singleton.1 hx)⟩
 | (m,d,t) :: l,L',h=>by
  simp only [yx] at h
  split at h
  ·rename_i hm
   have hm:=xA hm
   subst hm
   split at h
   ·rename_i hd
    simp only [Bool.and_eq_true] at hd
    have hd1:=Nat.eq_of_beq_eq_true hd.1
    subst hd1
    cases h
    exact ⟨fun x hx=>hx,⟨t,by simp,.inr hd.2⟩,fun x hx=>.inl hx⟩
   ·cases h
  ·split at h
   ·rename_i l' hl
    cases h
    obtain ⟨h1,⟨t',h2,h3⟩,h4⟩:=ue hl
    refine ⟨fun x hx=>?_,⟨t',List.mem_cons_of_mem _ h2,h3⟩,fun x hx=>?_⟩
    ·rcases List.mem_cons.1 hx with e | hx
     ·subst e;simp
     ·exact List.mem_cons_of_mem _ (h1 x hx)
    ·rcases List.mem_cons.1 hx with e | hx
     ·subst e;exact .inl (by simp)
     ·rcases h4 x hx with h | h
      ·exact .inl (List.mem_cons_of_mem _ h)
      ·exact .inr h
   ·cases h
def Good (E : Env) (n : Nat) (L : Sts) : Prop:=∀ x∈L,x.2.2.nx=n∧∀ b∈x.2.2.known,(b.den E).bool=true
def Ac (Z : Cx) (ops : Array Oper) (m rb ab : Nat) (mask : Array Bool) (md : Nat) (s : St) (rs : List Nat) (ns : List X) (L' : Sts) : Prop :=
 ∀ j∈rs,∃ ns' s' t,mY Z ops m rb ab j md s=some (ns',s')∧(∀ b∈ns',b∈ns)∧(mask.setIfInBounds j true,gL ops m md j,t)∈L'∧(t=s'∨St.same t s'=true)
section
variable {P : Program} {Z : Cx} {Γ : Gam} {B : cT} {Q : List CD→Prop} {E F : Env} {J : JJ} {p q : Pl} {g g' : Gm} {s : St} {a : Act} {as : List Act} {w w' : World} {K : Act→World→Prop} {Qx : Exit→Act→World→Prop} {o : Oper} {all : List Oper} {ops : Array Oper} {m rb ab : Nat}
theorem nH {i md : Nat} {ns : List X} {s' : St} (h : mZ Z ops m rb ab i md s=some (ns,s')) : s'.nx=s.nx∧((∀ b∈s.known,(b.den E).bool=true)→(∀ b∈ns,(b.den E).bool=true)→∀ b∈s'.known,(b.den E).bool=true):=by
 unfold mZ at h
 split at h
 ·cases h
 ·split at h
  ·cases h
  ·split at h
   ·cases h
   ·split at h
    ·cases h
    ·cases h;exact ⟨rfl,fun hk _=>hk⟩
    ·split at h
     ·split at h
      ·cases h
      ·cases h;exact ⟨rfl,fun hk hn=>fS hk hn⟩
     ·split at h
      ·cases h
      ·cases h;exact ⟨rfl,fun hk hn=>fS hk hn⟩
     ·cases h
theorem Cr {i : Nat} {b : X} {c : Bool} (h : Ea Z ops rb ab i s=some (b,c)) : X.dec s.known b=some c:=by
 unfold Ea at h
 split at h
 ·cases h
 ·split at h
  ·split at h
   ·rename_i hd;cases h;exact hd
   ·cases h
  ·cases h
theorem nF {i md : Nat} {ns : List X} {s' : St} (h : mY Z ops m rb ab i md s=some (ns,s')) : s'.nx=s.nx∧((∀ b∈s.known,(b.den E).bool=true)→(∀ b∈ns,(b.den E).bool=true)→∀ b∈s'.known,(b.den E).bool=true):=by
 unfold mY at h
 split at h
 ·rename_i h';cases h;exact nH h'
 ·split at h
  ·exact nH (s:=written _ _ s) h
  ·cases h
theorem kE {mask : Array Bool} {md : Nat} : ∀ {l : List Nat} {ns0 ns : List X} {L0 L' : Sts},kF Z ops m rb ab mask md s l (ns0,L0)=some (ns,L') →
  (∀ b∈ns0,b∈ns)∧(∀ x∈L0,x∈L')∧Ac Z ops m rb ab mask md s l ns L'∧∀ (E : Env) (n : Nat),s.nx=n→(∀ b∈s.known,(b.den E).bool=true)→(∀ b∈ns,(b.den E).bool=true)→Good E n L0→Good E n L'
 | [],ns0,ns,L0,L',h=>by
  simp only [kF,Option.some.injEq,Prod.mk.injEq] at h
  obtain ⟨rfl,rfl⟩:=h
  exact ⟨fun _ h=>h,fun _ h=>h,fun j hj=>(by cases hj),fun _ _ _ _ _ h=>h⟩
 | i :: l,ns0,ns,L0,L',h=>by
  simp only [kF] at h
  split at h
  ·cases h
  ·rename_i ns' s' h1
   split at h
   ·cases h
   ·rename_i L1 h2
    obtain ⟨i1,i2,i3,i4⟩:=kE h
    obtain ⟨a1,⟨t,a2,a3⟩,a4⟩:=ue h2
    refine ⟨fun b hb=>i1 b (List.mem_append_left _ hb),fun x hx=>i2 x (a1 x hx),fun j hj=>?_,fun E n e hk hn hg=>i4 E n e hk hn ?_⟩
    ·rcases List.mem_cons.1 hj with e | hj
     ·subst e
      exact ⟨ns',s',t,h1,fun b hb=>i1 b (List.mem_append_right _ hb),i2 _ a2,a3⟩
     ·exact i3 j hj
    ·intro x hx
     rcases a4 x hx with hx | hx
     ·exact hg x hx
     ·subst hx
      obtain ⟨k1,k2⟩:=nF (E:=E) h1
      exact ⟨k1.trans e,k2 hk fun b hb=>hn b (i1 b (List.mem_append_right _ hb))⟩
theorem lU : ∀ {L : Sts} {ns0 ns : List X} {L0 L' : Sts},jS Z ops m rb ab L (ns0,L0)=some (ns,L') →
  (∀ b∈ns0,b∈ns)∧(∀ x∈L0,x∈L')∧(∀ x∈L,Region.ready .any ops x.1≠[]∧Ac Z ops m rb ab x.1 x.2.1 x.2.2 (Region.ready .any ops x.1) ns L')∧∀ (E : Env) (n : Nat),Good E n L→(∀ b∈ns,(b.den E).bool=true)→Good E n L0→Good E n L'
 | [],ns0,ns,L0,L',h=>by
  simp only [jS,Option.some.injEq,Prod.mk.injEq] at h
  obtain ⟨rfl,rfl⟩:=h
  exact ⟨fun _ h=>h,fun _ h=>h,fun x hx=>(by cases hx),fun _ _ _ _ h=>h⟩
 | (mask,md,s) :: l,ns0,ns,L0,L',h=>by
  simp only [jS] at h
  split at h
  ·cases h
  ·rename_i hr
   split at h
   ·cases h
   ·rename_i r1 h1
    obtain ⟨ns1,L1⟩:=r1
    obtain ⟨j1,j2,j3,j4⟩:=kE h1
    obtain ⟨i1,i2,i3,i4⟩:=lU h
    refine ⟨fun b hb=>i1 b (j1 b hb),fun x hx=>i2 x (j2 x hx),fun x hx=>?_,fun E n hg hn hg0=>?_⟩
    ·rcases List.mem_cons.1 hx with e | hx
     ·subst e
      refine ⟨hr,fun j hj=>?_⟩
      obtain ⟨ns',s',t,k1,k2,k3,k4⟩:=j3 j hj
      exact ⟨ns',s',t,k1,fun b hb=>i1 b (k2 b hb),i2 _ k3,k4⟩
     ·exact i3 x hx
    ·have hs:=hg (mask,md,s) (by simp)
     exact i4 E n (fun x hx=>hg x (List.mem_cons_of_mem _ hx)) hn (j4 E n hs.1 hs.2 (fun b hb=>hn b (i1 b hb)) hg0)
theorem nG (S : Told P Z Γ) {i md : Nat} {ns : List X} {s' : St} (h : mZ Z ops m rb ab i md s=some (ns,s')) (hn : ∀ b∈ns,(b.den E).bool=true) (R : Rep B E p g s a as w) :
  ∃ o,ops[i]?=some o∧qU ops m md i=true∧∀ (K : Act→World→Prop),(∀ q a' w',Rep B E q g s' a' as w'→qF E p s.h w o (still ops m md i) E q s'.h w'→K a' w')→HD P ops.toList o K Qx a w:=by
 unfold mZ at h
 split at h
 ·cases h
 ·rename_i o hio
  refine ⟨o,by rw [aW] at hio;simpa using hio,?_⟩
  split at h
  ·cases h
  ·rename_i hmay
   refine ⟨by simpa using hmay,fun K hK=>?_⟩
   split at h
   ·cases h
   ·rename_i gd want hg
    have hw:=mv R.frame hg
    split at h
    ·cases h
    ·rename_i hdec
     rw [lz R.known hdec] at hw
     cases h
     exact xN hw (hK p _ _ (R.step (Pl.Le.refl _) (Gm.Le.refl _) R.mem rfl R.known) (qF.refl _))
    ·rename_i hdec
     rw [lz R.known hdec] at hw
     split at h
     ·rename_i ns1 r h1 qu ho
      split at h
      ·cases h
      ·rename_i hf
       cases h
       obtain ⟨v,w',q,k1,k2,k3⟩:=wM S.T R ho hn (fp:=still ops m md i) (by simpa using hf)
       exact oH hw k1 (hK q _ _ k2 k3)
     ·rename_i ns1 h1 ho
      split at h
      ·cases h
      ·rename_i hf
       cases h
       obtain ⟨w',k1,k2,k3⟩:=uM S.T R ho hn
       have hf : still ops m md i=false:=by simpa using hf
       exact vc hw k1 (hK p _ _ k2 (by rw [hf];exact k3))
     ·cases h
theorem uo (S : Told P Z Γ) {i md : Nat} {ns : List X} {s' : St} (h : mY Z ops m rb ab i md s=some (ns,s')) (hn : ∀ b∈ns,(b.den E).bool=true) (R : Rep B E p g s a as w) :
  ∃ o,ops[i]?=some o∧qU ops m md i=true∧∀ (K : Act→World→Prop),(∀ q a' w',Rep B E q g s' a' as w'→qF E p s.h w o (still ops m md i) E q s'.h w'→K a' w')→HD P ops.toList o K Qx a w:=by
 unfold mY at h
 split at h
 ·rename_i h';cases h;exact nG S h' hn R
 ·split at h
  ·rename_i hk
   exact nG (s:=written _ _ s) S h hn (lO R (gU R.known (Cr hk)))
  ·cases h
def yF (D : Nat→Nat→Prop) (md : Nat) (E : Env) (p : Pl) (h : Hp) (w : World) : Prop:=(md=0→∀ k i,¬ D k i)∧(md≠0→md≠3→∀ k i,D k i→k < w.heap.size∧Kn E p h k i)
theorem yF.two {D : Nat→Nat→Prop} {md : Nat} {h h' : Hp} (H : yF D md E p h w) (hk : mU E p h F q h' w.heap.size) : yF D md F q h' w :=
 ⟨H.1,fun h1 h2 k i hd=>⟨(H.2 h1 h2 k i hd).1,hk k i (H.2 h1 h2 k i hd).1 (H.2 h1 h2 k i hd).2⟩⟩
theorem yF.step {D : Nat→Nat→Prop} {md i : Nat} {h h' : Hp} (H : yF D md E p h w) (hi : ops[i]?=some o) (hm : qU ops m md i=true) (N : qF E p h w o (still ops m md i) F q h' w') :
  (inF ops m i=true→dV D w w')∧yF D (gL ops m md i) F q h' w':=by
 have kn : ∀ {md'},md≠0→md≠3→mU E p h F q h' w.heap.size→w.heap.size≤w'.heap.size→md'≠0→yF D md' F q h' w':=fun h1 h2 hk hz h3 =>
  ⟨fun e=>absurd e h3,fun _ _ k i hd=>⟨Nat.lt_of_lt_of_le (H.2 h1 h2 k i hd).1 hz,hk k i (H.2 h1 h2 k i hd).1 (H.2 h1 h2 k i hd).2⟩⟩
 have b3 : ∀ {x : Nat},Nat.beq x 3=true→x=3:=fun h=>Nat.eq_of_beq_eq_true h
 by_cases h0 : md=0
 ·subst h0
  refine ⟨fun _ k i hd=>absurd hd (H.1 rfl k i),?_⟩
  have : gL ops m 0 i=0:=by simp [gL]
  rw [this]
  exact ⟨fun _=>H.1 rfl,fun h=>absurd rfl h⟩
 ·by_cases h3 : md=3
  ·subst h3
   have hp : inF ops m i=true→gi o=true:=fun hF=>by simpa [qU,hF,hi] using hm
   refine ⟨fun hF=>?_,?_⟩
   ·rw [(N.pu (hp hF)).1];exact dV.refl _ _
   ·have : gL ops m 3 i=3:=by
     simp only [gL,hi]
     repeat (split <;> try rfl)
    rw [this]
    exact ⟨fun h=>(by cases h),fun _ h=>absurd rfl h⟩
  ·by_cases hF : inF ops m i=true
   ·have hst : still ops m md i=true:=by
     have e0 : Nat.beq md 0=false:=by cases h : Nat.beq md 0 with | false=>rfl | true=>exact absurd (Nat.eq_of_beq_eq_true h) h0
     have e3 : Nat.beq md 3=false:=by cases h : Nat.beq md 3 with | false=>rfl | true=>exact absurd (Nat.eq_of_beq_eq_true h) h3
     simp [still,e0,e3,hF]
    obtain ⟨n1,n2⟩:=N.qt hst
    refine ⟨fun _ k j hd=>n1 k j (H.2 h0 h3 k j hd).1 (H.2 h0 h3 k j hd).2,?_⟩
    have : gL ops m md i=md:=by simp [gL,hF]
    rw [this]
    exact kn h0 h3 n2 (N.size (.inl hst)) h0
   ·refine ⟨fun h=>absurd h hF,?_⟩
    have hF : inF ops m i=false:=by simpa using hF
    simp only [gL,hF,hi,Bool.or_false]
    have e0 : Nat.beq md 0=false:=by cases h : Nat.beq md 0 with | false=>rfl | true=>exact absurd (Nat.eq_of_beq_eq_true h) h0
    rw [e0]
    simp only [Bool.false_eq_true,if_false]
    split
    ·rename_i hp
     exact kn h0 h3 (N.pu hp).2 (N.size (.inr (.inl hp))) h0
    ·split
     ·rename_i hs
      split
      ·exact kn h0 h3 (N.st hs) (N.size (.inr (.inr hs))) (by omega)
      ·exact kn h0 h3 (N.st hs) (N.size (.inr (.inr hs))) h0
     ·exact ⟨fun h=>(by cases h),fun _ h=>absurd rfl h⟩
theorem xS {i : Nat} {l : Array Bool} {oi : Oper} (hi : ops[i]?=some oi) (h : zR (dC ops.toList) ops m l i=true) :
  ∀ j oj,ops[j]?=some oj→j≠i→l.getD j true=false→waits (dC ops.toList) j i=false→oi.apart ops oj=true∧inF ops m j=true:=fun j oj hj hne hl hwt=>by
 simp only [zR,hi,List.all_eq_true,List.mem_range] at h
 have:=h j (Array.getElem?_eq_some_iff.1 hj).1
 simp only [hl,hwt,hj,Bool.or_eq_true,Bool.false_or,Bool.and_eq_true] at this
 rcases this with h1 | h1
 ·exact absurd (Nat.eq_of_beq_eq_true h1) hne
 ·simpa using h1
theorem xd {i : Nat} {l : Array Bool} {oi : Oper} (hi : ops[i]?=some oi) (h : yU (dC ops.toList) ops l i=true) :
  gi oi=true∧∀ j oj,ops[j]?=some oj→j≠i→l.getD j true=false→waits (dC ops.toList) j i=false→oi.apart ops oj=true:=by
 simp only [yU,hi,Bool.and_eq_true,List.all_eq_true,List.mem_range] at h
 refine ⟨h.1,fun j oj hj hne hl hwt=>?_⟩
 have:=h.2 j (Array.getElem?_eq_some_iff.1 hj).1
 simp only [hl,hwt,hj,Bool.or_eq_true,Bool.false_or] at this
 rcases this with h1 | h1
 ·exact absurd (Nat.eq_of_beq_eq_true h1) hne
 ·simpa using h1
theorem Tree.av : ∀ {a b : Tree},Tree.same a b=true→a=b:=by
 intro a
 induction a with
 | ret o=>intro b h;cases b <;> simp only [Tree.same,Bool.false_eq_true] at h;rw [bH (fun _ _=>X.av) h]
 | ite x t e i1 i2 =>
  intro b h;cases b <;> simp only [Tree.same,Bool.false_eq_true,Bool.and_eq_true] at h
  rw [X.av h.1,i1 h.2.1,i2 h.2.2]
 | need x t i1 =>
  intro b h;cases b <;> simp only [Tree.same,Bool.false_eq_true,Bool.and_eq_true] at h
  rw [X.av h.1,i1 h.2]
 | call f l lo t i1 =>
  intro b h;cases b <;> simp only [Tree.same,Bool.false_eq_true,Bool.and_eq_true] at h
  rw [Nat.eq_of_beq_eq_true h.1.1,Nat.eq_of_beq_eq_true h.1.2,bH (fun _ _=>X.av) h.2.1,i1 h.2.2]
 | loop i ks l t i1 =>
  intro b h;cases b <;> simp only [Tree.same,Bool.false_eq_true,Bool.and_eq_true] at h
  rw [Nat.eq_of_beq_eq_true h.1.1,Kd.fu _ _ h.1.2,bH (fun _ _=>X.av) h.2.1,i1 h.2.2]
 | back i l =>
  intro b h;cases b <;> simp only [Tree.same,Bool.false_eq_true,Bool.and_eq_true] at h
  rw [Nat.eq_of_beq_eq_true h.1,bH (fun _ _=>X.av) h.2]
 | join i ks t u i1 i2 =>
  intro b h;cases b <;> simp only [Tree.same,Bool.false_eq_true,Bool.and_eq_true] at h
  rw [Nat.eq_of_beq_eq_true h.1.1,Kd.fu _ _ h.1.2,i1 h.2.1,i2 h.2.2]
 | both t u i1 i2 =>
  intro b h;cases b <;> simp only [Tree.same,Bool.false_eq_true,Bool.and_eq_true] at h
  rw [i1 h.1,i2 h.2]
 | bad w n=>intro b h;cases b <;> simp only [Tree.same,Bool.false_eq_true] at h
 | leaf s =>
  intro b h;cases b <;> simp only [Tree.same,Bool.false_eq_true,Bool.and_eq_true] at h
  have e:=St.av h.1
  have k:=bH (fun _ _=>X.av) h.2
  rw [e,← k]
theorem qB {t u : Tree} (h : (Bi t u).den Γ Q E J) : t.den Γ Q E J∧u.den Γ Q E J:=by
 unfold Bi at h
 split at h
 ·rename_i e
  have:=Tree.av e
  exact ⟨h,by rw [← this];exact h⟩
 ·exact h
theorem Co {n0 : Nat} {k : St→Tree} {J0 : JJ} : ∀ {t : Tree} {E : Env} {J : JJ},JJ.HC n0 J J0→(nT n0 k t).den Γ Q E J→t.den Γ Q E (J.ends fun s' E'=>∃ J',JJ.HC n0 J' J0∧(k s').den Γ Q E' J'):=by
 intro t
 induction t with
 | leaf s=>intro E J hS h;exact ⟨J,hS,h⟩
 | ret o=>intro E J _ h;exact h
 | ite b t e i1 i2=>intro E J hS h;exact ⟨fun hb=>i1 hS (h.1 hb),fun hb=>i2 hS (h.2 hb)⟩
 | need b t ih=>intro E J hS h;exact ⟨h.1,ih hS h.2⟩
 | call f a lo t ih =>
  intro E J hS h
  obtain ⟨ct,h1,h2,h3⟩:=h
  exact ⟨ct,h1,h2,fun outs h4 h5=>ih hS (h3 outs h4 h5)⟩
 | loop id ks i t ih =>
  intro E J hS h
  simp only [nT] at h
  split at h
  ·rename_i hid
   obtain ⟨I,m,h1,h2⟩:=h
   exact ⟨I,m,h1,fun ds h3 h4=>ih (J:=J.put id fun ds'=>I ds'∧m ds' < m ds) ((JJ.HC.put (Nat.le_of_ble_eq_true hid)).trans hS (Nat.le_refl _)) (h2 ds h3 h4)⟩
  ·exact h.elim
 | back id c=>intro E J _ h;exact h
 | join _ _ _ _ _ _=>intro E J _ h;exact h.elim
 | both a b i1 i2=>intro E J hS h;exact ⟨i1 hS (qB h).1,i2 hS (qB h).2⟩
 | bad w l=>intro E J _ h;exact h.elim
theorem Ee {l : List Tree} (h : (allT l).den Γ Q E J) : ∀ t∈l,t.den Γ Q E J:=by
 induction l with
 | nil=>intro t ht;cases ht
 | cons x l ih =>
  cases l with
  | nil=>intro t ht;rw [List.mem_singleton.1 ht];exact h
  | cons y l =>
   obtain ⟨h1,h2⟩:=qB h
   intro t ht
   rcases List.mem_cons.1 ht with e | ht
   ·rw [e];exact h1
   ·exact ih h2 t ht
def left (ops : Array Oper) (l : Array Bool) : Nat:=((List.range ops.size).filter fun i=>!l.getD i true).length
theorem gG {l : Array Bool} {i : Nat} (h : i∈Region.ready .any ops l) : left ops (l.setIfInBounds i true) < left ops l:=by
 obtain ⟨h0,o,ho,_⟩:=mem_ready.1 h
 have hlt:=(Array.getElem?_eq_some_iff.1 ho).1
 have hil : i < l.size:=by
  rcases Nat.lt_or_ge i l.size with h' | h'
  ·exact h'
  ·simp [Array.getD,Nat.not_lt.2 h'] at h0
 unfold left
 have hsub : ∀ (r : List Nat),((r.filter fun j=>!(l.setIfInBounds i true).getD j true).length≤(r.filter fun j=>!l.getD j true).length)∧(i∈r→(r.filter fun j=>!(l.setIfInBounds i true).getD j true).length < (r.filter fun j=>!l.getD j true).length):=by
  intro r
  induction r with
  | nil=>exact ⟨Nat.le_refl _,fun h=>by cases h⟩
  | cons j r ih =>
   by_cases hij : i=j
   ·subst hij
    have e1 : (l.setIfInBounds i true).getD i true=true:=by simp [Array.getD,hil]
    simp only [List.filter_cons,e1,h0,Bool.not_true,Bool.false_eq_true,if_false,Bool.not_false,if_true,List.length_cons]
    exact ⟨by have:=ih.1;omega,fun _=>by have:=ih.1;omega⟩
   ·have e1 : (l.setIfInBounds i true).getD j true=l.getD j true:=getD_set_ne true hij
    simp only [List.filter_cons,e1]
    split
    ·simp only [List.length_cons]
     exact ⟨by have:=ih.1;omega,fun hm=>by
      have:=ih.2 ((List.mem_cons.1 hm).resolve_left hij);omega⟩
    ·exact ⟨ih.1,fun hm=>ih.2 ((List.mem_cons.1 hm).resolve_left hij)⟩
 exact (hsub _).2 (List.mem_range.2 hlt)
theorem E5 (ops : Array Oper) (l : Array Bool) : left ops l≤ops.size:=by
 unfold left
 exact Nat.le_trans (List.length_filter_le _ _) (by simp)
end
end Go.Sy
