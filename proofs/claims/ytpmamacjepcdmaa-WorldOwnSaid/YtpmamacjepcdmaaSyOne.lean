import Derived.Test.YtpmamacjepcdmaaSyCall4
namespace Go.Sy
open Go.RowKit
section
variable {P : Program} {Z : Cx} {Γ : Gam} {B : cT} {Q : List CD→Prop} {E : Env} {J : JJ} {p : Pl} {g : Gm} {s : St} {a : Act} {as : List Act} {w : World}
theorem aE.wq {n : Nat} {F : Env} {l : List (List SR)} {m : List Act} (h : aE (cA E p g) l m) (hE : E.bW n F) (hu : dD (dD (SR.under n)) l=true) : aE (cA F p g) l m :=
 h.imp fun t ht _ hb=>hb.jF hE (dZ hu t ht)
theorem yj {C : CT} (hC : ∀ f sg,C.get f=some sg→∃ ct,Γ f=some ct∧ct.sig=sg∧cB P f ct) {f : Nat} {sg : Sig} (hsg : C.get f=some sg) {dst : Option Nat} {args : List SR} {again next : St→Tree} (R : Rep B E p g s a as w)
  (hd : (D6 s dst f sg args again next).den Γ Q E J) {vals : List Value} (hv : aE (SR.is E p g) args vals) :
  (∃ s' q g',p.Le q∧g.Le g'∧Rep B E q g' s' a as w∧rO E p s.h q s'.h w.heap.size∧s'.nx=s.nx∧s'.fn=s.fn∧(again s').den Γ Q E J) ∨
  (Bp P f∧Calls P f vals.toArray w fun e w'=>∃ v,e=.returned v∧∃ s' E' q g',E.bW s.nx E'∧s.nx≤s'.nx∧p.Le q∧g.Le g'∧(next s').den Γ Q E' J∧Rep B E' q g' s' (a.put dst v) as w'∧w.heap.size≤w'.heap.size ∧
   (sg.quiet=true→bj E p s.h w w'∧mU E p s.h E' q s'.h w.heap.size)):=by
 unfold D6 at hd
 split at hd
 ·exact hd.elim
 ·rename_i cs ps hf
  split at hd
  ·rename_i b hb
   exact .inl (ia R hd)
  ·rename_i hb
   split at hd
   ·exact hd.elim
   ·rename_i m hm
    split at hd
    ·rename_i hcond
     simp only [Bool.and_eq_true,Bool.not_eq_true'] at hcond
     obtain ⟨⟨c1,c2⟩,c3,c4⟩:=hcond
     obtain ⟨hn,hd⟩:=cC R.known hd
     obtain ⟨ct,k1,k2,k3⟩:=hd
     obtain ⟨ct',k4,k5,k6⟩:=hC f sg hsg
     rw [k1] at k4
     cases k4
     subst k5
     have hl : ∀ a∈m.G4,a ∉ di m.own:=fun a ha=>by
      obtain ⟨i,hi⟩:=List.getElem?_of_mem ha
      exact tf.1 (tZ (f:=fun a=>rI a (di m.own)) c2 ((aW _ _).trans hi))
     obtain ⟨Ec,pc,gc,S⟩:=FP R.mem hf hv hm hn c1 hl c3
     simp only [St.fine,Bool.and_eq_true] at c4
     obtain ⟨u1,u2,u3,u4⟩:=c4
     have hfz : ct.sig.nM=true→m.G4=[]:=fun hz=>by
      rw [if_pos hz] at hb
      exact qh hm hb
     right
     refine ⟨k6.1,Calls.mono (k6.2 w gc pc Ec vals S.mem S.args (by rw [S.ec];exact S.oks) (by rw [S.ec];exact k2)) fun e w' he=>?_⟩
     obtain ⟨outs,p1,g1,v,rfl,o1,o2,o3,o4,o5⟩:=he
     rw [S.ec] at o2
     obtain ⟨q,g',e1,e2,e3,e4,e5⟩:=D5 R.mem S c3 hfz u3 o1 o3 o4
     have hag : E.bW s.nx (E.put s.nx outs):=Env.m7 _ _ _
     refine ⟨v,rfl,_,E.put s.nx outs,q,g',hag,Nat.le_add_right s.nx ct.sig.outs.length,e1,e2,k3 outs o1 o2,⟨e3,?_,?_,fun b hb=>?_,fun i x h=>e1.reg i x (R.fa i x h)⟩,?_,e5⟩
     ·exact ((R.frame.le e1 e2).jF hag u1).put (e4 v o5)
     ·exact (R.stk.mono fun _ _ h=>h.le e1 e2).wq hag u2
     ·rw [← X.dM hag (dZ u4 b hb)];exact R.known b hb
     ·exact o4.fr.size
    ·exact hd.elim
end
end Go.Sy

namespace Go.Sy
open Go.RowKit
def HD (P : Program) (all : List Oper) (o : Oper) (K : Act→World→Prop) (Q : Exit→Act→World→Prop) (a : Act) (w : World) : Prop :=
 if Region.wanted o (yielded all.toArray a.tmps) then o.wp P a w K Q∨(o.asks P a w∧LetsOut Q) else K (a.put o.dst undef) w
def DN (E : Env) : Option X→Bool→Bool
 | none,_=>true
 | some b,want=>(b.den E).bool ==want
section
variable {P : Program} {Z : Cx} {Γ : Gam} {B : cT} {Q : List CD→Prop} {E F : Env} {J : JJ} {p q : Pl} {g g' : Gm} {s : St} {a : Act} {as : List Act} {w w' : World} {K : Act→World→Prop} {Qx : Exit→Act→World→Prop} {o : Oper} {all : List Oper}
theorem mv {gd : Option X} {want : Bool} (R : cA E p g s.tmps a) (h : guardOf all s.tmps o=some (gd,want)) :
  Region.wanted o (yielded all.toArray a.tmps)=DN E gd want:=by
 unfold guardOf at h
 unfold Region.wanted
 split at h
 ·rename_i hg
  cases h
  rw [hg]
  rfl
 ·rename_i j wt hg
  rw [hg]
  split at h
  ·rename_i oj hj
   split at h
   ·rename_i d hd
    have hget : ((all.toArray[j]?).bind (·.dst))=some d:=by
     rw [aW] at hj
     simp [hj,hd]
    split at h
    ·rename_i b hb
     cases h
     obtain ⟨c,hc,hv⟩:=(R.tmp d _ hb : ∃ c,b.den E=.b c∧a.tmps.getD d Go.undef=.bool c)
     have hs : a.tmps[d]?=some (.bool c):=by
      rw [Array.getD_eq_getD_getElem?] at hv
      cases hx : a.tmps[d]? with
      | none=>rw [hx] at hv;cases hv
      | some x=>rw [hx] at hv;exact congrArg some hv
     have : yielded all.toArray a.tmps j=some c:=by
      unfold yielded
      rw [hget,Option.bind_some,hs]
     simp only [this,DN,hc,CD.bool]
     cases c <;> cases want <;> rfl
    ·rename_i hb
     cases h
     have hv : a.tmps.getD d Go.undef=Go.undef:=R.tmp d _ hb
     have hs : yielded all.toArray a.tmps j=none:=by
      rw [Array.getD_eq_getD_getElem?] at hv
      cases hx : a.tmps[d]? with
      | none =>
       unfold yielded
       rw [hget,Option.bind_some,hx]
      | some x =>
       rw [hx] at hv
       have : x=Go.undef:=hv
       subst this
       unfold yielded
       rw [hget,Option.bind_some,hx]
       rfl
     simp only [hs,DN,X.den,CD.bool]
     cases want <;> rfl
    ·cases h
   ·cases h
  ·cases h
theorem lz {gd : Option X} {want x : Bool} {known : List X} (hk : ∀ b∈known,(b.den E).bool=true)
  (h : (match gd with | none=>some true | some b=>(match X.dec known b with | some x=>some (if want then x else x.not) | none=>none))=some x) : DN E gd want=x:=by
 cases gd with
 | none=>exact Option.some.inj h
 | some b =>
  dsimp only [DN] at h ⊢
  split at h
  ·rename_i y hy
   rw [gU hk hy]
   cases want <;> cases y <;> simp_all
  ·cases h
theorem oH {v : Value} (hw : Region.wanted o (yielded all.toArray a.tmps)=true) (h : (execOp a.eval o).run P w=.ok (.value v) w') (hk : K (a.put o.dst v) w') : HD P all o K Qx a w:=by
 unfold HD
 rw [if_pos hw]
 left
 unfold Oper.wp
 rw [h]
 exact hk
theorem vc (hw : Region.wanted o (yielded all.toArray a.tmps)=true) (h : (execOp a.eval o).run P w=.ok .skip w') (hk : K (a.put o.dst undef) w') : HD P all o K Qx a w:=by
 unfold HD
 rw [if_pos hw]
 left
 unfold Oper.wp
 rw [h]
 exact hk
theorem tG {f : FuncId} {args : Array Value} (hw : Region.wanted o (yielded all.toArray a.tmps)=true) (h : (execOp a.eval o).run P w=.ok (.enter f args) w)
  (hk : Calls P f args w fun e w''=>∃ v,e=.returned v∧K (a.put o.dst v) w'') : HD P all o K Qx a w:=by
 unfold HD
 rw [if_pos hw]
 left
 unfold Oper.wp
 rw [h]
 exact hk.mono fun e w'' ⟨v,e1,e2⟩=>by subst e1;exact e2
theorem xN (hw : Region.wanted o (yielded all.toArray a.tmps)=false) (hk : K (a.put o.dst undef) w) : HD P all o K Qx a w:=by
 unfold HD
 rw [if_neg (by rw [hw];exact Bool.false_ne_true)]
 exact hk
theorem xv {T : TT} {tm : List SR} {h : Hp} {sr sa : Nat} {op : Op} {f : Nat} {args : List SR} (ho : aop T tm h sr sa op=.call f args) : ∃ x as ats,op=.call ⟨.value x,as,ats⟩:=by
 cases op with
 | call c =>
  obtain ⟨callee,as,ats⟩:=c
  cases callee with
  | value x=>exact ⟨x,as,ats,rfl⟩
  | builtin b =>
   simp only [aop] at ho
   split at ho
   ·rename_i h1 _;cases h1
   ·unfold fN at ho
    repeat (first | (split at ho <;> try (cases ho;done)) | dsimp only at ho)
   ·cases ho
  | invoke r m=>simp only [aop] at ho;cases ho
 | load t x =>
  simp only [aop] at ho
  split at ho
  ·unfold loadAt at ho
   repeat (split at ho <;> try (cases ho;done))
  ·cases ho
 | store t a x =>
  simp only [aop] at ho
  split at ho
  ·unfold storeAt at ho
   repeat (split at ho <;> try (cases ho;done))
  ·cases ho
 | binOp op t x y yt =>
  simp only [aop] at ho
  split at ho
  ·unfold IL at ho
   repeat (split at ho <;> try (cases ho;done))
  ·cases ho
 | unOp op t x =>
  cases op <;> simp only [aop] at ho <;> repeat (split at ho <;> try (cases ho;done))
  all_goals cases ho
 | makeMap t r =>
  cases r <;> simp only [aop] at ho <;> repeat (split at ho <;> try (cases ho;done))
  all_goals cases ho
 | lookup t m x c =>
  cases c <;> simp only [aop] at ho <;> repeat (split at ho <;> try (cases ho;done))
  all_goals cases ho
 | makeFunc f first caps =>
  cases f <;> simp only [aop] at ho <;> repeat (split at ho <;> try (cases ho;done))
  all_goals cases ho
 | _ =>
  simp only [aop] at ho
  first
   | (cases ho;done)
   | (repeat (split at ho <;> try (cases ho;done)))
theorem Dg {T : TT} {tm : List SR} {h : Hp} {sr sa : Nat} {op : Op} {ns : List X} {h' : Hp} (ho : aop T tm h sr sa op=.skip ns h') : (∃ t a x,op=.store t a x)∨∃ t m k x,op=.mapUpdate t m k x∨op=.insert t m k x:=by
 cases op with
 | call c =>
  obtain ⟨callee,as,ats⟩:=c
  cases callee with
  | value x =>
   simp only [aop] at ho
   split at ho
   ·split at ho <;> cases ho
   ·rename_i h1 _;cases h1
   ·cases ho
  | builtin b =>
   simp only [aop] at ho
   split at ho
   ·rename_i h1 _;cases h1
   ·unfold fN at ho
    repeat (first | (split at ho <;> try (cases ho;done)) | dsimp only at ho)
   ·cases ho
  | invoke r m=>simp only [aop] at ho;cases ho
 | load t x =>
  simp only [aop] at ho
  split at ho
  ·unfold loadAt at ho
   repeat (split at ho <;> try (cases ho;done))
  ·cases ho
 | store t a x=>exact .inl ⟨t,a,x,rfl⟩
 | mapUpdate t m k x=>exact .inr ⟨t,m,k,x,.inl rfl⟩
 | insert t m k x=>exact .inr ⟨t,m,k,x,.inr rfl⟩
 | binOp op t x y yt =>
  simp only [aop] at ho
  split at ho
  ·unfold IL at ho
   repeat (split at ho <;> try (cases ho;done))
  ·cases ho
 | unOp op t x =>
  cases op <;> simp only [aop] at ho <;> repeat (split at ho <;> try (cases ho;done))
  all_goals cases ho
 | makeMap t r =>
  cases r <;> simp only [aop] at ho <;> repeat (split at ho <;> try (cases ho;done))
  all_goals cases ho
 | lookup t m x c =>
  cases c <;> simp only [aop] at ho <;> repeat (split at ho <;> try (cases ho;done))
  all_goals cases ho
 | makeFunc f first caps =>
  cases f <;> simp only [aop] at ho <;> repeat (split at ho <;> try (cases ho;done))
  all_goals cases ho
 | _ =>
  simp only [aop] at ho
  first
   | (cases ho;done)
   | (repeat (split at ho <;> try (cases ho;done)))
theorem Dh {T : TT} {tm : List SR} {h : Hp} {sr sa : Nat} {op : Op} {n : X} {neg : Bool} (ho : aop T tm h sr sa op=.nilq n neg) : ∃ p t x y yt rx ry,op=.binOp p t x y yt∧ev tm x=some rx∧ev tm y=some ry∧IL T h p t rx ry=.nilq n neg:=by
 cases op with
 | call c =>
  obtain ⟨callee,as,ats⟩:=c
  cases callee with
  | value x =>
   simp only [aop] at ho
   split at ho
   ·split at ho <;> cases ho
   ·rename_i h1 _;cases h1
   ·cases ho
  | builtin b =>
   simp only [aop] at ho
   split at ho
   ·rename_i h1 _;cases h1
   ·unfold fN at ho
    repeat (first | (split at ho <;> try (cases ho;done)) | dsimp only at ho)
   ·cases ho
  | invoke r m=>simp only [aop] at ho;cases ho
 | load t x =>
  simp only [aop] at ho
  split at ho
  ·unfold loadAt at ho
   repeat (split at ho <;> try (cases ho;done))
  ·cases ho
 | store t a x =>
  simp only [aop] at ho
  split at ho
  ·unfold storeAt at ho
   repeat (split at ho <;> try (cases ho;done))
  ·cases ho
 | binOp p t x y yt =>
  simp only [aop] at ho
  split at ho
  ·rename_i rx ry h1 h2
   exact ⟨p,t,x,y,yt,_,_,rfl,h1,h2,ho⟩
  ·cases ho
 | unOp op t x =>
  cases op <;> simp only [aop] at ho <;> repeat (split at ho <;> try (cases ho;done))
  all_goals cases ho
 | makeMap t r =>
  cases r <;> simp only [aop] at ho <;> repeat (split at ho <;> try (cases ho;done))
  all_goals cases ho
 | lookup t m x c =>
  cases c <;> simp only [aop] at ho <;> repeat (split at ho <;> try (cases ho;done))
  all_goals cases ho
 | makeFunc f first caps =>
  cases f <;> simp only [aop] at ho <;> repeat (split at ho <;> try (cases ho;done))
  all_goals cases ho
 | _ =>
  simp only [aop] at ho
  first
   | (cases ho;done)
   | (repeat (split at ho <;> try (cases ho;done)))
theorem yq {T : TT} {tm : List SR} {h : Hp} {sr sa : Nat} (H : bq B E p g h w) (ht : ∀ i c,nth tm i=some c→c.is E p g (a.tmps.getD i Go.undef)) (hT : TOk P T) {n : X} {neg : Bool} (ho : aop T tm h sr sa o.op=.nilq n neg) :
  ∃ b : Bool,(∀ w',(execOp a.eval o).run P w'=.ok (.value (.bool (if neg then !b else b))) w')∧(b=true→(n.den E).int=0):=by
 obtain ⟨dst,op,type,pos,after,guard⟩:=o
 obtain ⟨p',t,x,y,yt,rx,ry,e,h1,h2,h3⟩:=Dh ho
 dsimp only at e
 subst e
 exact y_nilq ht dst type pos after guard hT H p' t x y yt h1 h2 h3
theorem AV : ∀ {caps : List (Nat × Nat)} {vs : List Value},aE (fun (x : Nat × Nat) u=>∃ b q,p.reg x.1=some (b,q)∧u=Value.pointer (some ⟨b,q + x.2,none⟩)) caps vs→aE (SR.is E p g) (caps.map fun x=>SR.v (.one (.loc x.1 x.2))) vs
 | [],[],_=>trivial
 | _ :: _,_ :: _,h=>⟨h.1,AV h.2⟩
 | [],_ :: _,h=>h.elim
 | _ :: _,[],h=>h.elim
theorem yu {T : TT} {tm : List SR} {h : Hp} {sr sa : Nat} (ht : ∀ i c,nth tm i=some c→c.is E p g (a.tmps.getD i Go.undef)) {f : Nat} {args : List SR} (hK : Bp P f) (ho : aop T tm h sr sa o.op=.call f args) :
  ∃ vals,aE (SR.is E p g) args vals∧(execOp a.eval o).run P w=.ok (.enter f vals.toArray) w:=by
 obtain ⟨dst,op,type,pos,after,guard⟩:=o
 obtain ⟨x,as,ats,e⟩:=xv ho
 dsimp only at e
 subst e
 simp only [aop] at ho
 split at ho
 ·rename_i f' args' h1 h2
  cases h1
  split at ho
  ·rename_i g' caps h3
   cases ho
   obtain ⟨vs,hf,hvs⟩:=(bw ht h3 : ∃ vs : List Value,a.eval x=.func (.func f) #[] vs.toArray∧aE _ caps vs)
   have ha:=DW ht h2
   obtain ⟨fn,c,k1,k2,k3⟩:=hK
   refine ⟨as.toList.map a.eval ++ vs,ha.append (AV hvs),?_⟩
   have k5 : ¬ fn.name= "runtime.NumGoroutine":=by simpa using k3
   have e2 : as.map a.eval ++ vs.toArray=(as.toList.map a.eval ++ vs).toArray:=by apply Array.ext';simp
   simp [execOp,resolve,hf,Deferred.ofValue,invoke,callFunc,k1,k5,k2,e2]
  ·cases ho
 ·rename_i h1 _;cases h1
 ·cases ho
theorem BD {T : TT} {tm : List SR} {h : Hp} {sr sa : Nat} {t : TypeId} {x y : Operand} {ns : List X} {r : SR} {h' : Hp} {qu : Bool} (ho : aop T tm h sr sa (.store t x y)=.val ns r h' qu) : False:=by
 simp only [aop] at ho
 split at ho
 ·unfold storeAt at ho
  repeat (split at ho <;> try (cases ho;done))
 ·cases ho
theorem CM {T : TT} {tm : List SR} {h : Hp} {sr sa : Nat} {t : TypeId} {x y : Operand} {ns : List X} {h' : Hp} (H : bq B E p g h w) (ho : aop T tm h sr sa (.store t x y)=.skip ns h') : ∀ k i,Kn E p h k i→Kn E p h' k i:=by
 simp only [aop] at ho
 split at ho
 ·unfold storeAt at ho
  split at ho
  ·cases ho
  ·split at ho
   ·cases ho
   ·split at ho
    ·split at ho
     ·split at ho
      ·rename_i r o' _ _ cs hcs
       split at ho
       ·cases ho
        intro k i hk
        rcases hk with hk | ⟨r',cs',b,q,h1,h2,h3⟩ | hk
        ·exact .inl hk
        ·refine .inr (.inl ?_)
         by_cases e : r=r'
         ·subst e
          rw [hcs] at h1;cases h1
          exact ⟨r,_,b,q,by rw [aS,if_pos rfl,if_pos (cn hcs)],h2,by rw [gq];exact h3⟩
         ·exact ⟨r',cs',b,q,by rw [aS,if_neg e];exact h1,h2,h3⟩
        ·exact .inr (.inr hk)
       ·cases ho
      ·cases ho
     ·split at ho
      ·rename_i b z i o' _ _ A hA
       split at ho
       ·split at ho
        ·cases ho
        ·split at ho
         ·rename_i ds _
          cases ho
          intro k j hk
          rcases hk with hk | hk | ⟨a',A',b',c',h1,h2,h3,h4⟩
          ·exact .inl hk
          ·exact .inr (.inl hk)
          ·refine .inr (.inr ?_)
           by_cases e : b=a'
           ·subst e
            rw [hA] at h1;cases h1
            refine ⟨b,_,b',c',by rw [aS,if_pos rfl,if_pos (cn hA)],h2,h3,?_⟩
            obtain ⟨_,_,rows,_,e2,_⟩:=(H.arr b A hA).ex
            rw [e2] at h4
            have h5:=kG (E:=E) (i:=i) ds A.x o' e2
            dsimp only
            split
            ·rw [qi]
             simp only [X.den,e2]
             simpa using h4
            ·rw [h5]
             simpa using h4
           ·exact ⟨a',A',b',c',by rw [aS,if_neg e];exact h1,h2,h3,h4⟩
         ·cases ho
       ·cases ho
      ·cases ho
     ·cases ho
    ·cases ho
 ·cases ho
structure qF (E : Env) (p : Pl) (h : Hp) (w : World) (o : Oper) (fp : Bool) (E' : Env) (q : Pl) (h' : Hp) (w' : World) : Prop where
 qt : fp=true→bj E p h w w'∧mU E p h E' q h' w.heap.size
 pu : gi o=true→w'=w∧mU E p h E' q h' w.heap.size
 st : ni o=true→mU E p h E' q h' w.heap.size
 size : fp=true∨gi o=true∨ni o=true→w.heap.size≤w'.heap.size
theorem qF.refl (fp : Bool) : qF E p s.h w o fp E p s.h w:=⟨fun _=>⟨bj.refl _ _ _ _,fun _ _ _ h=>h⟩,fun _=>⟨rfl,fun _ _ _ h=>h⟩,fun _ _ _ _ h=>h,fun _=>Nat.le_refl _⟩
theorem yT (h : reads o=false) : gi o=false:=by simp [gi,h]
theorem wM (hT : TOk P Z.T) (R : Rep B E p g s a as w) {sr sa : Nat} {ns : List X} {r : SR} {h' : Hp} {qu fp : Bool} (ho : aop Z.T s.tmps s.h sr sa o.op=.val ns r h' qu) (hn : ∀ b∈ns,(b.den E).bool=true) (hfp : (fp.and qu.not)=false) :
  ∃ v w' q,(execOp a.eval o).run P w=.ok (.value v) w'∧Rep B E q g { s with tmps:=jX s.tmps o.dst r,h:=h',known:=df s.known ns} (a.put o.dst v) as w'∧qF E p s.h w o fp E q h' w':=by
 have hk:=fS R.known hn
 rcases Bk R.mem R.frame.tmp hT ho hn with ⟨e,v,h1,h2⟩ | ⟨e,e0,v,h1,h2⟩ | ⟨e0,v,w',q,h1,h2,h3,h4,h5,h6⟩
 ·subst e
  exact ⟨v,w,p,h1 w,R.step (Pl.Le.refl _) (Gm.Le.refl _) R.mem h2 hk,qF.refl fp⟩
 ·subst e
  exact ⟨v,w,p,h1 w (bj.refl _ _ _ _),R.step (Pl.Le.refl _) (Gm.Le.refl _) R.mem h2 hk,qF.refl fp⟩
 ·refine ⟨v,w',q,h1,R.step h4 (Gm.Le.refl _) h2 h3 hk,fun e=>?_,fun e=>?_,fun e=>?_,fun _=>h5⟩
  ·subst e
   have : qu=true:=by cases qu <;> first | rfl | cases hfp
   exact h6 this
  ·rw [yT e0] at e;cases e
  ·exfalso
   obtain ⟨dst,op,type,pos,after,guard⟩:=o
   cases op <;> simp only [ni,Bool.false_eq_true] at e
   exact BD ho
theorem uM (hT : TOk P Z.T) (R : Rep B E p g s a as w) {sr sa : Nat} {ns : List X} {h' : Hp} (ho : aop Z.T s.tmps s.h sr sa o.op=.skip ns h') (hn : ∀ b∈ns,(b.den E).bool=true) :
  ∃ w',(execOp a.eval o).run P w=.ok .skip w'∧Rep B E p g { s with tmps:=jX s.tmps o.dst (.v (.one .undef)),h:=h',known:=df s.known ns} (a.put o.dst undef) as w'∧qF E p s.h w o false E p h' w':=by
 obtain ⟨w',h1,h2,h3⟩:=Ed R.mem R.frame.tmp hT ho hn
 refine ⟨w',h1,R.step (Pl.Le.refl _) (Gm.Le.refl _) h2 rfl (fS R.known hn),fun e=>(by cases e),fun e=>?_,fun e=>?_,fun _=>h3⟩
 ·exfalso
  obtain ⟨dst,op,type,pos,after,guard⟩:=o
  rcases Dg ho with ⟨t,x,y,e2⟩ | ⟨t,m,x,y,e2⟩
  ·dsimp only at e2
   subst e2
   cases e
  ·dsimp only at e2
   rcases e2 with e2 | e2 <;> subst e2 <;> cases e
 ·obtain ⟨dst,op,type,pos,after,guard⟩:=o
  cases op <;> simp only [ni,Bool.false_eq_true] at e
  intro k i _ hk
  exact CM R.mem ho k i hk
end
end Go.Sy
