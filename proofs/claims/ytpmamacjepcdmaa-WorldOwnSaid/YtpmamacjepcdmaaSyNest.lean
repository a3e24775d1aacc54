import Derived.Test.YtpmamacjepcdmaaSyStep
namespace Go.Sy
open Go.RowKit
mutual
def CD.ok0 : Kd→CD→Prop
 | .int _,d=>∃ n,d=.i n
 | .bool,d=>∃ b,d=.b b
 | .str,d=>∃ s,d=.s s
 | .sl by_ kd,d=>∃ rows,d=.l rows∧rows.length * by_≤B47∧∀ row,row∈rows→CD.ny kd row
 | .os _,d=>(∃ rows,(d=.l rows∨d=.o rows)∧wI rows)∨d.isH=true
def CD.ny : List Kd→List CD→Prop
 | [],[]=>True
 | k :: ks,d :: ds=>CD.ok0 k d∧CD.ny ks ds
 | _,_=>False
end
mutual
theorem Rd.ok0 {g : Gm} : ∀ (k : Kd) (v : Value) (d : CD),Rd g k v d→CD.ok0 k d
 | .int _,_,_,h=>by simp only [Rd] at h;obtain ⟨n,_,e⟩:=h;exact ⟨n,e⟩
 | .bool,_,_,h=>by simp only [Rd] at h;obtain ⟨n,_,e⟩:=h;exact ⟨n,e⟩
 | .str,_,_,h=>by simp only [Rd] at h;obtain ⟨n,_,e⟩:=h;exact ⟨_,e⟩
 | .os _,_,d,h=>by
  simp only [Rd] at h
  simp only [CD.ok0]
  cases d with
  | l r =>
   obtain ⟨A,c,_,_,_,h1,h2⟩:=h
   refine .inl ⟨r,.inl rfl,h1,fun row hr=>?_⟩
   obtain ⟨i,hi⟩:=List.getElem?_of_mem hr
   obtain ⟨b,q,_,h3⟩:=h2 (by have:=(List.getElem?_eq_some_iff.1 hi).1;omega)
   obtain ⟨k,h4,_⟩:=h3 i row hi
   exact ⟨k,h4⟩
  | o r=>exact .inl ⟨r,.inr rfl,h.2⟩
  | h s n=>exact .inr rfl
  | _=>exact h.elim
 | .sl by_ kd,v,d,h=>by
  simp only [Rd] at h
  obtain ⟨A,n,c,rows,_,e1,e2,_,_,e5,e6⟩:=h
  simp only [CD.ok0]
  refine ⟨rows,e1,by rw [e2];exact e5,fun row hr=>?_⟩
  obtain ⟨i,hi⟩:=List.getElem?_of_mem hr
  obtain ⟨b,q,_,e8⟩:=e6 (by have:=(List.getElem?_eq_some_iff.1 hi).1;omega)
  exact aJ.ny kd _ row (e8 i row hi)
theorem aJ.ny {g : Gm} : ∀ (kd : List Kd) (f : Nat→Option Value) (row : List CD),aJ g kd f row→CD.ny kd row
 | [],_,[],_=>trivial
 | k :: ks,_,d :: ds,⟨⟨v,_,hr⟩,hrest⟩=>⟨Rd.ok0 k v d hr,aJ.ny ks _ ds hrest⟩
 | [],_,_ :: _,hr=>hr.elim
 | _ :: _,_,[],hr=>hr.elim
end
def CD.cl (kd : List Kd) (d : CD) : Prop:=∀ rows,d=.l rows→∀ (j e : Nat),kd[j]?=some (.os e)→∀ row∈rows,(row.getD j .u).isH=false
def CD.ok (k : Kd) (d : CD) : Prop:=match k with
 | .sl by_ kd=>CD.ok0 (.sl by_ kd) d∧CD.cl kd d
 | k=>CD.ok0 k d
def CD.oks : List Kd→List CD→Prop
 | [],[]=>True
 | k :: ks,d :: ds=>CD.ok k d∧CD.oks ks ds
 | _,_=>False
theorem CD.zZ {kd : List Kd} : CD.cl kd (.l []):=fun _ h _ _ _ row hr=>by cases h;cases hr
theorem CD.yi {kd : List Kd} {d : CD} (h : iM kd=true) : CD.cl kd d:=fun _ _ j e hk=>by
 have h0 : jY 0 kd=[]:=by
  unfold iM at h
  split at h
  ·rename_i h0;exact h0
  ·cases h
 exact absurd hk (iZ h0 j e)
structure Ct where
 sig : Sig
 pre : List CD→Prop
 post : List CD→List CD→Prop
abbrev Gam:=Nat→Option Ct
def Bp (P : Program) (f : FuncId) : Prop:=∃ fn c,P.funcs[f]?=some fn∧fn.body=some c∧(fn.name == "runtime.NumGoroutine")=false
def Mof (h : Hp) (p : Pl) (k i : Nat) : Prop :=
 (∃ r cs b q,nth h.regs r=some (.here cs)∧p.reg r=some (b,q)∧k=b∧q≤i∧i < q + cs.length)∨(∃ a A b c,nth h.arrs a=some (.here A)∧p.arr a=some (some ⟨b,0,none⟩,c)∧0 < c∧k=b) ∨
  ∃ a A i' j,nth h.arrs a=some (.here A)∧p.ow k=.nst a i' j
def aH (E : Env) (n : Nat) : List CD:=(List.range n).map E
def cB (P : Program) (f : FuncId) (ct : Ct) : Prop:=Bp P f∧∀ (w : World) (g : Gm) (p : Pl) (E : Env) (vals : List Value),bq ⟨w,Mof ct.sig.h0 p,g,p.reg⟩ E p g ct.sig.h0 w→aE (SR.is E p g) ct.sig.aM vals→CD.oks ct.sig.Jv (aH E ct.sig.ins.length) →
  ct.pre (aH E ct.sig.ins.length)→Calls P f vals.toArray w fun e w'=>∃ (outs : List CD) (p1 : Pl) (g1 : Gm) (v : Value),e=.returned v∧CD.oks ct.sig.o0 outs∧ct.post (aH E ct.sig.ins.length) outs∧(∀ i x,p.reg i=some x→p1.reg i=some x) ∧
   bq ⟨w,Mof ct.sig.h0 p,g,p.reg⟩ (E.put ct.sig.ins.length outs) p1 g1 ct.sig.h1 w'∧ct.sig.C2.is (E.put ct.sig.ins.length outs) p1 g1 v
structure JJ where
 b : Nat→List CD→Prop
 k : St→Env→Prop
def JJ.put (J : JJ) (id : Nat) (X : List CD→Prop) : JJ:={ J with b:=fun k=>if k=id then X else J.b k}
def JJ.none : JJ:=⟨fun _ _=>False,fun _ _=>False⟩
def JJ.ends (J : JJ) (K : St→Env→Prop) : JJ:={ J with k:=K}
def JJ.HC (n : Nat) (J' J : JJ) : Prop:=(∀ i,i < n→J'.b i=J.b i)∧J'.k=J.k
theorem JJ.HC.refl (n : Nat) (J : JJ) : JJ.HC n J J:=⟨fun _ _=>rfl,rfl⟩
theorem JJ.HC.trans {n n' : Nat} {A B C : JJ} (h : JJ.HC n' A B) (k : JJ.HC n B C) (hn : n≤n') : JJ.HC n A C:=⟨fun i hi=>(h.1 i (by omega)).trans (k.1 i hi),h.2.trans k.2⟩
theorem JJ.HC.mono {n n' : Nat} {A B : JJ} (h : JJ.HC n' A B) (hn : n≤n') : JJ.HC n A B:=h.trans (JJ.HC.refl n B) hn
theorem JJ.HC.put {n id : Nat} {J : JJ} {X : List CD→Prop} (h : n≤id) : JJ.HC n (J.put id X) J:=⟨fun i hi=>if_neg (by omega),rfl⟩
def Tree.den (Γ : Gam) (R : List CD→Prop) : Tree→Env→JJ→Prop
 | .ret outs,E,_=>R (outs.map (X.den E))
 | .ite b t e,E,J=>((b.den E).bool=true→t.den Γ R E J)∧((b.den E).bool=false→e.den Γ R E J)
 | .need b t,E,J=>(b.den E).bool=true∧t.den Γ R E J
 | .call f args lo t,E,J=>∃ ct,Γ f=some ct∧ct.pre (args.map (X.den E))∧∀ outs,CD.oks ct.sig.o0 outs→ct.post (args.map (X.den E)) outs→t.den Γ R (E.put lo outs) J
 | .loop id ks init body,E,J=>∃ (I : List CD→Prop) (m : List CD→Nat),I (init.map (X.den E))∧∀ ds,CD.oks ks ds→I ds→body.den Γ R (E.put (id + 1) ds) (J.put id fun ds'=>I ds'∧m ds' < m ds)
 | .back id cur,E,J=>J.b id (cur.map (X.den E))
 | .join id ks a b,E,J=>∃ I : List CD→Prop,a.den Γ R E (J.put id I)∧∀ ds,CD.oks ks ds→I ds→b.den Γ R (E.put (id + 1) ds) J
 | .leaf s,E,J=>J.k s E
 | .both x y,E,J=>x.den Γ R E J∧y.den Γ R E J
 | .bad _ _,_,_=>False
section
variable {P : Program} {Z : Cx} {Γ : Gam} {B : cT} {Q : List CD→Prop} {E F : Env} {J : JJ} {p q : Pl} {g g' : Gm} {s : St} {a : Act} {as : List Act} {w w' : World}
theorem cC {t : Tree} : ∀ {ns known : List X},(∀ b∈known,(b.den E).bool=true)→(fy known ns t).den Γ Q E J→(∀ b∈ns,(b.den E).bool=true)∧t.den Γ Q E J
 | [],_,_,h=>⟨fun _ hb=>(by cases hb),h⟩
 | b :: l,known,hk,h=>by
  simp only [fy] at h
  split at h
  ·rename_i hd
   obtain ⟨h1,h2⟩:=cC hk h
   exact ⟨fun c hc=>by
    rcases List.mem_cons.1 hc with e | hc
    ·subst e;exact gU hk hd
    ·exact h1 c hc,h2⟩
  ·exact h.elim
  ·obtain ⟨h0,h⟩:=h
   obtain ⟨h1,h2⟩:=cC (known:=b :: known) (fun c hc=>by
    rcases List.mem_cons.1 hc with e | hc
    ·subst e;exact h0
    ·exact hk c hc) h
   exact ⟨fun c hc=>by
    rcases List.mem_cons.1 hc with e | hc
    ·subst e;exact h0
    ·exact h1 c hc,h2⟩
theorem fS : ∀ {ns known : List X},(∀ b∈known,(b.den E).bool=true)→(∀ b∈ns,(b.den E).bool=true)→∀ b∈df known ns,(b.den E).bool=true
 | [],_,hk,_=>hk
 | b :: l,known,hk,hn=>by
  simp only [df]
  split
  ·exact fS hk fun c hc=>hn c (by simp [hc])
  ·exact fS (fun c hc=>by
    rcases List.mem_cons.1 hc with e | hc
    ·subst e;exact hn c (by simp)
    ·exact hk c hc) fun c hc=>hn c (by simp [hc])
theorem cA.put {tm : List SR} (R : cA E p g tm a) {d : Option Tmp} {r : SR} {v : Value} (hr : r.is E p g v) : cA E p g (jX tm d r) (a.put d v):=by
 cases d with
 | none=>exact R
 | some d =>
  refine ⟨R.defers,by simp only [Act.put,jX,Array.size_setIfInBounds,cL];exact R.size,fun i c hc=>?_⟩
  simp only [jX,aS] at hc
  have hsz:=R.size
  split at hc
  ·rename_i e
   subst e
   split at hc
   ·rename_i hl
    cases hc
    have hd : d < a.tmps.size:=by rw [hsz];exact hl
    have : (a.put (some d) v).tmps.getD d Go.undef=v:=by simp [Act.put,Array.getD,hd]
    rw [this];exact hr
   ·cases hc
  ·rename_i hne
   have : (a.put (some d) v).tmps.getD i Go.undef=a.tmps.getD i Go.undef:=by simp [Act.put,Array.getD_eq_getD_getElem?,Array.getElem?_setIfInBounds_ne hne]
   rw [this];exact R.tmp i c hc
theorem Rep.step (R : Rep B E p g s a as w) (hp : p.Le q) (hg : g.Le g') {h' : Hp} {known' : List X} {d : Option Tmp} {r : SR} {v : Value} (H : bq B E q g' h' w') (hr : r.is E q g' v) (hk : ∀ b∈known',(b.den E).bool=true) :
  Rep B E q g' { s with tmps:=jX s.tmps d r,h:=h',known:=known' } (a.put d v) as w' :=
 ⟨H,(R.frame.le hp hg).put hr,R.stk.mono fun _ _ h=>h.le hp hg,hk,fun i x h=>hp.reg i x (R.fa i x h)⟩
theorem Rep.DE (R : Rep B E p g s a as w) {b : X} (hb : (b.den E).bool=true) : Rep B E p g { s with known:=X.lL b ++ s.known} a as w :=
 ⟨R.mem,R.frame,R.stk,fun c hc=>by
  rcases List.mem_append.1 hc with hc | hc
  ·exact MJ hb c hc
  ·exact R.known c hc,R.fa⟩
theorem sG {b : X} {k : St→Tree} (R : Rep B E p g s a as w) (h : (nY b s k).den Γ Q E J) : ∃ s',s'.nx=s.nx∧s'.h=s.h∧(k s').den Γ Q E J∧Rep B E p g s' a as w:=by
 cases hb : (b.den E).bool with
 | true=>exact ⟨{ s with known:=X.lL b ++ s.known},rfl,rfl,h.1 hb,R.DE hb⟩
 | false=>exact ⟨{ s with known:=X.lL (neg b) ++ s.known},rfl,rfl,h.2 hb,R.DE (by rw [neg_den,hb];rfl)⟩
theorem xy {n : X} {neg b : Bool} {d : Option Nat} {next : St→Tree} (R : Rep B E p g s a as w) (h0 : b=true→(n.den E).int=0) (h : (nilT n neg s d next).den Γ Q E J) :
  ∃ s',s'.nx=s.nx∧s'.h=s.h∧(next s').den Γ Q E J∧Rep B E p g s' (a.put d (.bool (if neg then !b else b))) as w:=by
 have hz : ((mkEq n (.int 0)).den E).bool=decide ((n.den E).int=0):=by
  rw [ka]
  simp only [X.den,CD.bool,CD.int]
  rfl
 have go : ∀ {c : Bool} {e : X},(e.den E).bool=true→(if neg then !b else b)=c→Rep B E p g { s with tmps:=jX s.tmps d (.v (.one (.bool (.bool c)))),known:=X.lL e ++ s.known} (a.put d (.bool (if neg then !b else b))) as w:=fun {c e} he hc =>
  R.step (Pl.Le.refl _) (Gm.Le.refl _) R.mem (⟨c,rfl,by rw [hc]⟩ : ∃ x,(X.bool c).den E=.b x∧_) (R.DE he).known
 cases hb : ((mkEq n (.int 0)).den E).bool with
 | true =>
  obtain ⟨h1,h2⟩:=h.1 hb
  cases b with
  | true=>exact ⟨_,(by rfl),(by rfl),h1,go hb (by cases neg <;> rfl)⟩
  | false=>exact ⟨_,(by rfl),(by rfl),h2,go hb (by cases neg <;> rfl)⟩
 | false =>
  have : b=false:=by
   cases b with
   | false=>rfl
   | true=>rw [hz,h0 rfl] at hb;simp at hb
  subst this
  exact ⟨_,(by rfl),(by rfl),h.2 hb,go (by rw [neg_den,hb];rfl) (by cases neg <;> rfl)⟩
theorem lO {b : X} {c : Bool} (R : Rep B E p g s a as w) (h : (b.den E).bool=c) : Rep B E p g (written b c s) a as w:=by
 refine ⟨R.mem,⟨R.frame.defers,by simp only [written,List.length_map];exact R.frame.size,fun i r hr=>?_⟩,R.stk,R.known,R.fa⟩
 simp only [written,aW,List.getElem?_map,Option.map_eq_some_iff] at hr
 obtain ⟨r0,h0,h1⟩:=hr
 have h2:=R.frame.tmp i r0 (by rw [aW];exact h0)
 split at h1
 ·split at h1
  ·rename_i d hd
   subst h1
   have e:=X.av hd
   subst e
   obtain ⟨u,h3,h4⟩:=(h2 : ∃ u,d.den E=.b u∧_)
   refine ⟨c,rfl,?_⟩
   rw [h4,← h,h3];rfl
  ·subst h1;exact h2
 ·subst h1;exact h2
def ew (kd : List Kd) (row : List CD) : List CD:=match jY 0 kd with
 | [(j,_)]=>row.modify j CD.shut
 | _=>row
theorem BH {kd : List Kd} {x : X} {rows : List (List CD)} (h : x.den E=.l rows) : (CU kd x).den E=.l (rows.map (ew kd)):=by
 unfold CU
 split
 ·rename_i j e he
  simp only [X.den,h,CD.ax]
  congr 1
  exact List.map_congr_left fun row _=>by unfold ew;rw [he]
 ·rename_i hno
  rw [h]
  congr 1
  have : ew kd=id:=funext fun row=>by
   unfold ew
   split
   ·rename_i j e he;exact absurd he (hno j e)
   ·rfl
  rw [this,List.map_id]
theorem tj (kd : List Kd) (row : List CD) : (ew kd row).length=row.length:=by
 unfold ew
 split <;> simp
theorem jB {A : Ar} {rows : List (List CD)} (hx : A.x.den E=.l rows) {kn : List X} (hc : ld kn A=true) (hk : ∀ b∈kn,(b.den E).bool=true) :
  (jY 0 A.K.kd=[]∨∃ j e,jY 0 A.K.kd=[(j,e)])∧∀ (j e : Nat),A.K.kd[j]?=some (.os e)→∀ row∈rows,(row.getD j .u).isH=false:=by
 unfold ld at hc
 split at hc
 ·rename_i h0
  exact ⟨.inl h0,fun j e h=>absurd h (iZ h0 j e)⟩
 ·rename_i j0 e0 h0
  refine ⟨.inr ⟨_,_,h0⟩,fun j e h row hr=>?_⟩
  obtain ⟨_,_,o3⟩:=gY h0
  obtain ⟨h1,_⟩:=o3 j e h
  split at hc
  ·rename_i hd
   have:=gU hk hd
   simp only [X.den,hx,CD.ax,CD.gB,List.all_eq_true] at this
   have:=this row hr
   rw [h1]
   simpa using this
  ·cases hc
 ·cases hc
theorem zY {A : Ar} {rows : List (List CD)} (hx : A.x.den E=.l rows) (ho : osOk A.K.kd=true) (hn : ∀ b∈pL A,(b.den E).bool=true) : ∀ (j e : Nat),A.K.kd[j]?=some (.os e)→∀ row∈rows,(row.getD j .u).isH=false:=by
 intro j e h row hr
 unfold pL at hn
 split at hn
 ·rename_i j0 e0 h0
  obtain ⟨_,_,o3⟩:=gY h0
  obtain ⟨h1,_⟩:=o3 j e h
  have:=hn _ (List.mem_singleton.2 rfl)
  simp only [X.den,hx,CD.ax,CD.gB,List.all_eq_true] at this
  have:=this row hr
  rw [h1]
  simpa using this
 ·rename_i hno
  unfold osOk at ho
  split at ho
  ·rename_i h0;exact absurd h (iZ h0 j e)
  ·rename_i x h0;exact absurd h0 (hno x.1 x.2)
  ·cases ho
theorem B3 {kn : List X} (hkn : ∀ b∈kn,(b.den E).bool=true) {n x : X} {rows : List (List CD)} (h : DD kn n x=true) (e : x.den E=.l rows) : (n.den E).int≤rows.length:=by
 unfold DD at h
 rw [Bool.or_eq_true] at h
 rcases h with h | h
 ·split at h
  ·rename_i m r
   have hs:=X.av h
   subst hs
   simp only [X.den,CD.l.injEq] at e
   rw [← e,List.length_replicate]
   exact Int.self_le_toNat _
  ·cases h
 ·split at h
  ·rename_i hd
   have hle:=gU hkn hd
   rw [bz,ba,e] at hle
   exact of_decide_eq_true hle
  ·cases h
theorem Fc {A : Ar} {b : Nat} {kn : List X} (hkn : ∀ b∈kn,(b.den E).bool=true) {rows : List (List CD)} {ad : Option Addr} {cap : Nat} (e1 : p.arr b=some (ad,cap)) (e2 : A.x.den E=.l rows) (e4 : cap≤maxLen) (e5 : rows.length * A.K.by_≤B47)
  (hrd : 0 < cap→∃ bb,ad=some ⟨bb,0,none⟩∧∀ i row,rows[i]?=some row→aJ g' A.K.shut.kd (fun j=>g' bb (i * A.K.kd.length + j)) (ew A.K.kd row)) (hg : g.Le g') {q : Pl} (hp : p.Le q) {c : SC} {v : Value} (h : c.is E p g v) : (tK kn b A c).is E q g' v:=by
 cases c with
 | sl b' n =>
  simp only [tK]
  split
  ·rename_i hb
   have hb:=Nat.eq_of_beq_eq_true hb
   subst hb
   split
   ·rename_i hd
    obtain ⟨ad',c',m,c1,c2,c3,c4⟩:=h
    rw [e1] at c1
    cases c1
    have hle:=B3 hkn hd e2
    rw [c2] at hle
    simp only [CD.aR] at hle
    have hle : m≤rows.length:=by omega
    subst c4
    simp only [SC.is,Rd]
    have hkl : A.K.shut.kd.length=A.K.kd.length:=by simp [SK.shut]
    refine ⟨ad,m,cap,(rows.take m).map (ew A.K.kd),rfl,BH (by rw [db e2,c2];simp),by rw [List.length_map,List.length_take];omega,c3,e4,Nat.le_trans (Nat.mul_le_mul_right _ hle) e5,fun hm=>?_⟩
    obtain ⟨bb,f1,f2⟩:=hrd (by omega)
    refine ⟨bb,0,f1,fun i row hi=>?_⟩
    rw [List.getElem?_map,Option.map_eq_some_iff] at hi
    obtain ⟨row0,hi,rfl⟩:=hi
    rw [List.getElem?_take] at hi
    split at hi
    ·simp only [Nat.zero_add];rw [hkl];exact f2 i row0 hi
    ·cases hi
   ·trivial
  ·exact SC.is_le hp hg h
 | ep b' z i o =>
  simp only [tK]
  split
  ·trivial
  ·exact SC.is_le hp hg h
 | _=>exact SC.is_le hp hg h
theorem A7 {A : Ar} {b : Nat} {kn : List X} {q : Pl} (hc : ∀ c v,SC.is E p g c v→SC.is E q g' (tK kn b A c) v) {x : SV} {v : Value} (h : x.is E p g v) : (frzV kn b A x).is E q g' v:=by
 cases x with
 | one c=>exact hc c v h
 | agg l =>
  obtain ⟨vs,e,hv⟩:=h
  refine ⟨vs,e,?_⟩
  clear e
  induction l generalizing vs with
  | nil=>cases vs <;> first | trivial | exact hv.elim
  | cons c l ih=>cases vs with
   | nil=>exact hv.elim
   | cons u vs=>exact ⟨hc c u hv.1,ih vs hv.2⟩
theorem Fb {A : Ar} {b : Nat} {kn : List X} {q : Pl} (hc : ∀ c v,SC.is E p g c v→SC.is E q g' (tK kn b A c) v) {x : SR} {v : Value} (h : x.is E p g v) : (DP kn b A x).is E q g' v:=by
 cases x with
 | v x=>exact A7 hc h
 | tup l =>
  obtain ⟨vs,e,hv⟩:=h
  refine ⟨vs,e,?_⟩
  clear e
  induction l generalizing vs with
  | nil=>cases vs <;> first | trivial | exact hv.elim
  | cons c l ih=>cases vs with
   | nil=>exact hv.elim
   | cons u vs=>exact ⟨A7 hc hv.1,ih vs hv.2⟩
theorem vd {A : Ar} {b : Nat} {kn : List X} {q : Pl} (hc : ∀ c v,SC.is E p g c v→SC.is E q g' (tK kn b A c) v) {t : List SR} {a : Act} (R : cA E p g t a) : cA E q g' (t.map (DP kn b A)) a:=by
 refine ⟨R.defers,by rw [List.length_map];exact R.size,fun i c h=>?_⟩
 rw [aW,List.getElem?_map,Option.map_eq_some_iff] at h
 obtain ⟨c0,h0,h1⟩:=h
 subst h1
 exact Fb hc (R.tmp i c0 (by rw [aW];exact h0))
theorem tI {b : Nat} {s' : St} (R : Rep B E p g s a as w) (h : tJ b s=some s') : ∃ q g',p.Le q∧g.Le g'∧Rep B E q g' s' a as w∧rO E p s.h q s'.h w.heap.size∧s'.nx=s.nx∧s'.fn=s.fn ∧
  ∀ A ad cap rows,nth s.h.arrs b=some (.here A)→p.arr b=some (ad,cap)→A.x.den E=.l rows→0 < cap→∃ bb,ad=some ⟨bb,0,none⟩∧∀ i row,rows[i]?=some row→aJ g' A.K.shut.kd (fun j=>g' bb (i * A.K.kd.length + j)) (ew A.K.kd row):=by
 unfold tJ at h
 split at h
 ·rename_i A hA
  split at h
  rotate_left
  ·cases h
  rename_i hclean
  cases h
  obtain ⟨ad,cap,rows,e1,e2,e3,e4,e5,e6,e7,e8⟩:=(R.mem.arr b A hA).ex
  obtain ⟨hone,hnoh⟩:=jB e2 hclean R.known
  have hblk : ∃ (bb : Nat) (cur : Array Value),0 < cap→ad=some ⟨bb,0,none⟩∧p.ow bb=.arr b∧w.heap[bb]?=some (.cells cur A.e (0,0))∧cur.size=cap * A.K.kd.length∧(∀ i,i < cur.size→B.wr bb i)∧∀ i row,rows[i]?=some row→aJ g A.K.kd (fun j=>cur[i * A.K.kd.length + j]?) row:=by
   by_cases h0 : 0 < cap
   ·obtain ⟨bb,cur,k⟩:=e8 h0
    exact ⟨bb,cur,fun _=>k⟩
   ·exact ⟨0,#[],fun h=>absurd h h0⟩
  obtain ⟨bb,cur,hbl⟩:=hblk
  let Nb : Nat→Prop:=fun k=>(∃ i j,p.ow k=.nst b i j)∧∀ o v,w.cell? ⟨k,o,none⟩=some v→B.wr k o
  open Classical in
  let g' : Gm:=fun k o=>if 0 < cap∧k=bb then (if o < rows.length * A.K.kd.length then cur[o]? else none) else if Nb k then w.cell? ⟨k,o,none⟩ else g k o
  open Classical in
  let q : Pl:={ p with ow:=fun k=>if (0 < cap∧k=bb)∨Nb k then .z else p.ow k}
  have hnb : ∀ k,0 < cap∧k=bb→¬ Nb k:=fun k c1 ⟨⟨i,j,h⟩,_⟩=>by rw [c1.2,(hbl c1.1).2.1] at h;cases h
  have hp : p.Le q:=⟨fun _ _ h=>h,fun _ _ h=>h,fun _ _ h=>h⟩
  have hg : g.Le g':=fun k o v hk=>by
   have hz:=(R.mem.gg k o v hk).2
   show (if 0 < cap∧k=bb then _ else _)=_
   rw [if_neg,if_neg]
   ·exact hk
   ·rintro ⟨⟨i,j,h⟩,_⟩
    rw [hz] at h;cases h
   ·rintro ⟨c1,rfl⟩
    rw [(hbl c1).2.1] at hz;cases hz
  have how : ∀ k,¬ ((0 < cap∧k=bb)∨Nb k)→q.ow k=p.ow k:=fun k hk=>if_neg hk
  have hown : ∀ k,((0 < cap∧k=bb)∨Nb k)→(p.ow k).ofA b:=fun k hk=>by
   rcases hk with c1 | ⟨⟨i,j,h⟩,_⟩
   ·rw [c1.2,(hbl c1.1).2.1];rfl
   ·rw [h];rfl
  have how2 : ∀ k,¬ (p.ow k).ofA b→q.ow k=p.ow k:=fun k hk=>how k fun h=>hk (hown k h)
  have hrow : 0 < cap→∀ i row,rows[i]?=some row→aJ g' A.K.shut.kd (fun j=>g' bb (i * A.K.kd.length + j)) (ew A.K.kd row):=fun h0 i row hi=>by
   obtain ⟨b1,b2,b3,b4,b5,b6⟩:=hbl h0
   have R0:=b6 i row hi
   have hgc : ∀ {j : Nat} {v},j < A.K.kd.length→cur[i * A.K.kd.length + j]?=some v→g' bb (i * A.K.kd.length + j)=some v:=fun {j v} hj hv=>by
    show (if 0 < cap∧bb=bb then _ else _)=_
    rw [if_pos ⟨h0,rfl⟩,if_pos (dG hj (List.getElem?_eq_some_iff.1 hi).1)]
    exact hv
   refine aJ.of (by rw [tj];simpa [SK.shut] using R0.length) fun j k hk=>?_
   have hk : (A.K.kd.map Kd.shut)[j]?=some k:=hk
   rw [List.getElem?_map,Option.map_eq_some_iff] at hk
   obtain ⟨k0,hk0,rfl⟩:=hk
   have hj:=(List.getElem?_eq_some_iff.1 hk0).1
   obtain ⟨v,hv,hr⟩:=R0.cell hk0
   refine ⟨v,hgc hj hv,?_⟩
   have other : k0.DF=false→(ew A.K.kd row).getD j .u=row.getD j .u:=fun hno=>by
    unfold ew
    split
    ·rename_i j0 e0 hat
     have hne : j0≠j:=by
      rintro rfl
      obtain ⟨_,o2,_⟩:=gY hat
      rw [Nat.sub_zero,hk0] at o2
      cases o2
      cases hno
     rw [List.getD_eq_getElem?_getD,List.getElem?_modify,List.getD_eq_getElem?_getD]
     simp [hne]
    ·rfl
   cases k0 with
   | os e =>
    have hcell : w.cell? ⟨bb,i * A.K.kd.length + j,none⟩=some v:=by simp [World.cell?,b3,hv]
    have hN:=(R.mem.arr b A hA).ns j e bb cap rows hk0 (by rw [e1,b1]) e2 i row v hi hcell
    have hnh:=hnoh j e hk0 row (List.mem_of_getElem? hi)
    have hsh : (ew A.K.kd row).getD j .u=(row.getD j .u).shut:=by
     unfold ew
     split
     ·rename_i j0 e0 hat
      obtain ⟨_,_,o3⟩:=gY hat
      obtain ⟨h1,_⟩:=o3 j e hk0
      rw [h1,Nat.sub_zero]
      have hl : j0 < row.length:=by rw [R0.length];omega
      simp [List.getD_eq_getElem?_getD,hl]
     ·rename_i hno
      rcases hone with h | ⟨j0,e0,h⟩
      ·exact absurd hk0 (iZ h j e)
      ·exact absurd h (hno j0 e0)
    rw [hsh]
    cases hd : row.getD j .u with
    | l r =>
     rw [hd] at hr
     exact Rd.mono hg _ _ _ (xm.1 hr)
    | o r =>
     rw [hd] at hN
     obtain ⟨ad2,cap2,n1,n2,n3,n4,n5,n6,n7⟩:=hN
     subst n1
     refine xm.1 ⟨ad2,cap2,rfl,n2,n3,n4,fun hpos=>?_⟩
     obtain ⟨k2,cur2,m1,m2,m3,m4,m5,m6⟩:=n7 (by omega)
     refine ⟨k2,0,m1,fun i2 row2 hi2=>?_⟩
     have hrd2:=m6 i2 row2 hi2
     match row2,hrd2 with
     | [],h=>exact h.elim
     | [d],⟨⟨v2,q1,q2⟩,_⟩ =>
      simp only [Rd] at q2
      obtain ⟨n,rfl,rfl⟩:=q2
      refine ⟨n,rfl,?_⟩
      have q1 : cur2[i2]?=some (.int .i64 n):=by simpa [wa] using q1
      have hNb : Nb k2:=⟨⟨i,j,m2⟩,fun o v ho=>m5 o (by
       simp only [World.cell?,m3] at ho
       rcases Nat.lt_or_ge o cur2.size with hl | hl
       ·exact hl
       ·rw [Array.getElem?_eq_none hl] at ho;cases ho)⟩
      show (if 0 < cap∧k2=bb then _ else _)=_
      rw [if_neg (fun c1=>hnb k2 c1 hNb),if_pos hNb,Nat.zero_add]
      simp [World.cell?,m3,q1]
     | _ :: _ :: _,h=>exact h.2.elim
    | h s n=>rw [hd] at hnh;cases hnh
    | _=>rw [hd] at hN;exact hN.elim
   | _=>rw [other rfl];exact Rd.mono hg _ _ _ hr
  have hc : ∀ c v,SC.is E p g c v→SC.is E q g' (tK s.known b A c) v:=fun c v h=>Fc R.known e1 e2 e4 e5 (fun h0=>⟨bb,(hbl h0).1,hrow h0⟩) hg hp h
  have T : cd (fun _ _=>False) w w:=cd.refl _ _
  refine ⟨q,g',hp,hg,⟨⟨R.mem.fr,R.mem.g0.trans hg,fun k o v hk=>?_,fun k o v hk=>?_,fun r cs hr=>?_,fun r hr=>?_,fun b' A' hb'=>?_,fun b' hb'=>R.mem.afree b' (wo hb'),R.mem.mm.cU T rfl fun a' b' e1 e2 e3 e4=>(how2 b' fun h=>by rw [e2] at h;exact h).trans e2,fun k a hk=>by
   have hk : (if (0 < cap∧k=bb)∨Nb k then Ow.z else p.ow k).ofA a:=hk
   split at hk
   ·exact hk.elim
   ·exact R.mem.nz k a hk⟩,vd hc R.frame,?_,R.known,R.fa⟩,fun k i hk hkn=>?_,rfl,rfl,fun A' ad' cap' rows' k1 k2 k3 h0=>by
   rw [hA] at k1;cases k1
   rw [e1] at k2;cases k2
   rw [e2] at k3;cases k3
   exact ⟨bb,(hbl h0).1,hrow h0⟩⟩
  ·by_cases c1 : 0 < cap∧k=bb
   ·have hk : cur[o]?=some v:=by
     have hk : (if 0 < cap∧k=bb then (if o < rows.length * A.K.kd.length then cur[o]? else none) else if Nb k then w.cell? ⟨k,o,none⟩ else g k o)=some v:=hk
     rw [if_pos c1] at hk
     split at hk
     ·exact hk
     ·cases hk
    right
    rw [c1.2]
    exact (hbl c1.1).2.2.2.2.1 o (by
     rcases Nat.lt_or_ge o cur.size with hl | hl
     ·exact hl
     ·rw [Array.getElem?_eq_none hl] at hk;cases hk)
   ·have hk : (if 0 < cap∧k=bb then (if o < rows.length * A.K.kd.length then cur[o]? else none) else if Nb k then w.cell? ⟨k,o,none⟩ else g k o)=some v:=hk
    rw [if_neg c1] at hk
    split at hk
    ·rename_i c2;exact .inr (c2.2 o v hk)
    ·exact R.mem.g1 k o v hk
  ·by_cases c1 : 0 < cap∧k=bb
   ·have hk : cur[o]?=some v:=by
     have hk : (if 0 < cap∧k=bb then (if o < rows.length * A.K.kd.length then cur[o]? else none) else if Nb k then w.cell? ⟨k,o,none⟩ else g k o)=some v:=hk
     rw [if_pos c1] at hk
     split at hk
     ·exact hk
     ·cases hk
    refine ⟨?_,if_pos (.inl c1)⟩
    rw [c1.2]
    simp [World.cell?,(hbl c1.1).2.2.1,hk]
   ·have hk : (if 0 < cap∧k=bb then (if o < rows.length * A.K.kd.length then cur[o]? else none) else if Nb k then w.cell? ⟨k,o,none⟩ else g k o)=some v:=hk
    rw [if_neg c1] at hk
    split at hk
    ·rename_i c2;exact ⟨hk,if_pos (.inr c2)⟩
    ·rename_i c2
     exact ⟨(R.mem.gg k o v hk).1,(how k fun h=>h.elim c1 c2).trans (R.mem.gg k o v hk).2⟩
  ·rw [aW,List.getElem?_map,Option.map_eq_some_iff] at hr
   obtain ⟨r0,h0,h1⟩:=hr
   cases r0 with
   | here cs0 =>
    simp only [Pc.map,Pc.here.injEq] at h1
    subst h1
    obtain ⟨b1,q1,k1,k2,k3,k4⟩:=(R.mem.reg r cs0 (by rw [aW];exact h0)).ex
    refine ⟨b1,q1,k1,(how2 b1 fun h=>by rw [k2] at h;exact h).trans k2,k3,fun o c ho=>?_⟩
    ·rw [aW,List.getElem?_map,Option.map_eq_some_iff] at ho
     obtain ⟨c0,ho0,ho1⟩:=ho
     subst ho1
     obtain ⟨f1,f2,v,f3,f4⟩:=k4 o c0 (by rw [aW];exact ho0)
     exact ⟨f1,f2,v,f3,hc _ _ f4⟩
   | fr=>simp [Pc.map] at h1
   | go=>simp [Pc.map] at h1
  ·refine R.mem.rfree r ?_
   rw [aW,List.getElem?_map] at hr
   rw [aW]
   cases h0 : s.h.regs[r]? with
   | none=>exact .inl rfl
   | some r0 =>
    rw [h0] at hr
    cases r0 <;> simp [Pc.map] at hr ⊢
  ·have hb2 : b'≠b∧nth s.h.arrs b'=some (.here A'):=by
    rw [aS] at hb'
    split at hb'
    ·split at hb' <;> cases hb'
    ·rename_i hne;exact ⟨fun e=>hne e.symm,hb'⟩
   refine (R.mem.arr b' A' hb2.2).cU T (fun _ _ _ _ h=>h) hp hg fun b1 _ k4=>how2 b1 fun h=>?_
   cases ho : p.ow b1 with
   | arr a=>rw [ho] at h k4;exact hb2.1 (Eq.trans (Eq.symm k4) h)
   | nst a i j=>rw [ho] at h k4;exact hb2.1 (Eq.trans (Eq.symm k4) h)
   | _=>rw [ho] at h;exact h
  ·have hm : ∀ (l : List (List SR)) (m : List Act),aE (cA E p g) l m→aE (cA E q g') (l.map fun l=>l.map (DP s.known b A)) m:=by
    intro l
    induction l with
    | nil=>intro m h;cases m <;> first | trivial | exact h.elim
    | cons t l ih=>intro m h;cases m with
     | nil=>exact h.elim
     | cons u m=>exact ⟨vd hc h.1,ih m h.2⟩
   exact hm _ _ R.stk
  ·by_cases hbk : 0 < cap∧k=bb
   ·exact .inl (if_pos (.inl hbk))
   ·rcases hkn with k1 | ⟨r,cs,b1,q1,k1,k2,rfl,k3⟩ | ⟨b',A',b1,c,k1,k2,rfl,k3⟩
    ·exact .inl ((how2 k fun h=>by rw [k1] at h;exact h).trans k1)
    ·refine .inr (.inl ⟨r,cs.map (tK s.known b A),k,q1,?_,k2,rfl,by rw [List.length_map];exact k3⟩)
     rw [aW,List.getElem?_map,← aW,k1];rfl
    ·by_cases hbb : b'=b
     ·subst hbb
      rw [hA] at k1
      cases k1
      rw [e1] at k2
      cases k2
      rw [e2,CD.ax] at k3
      have h0 : 0 < cap:=by
       rcases Nat.eq_zero_or_pos cap with h0 | h0
       ·have : rows.length=0:=by omega
        rw [this,Nat.zero_mul] at k3;omega
       ·exact h0
      have:=(hbl h0).1
      cases this
      exact absurd ⟨h0,rfl⟩ hbk
     ·refine .inr (.inr ⟨b',A',k,c,?_,k2,rfl,k3⟩)
      rw [aS,if_neg (fun e=>hbb e.symm)];exact k1
 ·cases h
theorem Cd {b : Nat} {s' : St} (R : Rep B E p g s a as w) (h : tJ b s=some s') : ∃ q g',p.Le q∧g.Le g'∧Rep B E q g' s' a as w∧rO E p s.h q s'.h w.heap.size∧s'.nx=s.nx∧s'.fn=s.fn:=by
 obtain ⟨q,g',h1,h2,h3,h4,h5,h6,_⟩:=tI R h
 exact ⟨q,g',h1,h2,h3,h4,h5,h6⟩
theorem Rep.df (R : Rep B E p g s a as w) {ns : List X} (hn : ∀ b∈ns,(b.den E).bool=true) : Rep B E p g { s with known:=Sy.df s.known ns} a as w:=⟨R.mem,R.frame,R.stk,fS R.known hn,R.fa⟩
theorem ia {b : Nat} {k : St→Tree} (R : Rep B E p g s a as w) (h : (lp b s k).den Γ Q E J) : ∃ s' q g',p.Le q∧g.Le g'∧Rep B E q g' s' a as w∧rO E p s.h q s'.h w.heap.size∧s'.nx=s.nx∧s'.fn=s.fn∧(k s').den Γ Q E J:=by
 unfold lp at h
 obtain ⟨hn,h⟩:=cC R.known h
 split at h
 ·rename_i s' hs
  obtain ⟨q,g',h1,h2,h3,h4,h5,h6⟩:=Cd (R.df hn) hs
  exact ⟨s',q,g',h1,h2,h3,h4,h5,h6,h⟩
 ·exact h.elim
end
end Go.Sy

namespace Go.Sy
open Go.RowKit
section
variable {P : Program} {Z : Cx} {Γ : Gam} {B : cT} {Q : List CD→Prop} {E : Env} {J : JJ} {p : Pl} {g : Gm} {h : Hp} {s : St} {a : Act} {as : List Act} {w : World}
theorem sV {rows : List (List CD)} {i0 o : Nat} {d : CD} {i : Nat} {row : List CD} (h : (rows.modify i0 fun r=>r.set o d)[i]?=some row) : ∃ row0,rows[i]?=some row0∧row=if i0=i then row0.set o d else row0:=by
 rw [List.getElem?_modify] at h
 cases h0 : rows[i]? with
 | none=>rw [h0] at h;simp at h
 | some row0 =>
  rw [h0] at h
  simp only [Option.map_eq_map,Option.map_some,Option.some.injEq] at h
  exact ⟨row0,rfl,h.symm⟩
theorem nA.yR {a0 i0 j e : Nat} {A : Ar} {rows : List (List CD)} {d : CD} {x : X} {q : Pl} (R : nA B E p g a0 A w) (hx : A.x.den E=.l rows) (hj : A.K.kd[j]?=some (.os e)) (hx' : x.den E=.l (rows.modify i0 fun r=>r.set j d))
  (hp : p.Le q) (how : ∀ b,b < w.heap.size→p.ow b=.arr a0→q.ow b=.arr a0) (hnst : ∀ b i' j',b < w.heap.size→p.ow b=.nst a0 i' j'→(i'≠i0∨j'≠j)→q.ow b=.nst a0 i' j')
  (hv : ∀ b c v,p.arr a0=some (some ⟨b,0,none⟩,c)→w.cell? ⟨b,i0 * A.K.kd.length + j,none⟩=some v→yA g v d∧jG B q g a0 i0 j e w v d) : nA B E q g a0 { A with x:=x} w:=by
 obtain ⟨ad,cap,rows',e1,e2,e3,e4,e5,e6,e7,e8⟩:=R.ex
 rw [hx] at e2;cases e2
 have T : cd (fun _ _=>False) w w:=cd.refl _ _
 refine ⟨⟨ad,cap,_,hp.arr _ _ e1,hx',by simpa using e3,e4,by simpa using e5,e6,e7,fun hc=>?_⟩,fun j1 e9 b c rows1 k1 k2 k3 i row1 v k4 k5=>?_⟩
 ·obtain ⟨b,cur,f1,f2,f3,f4,f5,f6⟩:=e8 hc
  refine ⟨b,cur,f1,how b (lt_of_block f3) f2,f3,f4,f5,fun i r hr=>?_⟩
  obtain ⟨row0,h0,rfl⟩:=sV hr
  have R0:=f6 i row0 h0
  split
  ·rename_i e
   subst e
   refine aJ.of (by simpa using R0.length) fun j1 k hk=>?_
   obtain ⟨v,hv1,hr1⟩:=R0.cell hk
   refine ⟨v,hv1,?_⟩
   by_cases ej : j=j1
   ·subst ej
    rw [hj] at hk;cases hk
    have hl : j < row0.length:=by rw [R0.length];exact (List.getElem?_eq_some_iff.1 hj).1
    simp only [List.getD_eq_getElem?_getD,List.getElem?_set_self hl,Option.getD_some]
    subst f1
    simp only [Rd]
    exact (hv b cap v e1 (by simp [World.cell?,f3,hv1])).1
   ·rw [List.getD_eq_getElem?_getD,List.getElem?_set_ne ej,← List.getD_eq_getElem?_getD];exact hr1
  ·exact R0
 ·have k2 : p.arr a0=some (some ⟨b,0,none⟩,c):=by
   have k2 : q.arr a0=some (some ⟨b,0,none⟩,c):=k2
   rw [hp.arr _ _ e1] at k2
   rw [e1];exact k2
  have k1 : A.K.kd[j1]?=some (.os e9):=k1
  have k3 : x.den E=.l rows1:=k3
  rw [hx'] at k3
  cases k3
  obtain ⟨row0,h0,rfl⟩:=sV k4
  have k5 : w.cell? ⟨b,i * A.K.kd.length + j1,none⟩=some v:=k5
  have hrl : row0.length=A.K.kd.length:=by
   have hpos : 0 < cap:=by have:=(List.getElem?_eq_some_iff.1 h0).1;omega
   obtain ⟨_,cur,_,_,_,_,_,f6⟩:=e8 hpos
   exact (f6 i row0 h0).length
  by_cases hij : i0=i∧j=j1
  ·obtain ⟨rfl,rfl⟩:=hij
   rw [hj] at k1;cases k1
   rw [if_pos rfl]
   have hl : j < row0.length:=by rw [hrl];exact (List.getElem?_eq_some_iff.1 hj).1
   rw [List.getD_eq_getElem?_getD,List.getElem?_set_self hl,Option.getD_some]
   exact (hv b c v k2 k5).2
  ·have hsame : (if i0=i then row0.set j d else row0).getD j1 .u=row0.getD j1 .u:=by
    split
    ·rename_i e
     rw [List.getD_eq_getElem?_getD,List.getElem?_set_ne (fun e2=>hij ⟨e,e2⟩),← List.getD_eq_getElem?_getD]
    ·rfl
   rw [hsame]
   exact (R.ns j1 e9 b c rows k1 k2 hx i row0 v h0 k5).cU T (fun _ _ _ _ h=>h) hp (Gm.Le.refl _) fun b' hb' ho=>hnst b' i j1 hb' ho (by
    by_cases e1 : i=i0
    ·right;exact fun e2=>hij ⟨e1.symm,e2.symm⟩
    ·exact .inl e1)
theorem yX {a0 : Nat} {i : X} {o : Nat} {ns : List X} {s' : St} (R : Rep B E p g s a as w) (h : yY a0 i o s=some (ns,s')) (hn : ∀ b∈ns,(b.den E).bool=true) :
  ∃ q,p.Le q∧Rep B E q g s' a as w∧rO E p s.h q s'.h w.heap.size∧s'.nx=s.nx∧s'.fn=s.fn∧s'.known=s.known:=by
 unfold yY at h
 split at h
 ·rename_i A hA
  split at h
  ·rename_i e hkd
   cases h
   rw [aW] at hkd
   have H:=R.mem
   have hlen:=cn hA
   obtain ⟨ad0,cap0,rows,e1,e2,e3,e4,e5,e6,e7,e8⟩:=(H.arr a0 A hA).ex
   obtain ⟨h0,h1⟩:=dN (ba A.x) (fun b hb=>hn b (List.mem_append_left _ hb))
   rw [e2] at h1
   have h1 : (i.den E).int.toNat < rows.length:=h1
   obtain ⟨i0,hi0⟩ : ∃ i0,(i.den E).int.toNat=i0:=⟨_,rfl⟩
   rw [hi0] at h1
   obtain ⟨row,hrow⟩ : ∃ row,rows[i0]?=some row:=⟨_,List.getElem?_eq_getElem h1⟩
   obtain ⟨b,c,f1,f2,f3,f4,f5,_⟩:=H.sd hA e2 hrow
   obtain ⟨v,f6,f7⟩:=f5 o _ hkd
   have hcell : w.cell? ⟨b,i0 * A.K.kd.length + o,none⟩=some v:=f6 w (bj.refl _ _ _ _)
   have hol : o < row.length:=by rw [f4];exact (List.getElem?_eq_some_iff.1 hkd).1
   have hm : (cD A.x i o).den E=row.getD o .u:=by
    rw [dz ⟨row,by rw [e2,hi0];exact hrow,hol⟩]
    simp only [X.den,e2,CD.ax,hi0]
    rw [List.getD_eq_getElem?_getD (l:=rows),hrow,Option.getD_some]
   have hO:=hn (.isO (cD A.x i o)) (by simp)
   simp only [X.den,CD.gB,hm] at hO
   have hN:=(H.arr a0 A hA).ns o e b c rows hkd f1 e2 i0 row v hrow hcell
   cases hd : row.getD o .u with
   | o r =>
    rw [hd] at hN hm
    obtain ⟨ad,cap,n1,n2,n3,n4,n5,n6,n7⟩:=hN
    obtain ⟨k0,hk0⟩ : ∃ k0,s.h.arrs.length=k0:=⟨_,rfl⟩
    have hpk : p.arr k0=none:=H.afree k0 (.inl (dt (by omega)))
    let own : Nat→Prop:=fun k=>0 < cap∧ad=some ⟨k,0,none⟩
    have hown : ∀ k,own k→p.ow k=.nst a0 i0 o∧k < w.heap.size:=fun k ⟨c1,c2⟩=>by
     obtain ⟨b',cur,m1,m2,m3,_⟩:=n7 c1
     rw [m1] at c2;cases c2
     exact ⟨m2,lt_of_block m3⟩
    open Classical in
    let q : Pl:={ p with arr:=fun j=>if j=k0 then some (ad,cap) else p.arr j,ow:=fun k=>if own k then .arr k0 else p.ow k}
    have hq : p.Le q:=⟨fun _ _ h=>h,fun j x hx=>by
     show (if j=k0 then _ else _)=_
     rw [if_neg (fun e=>by rw [e,hpk] at hx;cases hx)];exact hx,fun _ _ h=>h⟩
    have how : ∀ k,p.ow k≠.nst a0 i0 o→q.ow k=p.ow k:=fun k hk=>if_neg fun h=>hk (hown k h).1
    have T : cd (fun _ _=>False) w w:=cd.refl _ _
    have hxd : (mkSet A.x i o (.ref s.h.arrs.length (.len (.shut (cD A.x i o))))).den E=.l (rows.modify i0 fun r'=>r'.set o (.h k0 r.length)):=by
     rw [qi]
     simp only [X.den,e2,CD.ax,hi0,hm,CD.CS,CD.aR,Int.toNat_natCast,hk0]
    have hnew : ∀ j,nth (bl s.h.arrs a0 (.here { A with x:=mkSet A.x i o (.ref s.h.arrs.length (.len (.shut (cD A.x i o))))}) ++ [.here { e:=e,K:=wa,x:=.shut (cD A.x i o)}]) j =
      if j < k0 then nth (bl s.h.arrs a0 (.here { A with x:=mkSet A.x i o (.ref s.h.arrs.length (.len (.shut (cD A.x i o))))})) j else if j=k0 then some (.here { e:=e,K:=wa,x:=.shut (cD A.x i o)}) else none:=fun j=>by
     rw [xu,cL,hk0]
    refine ⟨q,hq,⟨⟨H.fr,H.g0,H.g1,fun k o' v' hk=>⟨(H.gg k o' v' hk).1,?_⟩,fun r' cs hr=>?_,H.rfree,fun a' A' ha'=>?_,fun j hj=>?_,H.mm.cU T rfl fun a' b' g1 g2 g3 g4=>?_,fun k a' hk=>?_⟩,R.frame.le hq (Gm.Le.refl _),R.stk.mono fun _ _ h=>h.le hq (Gm.Le.refl _),R.known,fun j x hx=>hq.reg _ _ (R.fa j x hx)⟩,fun k i' hk hkn=>?_,rfl,rfl,rfl⟩
    ·have:=(H.gg k o' v' hk).2
     rw [how k (by rw [this];exact fun e=>by cases e)];exact this
    ·refine (H.reg r' cs hr).cU T (fun _ _ _ _ _ h=>h) hq (Gm.Le.refl _) fun b' q' g1=>?_
     have:=(H.reg r' cs hr).own g1
     rw [how b' (by rw [this];exact fun e=>by cases e)];exact this
    ·simp only at ha'
     rw [hnew] at ha'
     split at ha'
     ·rw [aS] at ha'
      split at ha'
      ·rename_i ea
       subst ea
       cases ha'
       refine (H.arr a0 A hA).yR e2 hkd hxd hq (fun b' _ ho=>(how b' (by rw [ho];exact fun e=>by cases e)).trans ho) (fun b' i' j' _ ho hne=>(how b' (by rw [ho];exact fun e=>by cases e;rcases hne with h | h <;> exact h rfl)).trans ho) fun b' c' v' g1 g2=>?_
       rw [f1] at g1;cases g1
       rw [hcell] at g2;cases g2
       exact ⟨⟨ad,cap,n1⟩,ad,cap,if_pos rfl,n2,n1⟩
      ·rename_i ea
       refine (H.arr a' A' ha').cU T (fun _ _ _ _ h=>h) hq (Gm.Le.refl _) fun b' _ ho=>how b' fun e=>?_
       rw [e] at ho
       exact ea ho
     ·split at ha'
      ·rename_i ea
       subst ea
       cases ha'
       have hsh : (X.shut (cD A.x i o)).den E=.l r:=by simp only [X.den,hm,CD.CS]
       refine ⟨⟨ad,cap,r,if_pos rfl,hsh,n2,n3,n4,n5,n6,fun hc=>?_⟩,fun j e' b' c' rows' g1=>?_⟩
       ·obtain ⟨b',cur,m1,m2,m3⟩:=n7 hc
        exact ⟨b',cur,m1,if_pos ⟨hc,m1⟩,m3⟩
       ·exfalso
        have g1 : ([Kd.int .i64] : List Kd)[j]?=some (.os e'):=g1
        cases j with
        | zero=>cases g1
        | succ j=>simp at g1
      ·cases ha'
    ·simp only at hj
     rw [hnew] at hj
     by_cases h2 : j < k0
     ·rw [if_pos h2] at hj
      show (if j=k0 then _ else _)=_
      rw [if_neg (by omega)]
      exact H.afree j (ji hj)
     ·rw [if_neg h2] at hj
      by_cases h3 : j=k0
      ·rw [if_pos h3] at hj;rcases hj with h | h <;> cases h
      ·show (if j=k0 then _ else _)=_
       rw [if_neg h3]
       exact H.afree j (.inl (dt (by omega)))
    ·rw [how b' (by rw [g2];exact fun e=>by cases e)];exact g2
    ·have hk : (if own k then Ow.arr k0 else p.ow k).ofA a':=hk
     split at hk
     ·rename_i ho;exact (hown k ho).2
     ·exact H.nz k a' hk
    ·rcases hkn with k1 | ⟨r',cs,b1,q1,k1,k2,rfl,k3⟩ | ⟨a',A',b1,c1,k1,k2,rfl,k3⟩
     ·exact .inl ((how k (by rw [k1];exact fun e=>by cases e)).trans k1)
     ·exact .inr (.inl ⟨r',cs,k,q1,k1,k2,rfl,k3⟩)
     ·have hlt:=cn k1
      by_cases ea : a0=a'
      ·subst ea
       rw [hA] at k1;cases k1
       refine .inr (.inr ⟨a0,_,k,c1,by simp only;rw [hnew,if_pos (by omega),aS,if_pos rfl,if_pos hlen],hq.arr _ _ k2,rfl,?_⟩)
       simp only
       rw [hxd]
       rw [e2] at k3
       simpa using k3
      ·exact .inr (.inr ⟨a',A',k,c1,by simp only;rw [hnew,if_pos (by omega),aS,if_neg ea];exact k1,hq.arr _ _ k2,rfl,k3⟩)
   | _=>rw [hd] at hO;cases hO
  ·cases h
 ·cases h
theorem o6 {a0 : Nat} {i : X} {o : Nat} {k : St→Tree} (R : Rep B E p g s a as w) (h : (o7 a0 i o s k).den Γ Q E J) : ∃ s' q,p.Le q∧Rep B E q g s' a as w∧rO E p s.h q s'.h w.heap.size∧s'.nx=s.nx∧s'.fn=s.fn∧(k s').den Γ Q E J:=by
 unfold o7 at h
 split at h
 ·rename_i ns s' ho
  obtain ⟨hn,h⟩:=cC R.known h
  obtain ⟨q,h1,h2,h3,h4,h5,h6⟩:=yX R ho hn
  refine ⟨{ s' with known:=df s.known ns},q,h1,?_,h3,h4,h5,h⟩
  have:=h2.df hn
  rw [h6] at this
  exact this
 ·exact h.elim
theorem jm : ∀ {l : List (Pc Ar)} {k a0 j e b : Nat} {i n : X},dK k l=some (a0,j,e,i,b,n)→∃ A,k≤a0∧nth l (a0 - k)=some (.here A)∧jY 0 A.K.kd=[(j,e)]∧pt j A.x=some (i,b,n)
 | [],_,_,_,_,_,_,_,h=>by simp [dK] at h
 | x :: l,k,a0,j,e,b,i,n,h=>by
  have rest : dK (k + 1) l=some (a0,j,e,i,b,n)→∃ A,k≤a0∧nth (x :: l) (a0 - k)=some (.here A)∧jY 0 A.K.kd=[(j,e)]∧pt j A.x=some (i,b,n):=fun h=>by
   obtain ⟨A,h1,h2,h3⟩:=jm h
   exact ⟨A,by omega,by rw [show a0 - k=(a0 - (k + 1)) + 1 from by omega];exact h2,h3⟩
  cases x with
  | here A =>
   simp only [dK] at h
   split at h
   ·rename_i j' e' hat
    split at h
    ·rename_i i' b' n' hh
     simp only [Option.some.injEq,Prod.mk.injEq] at h
     obtain ⟨rfl,rfl,rfl,rfl,rfl,rfl⟩:=h
     exact ⟨A,Nat.le_refl _,by rw [Nat.sub_self];rfl,hat,hh⟩
    ·exact rest h
   ·exact rest h
  | fr=>exact rest h
  | go=>exact rest h
theorem yg {a0 j e b : Nat} {i n : X} {ns : List X} {s' : St} (R : Rep B E p g s a as w) (hf : dK 0 s.h.arrs=some (a0,j,e,i,b,n)) (h : wA a0 j e i b n s=some (ns,s')) (hn : ∀ b∈ns,(b.den E).bool=true) :
  ∃ q,p.Le q∧Rep B E q g s' a as w∧s'.nx=s.nx∧s'.fn=s.fn∧s'.known=s.known:=by
 obtain ⟨A,_,hA,hat,hh⟩:=jm hf
 rw [Nat.sub_zero] at hA
 unfold wA at h
 split at h
 ·rename_i A' S hA' hS
  rw [hA] at hA';cases hA'
  split at h
  ·rename_i hc
   cases h
   simp only [Bool.and_eq_true,Bool.not_eq_true'] at hc
   obtain ⟨⟨hc1,hc2⟩,hc3⟩:=hc
   have hSK:=SK.av hc1
   have hSe:=Nat.eq_of_beq_eq_true hc2
   have hab : a0≠b:=fun e=>by rw [e,Nat.beq_refl] at hc3;cases hc3
   obtain ⟨_,hkd,_⟩:=gY hat
   rw [Nat.sub_zero] at hkd
   have H:=R.mem
   have hlen:=cn hA
   obtain ⟨ad0,cap0,rows,e1,e2,e3,e4,e5,e6,e7,e8⟩:=(H.arr a0 A hA).ex
   obtain ⟨h0,h1⟩:=dN (ba A.x) (fun b hb=>hn b (List.mem_append_left _ hb))
   rw [e2] at h1
   have h1 : (i.den E).int.toNat < rows.length:=h1
   have g1:=hn (mkLe (.int 0) (mkAdd (.int 0) n)) (by simp)
   have g2:=hn (mkLe (mkAdd (.int 0) n) (bn S.x)) (by simp)
   obtain ⟨ad,cap,srows,s1,s2,s3,s4,s5,s6,s7,s8⟩:=(H.arr b S hS).ex
   rw [bz] at g1 g2
   have g1:=of_decide_eq_true g1
   have g2:=of_decide_eq_true g2
   rw [eV] at g1 g2
   rw [ba,s2] at g2
   simp only [X.den,CD.aR,Int.zero_add,CD.ax] at g1 g2
   obtain ⟨m,hm⟩ : ∃ m : Nat,(n.den E).int=m:=⟨(n.den E).int.toNat,by omega⟩
   rw [hm] at g1 g2
   have hpos : 0 < cap0:=by omega
   obtain ⟨b0,cur0,t1,t2,t3,t4,t5,t6⟩:=e8 hpos
   subst t1
   have hrl : ∀ row,row∈rows→j < row.length:=fun row hr=>by
    obtain ⟨t,ht⟩:=List.getElem?_of_mem hr
    rw [(t6 t row ht).length]
    exact (List.getElem?_eq_some_iff.1 hkd).1
   obtain ⟨row,d1,d2,d3⟩:=vb hh e2 hrl h1
   obtain ⟨i0,hi0⟩ : ∃ i0,(i.den E).int.toNat=i0:=⟨_,rfl⟩
   rw [hi0] at d1 d3 h1
   rw [hm,Int.toNat_natCast] at d2
   have hjl:=(List.getElem?_eq_some_iff.1 hkd).1
   obtain ⟨v,hv⟩ : ∃ v,w.cell? ⟨b0,i0 * A.K.kd.length + j,none⟩=some v:=by
    obtain ⟨v,q1,_⟩:=(t6 i0 row d1).cell hkd
    exact ⟨v,by simp [World.cell?,t3,q1]⟩
   have hN:=(H.arr a0 A hA).ns j e b0 cap0 rows hkd e1 e2 i0 row v d1 hv
   rw [d2] at hN
   obtain ⟨ad',cap',n1,n2,n3⟩:=hN
   rw [s1] at n1;cases n1
   have hd : (X.own (dc (mkAdd (.int 0) n) S.x)).den E=.o (srows.take m):=by
    simp only [X.den,db s2,eV,hm,CD.aR,CD.ax,Int.zero_add,Int.toNat_natCast]
   have hxd:=d3 (.own (dc (mkAdd (.int 0) n) S.x))
   rw [hd] at hxd
   open Classical in
   let q : Pl:={ p with ow:=fun k=>if p.ow k=.arr b then .nst a0 i0 j else p.ow k}
   have hq : p.Le q:=⟨fun _ _ h=>h,fun _ _ h=>h,fun _ _ h=>h⟩
   have how : ∀ k,p.ow k≠.arr b→q.ow k=p.ow k:=fun k hk=>if_neg hk
   have T : cd (fun _ _=>False) w w:=cd.refl _ _
   have hml : (srows.take m).length=m:=by rw [List.length_take];omega
   refine ⟨q,hq,⟨⟨H.fr,H.g0,H.g1,fun k o' v' hk=>⟨(H.gg k o' v' hk).1,?_⟩,fun r' cs hr=>?_,H.rfree,fun a' A' ha'=>?_,fun j' hj'=>H.afree j' (ji (wo hj')),H.mm.cU T rfl fun a' b' g1 g2 g3 g4=>?_,fun k a' hk=>?_⟩,R.frame.le hq (Gm.Le.refl _),R.stk.mono fun _ _ h=>h.le hq (Gm.Le.refl _),R.known,fun j x hx=>hq.reg _ _ (R.fa j x hx)⟩,rfl,rfl,rfl⟩
   ·have:=(H.gg k o' v' hk).2
    rw [how k (by rw [this];exact fun e=>by cases e)];exact this
   ·refine (H.reg r' cs hr).cU T (fun _ _ _ _ _ h=>h) hq (Gm.Le.refl _) fun b' q' g1=>?_
    have:=(H.reg r' cs hr).own g1
    rw [how b' (by rw [this];exact fun e=>by cases e)];exact this
   ·rw [aS] at ha'
    split at ha'
    ·split at ha' <;> cases ha'
    ·rename_i hba
     rw [aS] at ha'
     split at ha'
     ·rename_i ea
      subst ea
      cases ha'
      refine (H.arr a0 A hA).yR e2 hkd hxd hq (fun b' _ ho=>(how b' (by rw [ho];exact fun e=>by cases e;exact hab rfl)).trans ho) (fun b' i' j' _ ho hne=>(how b' (by rw [ho];exact fun e=>by cases e)).trans ho) fun b' c' v' g3 g4=>?_
      rw [e1] at g3;cases g3
      rw [hv] at g4;cases g4
      have hnum : wI (srows.take m):=by
       refine ⟨?_,fun row' hr'=>?_⟩
       ·rw [hml]
        rw [hSK] at s5
        exact Nat.le_trans (Nat.mul_le_mul_right _ (by omega)) s5
       ·obtain ⟨t,ht⟩:=List.getElem?_of_mem (List.mem_of_mem_take hr')
        obtain ⟨b',cur,m1,m2,m3,m4,m5,m6⟩:=s8 (by have:=(List.getElem?_eq_some_iff.1 ht).1;omega)
        have:=m6 t row' ht
        rw [hSK] at this
        match row',this with
        | [d],⟨⟨v,_,k2⟩,_⟩ =>
         simp only [Rd] at k2
         obtain ⟨n,_,rfl⟩:=k2
         exact ⟨n,rfl⟩
        | [],h=>exact h.elim
        | _ :: _ :: _,h=>exact h.2.elim
      refine ⟨⟨⟨ad,cap,by rw [hml];exact n3⟩,hnum⟩,ad,cap,by rw [hml];exact n3,by rw [hml];exact n2,s4,?_,by rw [← hSK];exact s6,by rw [← hSK];exact s7,fun hc=>?_⟩
      ·rw [hml]
       rw [hSK] at s5
       exact Nat.le_trans (Nat.mul_le_mul_right _ (by omega)) s5
      ·obtain ⟨b',cur,m1,m2,m3,m4,m5,m6⟩:=s8 hc
       refine ⟨b',cur,m1,if_pos m2,by rw [← hSe];exact m3,by rw [← hSK];exact m4,m5,fun t rw' ht=>?_⟩
       rw [List.getElem?_take] at ht
       split at ht
       ·have:=m6 t rw' ht
        rw [hSK] at this
        exact this
       ·cases ht
     ·rename_i ea
      refine (H.arr a' A' ha').cU T (fun _ _ _ _ h=>h) hq (Gm.Le.refl _) fun b' _ ho=>how b' fun e=>?_
      rw [e] at ho
      exact hba ho
   ·rw [how b' (by rw [g2];exact fun e=>by cases e)];exact g2
   ·have hk : (if p.ow k=.arr b then Ow.nst a0 i0 j else p.ow k).ofA a':=hk
    split at hk
    ·rename_i ho;exact H.nz k b (by rw [ho];rfl)
    ·exact H.nz k a' hk
  ·cases h
 ·cases h
theorem zQ {b : Nat} {s' : St} (h : tJ b s=some s') : s'.h.arrs=bl s.h.arrs b .go:=by
 unfold tJ at h
 split at h
 ·split at h
  ·cases h;rfl
  ·cases h
 ·cases h
theorem zy {a0 j e b : Nat} {i n : X} {s' : St} (R : Rep B E p g s a as w) (hf : dK 0 s.h.arrs=some (a0,j,e,i,b,n)) (h : zA a0 j e b n s=some s') (hn : ∀ c∈K2 a0 b i n s,(c.den E).bool=true) :
  ∃ q g',Rep B E q g' s' a as w∧s'.nx=s.nx∧s'.fn=s.fn:=by
 obtain ⟨A,_,hA,hat,hh⟩:=jm hf
 rw [Nat.sub_zero] at hA
 unfold zA at h
 split at h
 ·rename_i A' S hA' hS
  rw [hA] at hA';cases hA'
  split at h
  ·rename_i hc
   split at h
   ·rename_i s1 hs1
    cases h
    have hn : ∀ c∈dF i (bn A.x) ++ [mkLe (.int 0) (mkAdd (.int 0) n),mkLe (mkAdd (.int 0) n) (bn S.x)],(c.den E).bool=true:=by
     unfold K2 at hn
     rw [hA,hS] at hn
     exact hn
    simp only [Bool.and_eq_true,Bool.not_eq_true'] at hc
    obtain ⟨⟨hc1,hc2⟩,hc3⟩:=hc
    have hSK:=SK.av hc1
    have hab : a0≠b:=fun e=>by rw [e,Nat.beq_refl] at hc3;cases hc3
    obtain ⟨_,hkd,_⟩:=gY hat
    rw [Nat.sub_zero] at hkd
    have H:=R.mem
    obtain ⟨ad0,cap0,rows,e1,e2,e3,e4,e5,e6,e7,e8⟩:=(H.arr a0 A hA).ex
    obtain ⟨h0,h1⟩:=dN (ba A.x) (fun b hb=>hn b (List.mem_append_left _ hb))
    rw [e2] at h1
    have h1 : (i.den E).int.toNat < rows.length:=h1
    have g1:=hn (mkLe (.int 0) (mkAdd (.int 0) n)) (by simp)
    have g2:=hn (mkLe (mkAdd (.int 0) n) (bn S.x)) (by simp)
    obtain ⟨ad,cap,srows,s1',s2,s3,s4,s5,s6,s7,s8⟩:=(H.arr b S hS).ex
    rw [bz] at g1 g2
    have g1:=of_decide_eq_true g1
    have g2:=of_decide_eq_true g2
    rw [eV] at g1 g2
    rw [ba,s2] at g2
    simp only [X.den,CD.aR,Int.zero_add,CD.ax] at g1 g2
    obtain ⟨m,hm⟩ : ∃ m : Nat,(n.den E).int=m:=⟨(n.den E).int.toNat,by omega⟩
    rw [hm] at g1 g2
    have hpos : 0 < cap0:=by omega
    obtain ⟨b0,cur0,t1,t2,t3,t4,t5,t6⟩:=e8 hpos
    subst t1
    have hrl : ∀ row,row∈rows→j < row.length:=fun row hr=>by
     obtain ⟨t,ht⟩:=List.getElem?_of_mem hr
     rw [(t6 t row ht).length]
     exact (List.getElem?_eq_some_iff.1 hkd).1
    obtain ⟨row,d1,d2,d3⟩:=vb hh e2 hrl h1
    obtain ⟨i0,hi0⟩ : ∃ i0,(i.den E).int.toNat=i0:=⟨_,rfl⟩
    rw [hi0] at d1 d3 h1
    rw [hm,Int.toNat_natCast] at d2
    obtain ⟨v,hv⟩ : ∃ v,w.cell? ⟨b0,i0 * A.K.kd.length + j,none⟩=some v:=by
     obtain ⟨v,q1,_⟩:=(t6 i0 row d1).cell hkd
     exact ⟨v,by simp [World.cell?,t3,q1]⟩
    have hN:=(H.arr a0 A hA).ns j e b0 cap0 rows hkd e1 e2 i0 row v d1 hv
    rw [d2] at hN
    obtain ⟨ad',cap',n1,n2,n3⟩:=hN
    rw [s1'] at n1;cases n1
    have hd : (dc (mkAdd (.int 0) n) S.x).den E=.l (srows.take m):=by
     simp only [db s2,eV,hm,CD.aR,X.den,Int.zero_add,Int.toNat_natCast]
    have hxd:=d3 (dc (mkAdd (.int 0) n) S.x)
    rw [hd] at hxd
    have hml : (srows.take m).length=m:=by rw [List.length_take];omega
    obtain ⟨q,g',k1,k2,R1,_,k3,k4,k5⟩:=tI R hs1
    have harr:=zQ hs1
    have hA1 : nth s1.h.arrs a0=some (.here A):=by rw [harr,aS,if_neg (fun e=>hab e.symm)];exact hA
    have H1:=R1.mem
    refine ⟨q,g',⟨⟨H1.fr,H1.g0,H1.g1,H1.gg,H1.reg,H1.rfree,fun a' A' ha'=>?_,fun j' hj'=>H1.afree j' (ji hj'),H1.mm,H1.nz⟩,R1.frame,R1.stk,R1.known,R1.fa⟩,k3,k4⟩
    rw [aS] at ha'
    split at ha'
    ·rename_i ea
     subst ea
     split at ha'
     ·cases ha'
      refine (H1.arr a0 A hA1).yR e2 hkd hxd (Pl.Le.refl _) (fun _ _ h=>h) (fun _ _ _ _ h _=>h) fun b' c' v' g3 g4=>?_
      rw [k1.arr _ _ e1] at g3;cases g3
      rw [hv] at g4;cases g4
      refine ⟨⟨ad,cap,by rw [hml];exact n3,by rw [hml];exact n2,s4,?_,fun hl=>?_⟩,trivial⟩
      ·rw [hml]
       rw [hSK] at s5
       exact Nat.le_trans (Nat.mul_le_mul_right _ (by omega)) s5
      ·rw [hml] at hl
       obtain ⟨bb,m1,m2⟩:=k5 S ad cap srows hS s1' s2 (by omega)
       refine ⟨bb,0,m1,fun t rw' ht=>?_⟩
       rw [List.getElem?_take] at ht
       split at ht
       ·have:=m2 t rw' ht
        rw [hSK] at this
        have this : aJ g' [.int .i64] (fun j=>g' bb (t * 1 + j)) rw':=this
        match rw',this with
        | [d],⟨⟨v,c1,c2⟩,_⟩ =>
         simp only [Rd] at c2
         obtain ⟨n,rfl,rfl⟩:=c2
         refine ⟨n,rfl,?_⟩
         have c1 : g' bb (t * 1 + 0)=some (.int .i64 n):=c1
         rw [Nat.zero_add]
         rw [Nat.mul_one,Nat.add_zero] at c1
         exact c1
        | [],h=>exact h.elim
        | _ :: _ :: _,h=>exact h.2.elim
       ·cases ht
     ·cases ha'
    ·exact H1.arr a' A' ha'
   ·cases h
  ·cases h
 ·cases h
theorem gv : ∀ {l : List Nat} {s : St} {p : Pl} {g : Gm} {k : St→Tree},Rep B E p g s a as w→(je l s k).den Γ Q E J→∃ s' q g',Rep B E q g' s' a as w∧s'.nx=s.nx∧s'.fn=s.fn∧(k s').den Γ Q E J
 | [],s,p,g,k,R,h=>⟨s,p,g,R,rfl,rfl,h⟩
 | b :: l,s,p,g,k,R,h=>by
  simp only [je] at h
  split at h
  ·rename_i a0 j e i c n hf
   split at h
   ·rename_i hbc
    have hbc:=Nat.eq_of_beq_eq_true hbc
    subst hbc
    obtain ⟨hn,h⟩:=cC R.known h
    split at h
    ·rename_i t ht
     obtain ⟨q,g',h1,h2,h3⟩:=zy (R.df hn) hf ht hn
     obtain ⟨s2,q2,g2,c1,c2,c3,c4⟩:=gv h1 h
     exact ⟨s2,q2,g2,c1,c2.trans h2,c3.trans h3,c4⟩
    ·exact h.elim
   ·exact gv R h
  ·exact gv R h
theorem fD : ∀ {m : Nat} {s : St} {p : Pl} {k : St→Tree},Rep B E p g s a as w→(fV m s k).den Γ Q E J→∃ s' q,p.Le q∧Rep B E q g s' a as w∧s'.nx=s.nx∧s'.fn=s.fn∧(k s').den Γ Q E J
 | 0,s,p,k,R,h=>⟨s,p,Pl.Le.refl _,R,rfl,rfl,h⟩
 | m + 1,s,p,k,R,h=>by
  simp only [fV] at h
  split at h
  ·exact ⟨s,p,Pl.Le.refl _,R,rfl,rfl,h⟩
  ·rename_i a0 j e i b n hf
   split at h
   ·rename_i ns s1 hc
    obtain ⟨hn,h⟩:=cC R.known h
    obtain ⟨q,h1,h2,h3,h4,h5⟩:=yg R hf hc hn
    have h2:=h2.df hn
    rw [h5] at h2
    obtain ⟨s2,q2,k1,k2,k3,k4,k5⟩:=fD h2 h
    exact ⟨s2,q2,h1.trans k1,k2,k3.trans h3,k4.trans h4,k5⟩
   ·exact h.elim
end
end Go.Sy
