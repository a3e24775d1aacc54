import Derived.Test.YtpmamacjepcdmaaSyRun
namespace Go.Sy
open Go.RowKit
def aE {α β : Type} (R : α→β→Prop) : List α→List β→Prop
 | [],[]=>True
 | a :: l,b :: m=>R a b∧aE R l m
 | _,_=>False
theorem aW {α : Type} : ∀ (l : List α) (i : Nat),nth l i=l[i]?
 | [],i=>by simp [nth]
 | a :: l,0=>by simp [nth]
 | a :: l,i + 1=>by simp [nth,aW l i]
theorem jT {α : Type} : ∀ (l : List α) (i : Nat) (b : α),bl l i b=l.set i b
 | [],i,b=>by simp [bl]
 | a :: l,0,b=>by simp [bl]
 | a :: l,i + 1,b=>by simp [bl,jT l i]
theorem cn {α : Type} {l : List α} {i : Nat} {a : α} (h : nth l i=some a) : i < l.length:=by
 rw [aW] at h;exact (List.getElem?_eq_some_iff.1 h).1
theorem cH {α : Type} {l : List α} {i : Nat} (h : i < l.length) : ∃ a,nth l i=some a:=⟨l[i],by rw [aW];exact List.getElem?_eq_getElem h⟩
theorem dt {α : Type} {l : List α} {i : Nat} (h : l.length≤i) : nth l i=none:=by rw [aW];exact List.getElem?_eq_none h
theorem cL {α : Type} (l : List α) (i : Nat) (b : α) : (bl l i b).length=l.length:=by rw [jT];simp
theorem aS {α : Type} (l : List α) (i j : Nat) (b : α) : nth (bl l i b) j=if i=j then (if i < l.length then some b else none) else nth l j:=by
 rw [jT,aW,aW,List.getElem?_set]
theorem eG {α : Type} (l m : List α) (i : Nat) : nth (l ++ m) i=if i < l.length then nth l i else nth m (i - l.length):=by
 simp only [aW,List.getElem?_append]
theorem xu {α : Type} (l : List α) (a : α) (i : Nat) : nth (l ++ [a]) i=if i < l.length then nth l i else if i=l.length then some a else none:=by
 rw [eG]
 split
 ·rfl
 ·split
  ·rename_i h;subst h;simp [nth]
  ·rename_i h1 h2
   have : i - l.length=(i - l.length - 1) + 1:=by omega
   rw [this];simp [nth]
theorem aE.length {α β : Type} {R : α→β→Prop} : ∀ {l : List α} {m : List β},aE R l m→l.length=m.length
 | [],[],_=>rfl
 | _ :: _,_ :: _,h=>by simp [aE.length h.2]
 | [],_ :: _,h=>h.elim
 | _ :: _,[],h=>h.elim
theorem aE.nth {α β : Type} {R : α→β→Prop} : ∀ {l : List α} {m : List β} {i : Nat} {a : α},aE R l m→nth l i=some a→∃ b,Sy.nth m i=some b∧R a b
 | [],_,_,_,_,e=>by simp [Sy.nth] at e
 | _ :: _,b :: m,0,a,h,e=>by simp [Sy.nth] at e;subst e;exact ⟨b,rfl,h.1⟩
 | _ :: _,_ :: m,i + 1,a,h,e=>by simp only [Sy.nth] at e ⊢;exact aE.nth h.2 e
 | _ :: _,[],_,_,h,_=>h.elim
theorem aE.of {α β : Type} {R : α→β→Prop} : ∀ {l : List α} {m : List β},l.length=m.length→(∀ i a b,Sy.nth l i=some a→Sy.nth m i=some b→R a b)→aE R l m
 | [],[],_,_=>trivial
 | a :: l,b :: m,h,f=>⟨f 0 a b rfl rfl,aE.of (by simpa using h) fun i x y hx hy=>f (i + 1) x y hx hy⟩
 | [],_ :: _,h,_=>by simp at h
 | _ :: _,[],h,_=>by simp at h
theorem aE.mono {α β : Type} {R S : α→β→Prop} : ∀ {l : List α} {m : List β},aE R l m→(∀ a b,R a b→S a b)→aE S l m
 | [],[],_,_=>trivial
 | _ :: _,_ :: _,h,f=>⟨f _ _ h.1,aE.mono h.2 f⟩
 | [],_ :: _,h,_=>h.elim
 | _ :: _,[],h,_=>h.elim
theorem aE.imp {α β : Type} {R S : α→β→Prop} : ∀ {l : List α} {m : List β},aE R l m→(∀ x∈l,∀ b,R x b→S x b)→aE S l m
 | [],[],_,_=>trivial
 | x :: _,_ :: _,h,f=>⟨f x (by simp) _ h.1,aE.imp h.2 fun y hy b=>f y (by simp [hy]) b⟩
 | [],_ :: _,h,_=>h.elim
 | _ :: _,[],h,_=>h.elim
theorem dZ {α : Type} {f : α→Bool} : ∀ {l : List α},dD f l=true→∀ x∈l,f x=true
 | [],_,_,hx=>by simp at hx
 | b :: l,h,x,hx=>by
  simp only [dD,Bool.and_eq_true] at h
  rcases List.mem_cons.1 hx with e | hx
  ·subst e;exact h.1
  ·exact dZ h.2 x hx
theorem AL {α : Type} {l : List α} {i : Nat} {x : α} (e : nth l i=some x) : x∈l:=by rw [aW] at e;exact List.mem_of_getElem? e
theorem eS {α : Type} {f : α→Bool} {l : List α} (h : dD f l=true) {i : Nat} {x : α} (e : nth l i=some x) : f x=true:=dZ h x (AL e)
theorem IS {α : Type} : ∀ (m l : List α) (o i : Nat),o + m.length≤l.length→nth (cq l o m) i=if o≤i∧i < o + m.length then nth m (i - o) else nth l i
 | [],l,o,i,_=>by
  cases l <;> simp only [cq] <;> rw [if_neg (by simp)]
 | c :: m,l,o,i,h=>by
  have hp : cq l o (c :: m)=cq (bl l o c) (o + 1) m:=by cases l <;> rfl
  simp only [List.length_cons] at h
  rw [hp,IS m (bl l o c) (o + 1) i (by rw [cL];omega),aS]
  by_cases h1 : i=o
  ·subst h1
   rw [if_neg (by omega),if_pos rfl,if_pos (by omega),if_pos (by simp)]
   simp [nth]
  ·by_cases h2 : o + 1≤i∧i < o + 1 + m.length
   ·rw [if_pos h2,if_pos (by simp;omega)]
    have : i - o=(i - (o + 1)) + 1:=by omega
    rw [this];rfl
   ·rw [if_neg h2,if_neg (by omega),if_neg (by simp;omega)]
theorem gq {α : Type} : ∀ (m l : List α) (o : Nat),(cq l o m).length=l.length
 | [],l,o=>by cases l <;> rfl
 | c :: m,l,o=>by
  have hp : cq l o (c :: m)=cq (bl l o c) (o + 1) m:=by cases l <;> rfl
  rw [hp,gq m,cL]
theorem ky {α : Type} {l m : List α} {o n : Nat} (h : ga l o n=some m) : m.length=n∧(0 < n→o + n≤l.length)∧∀ j,j < n→nth m j=nth l (o + j):=by
 simp only [ga] at h
 split at h
 ·rename_i hl
  cases h
  have hl:=Nat.eq_of_beq_eq_true hl
  refine ⟨hl,fun hn=>?_,fun j hj=>?_⟩
  ·rw [List.length_take,List.length_drop] at hl
   omega
  ·rw [aW,aW,List.getElem?_take,if_pos hj,List.getElem?_drop]
 ·cases h
theorem Df {α : Type} (l : List α) (o j : Nat) : nth (l.drop o) j=nth l (o + j):=by rw [aW,aW,List.getElem?_drop]
theorem De {α : Type} (l : List α) (o j : Nat) : nth (l.take o) j=if j < o then nth l j else none:=by rw [aW,aW,List.getElem?_take]
theorem et (b o k : Nat) : (⟨b,o,none⟩ : Addr).add k=⟨b,o + k,none⟩:=by
 unfold Addr.add;split
 ·rename_i h;subst h;rfl
 ·rfl
def SC.is (E : Env) (p : Pl) (g : Gm) : SC→Value→Prop
 | .any,_=>True
 | .undef,v=>v=Go.undef
 | .int k x,v=>∃ n,x.den E=.i n∧v=.int k n
 | .bool x,v=>∃ b,x.den E=.b b∧v=.bool b
 | .str x,v=>∃ s : ByteArray,x.den E=.s s.data.toList∧v=.string s
 | .fz K x,v=>Rd g (.sl K.by_ K.kd) v (x.den E)
 | .fp K x i o,v=>∃ (b q n : Nat) (row : List CD),v=.pointer (some ⟨b,q,none⟩)∧i.den E=.i n∧(x.den E).rows[n]?=some row∧row.length=K.kd.length∧aJ g (K.kd.drop o) (fun j=>g b (q + j)) (row.drop o)
 | .sl a n,v=>∃ (A : Option Addr) (c m : Nat),p.arr a=some (A,c)∧n.den E=.i m∧m≤c∧v=.slice A m c
 | .sub a z i n,v=>∃ (A : Option Addr) (c k m : Nat),p.arr a=some (A,c)∧i.den E=.i k∧n.den E=.i m∧k + m≤c∧v=.slice (if c=k then A else A.map (·.add (k * z))) m (c - k)
 | .ep a z i o,v=>∃ b c n : Nat,p.arr a=some (some ⟨b,0,none⟩,c)∧i.den E=.i n∧v=.pointer (some ⟨b,n * z + o,none⟩)
 | .loc r o,v=>∃ b q,p.reg r=some (b,q)∧v=.pointer (some ⟨b,q + o,none⟩)
 | .nilsl,v=>v=.slice none 0 0
 | .z0,v=>∃ A,v=.slice A 0 0
 | .nilp,v=>v=.pointer none
 | .nilmap,v=>v=.map none
 | .mp a,v=>∃ b,p.mp a=some b∧v=.map (some b)
 | .fn f caps,v=>∃ vs : List Value,v=.func (.func f) #[] vs.toArray∧aE (fun (x : Nat × Nat) u=>∃ b q,p.reg x.1=some (b,q)∧u=.pointer (some ⟨b,q + x.2,none⟩)) caps vs
def SV.is (E : Env) (p : Pl) (g : Gm) (x : SV) (v : Value) : Prop:=match x with
 | .one c=>c.is E p g v
 | .agg l=>∃ vs : List Value,v=.agg vs.toArray∧aE (SC.is E p g) l vs
def SR.is (E : Env) (p : Pl) (g : Gm) (x : SR) (v : Value) : Prop:=match x with
 | .v x=>x.is E p g v
 | .tup l=>∃ vs : List Value,v=.tuple vs.toArray∧aE (SV.is E p g) l vs
theorem yA.mono {g g' : Gm} (h : g.Le g') {v : Value} {d : CD} (hr : yA g v d) : yA g' v d:=by
 cases d with
 | l rows =>
  obtain ⟨A,c,e,h1,h2,h3,h4⟩:=hr
  refine ⟨A,c,e,h1,h2,h3,fun h0=>?_⟩
  obtain ⟨b,q,e2,h5⟩:=h4 h0
  refine ⟨b,q,e2,fun i row hi=>?_⟩
  obtain ⟨k,e3,h6⟩:=h5 i row hi
  exact ⟨k,e3,h _ _ _ h6⟩
 | _=>exact hr
mutual
theorem Rd.mono {g g' : Gm} (h : g.Le g') : ∀ (k : Kd) (v : Value) (d : CD),Rd g k v d→Rd g' k v d
 | .int _,_,_,hr=>hr
 | .bool,_,_,hr=>hr
 | .str,_,_,hr=>hr
 | .os _,v,d,hr=>yA.mono h hr
 | .sl by_ kd,v,d,hr=>by
  simp only [Rd] at hr ⊢
  obtain ⟨A,n,c,rows,e1,e2,e3,h1,h2,h3,h4⟩:=hr
  refine ⟨A,n,c,rows,e1,e2,e3,h1,h2,h3,fun hn=>?_⟩
  obtain ⟨b,q,e,hrow⟩:=h4 hn
  exact ⟨b,q,e,fun i row hi=>aJ.mono h kd _ _ row (fun j v hv=>h _ _ _ hv) (hrow i row hi)⟩
theorem aJ.mono {g g' : Gm} (h : g.Le g') : ∀ (kd : List Kd) (f f' : Nat→Option Value) (row : List CD),(∀ j v,f j=some v→f' j=some v)→aJ g kd f row→aJ g' kd f' row
 | [],_,_,[],_,_=>trivial
 | k :: ks,f,f',d :: ds,hf,⟨⟨v,hv,hr⟩,hrest⟩=>⟨⟨v,hf 0 v hv,Rd.mono h k v d hr⟩,aJ.mono h ks (fun j=>f (j + 1)) (fun j=>f' (j + 1)) ds (fun j v hv=>hf (j + 1) v hv) hrest⟩
 | [],_,_,_ :: _,_,hr=>hr.elim
 | _ :: _,_,_,[],_,hr=>hr.elim
end
theorem aJ.length {g : Gm} : ∀ {kd : List Kd} {f : Nat→Option Value} {row : List CD},aJ g kd f row→row.length=kd.length
 | [],_,[],_=>rfl
 | _ :: _,_,_ :: _,h=>by simp only [List.length_cons];rw [aJ.length h.2]
 | [],_,_ :: _,hr=>hr.elim
 | _ :: _,_,[],hr=>hr.elim
theorem aJ.cell {g : Gm} : ∀ {kd : List Kd} {f : Nat→Option Value} {row : List CD},aJ g kd f row→∀ {j : Nat} {k : Kd},kd[j]?=some k→∃ v,f j=some v∧Rd g k v (row.getD j .u)
 | k :: ks,f,d :: ds,h,0,_,e=>by
  simp only [List.getElem?_cons_zero,Option.some.injEq] at e
  subst e
  obtain ⟨⟨v,h1,h2⟩,_⟩:=h
  exact ⟨v,h1,by simpa using h2⟩
 | k :: ks,f,d :: ds,h,j + 1,k',e=>by
  obtain ⟨v,h1,h2⟩:=aJ.cell h.2 (j:=j) (k:=k') (by simpa using e)
  exact ⟨v,h1,by simpa using h2⟩
 | [],_,_,_,j,_,e=>by simp at e
 | _ :: _,_,[],h,_,_,_=>h.elim
theorem aJ.of {g : Gm} : ∀ {kd : List Kd} {f : Nat→Option Value} {row : List CD},row.length=kd.length→(∀ j k,kd[j]?=some k→∃ v,f j=some v∧Rd g k v (row.getD j .u))→aJ g kd f row
 | [],_,[],_,_=>trivial
 | k :: ks,f,d :: ds,hl,h=>⟨by
   obtain ⟨v,h1,h2⟩:=h 0 k rfl
   exact ⟨v,h1,by simpa using h2⟩,aJ.of (by simpa using hl) fun j k' e=>by
   obtain ⟨v,h1,h2⟩:=h (j + 1) k' (by simpa using e)
   exact ⟨v,h1,by simpa using h2⟩⟩
 | [],_,_ :: _,hl,_=>by simp at hl
 | _ :: _,_,[],hl,_=>by simp at hl
theorem aJ.drop {g : Gm} {kd : List Kd} {f : Nat→Option Value} {row : List CD} (h : aJ g kd f row) (o : Nat) : aJ g (kd.drop o) (fun j=>f (o + j)) (row.drop o):=by
 refine aJ.of (by simp [h.length]) fun j k e=>?_
 obtain ⟨v,h1,h2⟩:=h.cell (j:=o + j) (k:=k) (by rw [List.getElem?_drop] at e;exact e)
 refine ⟨v,h1,?_⟩
 simpa [List.getD_eq_getElem?_getD,List.getElem?_drop] using h2
theorem SC.is_le {E : Env} {p q : Pl} {g g' : Gm} (hp : p.Le q) (hg : g.Le g') {c : SC} {v : Value} (h : c.is E p g v) : c.is E q g' v:=by
 cases c with
 | fz K x=>exact Rd.mono hg _ _ _ h
 | fp K x i o =>
  obtain ⟨b,q',n,row,h1,h2,h3,h4,h5⟩:=h
  exact ⟨b,q',n,row,h1,h2,h3,h4,aJ.mono hg _ _ _ _ (fun j v hv=>hg _ _ _ hv) h5⟩
 | sl a n =>
  obtain ⟨A,c,m,h1,h2⟩:=h
  exact ⟨A,c,m,hp.arr _ _ h1,h2⟩
 | sub a z i n =>
  obtain ⟨A,c,k,m,h1,h2⟩:=h
  exact ⟨A,c,k,m,hp.arr _ _ h1,h2⟩
 | ep a z i o =>
  obtain ⟨b,c,n,h1,h2⟩:=h
  exact ⟨b,c,n,hp.arr _ _ h1,h2⟩
 | loc r o =>
  obtain ⟨b,q',h1,h2⟩:=h
  exact ⟨b,q',hp.reg _ _ h1,h2⟩
 | mp a =>
  obtain ⟨b,h1,h2⟩:=h
  exact ⟨b,hp.mp _ _ h1,h2⟩
 | fn f caps =>
  obtain ⟨vs,h1,h2⟩:=h
  exact ⟨vs,h1,h2.mono fun x u ⟨b,q',h3,h4⟩=>⟨b,q',hp.reg _ _ h3,h4⟩⟩
 | _=>exact h
theorem SV.is_le {E : Env} {p q : Pl} {g g' : Gm} (hp : p.Le q) (hg : g.Le g') {c : SV} {v : Value} (h : c.is E p g v) : c.is E q g' v:=by
 cases c with
 | one c=>exact SC.is_le hp hg h
 | agg l=>obtain ⟨vs,e,hv⟩:=h;exact ⟨vs,e,hv.mono fun _ _=>SC.is_le hp hg⟩
theorem SR.is_le {E : Env} {p q : Pl} {g g' : Gm} (hp : p.Le q) (hg : g.Le g') {c : SR} {v : Value} (h : c.is E p g v) : c.is E q g' v:=by
 cases c with
 | v c=>exact SV.is_le hp hg h
 | tup l=>obtain ⟨vs,e,hv⟩:=h;exact ⟨vs,e,hv.mono fun _ _=>SV.is_le hp hg⟩
theorem SC.fA {E F : Env} {n : Nat} (hE : E.bW n F) {p : Pl} {g : Gm} {c : SC} {v : Value} (u : c.under n=true) (h : c.is E p g v) : c.is F p g v:=by
 cases c <;> simp only [SC.under,Bool.and_eq_true] at u <;> simp only [SC.is] at h ⊢ <;> first
  | exact h
  | (rw [← X.dM hE u];exact h)
  | (rw [← X.dM hE u.1,← X.dM hE u.2];exact h)
theorem SV.fA {E F : Env} {n : Nat} (hE : E.bW n F) {p : Pl} {g : Gm} {c : SV} {v : Value} (u : c.under n=true) (h : c.is E p g v) : c.is F p g v:=by
 cases c with
 | one c=>exact SC.fA hE u h
 | agg l=>obtain ⟨vs,e,hv⟩:=h;exact ⟨vs,e,hv.imp fun x hx b hb=>SC.fA hE (dZ u x hx) hb⟩
theorem SR.fA {E F : Env} {n : Nat} (hE : E.bW n F) {p : Pl} {g : Gm} {c : SR} {v : Value} (u : c.under n=true) (h : c.is E p g v) : c.is F p g v:=by
 cases c with
 | v c=>exact SV.fA hE u h
 | tup l=>obtain ⟨vs,e,hv⟩:=h;exact ⟨vs,e,hv.imp fun x hx b hb=>SV.fA hE (dZ u x hx) hb⟩
def fE (m : Nat→Prop) (o o' : Obj) : Prop:=match o with
 | .cells c e f=>∃ c',o'=.cells c' e f∧c'.size=c.size∧∀ i,¬ m i→c'[i]?=c[i]?
 | o=>o'=o
theorem fE.refl (m : Nat→Prop) (o : Obj) : fE m o o:=by
 cases o <;> first | exact rfl | exact ⟨_,rfl,rfl,fun _ _=>rfl⟩
theorem fE.trans {m n : Nat→Prop} {a b c : Obj} (h : fE m a b) (k : fE n b c) : fE (fun i=>m i∨n i) a c:=by
 cases a with
 | cells ca e f =>
  obtain ⟨cb,rfl,h1,h2⟩:=h
  obtain ⟨cc,rfl,h3,h4⟩:=k
  exact ⟨cc,rfl,h3.trans h1,fun i hi=>(h4 i fun x=>hi (.inr x)).trans (h2 i fun x=>hi (.inl x))⟩
 | _=>simp only [fE] at h;subst h;simpa only [fE] using k
theorem fE.mono {m n : Nat→Prop} {a b : Obj} (h : fE m a b) (hm : ∀ i,m i→n i) : fE n a b:=by
 cases a with
 | cells ca e f =>
  obtain ⟨cb,rfl,h1,h2⟩:=h
  exact ⟨cb,rfl,h1,fun i hi=>h2 i fun x=>hi (hm i x)⟩
 | _=>exact h
theorem fE.none {m : Nat→Prop} {a b : Obj} (h : fE m a b) (hm : ∀ i,¬ m i) : b=a:=by
 cases a with
 | cells ca e f =>
  obtain ⟨cb,rfl,h1,h2⟩:=h
  congr 1
  exact Array.ext_getElem? fun i=>h2 i (hm i)
 | _=>exact h
structure cd (Mc : Nat→Nat→Prop) (w w' : World) : Prop where
 os : w'.os=w.os
 tape : w'.tape=w.tape
 output : w'.output=w.output
 size : w.heap.size≤w'.heap.size
 obj : ∀ k o,w.heap[k]?=some o→∃ o',w'.heap[k]?=some o'∧fE (Mc k) o o'
theorem lt_of_block {w : World} {k : Nat} {o : Obj} (h : w.heap[k]?=some o) : k < w.heap.size:=by
 rcases Nat.lt_or_ge k w.heap.size with hl | hg
 ·exact hl
 ·rw [Array.getElem?_eq_none hg] at h;cases h
theorem fW {w : World} {k : Nat} (h : k < w.heap.size) : ∃ o,w.heap[k]?=some o:=⟨w.heap[k],Array.getElem?_eq_getElem h⟩
theorem zq {w : World} {k i : Nat} {v : Value} (h : w.cell? ⟨k,i,none⟩=some v) : k < w.heap.size:=by
 cases hb : w.heap[k]? with
 | none=>simp [World.cell?,hb] at h
 | some o=>exact lt_of_block hb
section
variable {Mc Nc : Nat→Nat→Prop} {w w' w'' : World}
theorem cd.refl (Mc : Nat→Nat→Prop) (w : World) : cd Mc w w:=⟨rfl,rfl,rfl,Nat.le_refl _,fun _ o h=>⟨o,h,fE.refl _ _⟩⟩
theorem cd.trans (h : cd Mc w w') (k : cd Nc w' w'') : cd (fun b i=>Mc b i∨Nc b i) w w'' :=
 ⟨k.os.trans h.os,k.tape.trans h.tape,k.output.trans h.output,Nat.le_trans h.size k.size,fun b o hb=>by
  obtain ⟨o1,h1,h2⟩:=h.obj b o hb
  obtain ⟨o2,h3,h4⟩:=k.obj b o1 h1
  exact ⟨o2,h3,h2.trans h4⟩⟩
theorem cd.mono (h : cd Mc w w') (hm : ∀ k i,k < w.heap.size→Mc k i→Nc k i) : cd Nc w w' :=
 ⟨h.os,h.tape,h.output,h.size,fun k o hk=>by
  obtain ⟨o1,h1,h2⟩:=h.obj k o hk
  exact ⟨o1,h1,h2.mono fun i=>hm k i (lt_of_block hk)⟩⟩
theorem cd.IQ (h : Below w.heap.size w w') : cd Mc w w' :=
 ⟨h.os,h.tape,h.output,h.size,fun k o hk=>⟨o,(h.block k (lt_of_block hk)).trans hk,fE.refl _ _⟩⟩
theorem cd.below (h : cd Mc w w') (hm : ∀ k i,¬ Mc k i) : Below w.heap.size w w' :=
 ⟨h.os,h.tape,h.output,h.size,fun k hk=>by
  obtain ⟨o,ho⟩:=fW hk
  obtain ⟨o1,h1,h2⟩:=h.obj k o ho
  rw [h1,h2.none (hm k),ho]⟩
theorem cd.block (h : cd Mc w w') {k : Nat} {o : Obj} (hk : w.heap[k]?=some o) (hm : ∀ i,¬ Mc k i) : w'.heap[k]?=some o:=by
 obtain ⟨o1,h1,h2⟩:=h.obj k o hk
 rw [h1,h2.none hm]
theorem cd.cell (h : cd Mc w w') {k i : Nat} (hk : k < w.heap.size) (hm : ¬ Mc k i) : w'.cell? ⟨k,i,none⟩=w.cell? ⟨k,i,none⟩:=by
 obtain ⟨o,ho⟩:=fW hk
 obtain ⟨o1,h1,h2⟩:=h.obj k o ho
 cases o with
 | cells c e f =>
  obtain ⟨c',rfl,h3,h4⟩:=h2
  simp only [World.cell?,ho,h1]
  simpa using h4 i hm
 | _=>simp only [fE] at h2;subst h2;simp only [World.cell?,ho,h1]
theorem cd.isSome (h : cd Mc w w') {k i : Nat} (hk : (w.cell? ⟨k,i,none⟩).isSome=true) : (w'.cell? ⟨k,i,none⟩).isSome=true:=by
 cases hb : w.heap[k]? with
 | none=>simp [World.cell?,hb] at hk
 | some o =>
  obtain ⟨o1,h1,h2⟩:=h.obj k o hb
  cases o with
  | cells c e f =>
   obtain ⟨c',rfl,h3,h4⟩:=h2
   simp only [World.cell?,hb] at hk
   simp only [World.cell?,h1]
   simpa [h3] using hk
  | _=>simp [World.cell?,hb] at hk
theorem cd.frozen (h : cd Mc w w') {k : Nat} (hk : k < w.heap.size) (i : Nat) : w'.frozen? ⟨k,i,none⟩=w.frozen? ⟨k,i,none⟩:=by
 obtain ⟨o,ho⟩:=fW hk
 obtain ⟨o1,h1,h2⟩:=h.obj k o ho
 cases o with
 | cells c e f =>
  obtain ⟨c',rfl,h3,h4⟩:=h2
  simp only [World.frozen?,ho,h1]
 | _=>simp only [fE] at h2;subst h2;simp only [World.frozen?,ho,h1]
end
structure cT where
 w0 : World
 M : Nat→Nat→Prop
 g0 : Gm
 r0 : Nat→Option (Nat × Nat)
def cT.wr (B : cT) (k i : Nat) : Prop:=B.M k i∨B.w0.heap.size≤k
structure mS (B : cT) (E : Env) (p : Pl) (g : Gm) (r : Nat) (cs : List SC) (w : World) : Prop where
 ex : ∃ b q,p.reg r=some (b,q)∧p.ow b=.reg r∧b < w.heap.size∧∀ o c,nth cs o=some c →
  B.wr b (q + o)∧w.frozen? ⟨b,q + o,none⟩=false∧∃ v,w.cell? ⟨b,q + o,none⟩=some v∧c.is E p g v
def rF (B : cT) (p : Pl) (g : Gm) (o : Ow) (e : Nat) (K : SK) (ad : Option Addr) (cap : Nat) (rows : List (List CD)) (w : World) : Prop :=
 rows.length≤cap∧cap≤maxLen∧rows.length * K.by_≤B47∧0 < K.kd.length∧0 < K.by_ ∧
  (0 < cap→∃ b cur,ad=some ⟨b,0,none⟩∧p.ow b=o∧w.heap[b]?=some (.cells cur e (0,0))∧cur.size=cap * K.kd.length∧(∀ i,i < cur.size→B.wr b i) ∧
   ∀ i row,rows[i]?=some row→aJ g K.kd (fun j=>cur[i * K.kd.length + j]?) row)
def jG (B : cT) (p : Pl) (g : Gm) (a i j e : Nat) (w : World) (v : Value) : CD→Prop
 | .l _=>True
 | .o rows=>∃ ad cap,v=.slice ad rows.length cap∧rF B p g (.nst a i j) e wa ad cap rows w
 | .h s n=>∃ ad cap,p.arr s=some (ad,cap)∧n≤cap∧v=.slice ad n cap
 | _=>False
def NsOk (B : cT) (E : Env) (p : Pl) (g : Gm) (a : Nat) (A : Ar) (w : World) : Prop:=∀ (j e b c : Nat) (rows : List (List CD)),A.K.kd[j]?=some (.os e)→p.arr a=some (some ⟨b,0,none⟩,c)→A.x.den E=.l rows→∀ i row v,rows[i]?=some row→w.cell? ⟨b,i * A.K.kd.length + j,none⟩=some v→jG B p g a i j e w v (row.getD j .u)
structure nA (B : cT) (E : Env) (p : Pl) (g : Gm) (a : Nat) (A : Ar) (w : World) : Prop where
 ex : ∃ (ad : Option Addr) (cap : Nat) (rows : List (List CD)),p.arr a=some (ad,cap)∧A.x.den E=.l rows∧rows.length≤cap∧cap≤maxLen∧rows.length * A.K.by_≤B47∧0 < A.K.kd.length∧0 < A.K.by_ ∧
  (0 < cap→∃ b cur,ad=some ⟨b,0,none⟩∧p.ow b=.arr a∧w.heap[b]?=some (.cells cur A.e (0,0))∧cur.size=cap * A.K.kd.length∧(∀ i,i < cur.size→B.wr b i) ∧
   ∀ i row,rows[i]?=some row→aJ g A.K.kd (fun j=>cur[i * A.K.kd.length + j]?) row)
 ns : NsOk B E p g a A w
def vof (agg : Bool) (l : List Value) : Value:=if agg then .agg l.toArray else l.headD Go.undef
def cY : Kd→Value→CD→Prop
 | .int k,v,d=>∃ n,v=.int k n∧d=.i n
 | .bool,v,d=>∃ b,v=.bool b∧d=.b b
 | _,_,_=>False
def G9 : List Kd→List Value→List CD→Prop
 | [],[],[]=>True
 | k :: ks,v :: vs,d :: ds=>cY k v d∧G9 ks vs ds
 | _,_,_=>False
structure yG (kk : List Kd) (agg : Bool) (vk : Kd) (e : MapEntry) (x : List CD × CD) : Prop where
 key : ∃ vs,e.key=vof agg vs∧G9 kk vs x.1
 val : cY vk e.val x.2
def gQ (rows : List (List CD)) (k : List CD) (n : Nat) : Option CD:=(CD.find rows k n).map fun r=>r.getD n .u
def uf (kk : List Kd) (agg : Bool) (vk : Kd) (es : List MapEntry) (rows : List (List CD)) : Prop :=
 ∃ ents,aE (yG kk agg vk) es ents∧(∀ row∈rows,∃ vs,G9 (kk ++ [vk]) vs row)∧(∀ x∈ents,gQ rows x.1 kk.length=some x.2) ∧
  (∀ vs k,G9 kk vs k→(∀ x∈ents,x.1≠k)→gQ rows k kk.length=none)∧ents.Pairwise fun x y=>x.1≠y.1
def MpOk (B : cT) (E : Env) (p : Pl) (a : Nat) (M : Mp) (w : World) : Prop :=
 ∃ b es clock rows,p.mp a=some b∧p.ow b=.mp a∧B.w0.heap.size≤b∧w.heap[b]?=some (.map es clock)∧M.x.den E=.l rows∧uf M.kk M.agg M.vk es.toList rows
structure mT (B : cT) (E : Env) (p : Pl) (mps : List (Pc Mp)) (w : World) : Prop where
 at_ : ∀ a M,nth mps a=some (.here M)→MpOk B E p a M w
 free : ∀ a,mps.length≤a→p.mp a=none
structure bq (B : cT) (E : Env) (p : Pl) (g : Gm) (h : Hp) (w : World) : Prop where
 fr : cd B.M B.w0 w
 g0 : B.g0.Le g
 g1 : ∀ k o v,g k o=some v→B.g0 k o=some v∨B.wr k o
 gg : ∀ k o v,g k o=some v→w.cell? ⟨k,o,none⟩=some v∧p.ow k=.z
 reg : ∀ r cs,nth h.regs r=some (.here cs)→mS B E p g r cs w
 rfree : ∀ r,nth h.regs r=none∨nth h.regs r=some .fr→p.reg r=none
 arr : ∀ a A,nth h.arrs a=some (.here A)→nA B E p g a A w
 afree : ∀ a,nth h.arrs a=none∨nth h.arrs a=some .fr→p.arr a=none
 mm : mT B E p h.mps w
 nz : ∀ k a,(p.ow k).ofA a→k < w.heap.size
def Kn (E : Env) (p : Pl) (h : Hp) (k i : Nat) : Prop :=
 p.ow k=.z∨(∃ r cs b q,nth h.regs r=some (.here cs)∧p.reg r=some (b,q)∧k=b∧q≤i∧i < q + cs.length) ∨
  (∃ a A b c,nth h.arrs a=some (.here A)∧p.arr a=some (some ⟨b,0,none⟩,c)∧k=b∧i < (A.x.den E).rows.length * A.K.kd.length)
structure cA (E : Env) (p : Pl) (g : Gm) (tmps : List SR) (a : Act) : Prop where
 defers : a.defers=[]
 size : a.tmps.size=tmps.length
 tmp : ∀ i c,nth tmps i=some c→c.is E p g (a.tmps.getD i Go.undef)
structure Rep (B : cT) (E : Env) (p : Pl) (g : Gm) (s : St) (a : Act) (as : List Act) (w : World) : Prop where
 mem : bq B E p g s.h w
 frame : cA E p g s.tmps a
 stk : aE (cA E p g) s.stk as
 known : ∀ b∈s.known,(b.den E).bool=true
 fa : ∀ i x,B.r0 i=some x→p.reg i=some x
section
variable {B : cT} {E F : Env} {p q : Pl} {g g' : Gm} {h : Hp} {w w' : World} {Mc : Nat→Nat→Prop}
theorem cA.le {t : List SR} {a : Act} (h : cA E p g t a) (hp : p.Le q) (hg : g.Le g') : cA E q g' t a:=⟨h.defers,h.size,fun i c hc=>SR.is_le hp hg (h.tmp i c hc)⟩
theorem cA.jF {n : Nat} {t : List SR} {a : Act} (h : cA E p g t a) (hE : E.bW n F) (u : dD (SR.under n) t=true) : cA F p g t a:=⟨h.defers,h.size,fun i c hc=>SR.fA hE (eS u hc) (h.tmp i c hc)⟩
theorem mS.cU {r : Nat} {cs : List SC} (R : mS B E p g r cs w) (T : cd Mc w w') (hm : ∀ b q o,p.reg r=some (b,q)→o < cs.length→¬ Mc b (q + o)) (hp : p.Le q) (hg : g.Le g') (ho : ∀ b q',p.reg r=some (b,q')→q.ow b=.reg r) : mS B E q g' r cs w':=by
 obtain ⟨b,q',h1,h2,h3,h4⟩:=R.ex
 refine ⟨b,q',hp.reg _ _ h1,ho b q' h1,Nat.lt_of_lt_of_le h3 T.size,fun o c hc=>?_⟩
 obtain ⟨k1,k2,v,k3,k4⟩:=h4 o c hc
 exact ⟨k1,(T.frozen h3 _).trans k2,v,(T.cell h3 (hm b q' o h1 (cn hc))).trans k3,SC.is_le hp hg k4⟩
theorem rF.cU {o o' : Ow} {e : Nat} {K : SK} {ad : Option Addr} {cap : Nat} {rows : List (List CD)} (R : rF B p g o e K ad cap rows w) (T : cd Mc w w') (hm : ∀ b i,b < w.heap.size→p.ow b=o→¬ Mc b i) (hg : g.Le g') (ho : ∀ b,b < w.heap.size→p.ow b=o→q.ow b=o') : rF B q g' o' e K ad cap rows w':=by
 obtain ⟨h3,h4,h5,h6,h7,h8⟩:=R
 refine ⟨h3,h4,h5,h6,h7,fun hc=>?_⟩
 obtain ⟨b,cur,e,k1,k2,k3,k4,k5⟩:=h8 hc
 exact ⟨b,cur,e,ho b (lt_of_block k2) k1,T.block k2 fun i=>hm b i (lt_of_block k2) k1,k3,k4,fun i row hi=>aJ.mono hg _ _ _ _ (fun _ _ hv=>hv) (k5 i row hi)⟩
theorem jG.cU {a i j a' i' e : Nat} {v : Value} {d : CD} (R : jG B p g a i j e w v d) (T : cd Mc w w') (hm : ∀ b k,b < w.heap.size→p.ow b=.nst a i j→¬ Mc b k) (hp : p.Le q) (hg : g.Le g') (ho : ∀ b,b < w.heap.size→p.ow b=.nst a i j→q.ow b=.nst a' i' j) : jG B q g' a' i' j e w' v d:=by
 cases d with
 | o r =>
  obtain ⟨ad,cap,e1,e2⟩:=R
  exact ⟨ad,cap,e1,e2.cU T hm hg ho⟩
 | h s n =>
  obtain ⟨ad,cap,e1,e2⟩:=R
  exact ⟨ad,cap,hp.arr _ _ e1,e2⟩
 | l r=>trivial
 | _=>exact R.elim
theorem nA.AN {a : Nat} {A : Ar} (R : nA B E p g a A w) {b c : Nat} (h1 : p.arr a=some (some ⟨b,0,none⟩,c)) {rows : List (List CD)} (h2 : A.x.den E=.l rows) {i : Nat} {row : List CD} (hi : rows[i]?=some row) : b < w.heap.size∧p.ow b=.arr a∧0 < c:=by
 obtain ⟨ad,cap,rows',e1,e2,e3,e4,e5,e6,e7,e8⟩:=R.ex
 rw [h1] at e1;cases e1
 rw [h2] at e2;cases e2
 have:=(List.getElem?_eq_some_iff.1 hi).1
 obtain ⟨b',cur,f1,f2,f3,_⟩:=e8 (by omega)
 cases f1
 exact ⟨lt_of_block f3,f2,by omega⟩
theorem nA.cU {a : Nat} {A : Ar} (R : nA B E p g a A w) (T : cd Mc w w') (hm : ∀ b i,b < w.heap.size→(p.ow b).ofA a→¬ Mc b i) (hp : p.Le q) (hg : g.Le g') (ho : ∀ b,b < w.heap.size→(p.ow b).ofA a→q.ow b=p.ow b) : nA B E q g' a A w':=by
 refine ⟨?_,fun j e b c rows k1 k2 k3 i row v k4 k5=>?_⟩
 ·obtain ⟨ad,cap,rows,h1,h2,h3⟩:=R.ex
  exact ⟨ad,cap,rows,hp.arr _ _ h1,h2,rF.cU (o:=.arr a) (o':=.arr a) h3 T (fun b i hb hw=>hm b i hb (by rw [hw];rfl)) hg fun b hb hw=>(ho b hb (by rw [hw];rfl)).trans hw⟩
 ·have k2' : p.arr a=some (some ⟨b,0,none⟩,c):=by
   obtain ⟨ad,cap,rows,h1,_⟩:=R.ex
   rw [hp.arr _ _ h1] at k2
   rw [h1];exact k2
  obtain ⟨m1,m2,_⟩:=R.AN k2' k3 k4
  rw [T.cell m1 (hm b _ m1 (by rw [m2];rfl))] at k5
  exact (R.ns j e b c rows k1 k2' k3 i row v k4 k5).cU T (fun b i hb hw=>hm b i hb (by rw [hw];rfl)) hp hg fun b hb hw=>(ho b hb (by rw [hw];rfl)).trans hw
theorem mT.cU {mps : List (Pc Mp)} (H : mT B E p mps w) (T : cd Mc w w') (hq : q.mp=p.mp) (ho : ∀ a b,p.mp a=some b→p.ow b=.mp a→b < w.heap.size→(∀ c e f,w.heap[b]?≠some (.cells c e f))→q.ow b=.mp a) : mT B E q mps w':=by
 refine ⟨fun a M h=>?_,fun a h=>by rw [hq];exact H.free a h⟩
 obtain ⟨b,es,clock,rows,h1,h2,h3,h4,h5,h6⟩:=H.at_ a M h
 obtain ⟨o,e1,e2⟩:=T.obj b _ h4
 have e2 : o=.map es clock:=e2
 subst e2
 exact ⟨b,es,clock,rows,by rw [hq];exact h1,ho a b h1 h2 (lt_of_block h4) (fun c e f hx=>by rw [h4] at hx;cases hx),h3,e1,h5,h6⟩
theorem mT.fa {mps : List (Pc Mp)} (H : mT B E p mps w) (T : cd Mc w w') : mT B E p mps w':=H.cU T rfl fun _ _ _ h _ _=>h
theorem mT.jF {n : Nat} {mps : List (Pc Mp)} (H : mT B E p mps w) (hE : E.bW n F) (u : dD (Pc.all fun A=>A.x.under n) mps=true) : mT B F p mps w:=by
 refine ⟨fun a M h=>?_,H.free⟩
 obtain ⟨b,es,clock,rows,h1,h2,h3,h4,h5,h6⟩:=H.at_ a M h
 have hu : M.x.under n=true:=eS u h
 exact ⟨b,es,clock,rows,h1,h2,h3,h4,by rw [← X.dM hE hu];exact h5,h6⟩
theorem bq.tH (H : bq B E p g h w) {k o : Nat} {v : Value} (hk : g k o=some v) : k < w.heap.size:=zq (H.gg k o v hk).1
theorem bq.sc (H : bq B E p g h w) (T : cd Mc w w') (hM : ∀ k i,k < w.heap.size→Mc k i→B.wr k i) : cd B.M B.w0 w' :=
 (H.fr.trans (T.mono (Nc:=fun k i=>B.wr k i) hM)).mono fun k i hk hm=>by
  rcases hm with hm | hm | hm
  ·exact hm
  ·exact hm
  ·omega
theorem bq.K5 (H : bq B E p g h w) (T : cd Mc w w') (hM : ∀ k i,k < w.heap.size→Mc k i→p.ow k≠.z) {k o : Nat} {v : Value} (hk : g k o=some v) : w'.cell? ⟨k,o,none⟩=some v:=by
 obtain ⟨h1,h2⟩:=H.gg k o v hk
 exact (T.cell (H.tH hk) fun hm=>hM k o (H.tH hk) hm h2).trans h1
theorem bq.below (H : bq B E p g h w) (hb : Below w.heap.size w w') : bq B E p g h w':=by
 have T : cd (fun _ _=>False) w w':=cd.IQ hb
 exact ⟨H.sc T fun _ _ _ h=>h.elim,H.g0,H.g1,fun k o v hk=>⟨H.K5 T (fun _ _ _ h=>h.elim) hk,(H.gg k o v hk).2⟩,
  fun r cs hr=>(H.reg r cs hr).cU T (fun _ _ _ _ _ h=>h) (Pl.Le.refl _) (Gm.Le.refl _) fun b q' e=>by
   obtain ⟨b',q1,e1,e2,_⟩:=(H.reg r cs hr).ex
   rw [e] at e1;cases e1;exact e2,H.rfree,
  fun a A ha=>(H.arr a A ha).cU T (fun _ _ _ _ h=>h) (Pl.Le.refl _) (Gm.Le.refl _) fun _ _ _=>rfl,H.afree,H.mm.fa T,fun k a h=>Nat.lt_of_lt_of_le (H.nz k a h) T.size⟩
theorem mS.jF {n r : Nat} {cs : List SC} (R : mS B E p g r cs w) (hE : E.bW n F) (u : dD (SC.under n) cs=true) : mS B F p g r cs w:=by
 obtain ⟨b,q',h1,h2,h3,h4⟩:=R.ex
 refine ⟨b,q',h1,h2,h3,fun o c hc=>?_⟩
 obtain ⟨k1,k2,v,k3,k4⟩:=h4 o c hc
 exact ⟨k1,k2,v,k3,SC.fA hE (eS u hc) k4⟩
theorem nA.jF {n a : Nat} {A : Ar} (R : nA B E p g a A w) (hE : E.bW n F) (u : A.x.under n=true) : nA B F p g a A w:=by
 obtain ⟨⟨ad,cap,rows,h1,h2,h3⟩,h4⟩:=R
 exact ⟨⟨ad,cap,rows,h1,by rw [← X.dM hE u];exact h2,h3⟩,fun j e b c rows k1 k2 k3=>h4 j e b c rows k1 k2 (by rw [X.dM hE u];exact k3)⟩
theorem bq.jF {n : Nat} (H : bq B E p g h w) (hE : E.bW n F) (u : h.under n=true) : bq B F p g h w:=by
 simp only [Hp.under,Bool.and_eq_true] at u
 exact ⟨H.fr,H.g0,H.g1,H.gg,fun r cs hr=>(H.reg r cs hr).jF hE (eS u.1 hr),H.rfree,fun a A ha=>(H.arr a A ha).jF hE (eS u.2.1 ha),H.afree,H.mm.jF hE u.2.2,H.nz⟩
end
end Go.Sy

namespace Go.Sy
open Go.RowKit
section
variable {E : Env}
theorem jg (a b : Int) : mq a b=decide (a < b):=by
 cases a <;> cases b <;> simp only [mq,Int.ofNat_eq_natCast]
 ·rename_i m n
  rw [Bool.eq_iff_iff,Nat.blt_eq]
  simp
 ·rename_i m n
  symm;simp only [decide_eq_false_iff_not];omega
 ·rename_i m n
  symm;simp only [decide_eq_true_eq];omega
 ·rename_i m n
  rw [Bool.eq_iff_iff,Nat.blt_eq]
  simp only [decide_eq_true_eq]
  omega
theorem xJ (a b : Int) : nj a b=(a ==b):=by
 cases a <;> cases b <;> simp only [nj,Int.ofNat_eq_natCast]
 ·rename_i m n;rw [Bool.eq_iff_iff,Nat.beq_eq];simp only [beq_iff_eq];omega
 ·symm;simp
 ·symm;simp
 ·rename_i m n;rw [Bool.eq_iff_iff,Nat.beq_eq];simp
theorem wD (a b : Bool) : gC a b=(a ==b):=by cases a <;> cases b <;> rfl
theorem nS : ∀ (a b : List UInt8),bK mJ a b=(a ==b)
 | [],[]=>rfl
 | x :: l,[]=>by simp [bK]
 | [],y :: m=>by simp [bK]
 | x :: l,y :: m=>by
  have h:=nS l m
  simp only [bK,h,mJ]
  rw [Bool.eq_iff_iff]
  simp [UInt8.toNat_inj]
theorem neg_den (x : X) : ((neg x).den E).bool=!(x.den E).bool:=by cases x <;> simp [neg,mkNot,X.den]
theorem j9 (x : X) : (mkNot x).den E=.b (!(x.den E).bool):=by cases x <;> simp [mkNot,X.den]
theorem uT {x y : X} {a b : Bool} (hx : x.den E=.b a) (hy : y.den E=.b b) : (mkAnd x y).den E=.b (a && b):=by
 unfold mkAnd
 split
 ·simp only [X.den,CD.b.injEq] at hx;subst hx;simpa using hy
 ·simp only [X.den,CD.b.injEq] at hx;subst hx;simp [X.den]
 ·simp [X.den,hx,hy]
theorem kf : ∀ {x : X},isLen x=true→∃ n : Nat,x.den E=.i n
 | .len x,_=>⟨_,rfl⟩
 | .slen x,_=>⟨_,rfl⟩
 | .add x y,h=>by
  simp only [isLen,Bool.and_eq_true] at h
  obtain ⟨n,hn⟩:=kf h.1
  obtain ⟨m,hm⟩:=kf h.2
  exact ⟨n + m,by simp [X.den,hn,hm]⟩
 | .int (.ofNat n),_=>⟨n,rfl⟩
 | .int (.negSucc _),h=>by simp [isLen] at h
 | .bool _,h | .str _,h | .var _,h | .cell _ _ _,h | .sub _ _,h | .mul _ _,h | .tmod _ _,h | .tdiv _ _,h | .min _ _,h | .max _ _,h | .lt _ _,h | .le _ _,h | .eq _ _,h | .fit _,h
 | .beq _ _,h | .seq _ _,h | .not _,h | .and _ _,h | .or _ _,h | .nil,h | .row0,h | .cons _ _,h | .app _ _,h | .take _ _,h | .drop _ _,h | .set _ _ _ _,h | .rep _ _,h | .look _ _ _ _ _,h | .has _ _ _,h | .own _,h | .shut _,h | .isO _,h | .isL _,h | .ref _ _,h | .clean _ _,h | .shuts _ _,h=>by simp [isLen] at h
theorem sY (x y : X) : (mkLt x y).den E=.b (decide ((x.den E).int < (y.den E).int)):=by
 unfold mkLt
 split
 ·simp only [X.den,CD.aR,jg]
  exact congrArg CD.b (decide_eq_decide.2 Iff.rfl)
 ·split
  ·rename_i h;rw [X.av h];simp [X.den]
  ·rfl
theorem bz (x y : X) : (mkLe x y).den E=.b (decide ((x.den E).int≤(y.den E).int)):=by
 unfold mkLe
 split
 ·rename_i a b
  simp only [X.den,CD.aR,jg]
  congr 1
  by_cases hab : a≤b
  ·have : ¬ b < a:=by omega
   simp [hab]
  ·have : b < a:=by omega
   simp [hab,this]
 ·rename_i b _
  split
  ·rename_i h
   obtain ⟨n,hn⟩:=kf (E:=E) h
   simp [X.den,hn]
  ·simp [X.den]
 ·split
  ·rename_i h;rw [X.av h];simp [X.den]
  ·rfl
theorem ka (x y : X) : (mkEq x y).den E=.b ((x.den E).int ==(y.den E).int):=by
 unfold mkEq
 split
 ·simp only [X.den,CD.aR,xJ]
 ·split
  ·rename_i h;rw [X.av h];simp [X.den]
  ·rfl
theorem uS (x y : X) : (AR x y).den E=.b ((x.den E).bool ==(y.den E).bool):=by
 unfold AR
 split
 ·simp only [X.den,CD.gB,wD]
 ·split
  ·rename_i h;rw [X.av h];simp [X.den]
  ·rfl
theorem BX (x y : X) : (mkSeq x y).den E=.b ((x.den E).str ==(y.den E).str):=by
 unfold mkSeq
 split
 ·simp only [X.den,CD.str_s,nS]
 ·split
  ·rename_i h;rw [X.av h];simp [X.den]
  ·rfl
theorem BY (x y : X) : (AP x y).den E=.i (if (y.den E).int < (x.den E).int then (y.den E).int else (x.den E).int):=by
 unfold AP
 split
 ·simp only [X.den,CD.aR,jg,decide_eq_true_eq]
  congr
 ·rfl
theorem BZ (x y : X) : (AQ x y).den E=.i (if (x.den E).int < (y.den E).int then (y.den E).int else (x.den E).int):=by
 unfold AQ
 split
 ·simp only [X.den,CD.aR,jg,decide_eq_true_eq]
  congr
 ·rfl
theorem eV (x y : X) : (mkAdd x y).den E=.i ((x.den E).int + (y.den E).int):=by
 unfold mkAdd
 split
 ·simp [X.den]
 ·split
  ·rename_i h;obtain ⟨n,hn⟩:=kf (E:=E) h;simp [X.den,hn]
  ·simp [X.den]
 ·split
  ·rename_i h;obtain ⟨n,hn⟩:=kf (E:=E) h;simp [X.den,hn]
  ·simp [X.den]
 ·simp [X.den,Int.add_assoc]
 ·rfl
theorem ba : ∀ (x : X),(bn x).den E=.i (x.den E).rows.length
 | .set x i o d=>by simp [bn,ba x,X.den]
 | .nil=>rfl
 | .row0=>rfl
 | .cons _ _=>rfl
 | .app x y=>by simp [bn,eV,ba x,ba y,X.den]
 | .rep n r=>by
  simp only [bn]
  split
  ·simp [X.den]
  ·simp [X.den]
  ·rfl
 | .int _ | .bool _ | .str _ | .var _ | .cell _ _ _ | .len _ | .slen _ | .add _ _ | .sub _ _ | .mul _ _ | .tmod _ _ | .tdiv _ _ | .min _ _ | .max _ _ | .lt _ _ | .le _ _ | .eq _ _ | .fit _
 | .beq _ _ | .seq _ _ | .not _ | .and _ _ | .or _ _ | .take _ _ | .drop _ _ | .look _ _ _ _ _ | .has _ _ _ | .own _ | .shut _ | .isO _ | .isL _ | .ref _ _ | .clean _ _ | .shuts _ _=>rfl
theorem db {n x : X} {rows : List (List CD)} (hx : x.den E=.l rows) : (dc n x).den E=.l (rows.take (n.den E).int.toNat):=by
 unfold dc
 split
 ·rename_i h
  rw [X.av h,ba,hx]
  simp
 ·simp [X.den,hx]
theorem Ki {n x : X} {rows : List (List CD)} (hx : x.den E=.l rows) : (qj n x).den E=.l (rows.drop (n.den E).int.toNat):=by
 unfold qj
 split
 ·simp [X.den,hx]
 ·simp [X.den,hx]
theorem X.mem_of {b : X} : ∀ {l : List X},X.mem b l=true→b∈l
 | [],h=>by simp [X.mem] at h
 | c :: l,h=>by
  simp only [X.mem] at h
  split at h
  ·rename_i hs;rw [X.av hs];simp
  ·exact List.mem_cons_of_mem _ (X.mem_of h)
theorem zU {b c : X} (h : X.zV b c=true) (hc : (c.den E).bool=true) : (b.den E).bool=false:=by
 unfold X.zV at h
 split at h
 ·rename_i x n y k
  simp only [Bool.and_eq_true,Bool.or_eq_true,jg,decide_eq_true_eq] at h
  simp only [X.den,CD.gB,CD.aR,beq_iff_eq,beq_eq_false_iff_ne] at hc ⊢
  rw [X.av h.1];intro e;omega
 ·rename_i n x y k
  simp only [Bool.and_eq_true,Bool.not_eq_true',jg,decide_eq_false_iff_not] at h
  simp only [X.den,CD.gB,CD.aR,beq_iff_eq] at hc ⊢
  rw [X.av h.1];exact decide_eq_false (by omega)
 ·cases h
theorem tQ {b : X} : ∀ {known : List X},(∀ b∈known,(b.den E).bool=true)→X.tR b known=true→(b.den E).bool=false
 | [],_,h=>by cases h
 | c :: l,hk,h=>by
  unfold X.tR at h
  split at h
  ·rename_i hd;exact zU hd (hk c (by simp))
  ·exact tQ (fun b hb=>hk b (by simp [hb])) h
theorem gU {known : List X} (hk : ∀ b∈known,(b.den E).bool=true) : ∀ {b : X} {c : Bool},X.dec known b=some c→(b.den E).bool=c:=by
 have base : ∀ (b : X) (c : Bool),(if X.mem b known then some true else if X.mem (.not b) known then some false else none)=some c→(b.den E).bool=c:=fun b c h=>by
  split at h
  ·rename_i hm;cases h;exact hk _ (X.mem_of hm)
  ·split at h
   ·rename_i hm;cases h
    have:=hk _ (X.mem_of hm)
    simpa [X.den] using this
   ·cases h
 have base2 : ∀ (b : X) (c : Bool),(if X.mem b known then some true else if X.mem (.not b) known then some false else if X.tR b known then some false else none)=some c→(b.den E).bool=c:=fun b c h=>by
  split at h
  ·rename_i hm;cases h;exact hk _ (X.mem_of hm)
  ·split at h
   ·rename_i hm;cases h
    have:=hk _ (X.mem_of hm)
    simpa [X.den] using this
   ·split at h
    ·rename_i hm;cases h;exact tQ hk hm
    ·cases h
 intro b
 induction b with
 | bool b=>intro c h;simp only [X.dec,Option.some.injEq] at h;subst h;rfl
 | not x ih =>
  intro c h
  simp only [X.dec] at h
  split at h
  ·rename_i b' hb;cases h;simp [X.den,ih hb]
  ·split at h
   ·rename_i hm;cases h;exact hk _ (X.mem_of hm)
   ·cases h
 | and x y ix iy =>
  intro c h
  simp only [X.dec] at h
  split at h
  ·rename_i h1;cases h;simp [X.den,ix h1]
  ·rename_i h1 _;cases h;simp [X.den,iy h1]
  ·rename_i h1 h2;cases h;simp [X.den,ix h1,iy h2]
  ·exact base _ _ h
 | or x y ix iy =>
  intro c h
  simp only [X.dec] at h
  split at h
  ·rename_i h1;cases h;simp [X.den,ix h1]
  ·rename_i h1 _;cases h;simp [X.den,iy h1]
  ·rename_i h1 h2;cases h;simp [X.den,ix h1,iy h2]
  ·exact base _ _ h
 | _=>intro c h;exact base2 _ _ h
theorem MJ : ∀ {b : X},(b.den E).bool=true→∀ c∈X.lL b,(c.den E).bool=true:=by
 intro b
 induction b with
 | and x y ix iy =>
  intro h c hc
  simp only [X.den,CD.gB,Bool.and_eq_true] at h
  simp only [X.lL,List.mem_append] at hc
  rcases hc with hc | hc
  ·exact ix h.1 c hc
  ·exact iy h.2 c hc
 | not x ih =>
  intro h c hc
  cases x with
  | or y z =>
   simp only [X.lL,List.mem_cons,List.mem_nil_iff,or_false] at hc
   simp only [X.den,CD.gB,Bool.not_eq_true',Bool.or_eq_false_iff] at h
   rcases hc with rfl | rfl <;> simp [X.den,h]
  | _=>simp only [X.lL,List.mem_singleton] at hc;subst hc;exact h
 | _=>intro h c hc;simp only [X.lL,List.mem_singleton] at hc;subst hc;exact h
def Fy (E : Env) (x i : X) (o : Nat) : Prop:=∃ row,(x.den E).rows[(i.den E).int.toNat]?=some row∧o < row.length
theorem dz : ∀ {x i : X} {o : Nat},Fy E x i o→(cD x i o).den E=(X.cell x i o).den E
 | .set y j p d,i,o,⟨row,h1,h2⟩=>by
  simp only [X.den,CD.ax] at h1
  have hy : ∃ r0,(y.den E).rows[(i.den E).int.toNat]?=some r0∧r0.length=row.length∧row=if (j.den E).int.toNat=(i.den E).int.toNat then r0.set p (d.den E) else r0:=by
   rw [List.getElem?_modify] at h1
   cases h0 : (y.den E).rows[(i.den E).int.toNat]? with
   | none=>rw [h0] at h1;simp at h1
   | some r0 =>
    rw [h0] at h1
    simp only [Option.map_eq_map,Option.map_some,Option.some.injEq] at h1
    refine ⟨r0,rfl,?_,h1.symm⟩
    rw [← h1];split <;> simp
  obtain ⟨r0,h3,h4,h5⟩:=hy
  have hc : (X.cell (.set y j p d) i o).den E=row.getD o .u:=by
   simp only [X.den,CD.ax,List.getD_eq_getElem?_getD,h1,Option.getD_some]
  have hcy : (X.cell y i o).den E=r0.getD o .u:=by
   simp only [X.den,List.getD_eq_getElem?_getD,h3,Option.getD_some]
  simp only [cD]
  split
  ·rename_i ho
   have ho:=Nat.eq_of_beq_eq_true ho
   subst ho
   split
   ·rename_i hs
    rw [hc,h5,X.av hs,if_pos rfl]
    simp [List.getD_eq_getElem?_getD,List.getElem?_set_self (by omega : o < r0.length)]
   ·split
    ·split
     ·rfl
     ·rename_i a b hne
      rw [dz ⟨r0,h3,by omega⟩,hcy,hc,h5,if_neg]
      simp only [X.den,CD.aR]
      intro e
      exact hne (by simp only [Int.ofNat_eq_natCast,Int.toNat_natCast] at e;rw [e];exact Nat.beq_refl _)
    ·rfl
  ·rename_i ho
   have ho : o≠p:=fun e=>ho (by rw [e];exact Nat.beq_refl p)
   rw [dz ⟨r0,h3,by omega⟩,hcy,hc,h5]
   split
   ·simp [List.getD_eq_getElem?_getD,List.getElem?_set_ne (Ne.symm ho)]
   ·rfl
 | .cons d r,i,o,h=>by
  simp only [cD]
  split
  ·simp [X.den]
  ·rename_i o'
   obtain ⟨row,h1,h2⟩:=h
   simp only [X.den,CD.ax,CD.aR,Int.ofNat_eq_natCast,Int.toNat_natCast,List.getElem?_cons_zero,Option.some.injEq] at h1
   subst h1
   simp only [List.length_cons] at h2
   have hr : ∃ l,(r.den E).rows=(r.den E).row :: l:=by
    unfold CD.row at h2 ⊢
    cases hrr : (r.den E).rows with
    | nil=>rw [hrr] at h2;simp at h2
    | cons a l=>exact ⟨l,rfl⟩
   obtain ⟨l,hl⟩:=hr
   rw [dz ⟨(r.den E).row,by simp [X.den,hl],by omega⟩]
   simp [X.den,hl]
  ·rfl
 | .app x y,i,o,⟨row,h1,h2⟩=>by
  simp only [cD]
  split
  ·rename_i a n hn
   have hlen : (x.den E).rows.length=n:=by
    have:=ba (E:=E) x
    rw [hn] at this
    simp only [X.den,CD.i.injEq,Int.ofNat_eq_natCast] at this
    omega
   simp only [X.den,CD.ax,CD.aR,Int.ofNat_eq_natCast,Int.toNat_natCast] at h1
   split
   ·rename_i hlt
    have hlt:=Hk hlt
    rw [List.getElem?_append_left (by omega)] at h1
    rw [dz ⟨row,by simpa [X.den] using h1,h2⟩]
    simp [X.den,List.getD_eq_getElem?_getD,List.getElem?_append_left (show a < (x.den E).rows.length by omega)]
   ·rename_i hlt
    have hge : n≤a:=by
     rcases Nat.lt_or_ge a n with h | h
     ·exact absurd (by rw [Nat.blt_eq];exact h) hlt
     ·exact h
    rw [List.getElem?_append_right (by omega),hlen] at h1
    rw [dz ⟨row,by simpa [X.den] using h1,h2⟩]
    simp [X.den,List.getD_eq_getElem?_getD,List.getElem?_append_right (show (x.den E).rows.length≤a by omega),hlen]
  ·rfl
 | .rep n r,i,o,⟨row,h1,h2⟩=>by
  simp only [cD]
  simp only [X.den,CD.ax] at h1
  have hlt : (i.den E).int.toNat < (n.den E).int.toNat:=by
   have:=(List.getElem?_eq_some_iff.1 h1).1
   simpa using this
  rw [List.getElem?_replicate,if_pos hlt] at h1
  cases h1
  have hr : ∃ l,(r.den E).rows=(r.den E).row :: l:=by
   unfold CD.row at h2 ⊢
   cases hrr : (r.den E).rows with
   | nil=>rw [hrr] at h2;simp at h2
   | cons a l=>exact ⟨l,rfl⟩
  obtain ⟨l,hl⟩:=hr
  rw [dz ⟨(r.den E).row,by simp [X.den,hl],h2⟩]
  simp [X.den,hl,List.getD_eq_getElem?_getD,hlt]
 | .int _,_,_,_ | .bool _,_,_,_ | .str _,_,_,_ | .var _,_,_,_ | .cell _ _ _,_,_,_ | .len _,_,_,_ | .slen _,_,_,_ | .add _ _,_,_,_ | .sub _ _,_,_,_ | .mul _ _,_,_,_ | .tmod _ _,_,_,_ | .tdiv _ _,_,_,_
 | .min _ _,_,_,_ | .max _ _,_,_,_ | .lt _ _,_,_,_ | .le _ _,_,_,_ | .eq _ _,_,_,_ | .fit _,_,_,_ | .beq _ _,_,_,_ | .seq _ _,_,_,_ | .not _,_,_,_ | .and _ _,_,_,_ | .or _ _,_,_,_
 | .nil,_,_,_ | .row0,_,_,_ | .take _ _,_,_,_ | .drop _ _,_,_,_ | .look _ _ _ _ _,_,_,_ | .has _ _ _,_,_,_ | .own _,_,_,_ | .shut _,_,_,_ | .isO _,_,_,_ | .isL _,_,_,_ | .ref _ _,_,_,_ | .clean _ _,_,_,_ | .shuts _ _,_,_,_=>rfl
theorem gK : ∀ (l : List X),(iC l).den E=.l [l.map (X.den E)]
 | []=>rfl
 | d :: l=>by simp [iC,X.den,gK l,CD.row]
variable {p : Pl} {g : Gm}
theorem xm {v : Value} {rows : List (List CD)} : yA g v (.l rows)↔Rd g (.sl 8 [.int .i64]) v (.l rows):=by
 simp only [yA,Rd]
 constructor
 ·rintro ⟨A,c,h1,h2,h3,h4,h5⟩
  refine ⟨A,_,c,rows,h1,rfl,rfl,h2,h3,h4,fun h0=>?_⟩
  obtain ⟨b,q,h6,h7⟩:=h5 h0
  refine ⟨b,q,h6,fun i row hi=>?_⟩
  obtain ⟨k,h8,h9⟩:=h7 i row hi
  subst h8
  exact ⟨⟨_,by simpa using h9,by simp only [Rd];exact ⟨k,rfl,rfl⟩⟩,trivial⟩
 ·rintro ⟨A,n,c,rows',h1,h2,h3,h4,h5,h6,h7⟩
  cases h2
  subst h3
  refine ⟨A,c,h1,h4,h5,h6,fun h0=>?_⟩
  obtain ⟨b,q,h8,h9⟩:=h7 h0
  refine ⟨b,q,h8,fun i row hi=>?_⟩
  have:=h9 i row hi
  match row,this with
  | [],h=>exact h.elim
  | [d],⟨⟨v,k1,k2⟩,_⟩ =>
   simp only [Rd] at k2
   obtain ⟨n,rfl,rfl⟩:=k2
   exact ⟨n,rfl,by simpa using k1⟩
  | _ :: _ :: _,h=>exact h.2.elim
theorem u6 {k : Kd} {x : X} {v : Value} (h : Rd g k v (x.den E)) (hL : k.DF=true→(x.den E).isL=true) : (v9 x k).is E p g v:=by
 cases k with
 | os e =>
  have h1:=hL rfl
  simp only [Rd] at h
  show Rd g (.sl 8 [.int .i64]) v (x.den E)
  cases hd : x.den E with
  | l rows=>rw [hd] at h;exact xm.1 h
  | _=>rw [hd] at h1;cases h1
 | int k=>simp only [Rd] at h;obtain ⟨n,h1,h2⟩:=h;exact ⟨n,h2,h1⟩
 | bool=>simp only [Rd] at h;obtain ⟨n,h1,h2⟩:=h;exact ⟨n,h2,h1⟩
 | str=>simp only [Rd] at h;obtain ⟨n,h1,h2⟩:=h;exact ⟨n,h2,h1⟩
 | sl b kd=>exact h
theorem Rd.nil {b : Nat} {kd : List Kd} (A : Option Addr) : Rd g (.sl b kd) (.slice A 0 0) (.l []):=by
 simp only [Rd]
 exact ⟨A,0,0,[],rfl,rfl,rfl,Nat.le_refl _,Nat.zero_le _,by simp,fun h=>absurd h (Nat.lt_irrefl 0)⟩
theorem BI {k : Kd} {c : SC} {x : X} {v : Value} (h : jI k c=some x) (hc : c.is E p g v) : Rd g k v (x.den E):=by
 unfold jI at h
 split at h
 ·split at h
  ·rename_i hk;cases h;obtain ⟨n,h1,h2⟩:=hc;rw [IntKind.av hk];simp only [Rd];exact ⟨n,h2,h1⟩
  ·cases h
 ·cases h;obtain ⟨n,h1,h2⟩:=hc;simp only [Rd];exact ⟨n,h2,h1⟩
 ·cases h;obtain ⟨n,h1,h2⟩:=hc;simp only [Rd];exact ⟨n,h2,h1⟩
 ·split at h
  ·rename_i hk;cases h;have:=SK.av hk;subst this;exact hc
  ·cases h
 ·cases h;have : v=.slice none 0 0:=hc;subst this;exact Rd.nil _
 ·cases h;obtain ⟨A,hA⟩:=hc;subst hA;exact Rd.nil _
 ·split at h
  ·rename_i hk
   cases h
   have:=SK.av hk
   subst this
   simp only [Rd]
   have hc : Rd g (.sl 8 [.int .i64]) v (x.den E):=hc
   have hd : ∃ rows,x.den E=.l rows:=by
    simp only [Rd] at hc
    obtain ⟨_,_,_,rows,_,h2,_⟩:=hc
    exact ⟨rows,h2⟩
   obtain ⟨rows,hd⟩:=hd
   rw [hd] at hc ⊢
   exact xm.2 hc
  ·cases h
 ·cases h;have : v=.slice none 0 0:=hc;subst this;simp only [Rd,X.den,CD.ax];exact ⟨⟨_,_,rfl⟩,by simp,fun _ h=>by cases h⟩
 ·cases h;obtain ⟨A,hA⟩:=hc;subst hA;simp only [Rd,X.den,CD.ax];exact ⟨⟨_,_,rfl⟩,by simp,fun _ h=>by cases h⟩
 ·cases h
  obtain ⟨A,c,m,h1,h2,h3,h4⟩:=hc
  simp only [Rd,X.den,h2,CD.aR,Int.toNat_natCast]
  exact ⟨_,_,h4⟩
 ·cases h
def lK (p : Pl) (v : Value) : CD→Prop
 | .l _=>True
 | .o rows=>rows=[]∧∃ A,v=.slice A 0 0
 | .h s n=>∃ ad cap,p.arr s=some (ad,cap)∧n≤cap∧v=.slice ad n cap
 | _=>False
theorem lK.cell {B : cT} {w : World} {a i j e : Nat} {v : Value} {d : CD} (h : lK p v d) : jG B p g a i j e w v d:=by
 cases d with
 | o rows =>
  obtain ⟨rfl,A,rfl⟩:=h
  exact ⟨A,0,rfl,Nat.le_refl _,Nat.zero_le _,by simp,by decide,by decide,fun h=>absurd h (Nat.lt_irrefl 0)⟩
 | _=>exact h
theorem Lc {e : Nat} {c : SC} {x : X} {v : Value} (h : jI (.os e) c=some x) (hc : c.is E p g v) : lK p v (x.den E):=by
 cases c <;> simp only [jI,reduceCtorEq,Option.some.injEq] at h
 ·split at h
  ·rename_i hk
   cases h
   have:=SK.av hk
   subst this
   have hc : Rd g (.sl 8 [.int .i64]) v (x.den E):=hc
   simp only [Rd] at hc
   obtain ⟨_,_,_,rows,_,h2,_⟩:=hc
   rw [h2];trivial
  ·cases h
 ·subst h
  obtain ⟨A,c,m,h1,h2,h3,h4⟩:=hc
  simp only [X.den,h2,CD.aR,Int.toNat_natCast]
  exact ⟨A,c,h1,h3,h4⟩
 ·subst h;have : v=.slice none 0 0:=hc;subst this;exact ⟨rfl,_,rfl⟩
 ·subst h;obtain ⟨A,hA⟩:=hc;subst hA;exact ⟨rfl,_,rfl⟩
theorem Rd.one {k : Kd} {v : Value} {d : CD} (h : Rd g k v d) : v.oneCell'=true:=by
 cases k <;> simp only [Rd] at h
 ·obtain ⟨n,h1,_⟩:=h;subst h1;rfl
 ·obtain ⟨n,h1,_⟩:=h;subst h1;rfl
 ·obtain ⟨n,h1,_⟩:=h;subst h1;rfl
 ·obtain ⟨A,n,c,rows,h1,_⟩:=h;subst h1;rfl
 ·cases d with
  | l r=>obtain ⟨A,c,h1,_⟩:=h;subst h1;rfl
  | o r=>obtain ⟨⟨A,c,h1⟩,_⟩:=h;subst h1;rfl
  | h s n=>obtain ⟨A,c,h1⟩:=h;subst h1;rfl
  | _=>exact h.elim
theorem iH : ∀ {kd : List Kd} {cs : List SC} {ds : List X} {vs : List Value},cj kd cs=some ds→aE (SC.is E p g) cs vs→∀ (j : Nat) e v x,kd[j]?=some (.os e)→vs[j]?=some v→ds[j]?=some x→lK p v (x.den E)
 | [],_,_,_,_,_,j,e,v,x,h,_,_=>by simp at h
 | k :: kd,[],ds,vs,h,_,j,_,_,_,_,_,_=>by simp [cj] at h
 | k :: kd,c :: cs,ds,[],h,hv,j,_,_,_,_,_,_=>hv.elim
 | k :: kd,c :: cs,ds,v0 :: vs,h,hv,j,e,v,x,h1,h2,h3=>by
  simp only [cj] at h
  split at h
  ·rename_i x0 xs g1 g2
   cases h
   cases j with
   | zero =>
    simp only [List.getElem?_cons_zero,Option.some.injEq] at h1 h2 h3
    subst h1;subst h2;subst h3
    exact Lc g1 hv.1
   | succ j=>exact iH g2 hv.2 j e v x (by simpa using h1) (by simpa using h2) (by simpa using h3)
  ·cases h
theorem fI : ∀ {kd : List Kd} {cs : List SC} {ds : List X} {vs : List Value},cj kd cs=some ds→aE (SC.is E p g) cs vs→ds.length=kd.length∧cs.length=kd.length∧∀ (j : Nat) k,kd[j]?=some k→∃ v x,vs[j]?=some v∧ds[j]?=some x∧Rd g k v (x.den E)
 | [],[],ds,[],h,_=>by simp only [cj,Option.some.injEq] at h;subst h;exact ⟨rfl,rfl,fun j k e=>by simp at e⟩
 | k :: kd,c :: cs,ds,v :: vs,h,hv=>by
  simp only [cj] at h
  split at h
  ·rename_i x xs h1 h2
   cases h
   obtain ⟨e1,e2,e3⟩:=fI h2 hv.2
   refine ⟨by simp [e1],by simp [e2],fun j k' e=>?_⟩
   cases j with
   | zero =>
    simp only [List.getElem?_cons_zero,Option.some.injEq] at e
    subst e
    exact ⟨v,x,rfl,rfl,BI h1 hv.1⟩
   | succ j=>simpa using e3 j k' (by simpa using e)
  ·cases h
 | [],_ :: _,_,_,h,_=>by simp [cj] at h
 | _ :: _,[],_,_,h,_=>by simp [cj] at h
 | [],[],_,_ :: _,_,hv=>hv.elim
 | _ :: _,_ :: _,_,[],_,hv=>hv.elim
theorem lV {kd : List Kd} {cs : List SC} {ds : List X} {vs : List Value} (h : cj kd cs=some ds) (hv : aE (SC.is E p g) cs vs) {f : Nat→Option Value} (hf : ∀ (j : Nat) v,vs[j]?=some v→f j=some v) : aJ g kd f (ds.map (X.den E)):=by
 obtain ⟨e1,e2,e3⟩:=fI h hv
 refine aJ.of (by simpa using e1) fun j k hk=>?_
 obtain ⟨v,x,h1,h2,h3⟩:=e3 j k hk
 refine ⟨v,hf j v h1,?_⟩
 simpa [List.getD_eq_getElem?_getD,h2] using h3
theorem oA {x i : X} {rows : List (List CD)} {row : List CD} (hx : x.den E=.l rows) (hr : rows[(i.den E).int.toNat]?=some row) : ∀ {ks : List Kd} {o : Nat} {f : Nat→Option Value},
  (∀ (j : Nat) k,ks[j]?=some k→∃ v,f j=some v∧Rd g k v (row.getD (o + j) .u))→(∀ (j : Nat) k,ks[j]?=some k→k.DF=true→(row.getD (o + j) .u).isL=true)→(o + ks.length≤row.length)→∀ j c,nth (jy x i o ks) j=some c→∃ v,f j=some v∧c.is E p g v
 | [],o,f,_,_,_,j,c,h=>by simp [jy,nth] at h
 | k :: ks,o,f,hf,hL,hl,j,c,h=>by
  simp only [jy] at h
  simp only [List.length_cons] at hl
  cases j with
  | zero =>
   simp only [nth,Option.some.injEq] at h
   subst h
   obtain ⟨v,h1,h2⟩:=hf 0 k rfl
   have hm : (cD x i o).den E=row.getD o .u:=by
    rw [dz ⟨row,by rw [hx];exact hr,by omega⟩]
    simp only [X.den,hx,CD.ax]
    rw [List.getD_eq_getElem?_getD (l:=rows),hr,Option.getD_some]
   exact ⟨v,h1,u6 (by rw [hm];simpa using h2) fun hk=>by rw [hm];simpa using hL 0 k rfl hk⟩
  | succ j =>
   simp only [nth] at h
   refine oA hx hr (ks:=ks) (o:=o + 1) (f:=fun j=>f (j + 1)) (fun j k' e=>?_) (fun j k' e hk=>by rw [show o + 1 + j=o + (j + 1) from by omega];exact hL (j + 1) k' (by simpa using e) hk) (by omega) j c h
   obtain ⟨v,h1,h2⟩:=hf (j + 1) k' (by simpa using e)
   exact ⟨v,h1,by rw [show o + 1 + j=o + (j + 1) from by omega];exact h2⟩
theorem gr (x i : X) : ∀ (ks : List Kd) (o : Nat),(jy x i o ks).length=ks.length
 | [],_=>rfl
 | _ :: ks,o=>by simp [jy,gr x i ks (o + 1)]
def IN (row : List CD) (o : Nat) : List CD→List CD
 | []=>row
 | d :: l=>IN (row.set o d) (o + 1) l
theorem nJ : ∀ (l row : List CD) (o : Nat),(IN row o l).length=row.length
 | [],_,_=>rfl
 | d :: l,row,o=>by simp [IN,nJ l]
theorem gx : ∀ (l row : List CD) (o j : Nat),o + l.length≤row.length→(IN row o l)[j]?=if o≤j∧j < o + l.length then l[j - o]? else row[j]?
 | [],row,o,j,_=>by simp only [IN,List.length_nil];rw [if_neg (by omega)]
 | d :: l,row,o,j,h=>by
  simp only [List.length_cons] at h ⊢
  rw [IN,gx l (row.set o d) (o + 1) j (by simp;omega)]
  by_cases h1 : o + 1≤j∧j < o + 1 + l.length
  ·rw [if_pos h1,if_pos (by omega),show j - o=j - (o + 1) + 1 from by omega,List.getElem?_cons_succ]
  ·rw [if_neg h1]
   by_cases h2 : j=o
   ·subst h2
    rw [if_pos (by omega),List.getElem?_set_self (by omega)];simp
   ·rw [if_neg (by omega),List.getElem?_set_ne (by omega)]
theorem kG {i : X} : ∀ (ds : List X) (x : X) (o : Nat) {rows : List (List CD)},x.den E=.l rows→(setCells x i o ds).den E=.l (rows.modify (i.den E).int.toNat fun r=>IN r o (ds.map (X.den E)))
 | [],x,o,rows,h=>by
  simp only [setCells,h,List.map_nil,IN]
  congr 1
  exact (List.modify_id _ _).symm
 | d :: ds,x,o,rows,h=>by
  simp only [setCells]
  rw [kG ds (.set x i o d) (o + 1) (by simp only [X.den,h,CD.ax];rfl)]
  congr 1
  rw [List.modify_modify_eq]
  rfl
theorem dN {i n : X} {k : Nat} (hn : n.den E=.i k) (h : ∀ b∈dF i n,(b.den E).bool=true) : 0≤(i.den E).int∧(i.den E).int.toNat < k:=by
 have h1:=h _ (by simp [dF] : mkLe (.int 0) i∈_)
 have h2:=h _ (by simp [dF] : mkLt i n∈_)
 rw [bz] at h1
 rw [sY,hn] at h2
 simp only [CD.gB,X.den,CD.aR] at h1 h2
 have h1:=of_decide_eq_true h1
 have h2:=of_decide_eq_true h2
 omega
theorem qT {α : Type} (f : α→α) (a : α) : ∀ l : List α,(l ++ [a]).modify l.length f=l ++ [f a]
 | []=>rfl
 | b :: l=>by simp [qT f a l]
theorem qR {α : Type} (l : List (List α)) (i j o p : Nat) (a b : α) (h : o≠p) : (l.modify i fun r=>r.set o a).modify j (fun r=>r.set p b)=(l.modify j fun r=>r.set p b).modify i fun r=>r.set o a:=by
 refine List.ext_getElem? fun t=>?_
 simp only [List.getElem?_modify]
 cases l[t]? with
 | none=>simp
 | some r =>
  by_cases h1 : i=t <;> by_cases h2 : j=t <;> simp [h1,h2]
  exact (List.set_comm _ _ h)
theorem qS {α : Type} (l : List (List α)) (i o : Nat) (a b : α) : (l.modify i fun r=>r.set o a).modify i (fun r=>r.set o b)=l.modify i fun r=>r.set o b:=by
 refine List.ext_getElem? fun t=>?_
 simp only [List.getElem?_modify]
 cases l[t]? with
 | none=>simp
 | some r=>by_cases h1 : i=t <;> simp [h1]
theorem Lb {i : X} {o : Nat} {d : X} : ∀ {x z : X},rS i o d x=some z→z.den E=(X.set x i o d).den E:=by
 intro x
 induction x with
 | set y j p c ih =>
  intro z h
  simp only [rS] at h
  split at h
  ·rename_i hp
   have hp:=Nat.eq_of_beq_eq_true hp
   subst hp
   split at h
   ·rename_i hs
    cases h
    rw [X.av hs]
    simp only [X.den,CD.ax,qS]
   ·cases h
  ·rename_i hp
   split at h
   ·rename_i z0 h0
    cases h
    have:=ih h0
    simp only [X.den,CD.ax] at this ⊢
    rw [this,CD.ax,qR]
    exact fun e=>hp (by rw [e];exact Nat.beq_refl p)
   ·cases h
 | _=>intro z h;cases h
theorem qi (x i : X) (o : Nat) (d : X) : (mkSet x i o d).den E=(X.set x i o d).den E:=by
 unfold mkSet
 split
 ·rename_i z h;exact Lb h
 ·rfl
theorem iZ : ∀ {l : List Kd} {o : Nat},jY o l=[]→∀ (j : Nat) e,l[j]?≠some (.os e)
 | [],_,_,j,e,h=>by simp at h
 | k :: l,o,h,j,e,hj=>by
  cases k with
  | os e'=>simp [jY] at h
  | _ =>
   cases j with
   | zero=>simp at hj
   | succ j=>exact iZ (l:=l) (o:=o + 1) h j e (by simpa using hj)
theorem pb {l : List Kd} (h : iM l=true) (j e : Nat) : l[j]?≠some (.os e):=by
 unfold iM at h
 split at h
 ·rename_i h0;exact iZ h0 j e
 ·cases h
theorem gY : ∀ {l : List Kd} {o j e : Nat},jY o l=[(j,e)]→o≤j∧l[j - o]?=some (.os e)∧∀ (i : Nat) e',l[i]?=some (.os e')→i=j - o∧e'=e
 | [],_,_,_,h=>by simp [jY] at h
 | k :: l,o,j,e,h=>by
  cases k with
  | os e0 =>
   simp only [jY,List.cons.injEq,Prod.mk.injEq] at h
   obtain ⟨⟨rfl,rfl⟩,h2⟩:=h
   refine ⟨Nat.le_refl _,by simp,fun i e' hi=>?_⟩
   cases i with
   | zero=>simp only [List.getElem?_cons_zero,Option.some.injEq,Kd.os.injEq] at hi;exact ⟨by omega,hi.symm⟩
   | succ i=>exact absurd (by simpa using hi) (iZ h2 i e')
  | _ =>
   obtain ⟨h1,h2,h3⟩:=gY (l:=l) (o:=o + 1) h
   refine ⟨by omega,by rw [show j - o=(j - (o + 1)) + 1 from by omega];simpa using h2,fun i e' hi=>?_⟩
   cases i with
   | zero=>simp at hi
   | succ i =>
    obtain ⟨h4,h5⟩:=h3 i e' (by simpa using hi)
    exact ⟨by omega,h5⟩
theorem IY : ∀ {l : List Kd},(∀ (j : Nat) e,l[j]?≠some (.os e))→l.map Kd.shut=l
 | [],_=>rfl
 | k :: l,h=>by
  rw [List.map_cons,IY fun j e hj=>h (j + 1) e (by simpa using hj)]
  cases k with
  | os e=>exact absurd rfl (h 0 e)
  | _=>rfl
theorem SK.IY {K : SK} (h : iM K.kd=true) : K.shut=K:=by
 unfold SK.shut
 rw [Sy.IY (pb h)]
theorem oc : ∀ {x : X} {j s : Nat} {n : X},lY x j=some (s,n)→∃ row,x.den E=.l [row]∧row.getD j .u=.h s (n.den E).int.toNat∧∀ d : X,(sK x j d).den E=.l [row.set j (d.den E)]:=by
 intro x
 induction x with
 | cons c r ic ir =>
  intro j s n h
  cases j with
  | zero =>
   cases c <;> simp only [lY,reduceCtorEq,Option.some.injEq,Prod.mk.injEq] at h
   obtain ⟨rfl,rfl⟩:=h
   exact ⟨_,rfl,rfl,fun d=>rfl⟩
  | succ j =>
   have h' : lY r j=some (s,n):=by
    cases c <;> exact h
   obtain ⟨row,h1,h2,h3⟩:=ir h'
   refine ⟨c.den E :: row,by simp only [X.den,h1];rfl,by simpa using h2,fun d=>?_⟩
   simp only [sK,X.den,h3 d]
   rfl
 | _=>intro j s n h;simp [lY] at h
theorem vb {j : Nat} : ∀ {x : X} {i : X} {s : Nat} {n : X} {rows : List (List CD)},pt j x=some (i,s,n)→x.den E=.l rows→(∀ row,row∈rows→j < row.length)→(i.den E).int.toNat < rows.length →
  ∃ row,rows[(i.den E).int.toNat]?=some row∧row.getD j .u=.h s (n.den E).int.toNat∧∀ d : X,(oK j d x).den E=.l (rows.modify (i.den E).int.toNat fun r=>r.set j (d.den E)):=by
 intro x
 induction x with
 | set y k o c iy _ _ =>
  intro i s n rows h hx hl hi
  simp only [pt] at h
  have hx2 : rows=(y.den E).rows.modify (k.den E).int.toNat fun r=>r.set o (c.den E):=by simpa [X.den] using hx.symm
  split at h
  ·rename_i ho
   have ho':=Nat.eq_of_beq_eq_true ho
   subst ho'
   split at h
   ·rename_i s' n' _
    simp only [Option.some.injEq,Prod.mk.injEq] at h
    obtain ⟨rfl,rfl,rfl⟩:=h
    rw [hx2,List.length_modify] at hi
    obtain ⟨r0,hr0⟩ : ∃ r0,(y.den E).rows[(k.den E).int.toNat]?=some r0:=⟨_,List.getElem?_eq_getElem hi⟩
    have hrow : rows[(k.den E).int.toNat]?=some (r0.set o (.h s' (n'.den E).int.toNat)):=by
     rw [hx2,List.getElem?_modify,hr0];simp [X.den]
    have hlen:=hl _ (List.mem_of_getElem? hrow)
    rw [List.length_set] at hlen
    refine ⟨_,hrow,by simp [List.getD_eq_getElem?_getD,hlen],fun d=>?_⟩
    rw [oK,if_pos ho,hx2]
    simp only [X.den,qS]
   ·cases h
  ·rename_i ho
   have hne : o≠j:=fun e=>ho (by rw [e];exact Nat.beq_refl j)
   have hy : y.den E=.l (y.den E).rows∨rows=[]:=by
    cases hd : y.den E <;> first
     | exact .inl rfl
     | (right;rw [hx2,hd];simp [CD.rows])
   rcases hy with hy | hy
   ·rw [hx2,List.length_modify] at hi
    have hl' : ∀ row,row∈(y.den E).rows→j < row.length:=fun row hr=>by
     obtain ⟨t,ht⟩:=List.getElem?_of_mem hr
     have : rows[t]?=some (if (k.den E).int.toNat=t then row.set o (c.den E) else row):=by
      rw [hx2,List.getElem?_modify,ht];rfl
     have:=hl _ (List.mem_of_getElem? this)
     split at this
     ·rwa [List.length_set] at this
     ·exact this
    obtain ⟨row,h1,h2,h3⟩:=iy h hy hl' hi
    refine ⟨if (k.den E).int.toNat=(i.den E).int.toNat then row.set o (c.den E) else row,?_,?_,fun d=>?_⟩
    ·rw [hx2,List.getElem?_modify,h1];rfl
    ·split
     ·rw [List.getD_eq_getElem?_getD,List.getElem?_set_ne hne,← List.getD_eq_getElem?_getD];exact h2
     ·exact h2
    ·rw [oK,if_neg ho,hx2]
     simp only [X.den,h3 d,CD.ax]
     rw [qR _ _ _ _ _ _ _ (fun e=>hne e.symm)]
   ·rw [hy] at hi;exact absurd hi (Nat.not_lt_zero _)
 | app y z iy iz =>
  intro i s n rows h hx hl hi
  simp only [pt] at h
  split at h
  ·rename_i s' n' hr
   simp only [Option.some.injEq,Prod.mk.injEq] at h
   obtain ⟨rfl,rfl,rfl⟩:=h
   obtain ⟨row,h1,h2,h3⟩:=oc (E:=E) hr
   have hx2 : rows=(y.den E).rows ++ [row]:=by simpa [X.den,h1] using hx.symm
   have hn : ((bn y).den E).int.toNat=(y.den E).rows.length:=by rw [ba];simp
   rw [hn]
   refine ⟨row,by rw [hx2];simp,h2,fun d=>?_⟩
   simp only [oK,X.den,h3 d,CD.ax,hx2]
   congr 1
   exact (qT (fun r : List CD=>r.set j (d.den E)) row _).symm
  ·cases h
 | cons c r _ _ =>
  intro i s n rows h hx hl hi
  simp only [pt] at h
  split at h
  ·rename_i s' n' hr
   simp only [Option.some.injEq,Prod.mk.injEq] at h
   obtain ⟨rfl,rfl,rfl⟩:=h
   obtain ⟨row,h1,h2,h3⟩:=oc (E:=E) hr
   rw [hx] at h1
   cases h1
   exact ⟨row,rfl,h2,fun d=>(h3 d).trans (by simp [X.den])⟩
  ·cases h
 | _=>intro i s n rows h;simp [pt] at h
end
end Go.Sy

namespace Go.Sy
open Go.RowKit
theorem uO {E : Env} {p : Pl} {g : Gm} {v : Value} {c : SC} (h : sS v=some c) : c.is E p g v:=by
 unfold sS at h
 split at h <;> cases h <;> simp [SC.is,X.den]
theorem fJ {E : Env} {p : Pl} {g : Gm} : ∀ {l : List Value} {m : List SC},jx l=some m→aE (SC.is E p g) m l
 | [],m,h=>by simp only [jx,Option.some.injEq] at h;subst h;trivial
 | v :: l,m,h=>by
  simp only [jx] at h
  split at h
  ·rename_i c m' h1 h2;cases h;exact ⟨uO h1,fJ h2⟩
  ·cases h
theorem zg {E : Env} {p : Pl} {g : Gm} {v : Value} {r : SR} (h : ofConst v=some r) : r.is E p g v:=by
 unfold ofConst at h
 split at h
 ·rename_i cs
  cases hm : jx cs.toList with
  | none=>rw [hm] at h;cases h
  | some m =>
   rw [hm] at h
   cases h
   exact ⟨cs.toList,by simp,fJ hm⟩
 ·cases hm : sS v with
  | none=>rw [hm] at h;cases h
  | some m=>rw [hm] at h;cases h;exact uO hm
section
variable {E : Env} {p : Pl} {g : Gm} {a : Act}
theorem bw {T : List SR} (ht : ∀ i c,nth T i=some c→c.is E p g (a.tmps.getD i Go.undef)) {x : Operand} {r : SR} (h : ev T x=some r) : r.is E p g (a.eval x):=by
 cases x with
 | tmp t=>exact ht t r h
 | const v=>exact zg h
 | global g=>cases h
 | func f =>
  simp only [ev,Option.some.injEq] at h
  subst h
  exact ⟨[],rfl,trivial⟩
theorem DW {T : List SR} (ht : ∀ i c,nth T i=some c→c.is E p g (a.tmps.getD i Go.undef)) : ∀ {l : List Operand} {m : List SR},evs T l=some m→aE (SR.is E p g) m (l.map a.eval)
 | [],m,h=>by simp only [evs,Option.some.injEq] at h;subst h;trivial
 | x :: l,m,h=>by
  simp only [evs] at h
  split at h
  ·rename_i c m' h1 h2;cases h;exact ⟨bw ht h1,DW ht h2⟩
  ·cases h
theorem wv {T : List SR} {l : List Operand} {c : SR} (h : evs T l=some [c]) : ∃ x,l=[x]∧ev T x=some c:=by
 cases l with
 | nil=>simp [evs] at h
 | cons x l =>
  simp only [evs] at h
  split at h
  ·rename_i d m h1 h2
   cases h
   cases l with
   | nil=>exact ⟨x,rfl,h1⟩
   | cons y l=>simp only [evs] at h2;split at h2 <;> cases h2
  ·cases h
theorem wu {T : List SR} {l : List Operand} {c d : SR} (h : evs T l=some [c,d]) : ∃ x y,l=[x,y]∧ev T x=some c∧ev T y=some d:=by
 cases l with
 | nil=>simp [evs] at h
 | cons x l =>
  simp only [evs] at h
  split at h
  ·rename_i h1 h2
   cases h
   obtain ⟨y,e,h3⟩:=wv h2
   subst e
   exact ⟨x,y,rfl,h1,h3⟩
  ·cases h
theorem SC.one {c : SC} {v : Value} (h : c.is E p g v) (h1 : c≠.any) (h2 : c≠.undef) : v.oneCell'=true:=by
 cases c <;> simp only [SC.is] at h
 ·exact absurd rfl h1
 ·exact absurd rfl h2
 ·obtain ⟨_,_,e⟩:=h;subst e;rfl
 ·obtain ⟨_,_,e⟩:=h;subst e;rfl
 ·obtain ⟨_,_,e⟩:=h;subst e;rfl
 ·exact Rd.one h
 ·obtain ⟨_,_,_,_,e,_⟩:=h;subst e;rfl
 ·obtain ⟨_,_,_,_,_,_,e⟩:=h;subst e;rfl
 ·obtain ⟨_,_,_,_,_,_,_,_,e⟩:=h;subst e;rfl
 ·obtain ⟨_,_,_,_,_,e⟩:=h;subst e;rfl
 ·obtain ⟨_,_,_,e⟩:=h;subst e;rfl
 ·subst h;rfl
 ·obtain ⟨_,e⟩:=h;subst e;rfl
 ·subst h;rfl
 ·subst h;rfl
 ·obtain ⟨_,_,e⟩:=h;subst e;rfl
 ·obtain ⟨_,e,_⟩:=h;subst e;rfl
theorem tW {x : SV} {v : Value} (h : x.is E p g v) (ho : ∀ c,x=.one c→v.oneCell'=true∨v=Go.undef) : aE (SC.is E p g) x.cells v.cells.toList:=by
 cases x with
 | one c =>
  have hv : v.cells=#[v]:=by
   rcases ho c rfl with h1 | h1
   ·cases v <;> first | rfl | (simp [Value.oneCell'] at h1)
   ·subst h1;rfl
  rw [hv]
  exact ⟨h,trivial⟩
 | agg l =>
  obtain ⟨vs,e,hv⟩:=h
  subst e
  simpa [SV.cells,Value.cells] using hv
theorem xQ {x : SV} {v : Value} (h : x.is E p g v) (hf : x.full=true) : ∀ c,x=.one c→v.oneCell'=true∨v=Go.undef:=by
 intro c e
 subst e
 by_cases hu : c=.undef
 ·subst hu;exact .inr h
 ·exact .inl (SC.one h (fun e=>by subst e;cases hf) hu)
end
def Kd.isv : Kd→Value→Prop
 | .int k,v=>∃ n,v=.int k n
 | .bool,v=>∃ b,v=.bool b
 | _,_=>False
def cS : List Value→List Value→Bool
 | .int _ a :: l,.int _ b :: m=>(a ==b) && cS l m
 | .bool a :: l,.bool b :: m=>(a ==b) && cS l m
 | [],[]=>true
 | _,_=>false
structure Ek (P : Program) (t : Nat) (ti : TI) : Prop where
 ex : ∃ (i : TypeInfo) (d : TypeDesc) (z : Value),P.info? t=some i∧P.underlying t=some d∧i.size=ti.sz∧i.bytes=ti.by_∧i.zero=some z∧z.cells.size=ti.sz ∧
  jx z.cells.toList=some ti.zero∧(ti.agg=true↔∃ cs,z=.agg cs) ∧
  (ti.agg=true↔(∃ fs,d=.struct fs)∨∃ n e,d=.array n e) ∧
  match ti.k with
  | .struct fs=>∃ flds : Array Field,d=.struct flds∧flds.size=fs.length∧∀ j off u,nth fs j=some (off,u)→∃ f,flds[j]?=some f∧f.offset=off∧f.type=u
  | .array n e=>d=.array n e
  | .slice e=>d=.slice e
  | .map k v=>d=.map k v
  | .ptr e=>d=.pointer e
  | .other=>True
structure TOk (P : Program) (T : TT) : Prop where
 get : ∀ t ti,T.get t=some ti→Ek P t ti
 eq : ∀ t ti kd,T.get t=some ti→ti.eq=true→ti.kd=some kd→∀ (xs ys : List Value),aE Kd.isv kd xs→aE Kd.isv kd ys→∀ (w : World) (x y : Operand) (op : BinOp),op=.eql∨op=.neq →
  (do eqGuard op t x y (vof ti.agg xs) (vof ti.agg ys);binOp op t (vof ti.agg xs) (vof ti.agg ys)).run P w=.ok (.bool (if op=.eql then cS xs ys else !cS xs ys)) w
 key : ∀ t ti,T.get t=some ti→ti.key=true →
  (ti.agg=false→(∃ k,P.underlying t=some (.int k)∧ti.kd=some [.int k])∨(P.underlying t=some .bool∧ti.kd=some [.bool])) ∧
  (ti.agg=true→(∃ fs,P.underlying t=some (.struct fs))∧∀ kd,ti.kd=some kd→(∀ xs,aE Kd.isv kd xs→∀ (w : World) (em : Bool),(Instr.checkKey em 10000 t (.agg xs.toArray)).run P w=.ok () w) ∧
   ∀ xs ys,aE Kd.isv kd xs→aE Kd.isv kd ys→∀ w : World,(Op.equal t (.agg xs.toArray) (.agg ys.toArray)).run P w=.ok (cS xs ys) w)
def bj (E : Env) (p : Pl) (h : Hp) (w w' : World) : Prop:=∀ k i,k < w.heap.size→Kn E p h k i→w'.cell? ⟨k,i,none⟩=w.cell? ⟨k,i,none⟩
theorem bj.refl (E : Env) (p : Pl) (h : Hp) (w : World) : bj E p h w w:=fun _ _ _ _=>rfl
section
variable {P : Program} {T : TT} {B : cT} {E : Env} {p : Pl} {g : Gm} {h : Hp} {w : World}
theorem bq.kn_g (H : bq B E p g h w) {k i : Nat} {v : Value} (hg : g k i=some v) : k < w.heap.size∧Kn E p h k i:=⟨H.tH hg,.inl (H.gg k i v hg).2⟩
theorem bj.gm {w' : World} (S : bj E p h w w') (H : bq B E p g h w) {k i : Nat} {v : Value} (hg : g k i=some v) : w'.cell? ⟨k,i,none⟩=some v:=by
 obtain ⟨h1,h2⟩:=H.kn_g hg
 rw [S k i h1 h2];exact (H.gg k i v hg).1
theorem bq.sL (H : bq B E p g h w) {r o b q : Nat} {cs : List SC} {c : SC} (hr : nth h.regs r=some (.here cs)) (hc : nth cs o=some c) (hp : p.reg r=some (b,q)) :
  ∃ v,c.is E p g v∧(∀ w',bj E p h w w'→w'.cell? ⟨b,q + o,none⟩=some v)∧B.wr b (q + o)∧w.frozen? ⟨b,q + o,none⟩=false∧b < w.heap.size∧p.ow b=.reg r:=by
 obtain ⟨b',q',h1,h2,h3,h4⟩:=(H.reg r cs hr).ex
 rw [hp] at h1
 cases h1
 obtain ⟨k1,k2,v,k3,k4⟩:=h4 o c hc
 refine ⟨v,k4,fun w' S=>?_,k1,k2,h3,h2⟩
 rw [S _ _ h3 (.inr (.inl ⟨r,cs,b,q,hr,hp,rfl,by omega,by have:=cn hc;omega⟩))];exact k3
theorem bq.sd (H : bq B E p g h w) {a : Nat} {A : Ar} (ha : nth h.arrs a=some (.here A)) {rows : List (List CD)} (hx : A.x.den E=.l rows) {n : Nat} {row : List CD} (hn : rows[n]?=some row) :
  ∃ b c,p.arr a=some (some ⟨b,0,none⟩,c)∧p.ow b=.arr a∧b < w.heap.size∧row.length=A.K.kd.length∧(∀ j k,A.K.kd[j]?=some k→∃ v,(∀ w',bj E p h w w'→w'.cell? ⟨b,n * A.K.kd.length + j,none⟩=some v)∧Rd g k v (row.getD j .u)) ∧
   (∀ j,j < A.K.kd.length→B.wr b (n * A.K.kd.length + j))∧(∀ j,w.frozen? ⟨b,j,none⟩=false):=by
 obtain ⟨ad,cap,rows',h1,h2,h3,h4,h5,h6,h7,h8⟩:=(H.arr a A ha).ex
 rw [hx] at h2
 cases h2
 have hlt:=(List.getElem?_eq_some_iff.1 hn).1
 obtain ⟨b,cur,e,k1,k2,k3,k4,k5⟩:=h8 (by omega)
 subst e
 have hrow:=k5 n row hn
 have hle : (n + 1) * A.K.kd.length≤rows.length * A.K.kd.length:=Nat.mul_le_mul_right _ hlt
 have hle2 : rows.length * A.K.kd.length≤cap * A.K.kd.length:=Nat.mul_le_mul_right _ h3
 rw [Nat.add_mul] at hle
 refine ⟨b,cap,h1,k1,lt_of_block k2,hrow.length,fun j k hk=>?_,fun j hj=>k4 _ (by omega),fun j=>by simp only [World.frozen?,k2];simp⟩
 obtain ⟨v,hv,hr⟩:=hrow.cell hk
 have hj:=(List.getElem?_eq_some_iff.1 hk).1
 refine ⟨v,fun w' S=>?_,hr⟩
 rw [S b _ (lt_of_block k2) (.inr (.inr ⟨a,A,b,cap,ha,h1,rfl,by rw [hx];show _ < rows.length * _;omega⟩))]
 simp [World.cell?,k2,hv]
theorem jU (hT : TOk P T) {t : Nat} {ti : TI} (ht : T.get t=some ti) (w : World) : (isAgg t).run P w=.ok ti.agg w:=by
 obtain ⟨i,d,z,h1,h2,_,_,_,_,_,_,h8,_⟩:=(hT.get t ti ht).ex
 simp only [isAgg,Sem.run_bind,run_underlying h2,Result.andThen_ok]
 cases ha : ti.agg with
 | true =>
  rcases h8.1 ha with ⟨fs,rfl⟩ | ⟨n,e,rfl⟩ <;> rfl
 | false =>
  cases d <;> first
   | rfl
   | (exfalso;have:=h8.2 (.inl ⟨_,rfl⟩);rw [ha] at this;cases this)
   | (exfalso;have:=h8.2 (.inr ⟨_,_,rfl⟩);rw [ha] at this;cases this)
theorem run_sizeOf (hT : TOk P T) {t : Nat} {ti : TI} (ht : T.get t=some ti) (w : World) : (sizeOf t).run P w=.ok ti.sz w:=by
 obtain ⟨i,d,z,h1,h2,h3,_⟩:=(hT.get t ti ht).ex
 simp [sizeOf,typeInfo,h1,h3]
theorem w7 {R : SC→Value→Prop} {S : World→Prop} {f : Nat→Addr} : ∀ (l : List SC),(∀ j c,nth l j=some c→∃ v,(∀ w,S w→w.cell? (f j)=some v)∧R c v)→∃ vs : List Value,aE R l vs∧∀ j v,nth vs j=some v→∀ w,S w→w.cell? (f j)=some v
 | [],_=>⟨[],trivial,fun j v h=>by cases j <;> simp [nth] at h⟩
 | c :: l,h=>by
  obtain ⟨v,hv,hc⟩:=h 0 c rfl
  obtain ⟨vs,h1,h2⟩:=w7 (f:=fun j=>f (j + 1)) l (fun j c' hj=>h (j + 1) c' hj)
  refine ⟨v :: vs,⟨hc,h1⟩,fun j u hu=>?_⟩
  cases j with
  | zero=>simp only [nth,Option.some.injEq] at hu;subst hu;exact hv
  | succ j=>exact h2 j u hu
theorem ez (hT : TOk P T) {t : Nat} {ti : TI} (ht : T.get t=some ti) {cs : List SC} (hl : cs.length=ti.sz) (a : Addr) (S : World→Prop)
  (hc : ∀ j c,nth cs j=some c→∃ v,(∀ w,S w→w.cell? (a.add j)=some v)∧c.is E p g v) (r : SR) (hr : dH ti.agg cs=some r) :
  ∃ v,(∀ w,S w→(loadVar t a).run P w=.ok v w)∧r.is E p g v:=by
 obtain ⟨vs,h1,h2⟩:=w7 cs hc
 have hlen:=h1.length
 have hll:=fun w hw=>run_loadCells_list (P:=P) w a vs (fun j v hj=>h2 j v (by rw [aW];exact hj) w hw)
 cases hg : ti.agg with
 | true =>
  rw [hg] at hr
  simp only [dH,if_true,Option.some.injEq] at hr
  subst hr
  rw [show vs.length=ti.sz from by omega] at hll
  refine ⟨.agg vs.toArray,fun w hw=>?_,vs,rfl,h1⟩
  simp only [loadVar,Sem.run_bind,jU hT ht,Result.andThen_ok,hg]
  simp [run_sizeOf hT ht,hll w hw]
 | false =>
  rw [hg] at hr
  simp only [dH,Bool.false_eq_true,if_false] at hr
  split at hr
  ·rename_i c
   cases hr
   obtain ⟨v,hv,hcv⟩:=hc 0 c rfl
   have : a.add 0=a:=by simp [Addr.add]
   rw [this] at hv
   refine ⟨v,fun w hw=>?_,hcv⟩
   simp only [loadVar,Sem.run_bind,jU hT ht,Result.andThen_ok,hg]
   simp [hv w hw]
  ·cases hr
theorem zJ {x n : X} {s : Nat} (h : isRef x=some (s,n)) : x=.ref s n:=by
 cases x <;> simp only [isRef,reduceCtorEq,Option.some.injEq,Prod.mk.injEq] at h
 rw [h.1,h.2]
theorem nL {agg : Bool} {sz o : Nat} {kd : List Kd} (h : ml agg sz ((kd.drop o).take sz)=true) : agg=false∧sz=1∧∃ e,kd[o]?=some (.os e):=by
 simp only [ml,Bool.and_eq_true] at h
 obtain ⟨h1,h2,h3⟩:=h
 refine ⟨by simpa using h1,Nat.eq_of_beq_eq_true h2,?_⟩
 split at h3
 ·rename_i e he
  have:=congrArg (fun l : List Kd=>l[0]?) he
  simp only [List.getElem?_take,List.getElem?_drop,Nat.add_zero,List.getElem?_cons_zero] at this
  split at this
  ·exact ⟨e,this⟩
  ·cases this
 ·cases h3
theorem qQ {x i : X} {rows : List (List CD)} {row : List CD} (hx : x.den E=.l rows) (hr : rows[(i.den E).int.toNat]?=some row) : ∀ {ks : List Kd} {o : Nat},(∀ b∈kO x i o ks,(b.den E).bool=true)→o + ks.length≤row.length→∀ {j : Nat} {k : Kd},ks[j]?=some k→k.DF=true→(row.getD (o + j) .u).isL=true
 | [],_,_,_,_,_,h,_=>by simp at h
 | k0 :: ks,o,hn,hl,j,k,h,hk=>by
  simp only [List.length_cons] at hl
  have rest : (∀ b∈kO x i (o + 1) ks,(b.den E).bool=true):=fun b hb=>hn b (by cases k0 <;> simp [kO,hb])
  cases j with
  | zero =>
   simp only [List.getElem?_cons_zero,Option.some.injEq] at h
   subst h
   cases k0 with
   | os e =>
    have h1:=hn (.isL (cD x i o)) (by simp [kO])
    simp only [X.den,CD.gB] at h1
    rw [dz ⟨row,by rw [hx];exact hr,by omega⟩] at h1
    simp only [X.den,hx,CD.ax] at h1
    rw [List.getD_eq_getElem?_getD (l:=rows),hr,Option.getD_some] at h1
    exact h1
   | _=>cases hk
  | succ j =>
   rw [show o + (j + 1)=o + 1 + j from by omega]
   exact qQ hx hr rest (by omega) (by simpa using h) hk
theorem pg (hT : TOk P T) (H : bq B E p g h w) {t : Nat} {r r' : SR} {v : Value} {ns : List X} {h' : Hp} {qu : Bool} (hr : r.is E p g v) (ho : loadAt T h t r=.val ns r' h' qu) (hn : ∀ b∈ns,(b.den E).bool=true) :
  h'=h∧∃ v',(∀ w',bj E p h w w'→(Instr.loadAt t v).run P w'=.ok v' w')∧r'.is E p g v':=by
 unfold loadAt at ho
 split at ho
 ·
  rename_i q o
  split at ho
  ·rename_i ti cs ht hcs
   split at ho
   ·rename_i m hm
    obtain ⟨hl,hle,hnth⟩:=ky hm
    obtain ⟨b,k,hp,hv⟩:=(hr : ∃ b k,p.reg q=some (b,k)∧v=.pointer (some ⟨b,k + o,none⟩))
    subst hv
    split at ho
    ·rename_i rr hrr
     cases ho
     obtain ⟨v',h1,h2⟩:=ez (E:=E) (p:=p) (g:=g) hT ht hl ⟨b,k + o,none⟩ (bj E p h w) (fun j c hj=>by
      rw [hnth j (by have:=cn hj;omega)] at hj
      obtain ⟨u,k1,k2,_⟩:=H.sL hcs hj hp
      exact ⟨u,fun w' S=>by rw [et,Nat.add_assoc];exact k2 w' S,k1⟩) _ hrr
     exact ⟨rfl,v',fun w' S=>by simp [Instr.loadAt,Instr.sureAddr,h1 w' S],h2⟩
    ·cases ho
   ·cases ho
  ·cases ho
 ·
  rename_i a z i o
  split at ho
  ·rename_i ti A ht hA
   split at ho
   ·rename_i hz
    simp only [Bool.and_eq_true] at hz
    have hz1:=Nat.eq_of_beq_eq_true hz.1
    have hz2:=Nat.le_of_ble_eq_true hz.2
    subst hz1
    split at ho
    ·rename_i hos
     rw [Bool.and_eq_true] at hos
     obtain ⟨o1,o2,e0,o3⟩:=nL hos.1
     split at ho
     ·rename_i s n0 href
      cases ho
      have href:=zJ href
      obtain ⟨ad,cap,rows,_,hx,_⟩:=(H.arr a A hA).ex
      obtain ⟨h0,h1⟩:=dN (ba A.x) (fun b hb=>hn b (List.mem_append_left _ hb))
      have hn2:=hn (mkLe (.int 0) (mkAdd (.int 0) n0)) (by simp)
      rw [bz] at hn2
      have hn2:=of_decide_eq_true hn2
      rw [eV] at hn2
      simp only [X.den,CD.aR,Int.zero_add] at hn2
      rw [hx] at h1
      obtain ⟨row,hrow⟩ : ∃ row,rows[(i.den E).int.toNat]?=some row:=⟨_,List.getElem?_eq_getElem h1⟩
      obtain ⟨b,c,e1,_,_,e4,e5,_⟩:=H.sd hA hx hrow
      obtain ⟨b',c',n,k1,k2,k3⟩:=(hr : ∃ b c n : Nat,p.arr a=some (some ⟨b,0,none⟩,c)∧i.den E=.i n∧v=.pointer (some ⟨b,n * A.K.kd.length + o,none⟩))
      rw [e1] at k1
      cases k1
      subst k3
      have hni : (i.den E).int.toNat=n:=by rw [k2];simp
      have hol:=(List.getElem?_eq_some_iff.1 o3).1
      have hm : row.getD o .u=.h s (n0.den E).int.toNat:=by
       have h2:=dz (E:=E) (x:=A.x) (i:=i) (o:=o) ⟨row,by rw [hx];exact hrow,by rw [e4];exact hol⟩
       rw [href] at h2
       simp only [X.den,hx,CD.ax] at h2
       rw [List.getD_eq_getElem?_getD (l:=rows),hrow,Option.getD_some] at h2
       exact h2.symm
      rw [hni] at hrow e5
      obtain ⟨u,g1,g2⟩:=e5 _ _ o3
      have hns:=(H.arr a A hA).ns o e0 b c rows o3 e1 hx n row u hrow (g1 w (bj.refl _ _ _ _))
      rw [hm] at hns
      obtain ⟨ad',cap',n1,n2,n3⟩:=hns
      obtain ⟨v',h2,h3⟩:=ez (E:=E) (p:=p) (g:=g) hT ht (cs:=[.sl s (mkAdd (.int 0) n0)]) (by rw [o2];rfl) ⟨b,n * A.K.kd.length + o,none⟩ (bj E p h w) (fun j cc hj=>by
       cases j with
       | succ j=>simp [nth] at hj
       | zero =>
        simp only [nth,Option.some.injEq] at hj
        subst hj
        refine ⟨u,fun w' S=>by rw [et];exact g1 w' S,ad',cap',_,n1,?_,n2,n3⟩
        rw [eV]
        simp only [X.den,CD.aR,Int.zero_add]
        rw [Int.toNat_of_nonneg hn2]) (.v (.one (.sl s (mkAdd (.int 0) n0)))) (by rw [o1];rfl)
      exact ⟨rfl,v',fun w' S=>by simp [Instr.loadAt,Instr.sureAddr,h2 w' S],h3⟩
     ·cases ho
    split at ho
    ·rename_i rr hrr
     cases ho
     obtain ⟨ad,cap,rows,_,hx,_⟩:=(H.arr a A hA).ex
     obtain ⟨h0,h1⟩:=dN (ba A.x) (fun b hb=>hn b (List.mem_append_left _ hb))
     rw [hx] at h1
     obtain ⟨row,hrow⟩ : ∃ row,rows[(i.den E).int.toNat]?=some row:=⟨_,List.getElem?_eq_getElem h1⟩
     obtain ⟨b,c,e1,_,_,e4,e5,_⟩:=H.sd hA hx hrow
     obtain ⟨b',c',n,k1,k2,k3⟩:=(hr : ∃ b c n : Nat,p.arr a=some (some ⟨b,0,none⟩,c)∧i.den E=.i n∧v=.pointer (some ⟨b,n * A.K.kd.length + o,none⟩))
     rw [e1] at k1
     cases k1
     subst k3
     have hni : (i.den E).int.toNat=n:=by rw [k2];simp
     rw [hni] at hrow e5
     obtain ⟨v',h2,h3⟩:=ez (E:=E) (p:=p) (g:=g) hT ht (by rw [gr];simp;omega) ⟨b,n * A.K.kd.length + o,none⟩ (bj E p h w) (fun j cc hj=>by
      obtain ⟨u,k1,k2⟩:=oA (p:=p) (g:=g) (i:=i) (ks:=(A.K.kd.drop o).take ti.sz) (o:=o) (f:=fun j=>some (((w.cell? ⟨b,n * A.K.kd.length + (o + j),none⟩).getD Go.undef))) hx (by rw [hni];exact hrow) (fun j k hk=>by
       rw [List.getElem?_take] at hk
       split at hk
       ·rw [List.getElem?_drop] at hk
        obtain ⟨u,g1,g2⟩:=e5 _ _ hk
        exact ⟨u,by rw [g1 w (bj.refl _ _ _ _)];rfl,g2⟩
       ·cases hk) (fun j k hk hko=>qQ hx (by rw [hni];exact hrow) (fun b hb=>hn b (List.mem_append_right _ hb)) (by simp;omega) hk hko) (by simp;omega) j cc hj
      have hj':=cn hj
      rw [gr] at hj'
      simp only [List.length_take,List.length_drop] at hj'
      obtain ⟨kk,hkk⟩ : ∃ kk,A.K.kd[o + j]?=some kk:=⟨_,List.getElem?_eq_getElem (by omega)⟩
      obtain ⟨u',g1,g2⟩:=e5 _ _ hkk
      rw [g1 w (bj.refl _ _ _ _)] at k1
      simp only [Option.getD_some,Option.some.injEq] at k1
      subst k1
      exact ⟨_,fun w' S=>by rw [et,Nat.add_assoc];exact g1 w' S,k2⟩) _ hrr
     exact ⟨rfl,v',fun w' S=>by simp [Instr.loadAt,Instr.sureAddr,h2 w' S],h3⟩
    ·cases ho
   ·cases ho
  ·cases ho
 ·
  rename_i K x i o
  split at ho
  ·rename_i ti ht
   split at ho
   ·rename_i hz
    simp only [Bool.and_eq_true] at hz
    have hno:=pb hz.2
    have hz:=Nat.le_of_ble_eq_true hz.1
    split at ho
    ·rename_i rr hrr
     cases ho
     obtain ⟨b,q,n,row,k1,k2,k3,k4,k5⟩:=(hr : ∃ (b q n : Nat) (row : List CD),v=.pointer (some ⟨b,q,none⟩)∧i.den E=.i n∧(x.den E).rows[n]?=some row∧row.length=K.kd.length∧aJ g (K.kd.drop o) (fun j=>g b (q + j)) (row.drop o))
     subst k1
     have hxr : x.den E=.l (x.den E).rows:=by
      cases hh : x.den E <;> rw [hh] at k3 <;> first | rfl | (simp [CD.rows] at k3)
     have hni : (i.den E).int.toNat=n:=by rw [k2];simp
     obtain ⟨v',h2,h3⟩:=ez (E:=E) (p:=p) (g:=g) hT ht (by rw [gr];simp;omega) ⟨b,q,none⟩ (bj E p h w) (fun j cc hj=>by
      obtain ⟨u,k1,k2⟩:=oA (p:=p) (g:=g) (i:=i) (ks:=(K.kd.drop o).take ti.sz) (o:=o) (f:=fun j=>g b (q + j)) hxr (by rw [hni];exact k3) (fun j k hk=>by
       rw [List.getElem?_take] at hk
       split at hk
       ·obtain ⟨u,g1,g2⟩:=k5.cell hk
        exact ⟨u,g1,by simpa [List.getD_eq_getElem?_getD,List.getElem?_drop] using g2⟩
       ·cases hk) (fun j k hk hko=>by cases k <;> first | (exact absurd hk (hno j _)) | cases hko) (by simp;omega) j cc hj
      exact ⟨u,fun w' S=>by rw [et];exact S.gm H k1,k2⟩) _ hrr
     exact ⟨rfl,v',fun w' S=>by simp [Instr.loadAt,Instr.sureAddr,h2 w' S],h3⟩
    ·cases ho
   ·cases ho
  ·cases ho
 ·cases ho
theorem rj {f : Int→Int→Int} {x y e : X} (h : lq f x y=some e) : e.den E=.i (f (x.den E).int (y.den E).int)∧IntKind.i64.wrap (f (x.den E).int (y.den E).int)=f (x.den E).int (y.den E).int:=by
 unfold lq at h
 split at h
 ·split at h
  ·rename_i a b he
   cases h
   simp only [inI64,Bool.and_eq_true,Bool.not_eq_true',jg,decide_eq_false_iff_not,decide_eq_true_eq] at he
   exact ⟨rfl,IntWalk.i64_in _ ⟨by simp only [X.den,CD.aR];omega,by simp only [X.den,CD.aR];omega⟩⟩
  ·cases h
 ·cases h
theorem Ff {x : X} {n : Int} (hx : x.den E=.i n) (h : ((X.fit x).den E).bool=true) : IntKind.i64.wrap n=n:=by
 simp only [X.den,CD.gB,Bool.and_eq_true,decide_eq_true_eq,hx,CD.aR] at h
 exact IntWalk.i64_in _ h
theorem ru {op : BinOp} {k : IntKind} {x y r : X} {ns : List X} {m n : Int} (ho : arith op k x y=some (ns,r)) (hx : x.den E=.i m) (hy : y.den E=.i n) (hn : ∀ b∈ns,(b.den E).bool=true) (t : Nat) (w : World) :
  ∃ u,(binOp op t (.int k m) (.int k n)).run P w=.ok (.int k u) w∧r.den E=.i u:=by
 have go : ∀ (f : Int→Int→Int) (gg : X→X→X),(∀ x y : X,(gg x y).den E=.i (f (x.den E).int (y.den E).int))→(match lq f x y with | some e=>some ([],e) | none=>some ([X.fit (gg x y)],gg x y))=some (ns,r) →
   r.den E=.i (f m n)∧IntKind.i64.wrap (f m n)=f m n:=fun f gg hgg ho=>by
  split at ho
  ·rename_i e he
   cases ho
   obtain ⟨h1,h2⟩:=rj (E:=E) he
   rw [hx,hy] at h1 h2
   exact ⟨h1,h2⟩
  ·cases ho
   have hd:=hgg x y
   rw [hx,hy] at hd
   exact ⟨hd,Ff hd (hn _ (by simp))⟩
 unfold arith at ho
 split at ho
 ·split at ho
  ·obtain ⟨h1,h2⟩:=go _ X.add (fun _ _=>rfl) ho
   exact ⟨m + n,by simp [binOp,Op.intArith,h2],h1⟩
  ·obtain ⟨h1,h2⟩:=go _ X.sub (fun _ _=>rfl) ho
   exact ⟨m - n,by simp [binOp,Op.intArith,h2],h1⟩
  ·obtain ⟨h1,h2⟩:=go _ X.mul (fun _ _=>rfl) ho
   exact ⟨m * n,by simp [binOp,Op.intArith,h2],h1⟩
  ·split at ho
   ·rename_i e he
    cases ho
    have h0:=hn _ (List.mem_singleton.2 rfl)
    rw [j9,ka,hy] at h0
    have h0 : n≠0:=by simpa [X.den] using h0
    obtain ⟨h1,_⟩:=rj (E:=E) he
    rw [hx,hy] at h1
    exact ⟨m.tmod n,by simp [binOp,Op.intDiv,h0],h1⟩
   ·cases ho
    have h0:=hn _ (List.mem_singleton.2 rfl)
    rw [j9,ka,hy] at h0
    have h0 : n≠0:=by simpa [X.den] using h0
    exact ⟨m.tmod n,by simp [binOp,Op.intDiv,h0],by simp [X.den,hx,hy]⟩
  ·cases ho
 ·cases ho
theorem kc : ∀ {kd : List Kd} {l : List SC} {vs : List Value},gE kd l=true→aE (SC.is E p g) l vs→aE Kd.isv kd vs
 | [],[],[],_,_=>trivial
 | k :: kd,c :: l,v :: vs,h,hv=>by
  cases k <;> cases c <;> simp only [gE,Bool.and_eq_true,Bool.false_eq_true] at h
  ·obtain ⟨n,_,e⟩:=hv.1
   exact ⟨⟨n,by rw [e,IntKind.av h.1]⟩,kc h.2 hv.2⟩
  ·obtain ⟨n,_,e⟩:=hv.1
   exact ⟨⟨n,e⟩,kc h hv.2⟩
 | [],_ :: _,_,h,_=>by cases h
 | k :: _,[],_,h,_=>by cases k <;> cases h
 | _,[],_ :: _,_,hv=>hv.elim
 | _,_ :: _,[],_,hv=>hv.elim
theorem rp : ∀ {l m : List SC} {xs ys : List Value} {b : X},jD l m=some b→aE (SC.is E p g) l xs→aE (SC.is E p g) m ys→b.den E=.b (cS xs ys)
 | [],[],[],[],b,h,_,_=>by simp only [jD,Option.some.injEq] at h;subst h;rfl
 | c :: l,d :: m,x :: xs,y :: ys,b,h,hx,hy=>by
  cases c <;> cases d <;> simp only [jD] at h <;> try (cases h;done)
  all_goals
   obtain ⟨u,hu,e⟩:=Option.map_eq_some_iff.1 h
   subst e
   obtain ⟨n1,h1,e1⟩:=hx.1
   obtain ⟨n2,h2,e2⟩:=hy.1
   subst e1;subst e2
   have ih:=rp hu hx.2 hy.2
  ·exact uT (by rw [ka,h1,h2];rfl) ih
  ·exact uT (by rw [uS,h1,h2];rfl) ih
 | [],_ :: _,_,_,b,h,_,_=>by simp [jD] at h
 | c :: _,[],_,_,b,h,_,_=>by cases c <;> simp [jD] at h
 | _ :: _,_ :: _,[],_,_,_,h,_=>h.elim
 | _ :: _,_ :: _,_,[],_,_,_,h=>h.elim
 | [],[],_ :: _,_,_,_,h,_=>h.elim
 | [],[],_,_ :: _,_,_,_,h=>h.elim
theorem jo {op : BinOp} {b r : X} {x : Bool} (h : oJ op b=some r) (hb : b.den E=.b x) : (op=.eql∨op=.neq)∧r.den E=.b (if op=.eql then x else !x):=by
 unfold oJ at h
 split at h <;> cases h
 ·exact ⟨.inl rfl,by simpa using hb⟩
 ·refine ⟨.inr rfl,?_⟩
  rw [j9,hb];simp
theorem uz (hT : TOk P T) {op : BinOp} {t : Nat} {x y : SV} {b : X} {vx vy : Value} (ho : compare T op t x y=some b) (hx : x.is E p g vx) (hy : y.is E p g vy) (ox oy : Operand) (w : World) :
  ∃ u,(do eqGuard op t ox oy vx vy;binOp op t vx vy).run P w=.ok (.bool u) w∧b.den E=.b u:=by
 unfold compare at ho
 split at ho
 ·rename_i k a j c
  split at ho
  ·rename_i hk
   have hk:=IntKind.av hk
   subst hk
   obtain ⟨m,h1,e1⟩:=(hx : ∃ n,a.den E=.i n∧vx=.int k n)
   obtain ⟨n,h2,e2⟩:=(hy : ∃ n,c.den E=.i n∧vy=.int k n)
   subst e1;subst e2
   split at ho <;> cases ho
   ·exact ⟨_,by simp [eqGuard,binOp,Op.intCmp];rfl,by rw [ka,h1,h2];simp⟩
   ·exact ⟨_,by simp [eqGuard,binOp,Op.intCmp];rfl,by rw [j9,ka,h1,h2];simp [bne]⟩
   ·exact ⟨_,by simp [eqGuard,binOp,Op.intCmp];rfl,by rw [sY,h1,h2];exact congrArg CD.b (decide_eq_decide.2 Iff.rfl)⟩
   ·exact ⟨_,by simp [eqGuard,binOp,Op.intCmp];rfl,by rw [bz,h1,h2];exact congrArg CD.b (decide_eq_decide.2 Iff.rfl)⟩
   ·exact ⟨_,by simp [eqGuard,binOp,Op.intCmp];rfl,by rw [sY,h1,h2];exact congrArg CD.b (decide_eq_decide.2 Iff.rfl)⟩
   ·exact ⟨_,by simp [eqGuard,binOp,Op.intCmp];rfl,by rw [bz,h1,h2];exact congrArg CD.b (decide_eq_decide.2 Iff.rfl)⟩
  ·cases ho
 ·rename_i a c
  split at ho
  ·rename_i kd _ hti
   split at ho
   ·rename_i hc3
    obtain ⟨m,h1,e1⟩:=(hx : ∃ n,a.den E=.b n∧vx=.bool n)
    obtain ⟨n,h2,e2⟩:=(hy : ∃ n,c.den E=.b n∧vy=.bool n)
    subst e1;subst e2
    have hk1 : aE Kd.isv kd [Value.bool m]:=kc (E:=E) (p:=p) (g:=g) hc3 ⟨⟨m,h1,rfl⟩,trivial⟩
    have hk2 : aE Kd.isv kd [Value.bool n]:=by
     cases kd with
     | nil=>exact hk1.elim
     | cons k l =>
      cases l with
      | nil =>
       cases k with
       | bool=>exact ⟨⟨n,rfl⟩,trivial⟩
       | int k=>obtain ⟨_,h⟩:=hk1.1;cases h
       | _=>exact hk1.1.elim
      | cons k2 l=>exact hk1.2.elim
    obtain ⟨hop,hb⟩:=jo (E:=E) (x:=m ==n) ho (by rw [uS,h1,h2];rfl)
    have key:=hT.eq t _ kd hti rfl rfl [.bool m] [.bool n] hk1 hk2 w ox oy op hop
    simp only [vof,Bool.false_eq_true,if_false,List.headD_cons,cS,Bool.and_true] at key
    exact ⟨_,key,hb⟩
   ·cases ho
  ·cases ho
 ·rename_i a c
  obtain ⟨s1,h1,e1⟩:=(hx : ∃ s : ByteArray,a.den E=.s s.data.toList∧vx=.string s)
  obtain ⟨s2,h2,e2⟩:=(hy : ∃ s : ByteArray,c.den E=.s s.data.toList∧vy=.string s)
  subst e1;subst e2
  obtain ⟨hop,hb⟩:=jo (E:=E) (x:=s1.data.toList ==s2.data.toList) ho (by rw [BX,h1,h2];rfl)
  refine ⟨_,?_,hb⟩
  rcases hop with rfl | rfl <;> simp [eqGuard,binOp_string_eql,binOp_string_neq,ByteArray.toList_eq]
 ·split at ho
  ·rename_i ht
   have hx : vx=.pointer none:=hx
   have hy : vy=.pointer none:=hy
   subst hx;subst hy
   obtain ⟨_,d,z,_,hu,_,_,_,_,_,_,_,h10⟩:=(hT.get t _ ht).ex
   have h10 : d=.pointer _:=h10
   subst h10
   have hp : P.underlying t=some (.pointer (P.pointee t)):=by rw [hu];simp [Program.pointee,hu]
   obtain ⟨hop,hb⟩:=jo (E:=E) (x:=true) ho rfl
   refine ⟨_,?_,hb⟩
   rcases hop with rfl | rfl <;> simp [eqGuard,run_eql_pointer_nil w t none hp,run_neq_pointer_nil w t none hp]
  ·cases ho
 ·split at ho
  ·rename_i ht
   obtain ⟨b0,q0,_,hx⟩:=hx
   have hy : vy=.pointer none:=hy
   subst hx;subst hy
   obtain ⟨_,d,z,_,hu,_,_,_,_,_,_,_,h10⟩:=(hT.get t _ ht).ex
   have h10 : d=.pointer _:=h10
   subst h10
   have hp : P.underlying t=some (.pointer (P.pointee t)):=by rw [hu];simp [Program.pointee,hu]
   obtain ⟨hop,hb⟩:=jo (E:=E) (x:=false) ho rfl
   refine ⟨_,?_,hb⟩
   rcases hop with rfl | rfl <;> simp [eqGuard,run_eql_pointer_nil w t (some _) hp,run_neq_pointer_nil w t (some _) hp]
  ·cases ho
 ·rename_i l m
  split at ho
  ·rename_i kd _ hti
   split at ho
   ·rename_i hc3
    simp only [Bool.and_eq_true] at hc3
    obtain ⟨vs,ex,hvs⟩:=hx
    obtain ⟨us,ey,hus⟩:=hy
    subst ex;subst ey
    split at ho
    ·rename_i b' hb'
     obtain ⟨hop,hb⟩:=jo (E:=E) ho (rp hb' hvs hus)
     have key:=hT.eq t _ kd hti rfl rfl vs us (kc hc3.1 hvs) (kc hc3.2 hus) w ox oy op hop
     simp only [vof,if_true] at key
     exact ⟨_,key,hb⟩
    ·cases ho
   ·cases ho
  ·cases ho
 ·cases ho
end
end Go.Sy
