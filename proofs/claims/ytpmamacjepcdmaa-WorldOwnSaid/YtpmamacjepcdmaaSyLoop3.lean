import Derived.Test.YtpmamacjepcdmaaSyLoop
namespace Go.Sy
open Go.RowKit
theorem m9 {α : Type} {n : Nat} {x : α} : ∀ {l : List (Nat × α)},eJ (l.map (·.1))=true→(n,x)∈l→fk n l=some x
 | [],_,h=>by cases h
 | (m,y) :: l,hd,h=>by
  rw [List.map_cons] at hd
  obtain ⟨h1,h2⟩:=gI hd
  simp only [fk]
  rcases List.mem_cons.1 h with e | h'
  ·cases e
   rw [if_pos (Nat.beq_refl n)]
  ·rw [if_neg,m9 h2 h']
   intro e
   have e:=Nat.eq_of_beq_eq_true e
   exact h1 (List.mem_map.2 ⟨(n,x),h',e⟩)
theorem pK {ls : List (Nat × Kd × X)} : ∀ {ks : List Kd} {i : Nat} {cs : List X},collect ls i ks=some cs→cs.length=ks.length∧∀ j k,ks[j]?=some k→∃ x,cs[j]?=some x∧fk (i + j) ls=some (k,x)
 | [],i,cs,h=>by
  simp only [collect,Option.some.injEq] at h
  subst h
  exact ⟨rfl,fun j k hj=>by simp at hj⟩
 | k :: ks,i,cs,h=>by
  simp only [collect] at h
  split at h
  ·rename_i k' x l h1 h2
   split at h
   ·rename_i hk
    have hk:=Kd.av _ _ hk
    subst hk
    cases h
    obtain ⟨i1,i2⟩:=pK h2
    refine ⟨by simp [i1],fun j k0 hj=>?_⟩
    cases j with
    | zero =>
     simp only [List.getElem?_cons_zero,Option.some.injEq] at hj
     subst hj
     exact ⟨x,rfl,h1⟩
    | succ j =>
     obtain ⟨y,y1,y2⟩:=i2 j k0 (by simpa using hj)
     exact ⟨y,by simpa using y1,by rw [show i + (j + 1)=i + 1 + j from by omega];exact y2⟩
   ·cases h
  ·cases h
theorem oks_of {ks : List Kd} {ds : List CD} (hl : ds.length=ks.length) (h : ∀ (j : Nat) (k : Kd),ks[j]?=some k→∃ d,ds[j]?=some d∧CD.ok k d) : CD.oks ks ds:=by
 induction ks generalizing ds with
 | nil=>cases ds <;> first | trivial | simp at hl
 | cons k ks ih =>
  cases ds with
  | nil=>simp at hl
  | cons d ds =>
   obtain ⟨d',h1,h2⟩:=h 0 k rfl
   simp only [List.getElem?_cons_zero,Option.some.injEq] at h1
   subst h1
   exact ⟨h2,ih (by simpa using hl) fun j k hj=>by simpa using h (j + 1) k (by simpa using hj)⟩
def tgt (L : LI) (as : List (Nat × Nat)) (a : Nat) : Option Nat:=if a < L.a0 then some a else match fk a as with | some (c + 1)=>some c | _=>none
theorem sq {L : LI} {b : Sub} : ∀ {l : List (Pc Ar)} {a j : Nat} {A : Ar} {c : Nat},nth l j=some (.here A)→tgt L b.as (a + j)=some c→c∈Kw L b a l
 | [],_,_,_,_,h,_=>by simp [nth] at h
 | x :: l,a,0,A,c,h,ht=>by
  simp only [nth,Option.some.injEq] at h
  subst h
  simp only [Kw,List.mem_append]
  left
  simp only [Nat.add_zero,tgt] at ht
  split at ht
  ·rename_i hl
   cases ht
   rw [if_pos (by rw [Nat.blt_eq];exact hl)]
   simp
  ·rename_i hl
   rw [if_neg (fun h=>hl (Hk h))]
   split at ht
   ·rename_i hc;cases ht;rw [hc];simp
   ·cases ht
 | x :: l,a,j + 1,A,c,h,ht=>by
  have:=sq (L:=L) (b:=b) (l:=l) (a:=a + 1) (j:=j) h (by rw [show a + 1 + j=a + (j + 1) from by omega];exact ht)
  cases x with
  | fr=>exact this
  | go=>exact this
  | here y=>simp only [Kw,List.mem_append];exact .inr this
theorem kX {l m : List Nat} (h : eJ (l ++ m)=true) : eJ m=true∧∀ x∈l,x ∉ m:=by
 induction l with
 | nil=>exact ⟨h,fun _ h=>by cases h⟩
 | cons a l ih =>
  obtain ⟨h1,h2⟩:=gI (l:=l ++ m) h
  obtain ⟨h3,h4⟩:=ih h2
  refine ⟨h3,fun x hx=>?_⟩
  rcases List.mem_cons.1 hx with e | hx
  ·subst e;exact fun hm=>h1 (List.mem_append_right _ hm)
  ·exact h4 x hx
theorem J7 {L : LI} {b : Sub} : ∀ {l : List (Pc Ar)} {a j j' : Nat} {A A' : Ar} {c : Nat},eJ (Kw L b a l)=true→nth l j=some (.here A)→nth l j'=some (.here A')→tgt L b.as (a + j)=some c→tgt L b.as (a + j')=some c→j=j'
 | [],_,_,_,_,_,_,_,h,_,_,_=>by simp [nth] at h
 | x :: l,a,j,j',A,A',c,hd,h,h',ht,ht'=>by
  have head : ∀ {A0 : Ar},x=.here A0→tgt L b.as a=some c→c∈(if Nat.blt a L.a0 then [a] else (match fk a b.as with | some (c + 1)=>[c] | _=>[])):=fun _ ht=>by
   simp only [tgt] at ht
   split at ht
   ·rename_i hl
    cases ht
    rw [if_pos (by rw [Nat.blt_eq];exact hl)]
    simp
   ·rename_i hl
    rw [if_neg (fun h=>hl (Hk h))]
    split at ht
    ·rename_i hc;cases ht;simp
    ·cases ht
  have tail : eJ (Kw L b (a + 1) l)=true:=by
   cases x with
   | fr=>exact hd
   | go=>exact hd
   | here y=>exact (kX hd).1
  cases j with
  | zero =>
   cases j' with
   | zero=>rfl
   | succ j' =>
    exfalso
    simp only [nth,Option.some.injEq] at h
    subst h
    exact (kX hd).2 c (head rfl ht) (sq (j:=j') h' (by rw [show a + 1 + j'=a + (j' + 1) from by omega];exact ht'))
  | succ j =>
   cases j' with
   | zero =>
    exfalso
    simp only [nth,Option.some.injEq] at h'
    subst h'
    exact (kX hd).2 c (head rfl ht') (sq (j:=j) h (by rw [show a + 1 + j=a + (j + 1) from by omega];exact ht))
   | succ j' =>
    have:=J7 (l:=l) (a:=a + 1) (j:=j) (j':=j') tail h h' (by rw [show a + 1 + j=a + (j + 1) from by omega];exact ht) (by rw [show a + 1 + j'=a + (j' + 1) from by omega];exact ht')
    omega
section
variable {B : cT} {E : Env} {p : Pl} {g : Gm} {L : LI} {s : St} {a : Act} {as : List Act} {w : World}
open Classical in
noncomputable def HH (p : Pl) (L : LI) (as : List (Nat × Nat)) : Pl where
 reg r:=if r < L.r0 then p.reg r else none
 arr a:=if a < L.a0 then p.arr a else match fk a as with
  | some 0=>some (none,0)
  | some (c + 1)=>p.arr c
  | none=>none
 mp a:=if a < L.hd.h.mps.length then p.mp a else none
 ow k:=match p.ow k with
  | .arr c=>if h : ∃ a A,nth L.hd.h.arrs a=some (.here A)∧tgt L as a=some c then .arr h.choose else .z
  | .nst c i j=>if h : ∃ a A,nth L.hd.h.arrs a=some (.here A)∧tgt L as a=some c then .nst h.choose i j else .z
  | o=>o
theorem oE {ls : List (Nat × Nat)} {r : Nat} (h : r < L.r0) : (HH p L ls).reg r=p.reg r:=if_pos h
theorem zM {ls : List (Nat × Nat)} {a : Nat} (h : a < L.a0) : (HH p L ls).arr a=p.arr a:=if_pos h
theorem tD {ls : List (Nat × Nat)} {a : Nat} (h : L.a0≤a) (hl : fk a ls=some 0) : (HH p L ls).arr a=some (none,0):=by
 simp only [HH,if_neg (show ¬ a < L.a0 by omega),hl]
theorem oF {ls : List (Nat × Nat)} {a c : Nat} (h : L.a0≤a) (hl : fk a ls=some (c + 1)) : (HH p L ls).arr a=p.arr c:=by
 simp only [HH,if_neg (show ¬ a < L.a0 by omega),hl]
theorem qq {ls : List (Nat × Nat)} {k : Nat} (h : ∀ c,¬ (p.ow k).ofA c) : (HH p L ls).ow k=p.ow k:=by
 simp only [HH]
 split
 ·rename_i c e;exact absurd (show (p.ow k).ofA c by rw [e];rfl) (h c)
 ·rename_i c i j e;exact absurd (show (p.ow k).ofA c by rw [e];rfl) (h c)
 ·rfl
theorem zN {ls : List (Nat × Nat)} {k a : Nat} (h : ((HH p L ls).ow k).ofA a) : ∃ c,(p.ow k).ofA c:=by
 simp only [HH] at h
 split at h
 ·rename_i c e;exact ⟨c,by rw [e];rfl⟩
 ·rename_i c i j e;exact ⟨c,by rw [e];rfl⟩
 ·exact ⟨a,h⟩
theorem tC {b : Sub} {k c a i j : Nat} {A : Ar} (hd : eJ (Kw L b 0 L.hd.h.arrs)=true) (h : p.ow k=.nst c i j) (hA : nth L.hd.h.arrs a=some (.here A)) (ht : tgt L b.as a=some c) : (HH p L b.as).ow k=.nst a i j:=by
 have hex : ∃ a A,nth L.hd.h.arrs a=some (.here A)∧tgt L b.as a=some c:=⟨a,A,hA,ht⟩
 simp only [HH,h,dif_pos hex]
 obtain ⟨A',h1,h2⟩:=hex.choose_spec
 congr 1
 exact J7 hd h1 hA (by rw [Nat.zero_add];exact h2) (by rw [Nat.zero_add];exact ht)
theorem jG.head {q : Pl} {a a' i j e : Nat} {v : Value} {d : CD} (hN : jG B p g a i j e w v d) (hd : d.isH=false) (ho : ∀ b,p.ow b=.nst a i j→q.ow b=.nst a' i j) : jG B q g a' i j e w v d:=by
 cases d with
 | l r=>trivial
 | o r =>
  obtain ⟨ad,cap,e1,e2⟩:=hN
  exact ⟨ad,cap,e1,rF.cU (Mc:=fun _ _=>False) e2 (cd.refl _ _) (fun _ _ _ _ h=>h) (Gm.Le.refl _) fun b _ h=>ho b h⟩
 | h s n=>cases hd
 | _=>exact hN.elim
theorem tB {b : Sub} {k c a : Nat} {A : Ar} (hd : eJ (Kw L b 0 L.hd.h.arrs)=true) (h : p.ow k=.arr c) (hA : nth L.hd.h.arrs a=some (.here A)) (ht : tgt L b.as a=some c) : (HH p L b.as).ow k=.arr a:=by
 have hex : ∃ a A,nth L.hd.h.arrs a=some (.here A)∧tgt L b.as a=some c:=⟨a,A,hA,ht⟩
 simp only [HH,h,dif_pos hex]
 obtain ⟨A',h1,h2⟩:=hex.choose_spec
 congr 1
 exact J7 hd h1 hA (by rw [Nat.zero_add];exact h2) (by rw [Nat.zero_add];exact ht)
end
end Go.Sy

namespace Go.Sy
open Go.RowKit
section
variable {B : cT} {E F : Env} {p q : Pl} {g : Gm} {L : LI} {s : St} {a : Act} {as : List Act} {w : World} {ls : List (Nat × Kd × X)} {al : List (Nat × Nat)}
structure yB (E F : Env) (p q : Pl) (L : LI) (ls : List (Nat × Kd × X)) (al : List (Nat × Nat)) : Prop where
 jF : E.bW L.nx0 F
 ls : ∀ i k x,(i,k,x)∈ls→F i=x.den E
 reg : ∀ r,r < L.r0→q.reg r=p.reg r
 arr : ∀ a,a < L.a0→q.arr a=p.arr a
 mp : ∀ a,a < L.hd.h.mps.length→q.mp a=p.mp a
 nil : ∀ a,(a,0)∈al→q.arr a=some (none,0)
 new : ∀ a c,(a,c + 1)∈al→q.arr a=p.arr c
theorem y0 (M : yB E F p q L ls al) {c : SC} {v : Value} (ho : c.old L=true) (h : c.is E p g v) : c.is F q g v:=by
 simp only [SC.old,Bool.and_eq_true] at ho
 obtain ⟨u,ho⟩:=ho
 have h:=SC.fA M.jF u h
 cases c with
 | sl a n =>
  obtain ⟨A,c,m,h1,h2⟩:=h
  exact ⟨A,c,m,by rw [M.arr a (Hk ho)];exact h1,h2⟩
 | sub a z i n =>
  obtain ⟨A,c,k,m,h1,h2⟩:=h
  exact ⟨A,c,k,m,by rw [M.arr a (Hk ho)];exact h1,h2⟩
 | ep a z i o =>
  obtain ⟨b,c,n,h1,h2⟩:=h
  exact ⟨b,c,n,by rw [M.arr a (Hk ho)];exact h1,h2⟩
 | loc r o =>
  obtain ⟨b,q',h1,h2⟩:=h
  exact ⟨b,q',by rw [M.reg r (Hk ho)];exact h1,h2⟩
 | mp a =>
  obtain ⟨b,h1,h2⟩:=h
  exact ⟨b,by rw [M.mp a (Hk ho)];exact h1,h2⟩
 | fn f caps =>
  obtain ⟨vs,h1,h2⟩:=h
  refine ⟨vs,h1,h2.imp fun x hx u ⟨b,q',h3,h4⟩=>⟨b,q',?_,h4⟩⟩
  rw [M.reg _ (Hk (dZ ho x hx))];exact h3
 | _=>exact h
theorem AG (M : yB E F p q L ls al) {c : SV} {v : Value} (ho : c.old L=true) (h : c.is E p g v) : c.is F q g v:=by
 cases c with
 | one c=>exact y0 M ho h
 | agg l=>obtain ⟨vs,e,hv⟩:=h;exact ⟨vs,e,hv.imp fun x hx b hb=>y0 M (dZ ho x hx) hb⟩
theorem AH (M : yB E F p q L ls al) {c : SR} {v : Value} (ho : c.old L=true) (h : c.is E p g v) : c.is F q g v:=by
 cases c with
 | v c=>exact AG M ho h
 | tup l=>obtain ⟨vs,e,hv⟩:=h;exact ⟨vs,e,hv.imp fun x hx b hb=>AG M (dZ ho x hx) hb⟩
theorem cl_is (H : bq B E p g s.h w) (hk : ∀ b∈s.known,(b.den E).bool=true) (M : yB E F p q L ls al) {hc c : SC} {v : Value} (hcl : Cl L s ls al hc c) (h : c.is E p g v) : hc.is F q g v:=by
 cases hcl with
 | any=>trivial
 | old _ ho=>exact y0 M ho h
 | int k i x hm=>obtain ⟨n,h1,h2⟩:=h;exact ⟨n,by simp only [X.den];rw [M.ls _ _ _ hm];exact h1,h2⟩
 | bool i x hm=>obtain ⟨n,h1,h2⟩:=h;exact ⟨n,by simp only [X.den];rw [M.ls _ _ _ hm];exact h1,h2⟩
 | str i x hm=>obtain ⟨n,h1,h2⟩:=h;exact ⟨n,by simp only [X.den];rw [M.ls _ _ _ hm];exact h1,h2⟩
 | fz K i x hm =>
  show Rd g _ v ((X.var i).den F)
  simp only [X.den]
  rw [M.ls _ _ _ hm];exact h
 | fzn K i hm =>
  show Rd g _ v ((X.var i).den F)
  simp only [X.den]
  rw [M.ls _ _ _ hm]
  have h : v=.slice none 0 0:=h
  subst h;exact Rd.nil _
 | fzz K i hm =>
  show Rd g _ v ((X.var i).den F)
  simp only [X.den]
  rw [M.ls _ _ _ hm]
  obtain ⟨A,h⟩:=h
  subst h;exact Rd.nil _
 | sl a' c' i n k A' hm ha hA hd =>
  obtain ⟨ad,cap,m,h1,h2,h3,h4⟩:=h
  obtain ⟨ad',cap',rows,e1,e2,e3,e4,e5,e6,e7,e8⟩:=(H.arr c' A' hA).ex
  have hle:=gU hk hd
  rw [bz,ba,e2,h2] at hle
  have hle:=of_decide_eq_true hle
  simp only [CD.aR,CD.ax] at hle
  refine ⟨ad,cap,m,by rw [M.new _ _ ha];exact h1,?_,h3,h4⟩
  simp only [X.den]
  rw [M.ls _ _ _ hm,db e2,h2]
  simp only [CD.aR,CD.ax,List.length_take]
  congr 2
  omega
 | sln a' i k hm ha =>
  have h : v=.slice none 0 0:=h
  refine ⟨none,0,0,M.nil _ ha,?_,Nat.le_refl _,h⟩
  simp only [X.den]
  rw [M.ls _ _ _ hm]
  rfl
theorem tl_is (H : bq B E p g s.h w) (hk : ∀ b∈s.known,(b.den E).bool=true) (M : yB E F p q L ls al) {t u : SR} {v : Value} (htl : Tl L s ls al t u) (h : u.is E p g v) : t.is F q g v:=by
 rcases htl with e | ⟨c,d,e1,e2,hcl⟩ | ⟨e,ho⟩
 ·subst e;trivial
 ·subst e1;subst e2;exact cl_is H hk M hcl h
 ·subst e;exact AH M ho h
theorem DR (H : bq B E p g s.h w) (hk : ∀ b∈s.known,(b.den E).bool=true) (M : yB E F p q L ls al) {t u : List SR} (h : aE (Tl L s ls al) t u) (R : cA E p g u a) : cA F q g t a :=
 ⟨R.defers,R.size.trans h.length.symm,fun i c hc=>by
  obtain ⟨d,h1,h2⟩:=h.nth hc
  exact tl_is H hk M h2 (R.tmp i d h1)⟩
theorem CP (M : yB E F p q L ls al) : ∀ {l m : List (List SR)} {as : List Act},yo L l m=true→aE (cA E p g) m as→aE (cA F q g) l as
 | [],[],[],_,_=>trivial
 | [],[],_ :: _,_,h=>h.elim
 | _ :: _,_ :: _,[],_,h=>h.elim
 | t :: l,u :: m,a :: as,hb,h=>by
  simp only [yo,gp,Bool.and_eq_true] at hb
  refine ⟨?_,CP M hb.2 h.2⟩
  have key : ∀ {t u : List SR},gp (vG L) t u=true→t.length=u.length∧∀ i c,nth t i=some c→∃ d,nth u i=some d∧vG L c d=true:=by
   intro t
   induction t with
   | nil=>intro u h;cases u <;> simp only [gp,Bool.false_eq_true] at h;exact ⟨rfl,fun i c hc=>by simp [nth] at hc⟩
   | cons x t ih =>
    intro u h
    cases u <;> simp only [gp,Bool.false_eq_true,Bool.and_eq_true] at h
    obtain ⟨i1,i2⟩:=ih h.2
    refine ⟨by simp [i1],fun i c hc=>?_⟩
    cases i with
    | zero=>simp only [nth,Option.some.injEq] at hc;subst hc;exact ⟨_,rfl,h.1⟩
    | succ i=>exact i2 i c hc
  obtain ⟨k1,k2⟩:=key hb.1
  refine ⟨h.1.defers,h.1.size.trans k1.symm,fun i c hc=>?_⟩
  obtain ⟨d,d1,d2⟩:=k2 i c hc
  have hd:=h.1.tmp i d d1
  unfold vG at d2
  split at d2
  ·trivial
  ·simp only [Bool.and_eq_true] at d2
   have e:=SR.av _ _ d2.1
   subst e
   exact AH M d2.2 hd
 | [],_ :: _,_,h,_=>by simp [yo,gp] at h
 | _ :: _,[],_,h,_=>by simp [yo,gp] at h
theorem cY.ok {k : Kd} {v : Value} {d : CD} (h : cY k v d) : CD.ok k d:=by
 cases k with
 | int k=>obtain ⟨n,_,e⟩:=h;exact ⟨n,e⟩
 | bool=>obtain ⟨n,_,e⟩:=h;exact ⟨n,e⟩
 | str=>exact h.elim
 | sl _ _=>exact h.elim
 | os _=>exact h.elim
theorem cY.ok0 {k : Kd} {v : Value} {d : CD} (h : cY k v d) : CD.ok0 k d:=by
 cases k with
 | int k=>obtain ⟨n,_,e⟩:=h;exact ⟨n,e⟩
 | bool=>obtain ⟨n,_,e⟩:=h;exact ⟨n,e⟩
 | _=>exact h.elim
theorem G9.oks : ∀ {kk : List Kd} {vs : List Value} {a : List CD},G9 kk vs a→CD.ny kk a∧∀ (j e : Nat),kk[j]?≠some (.os e)
 | [],[],[],_=>⟨trivial,fun j e h=>by simp at h⟩
 | k :: _,_ :: _,_ :: _,h=>⟨⟨h.1.ok0,(G9.oks h.2).1⟩,fun j e hj=>by
  cases j with
  | zero =>
   simp only [List.getElem?_cons_zero,Option.some.injEq] at hj
   subst hj
   exact h.1.elim
  | succ j=>exact (G9.oks h.2).2 j e (by simpa using hj)⟩
 | [],_ :: _,_,h=>h.elim
 | [],[],_ :: _,h=>h.elim
 | _ :: _,[],_,h=>h.elim
 | _ :: _,_ :: _,[],h=>h.elim
def Ml (L : LI) (ls : List (Nat × Kd × X)) : Pc Mp→Pc Mp→Prop
 | .here A,.here B=>ET A B=true∧((A.x=B.x∧A.x.under L.nx0=true)∨∃ i,A.x=.var i∧(i,Kd.sl 0 (A.kk ++ [A.vk]),B.x)∈ls)
 | .here _,_=>False
 | _,_=>True
theorem Ml.mono {ls ls' : List (Nat × Kd × X)} (h1 : ∀ x∈ls,x∈ls') {x y : Pc Mp} (h : Ml L ls x y) : Ml L ls' x y:=by
 cases x with
 | fr=>trivial
 | go=>trivial
 | here A=>cases y with
  | fr=>exact h.elim
  | go=>exact h.elim
  | here B=>exact ⟨h.1,h.2.imp id fun ⟨i,e,hm⟩=>⟨i,e,h1 _ hm⟩⟩
def Em (E : Env) (M : Mp) : Prop:=∃ rows,M.x.den E=.l rows∧∀ row∈rows,∃ vs,G9 (M.kk ++ [M.vk]) vs row
theorem uR {A B : Mp} (h : ET A B=true) : A.kk=B.kk∧A.vk=B.vk∧A.agg=B.agg:=by
 simp only [ET,Bool.and_eq_true] at h
 exact ⟨Kd.fu _ _ h.2.1.1,Kd.av _ _ h.2.1.2,iq h.2.2⟩
theorem Cm {A B' : Mp} {b : Sub} (hf : Em E B') (h : (Cn L A B' b).no=[]) : lF E L s b (Cn L A B' b)∧Ml L (Cn L A B' b).ls (.here A) (.here B'):=by
 generalize hb' : Cn L A B' b=b' at h ⊢
 unfold Cn at hb'
 split at hb'
 ·rename_i ht
  obtain ⟨t1,t2,t3⟩:=uR ht
  split at hb'
  ·rename_i hs
   simp only [Bool.and_eq_true] at hs
   subst hb'
   exact ⟨.refl h,ht,.inl ⟨X.av hs.1,hs.2⟩⟩
  ·split at hb'
   ·rename_i i hx
    split at hb'
    ·rename_i hi
     subst hb'
     obtain ⟨rows,e1,e2⟩:=hf
     refine ⟨.gD h hi ?_,ht,.inr ⟨i,hx,by simp [Sub.gD]⟩⟩
     rw [e1]
     refine ⟨⟨rows,rfl,by simp,fun row hr=>?_⟩,fun rs hrs j e' hj row hr=>?_⟩
     ·obtain ⟨vs,hv⟩:=e2 row hr
      rw [t1,t2]
      exact hv.oks.1
     ·cases hrs
      obtain ⟨vs,hv⟩:=e2 row hr
      rw [t1,t2] at hj
      exact absurd hj (hv.oks.2 j e')
    ·subst hb';exact (bs h).elim
   ·subst hb';exact (bs h).elim
 ·subst hb';exact (bs h).elim
theorem oM : ∀ {l m : List (Pc Mp)} {b : Sub},(∀ j M,nth m j=some (.here M)→Em E M)→(pP L l m b).no=[]→lF E L s b (pP L l m b)∧∃ m',(∃ r,m=m' ++ r)∧aE (Ml L (pP L l m b).ls) l m'
 | [],m,b,_,h=>⟨.refl h,[],⟨m,rfl⟩,trivial⟩
 | .here A :: l,.here B' :: m,b,hv,h=>by
  simp only [pP] at h ⊢
  obtain ⟨h3,m',⟨r,e⟩,h4⟩:=oM (l:=l) (m:=m) (fun j u hj=>hv (j + 1) u hj) h
  obtain ⟨h1,h2⟩:=Cm (s:=s) (hv 0 B' rfl) h3.no
  exact ⟨h1.trans h3,.here B' :: m',⟨r,by rw [e];rfl⟩,h2.mono h3.ls,h4⟩
 | .go :: l,.go :: m,b,hv,h=>by
  simp only [pP] at h ⊢
  obtain ⟨h3,m',⟨r,e⟩,h4⟩:=oM (l:=l) (m:=m) (fun j u hj=>hv (j + 1) u hj) h
  exact ⟨h3,.go :: m',⟨r,by rw [e];rfl⟩,trivial,h4⟩
 | .here _ :: _,[],b,_,h=>(bs h).elim
 | .here _ :: _,.fr :: _,b,_,h=>(bs h).elim
 | .here _ :: _,.go :: _,b,_,h=>(bs h).elim
 | .fr :: _,_,b,_,h=>(bs h).elim
 | .go :: _,[],b,_,h=>(bs h).elim
 | .go :: _,.fr :: _,b,_,h=>(bs h).elim
 | .go :: _,.here _ :: _,b,_,h=>(bs h).elim
theorem q9 (R : Rep B E p g s a as w) (hb : (holds L s).no=[]) {cs : List X} (hc : collect (holds L s).ls (L.nx0 + 1) L.ks=some cs) {E0 : Env} (hE : E0.bW L.nx0 E)
  (hkn : ∀ b∈L.hd.known,b.under L.nx0=true∧(b.den E0).bool=true) (hr0 : ∀ i x,B.r0 i=some x→i < L.r0) :
  CD.oks L.ks (cs.map (X.den E))∧∃ p',Rep B (E0.put (L.nx0 + 1) (cs.map (X.den E))) p' g L.hd a as w:=by
 unfold holds at hb hc
 dsimp only at hb hc
 generalize hbM : pP L L.hd.h.mps s.h.mps ⟨[],[],[]⟩=bM at hb hc
 generalize hbT : mM L s 0 L.hd.tmps s.tmps bM=bT at hb hc
 generalize hbR : fq L s 0 L.hd.h.regs s.h.regs bT=bR at hb hc
 generalize hbA : jP L s 0 L.hd.h.arrs bR=bA at hb hc
 split at hb
 ·rename_i hcond
  rw [if_pos hcond] at hc
  simp only [Bool.and_eq_true] at hcond
  obtain ⟨⟨c1,c2⟩,⟨c3,c4⟩,c5,c6,c7⟩:=hcond
  have c5:=Nat.le_of_ble_eq_true c5
  have c6:=Nat.eq_of_beq_eq_true c6
  have c7:=Nat.eq_of_beq_eq_true c7
  rw [← hbA] at hb
  obtain ⟨x1,x2⟩:=jE hb
  rw [hbA] at x1 hb
  have x1:=x1.symm
  subst x1
  rw [← hbR] at hb
  obtain ⟨y1,y2⟩:=mN R.mem R.known (fun j cs hj i c hi=>by
   obtain ⟨b,q,_,_,_,e4⟩:=(R.mem.reg j cs hj).ex
   obtain ⟨_,_,v,_,hv⟩:=e4 i c hi
   exact ⟨v,hv⟩) hb
  have hbT':=y1.no
  rw [← hbT] at hbT'
  obtain ⟨z1,z2⟩:=rq R.mem R.known (fun j u hj=>⟨_,R.frame.tmp j u hj⟩) hbT'
  rw [hbT] at z1 z2
  rw [hbR] at y1 y2
  have hbM':=z1.no
  rw [← hbM] at hbM'
  obtain ⟨m1,m2⟩:=oM (E:=E) (s:=s) (fun j M hj=>by
   obtain ⟨b,es,clock,rows,_,_,_,_,h5,h6⟩:=R.mem.mm.at_ j M hj
   obtain ⟨ents,_,h7,_⟩:=h6
   exact ⟨rows,h5,h7⟩) hbM'
  rw [hbM] at m1 m2
  obtain ⟨mt,⟨mr,hmt⟩,m2⟩:=m2
  have m2:=m2.mono fun _ _ h=>(h.mono z1.ls).mono y1.ls
  have ok : BOk E L s bR:=y1.ok (z1.ok (m1.ok ⟨fun x hx=>(by cases hx),fun x hx=>(by cases hx)⟩))
  obtain ⟨k1,k2⟩:=pK hc
  have hds : (cs.map (X.den E)).length=L.ks.length:=by rw [List.length_map,k1]
  have hlook : ∀ i k x,(i,k,x)∈bR.ls→(E0.put (L.nx0 + 1) (cs.map (X.den E))) i=x.den E:=fun i k x hm=>by
   obtain ⟨⟨n1,n2⟩,_⟩:=ok.ls _ hm
   simp only at n1 n2
   rw [c7] at n2
   obtain ⟨k0,hk0⟩ : ∃ k0,L.ks[i - (L.nx0 + 1)]?=some k0:=⟨_,List.getElem?_eq_getElem (by omega)⟩
   obtain ⟨y,y1,y2⟩:=k2 _ _ hk0
   rw [show L.nx0 + 1 + (i - (L.nx0 + 1))=i from by omega,m9 c3 hm] at y2
   cases y2
   have : ¬ i < L.nx0 + 1:=by omega
   simp [Env.put,this,y1]
  have hF : E.bW L.nx0 (E0.put (L.nx0 + 1) (cs.map (X.den E))):=fun i hi=>by
   have : i < L.nx0 + 1:=by omega
   simp only [Env.put,if_pos this]
   exact (hE i hi).symm
  have M : yB E (E0.put (L.nx0 + 1) (cs.map (X.den E))) p (HH p L bR.as) L bR.ls bR.as :=
   ⟨hF,hlook,fun r hr=>oE hr,fun a ha=>zM ha,fun a ha=>if_pos ha,fun a ha=>tD (ok.as _ ha).1 (m9 c4 ha),fun a c ha=>oF (ok.as _ ha).1 (m9 c4 ha)⟩
  refine ⟨oks_of hds fun j k hj=>?_,HH p L bR.as,⟨R.mem.fr,R.mem.g0,R.mem.g1,fun k o v hk=>?_,fun r cs' hr=>?_,fun r hr=>?_,fun a' A ha=>?_,fun a' ha=>?_,⟨fun a' M' ha=>?_,fun a' ha=>if_neg (Nat.not_lt.2 ha)⟩,fun k a' hk=>by obtain ⟨c,h⟩:=zN hk;exact R.mem.nz k c h⟩,DR R.mem R.known M (z2.mono fun _ _ h=>h.mono y1.ls y1.as) R.frame,CP M c1 R.stk,fun b hb'=>?_,fun i x hi=>?_⟩
  ·obtain ⟨y,y1,y2⟩:=k2 j k hj
   exact ⟨y.den E,by rw [List.getElem?_map,y1];rfl,(ok.ls _ (iS y2)).2⟩
  ·obtain ⟨h1,h2⟩:=R.mem.gg k o v hk
   exact ⟨h1,by rw [qq (by rw [h2];intro c h;exact h)];exact h2⟩
  ·obtain ⟨r1,r2⟩:=y2 r _ hr
   obtain ⟨ds,d1,d2⟩:=r2 cs' rfl
   obtain ⟨b,q0,e1,e2,e3,e4⟩:=(R.mem.reg r ds d1).ex
   have hrl : r < L.r0:=by rw [c6];exact cn hr
   refine ⟨b,q0,by rw [oE hrl];exact e1,by rw [qq (by rw [e2];intro c h;exact h)];exact e2,e3,fun o c hc'=>?_⟩
   obtain ⟨d,d3,d4⟩:=d2.nth hc'
   obtain ⟨f1,f2,v,f3,f4⟩:=e4 o d d3
   exact ⟨f1,f2,v,f3,cl_is R.mem R.known M d4 f4⟩
  ·have hno : ¬ r < L.r0:=fun hl=>by
    rcases hr with hr | hr
    ·rw [c6] at hl
     obtain ⟨x,hx⟩:=cH hl
     rw [hr] at hx;cases hx
    ·exact (y2 r _ hr).1 rfl
   exact if_neg hno
  ·obtain ⟨a1,a2⟩:=x2 a' _ ha
   rw [Nat.zero_add] at a2
   rcases a2 A rfl with ⟨h1,A',h2,h3,h4,h5,h6,h7⟩ | ⟨h1,c,h2⟩
   ·obtain ⟨ad,cap,rows,e1,e2,e3,e4,e5,e6,e7,e8⟩:=(R.mem.arr a' A' h2).ex
    have hx : A.x.den (E0.put (L.nx0 + 1) (cs.map (X.den E)))=.l rows:=by rw [← X.dM hF h6,h5];exact e2
    refine ⟨⟨ad,cap,rows,(M.arr a' h1).trans e1,hx,e3,e4,by rw [h4];exact e5,by rw [h4];exact e6,by rw [h4];exact e7,fun hcap=>?_⟩,fun j' e' b c rows' n1 n2 n3 i' row v n4 n5=>?_⟩
    ·obtain ⟨b,cur,f1,f2,f3,f4,f5,f6⟩:=e8 hcap
     refine ⟨b,cur,f1,tB c2 f2 ha (if_pos h1),by rw [h3];exact f3,by rw [h4];exact f4,f5,by rw [h4];exact f6⟩
    ·rw [hx] at n3;cases n3
     rw [h4] at n1 n5
     have hcl:=(jB e2 h7 R.known).2 j' e' n1 row (List.mem_of_getElem? n4)
     exact jG.head ((R.mem.arr a' A' h2).ns j' e' b c rows n1 ((M.arr a' h1).symm.trans n2) e2 i' row v n4 n5) hcl fun b' hb'=>tC c2 hb' ha (if_pos h1)
   ·obtain ⟨_,A0,i,g1,g2,g3⟩:=ok.as _ (iS h2)
    simp only at g1
    rw [ha] at g1
    cases g1
    cases c with
    | zero =>
     obtain ⟨g3,g4⟩:=g3
     obtain ⟨p1,p2⟩:=SK.yV g3
     have hx : A.x.den (E0.put (L.nx0 + 1) (cs.map (X.den E)))=.l []:=by
      rw [g2]
      simp only [X.den]
      rw [hlook _ _ _ g4];rfl
     refine ⟨⟨none,0,[],tD h1 h2,hx,Nat.le_refl _,Nat.zero_le _,by simp,p2,p1,fun h=>absurd h (Nat.lt_irrefl _)⟩,fun j' e' b c rows' n1 n2 n3 i' row v n4 n5=>?_⟩
     rw [hx] at n3;cases n3
     simp at n4
    | succ c =>
     obtain ⟨A',n,g4,g5,g6,g7,g8,g9⟩:=g3
     obtain ⟨ad,cap,rows,e1,e2,e3,e4,e5,e6,e7,e8⟩:=(R.mem.arr c A' g4).ex
     have hx : A.x.den (E0.put (L.nx0 + 1) (cs.map (X.den E)))=.l (rows.take (n.den E).int.toNat):=by
      rw [g2]
      simp only [X.den]
      rw [hlook _ _ _ g8,db e2]
     have ht : tgt L bR.as a'=some c:=by
      unfold tgt
      rw [if_neg (by omega),h2]
     refine ⟨⟨ad,cap,rows.take (n.den E).int.toNat,(oF h1 h2).trans e1,hx,?_,e4,?_,by rw [g6];exact e6,by rw [g6];exact e7,fun hcap=>?_⟩,fun j' e' b c' rows' n1 n2 n3 i' row v n4 n5=>?_⟩
     ·rw [List.length_take];omega
     ·rw [g6,List.length_take]
      exact Nat.le_trans (Nat.mul_le_mul_right _ (Nat.min_le_right _ _)) e5
     ·obtain ⟨b,cur,f1,f2,f3,f4,f5,f6⟩:=e8 hcap
      refine ⟨b,cur,f1,tB c2 f2 ha ht,by rw [g5];exact f3,by rw [g6];exact f4,f5,fun i' row hi'=>?_⟩
      rw [List.getElem?_take] at hi'
      split at hi'
      ·rw [g6];exact f6 i' row hi'
      ·cases hi'
     ·rw [hx] at n3;cases n3
      rw [g6] at n1 n5
      rw [List.getElem?_take] at n4
      split at n4
      ·have hcl:=(jB e2 g9 R.known).2 j' e' n1 row (List.mem_of_getElem? n4)
       exact jG.head ((R.mem.arr c A' g4).ns j' e' b c' rows n1 ((oF h1 h2).symm.trans n2) e2 i' row v n4 n5) hcl fun b' hb'=>tC c2 hb' ha ht
      ·cases n4
  ·have hnl : L.hd.h.arrs.length≤a':=by
    rcases Nat.lt_or_ge a' L.hd.h.arrs.length with hl | hl
    ·exfalso
     obtain ⟨x,hx⟩:=cH hl
     rcases ha with ha | ha
     ·rw [ha] at hx;cases hx
     ·exact (x2 a' _ ha).1 rfl
    ·exact hl
   have : fk a' bR.as=none:=by
    cases hl : fk a' bR.as with
    | none=>rfl
    | some c =>
     obtain ⟨_,A,i,h2,_⟩:=ok.as _ (iS hl)
     have:=cn h2
     simp only at this
     omega
   simp only [HH,if_neg (show ¬ a' < L.a0 by omega),this]
  ·obtain ⟨y,k1,k2⟩:=m2.nth ha
   cases y with
   | fr=>exact k2.elim
   | go=>exact k2.elim
   | here M0 =>
    obtain ⟨b,es,clock,rows,h1,h2,h3,h4,h5,h6⟩:=R.mem.mm.at_ a' M0 (by rw [hmt,eG,if_pos (cn k1)];exact k1)
    obtain ⟨t,k3⟩:=k2
    obtain ⟨t1,t2,t3⟩:=uR t
    refine ⟨b,es,clock,rows,(M.mp a' (cn ha)).trans h1,by rw [qq (by rw [h2];intro c h;exact h)];exact h2,h3,h4,?_,by rw [t1,t2,t3];exact h6⟩
    rcases k3 with ⟨e1,e2⟩ | ⟨i,e1,e2⟩
    ·rw [← X.dM hF e2,e1];exact h5
    ·rw [e1]
     simp only [X.den]
     rw [hlook _ _ _ e2];exact h5
  ·obtain ⟨u,hu⟩:=hkn b hb'
   rw [← X.dM (hE.trans hF) u];exact hu
  ·rw [oE (hr0 i x hi)];exact R.fa i x hi
 ·exact (bs hb).elim
end
end Go.Sy
