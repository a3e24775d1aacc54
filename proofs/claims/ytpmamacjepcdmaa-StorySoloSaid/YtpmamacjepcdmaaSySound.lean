import Derived.Test.YtpmamacjepcdmaaSyLoop2
namespace Go.Sy
open Go.RowKit
section
variable {B : cT} {E F : Env} {p q : Pl} {g : Gm} {L : LI} {s : St} {a : Act} {as : List Act} {w : World} {ls : List (Nat × Kd × X)} {al : List (Nat × Nat)}
structure yB (E F : Env) (p q : Pl) (L : LI) (ls : List (Nat × Kd × X)) (al : List (Nat × Nat)) : Prop where
 jF : E.bW L.nx0 F
 ls : ∀ i k x,(i,k,x)∈ls→F i=x.den E
 reg : ∀ r,r < L.r0→q.reg r=p.reg r
 arr : ∀ a,a < L.a0→q.arr a=p.arr a
 mp : ∀ a,a < L.hd.h.mps.length→q.mp a=p.mp a
 nil : ∀ a,(a,0)∈al→q.arr a=some (none,0)
 new : ∀ a c,(a,c + 1)∈al→q.arr a=p.arr c
theorem y0 (M : yB E F p q L ls al) {c : SC} {v : Value} (ho : c.old L=true) (h : c.is E p g v) : c.is F q g v:=by
 simp only [SC.old,Bool.and_eq_true] at ho
 obtain ⟨u,ho⟩:=ho
 have h:=SC.fA M.jF u h
 cases c with
 | sl a n =>
  obtain ⟨A,c,m,h1,h2⟩:=h
  exact ⟨A,c,m,by rw [M.arr a (Hk ho)];exact h1,h2⟩
 | sub a z i n =>
  obtain ⟨A,c,k,m,h1,h2⟩:=h
  exact ⟨A,c,k,m,by rw [M.arr a (Hk ho)];exact h1,h2⟩
 | ep a z i o =>
  obtain ⟨b,c,n,h1,h2⟩:=h
  exact ⟨b,c,n,by rw [M.arr a (Hk ho)];exact h1,h2⟩
 | loc r o =>
  obtain ⟨b,q',h1,h2⟩:=h
  exact ⟨b,q',by rw [M.reg r (Hk ho)];exact h1,h2⟩
 | mp a =>
  obtain ⟨b,h1,h2⟩:=h
  exact ⟨b,by rw [M.mp a (Hk ho)];exact h1,h2⟩
 | fn f caps =>
  obtain ⟨vs,h1,h2⟩:=h
  refine ⟨vs,h1,h2.imp fun x hx u ⟨b,q',h3,h4⟩=>⟨b,q',?_,h4⟩⟩
  rw [M.reg _ (Hk (dZ ho x hx))];exact h3
 | _=>exact h
theorem AG (M : yB E F p q L ls al) {c : SV} {v : Value} (ho : c.old L=true) (h : c.is E p g v) : c.is F q g v:=by
 cases c with
 | one c=>exact y0 M ho h
 | agg l=>obtain ⟨vs,e,hv⟩:=h;exact ⟨vs,e,hv.imp fun x hx b hb=>y0 M (dZ ho x hx) hb⟩
theorem AH (M : yB E F p q L ls al) {c : SR} {v : Value} (ho : c.old L=true) (h : c.is E p g v) : c.is F q g v:=by
 cases c with
 | v c=>exact AG M ho h
 | tup l=>obtain ⟨vs,e,hv⟩:=h;exact ⟨vs,e,hv.imp fun x hx b hb=>AG M (dZ ho x hx) hb⟩
theorem cl_is (H : bq B E p g s.h w) (hk : ∀ b∈s.known,(b.den E).bool=true) (M : yB E F p q L ls al) {hc c : SC} {v : Value} (hcl : Cl L s ls al hc c) (h : c.is E p g v) : hc.is F q g v:=by
 cases hcl with
 | any=>trivial
 | old _ ho=>exact y0 M ho h
 | int k i x hm=>obtain ⟨n,h1,h2⟩:=h;exact ⟨n,by simp only [X.den];rw [M.ls _ _ _ hm];exact h1,h2⟩
 | bool i x hm=>obtain ⟨n,h1,h2⟩:=h;exact ⟨n,by simp only [X.den];rw [M.ls _ _ _ hm];exact h1,h2⟩
 | str i x hm=>obtain ⟨n,h1,h2⟩:=h;exact ⟨n,by simp only [X.den];rw [M.ls _ _ _ hm];exact h1,h2⟩
 | fz K i x hm =>
  show Rd g _ v ((X.var i).den F)
  simp only [X.den]
  rw [M.ls _ _ _ hm];exact h
 | fzn K i hm =>
  show Rd g _ v ((X.var i).den F)
  simp only [X.den]
  rw [M.ls _ _ _ hm]
  have h : v=.slice none 0 0:=h
  subst h;exact Rd.nil _
 | fzz K i hm =>
  show Rd g _ v ((X.var i).den F)
  simp only [X.den]
  rw [M.ls _ _ _ hm]
  obtain ⟨A,h⟩:=h
  subst h;exact Rd.nil _
 | sl a' c' i n k A' hm ha hA hd =>
  obtain ⟨ad,cap,m,h1,h2,h3,h4⟩:=h
  obtain ⟨ad',cap',rows,e1,e2,e3,e4,e5,e6,e7,e8⟩:=(H.arr c' A' hA).ex
  have hle:=gU hk hd
  rw [bz,ba,e2,h2] at hle
  have hle:=of_decide_eq_true hle
  simp only [CD.aR,CD.ax] at hle
  refine ⟨ad,cap,m,by rw [M.new _ _ ha];exact h1,?_,h3,h4⟩
  simp only [X.den]
  rw [M.ls _ _ _ hm,db e2,h2]
  simp only [CD.aR,CD.ax,List.length_take]
  congr 2
  omega
 | sln a' i k hm ha =>
  have h : v=.slice none 0 0:=h
  refine ⟨none,0,0,M.nil _ ha,?_,Nat.le_refl _,h⟩
  simp only [X.den]
  rw [M.ls _ _ _ hm]
  rfl
theorem tl_is (H : bq B E p g s.h w) (hk : ∀ b∈s.known,(b.den E).bool=true) (M : yB E F p q L ls al) {t u : SR} {v : Value} (htl : Tl L s ls al t u) (h : u.is E p g v) : t.is F q g v:=by
 rcases htl with e | ⟨c,d,e1,e2,hcl⟩ | ⟨e,ho⟩
 ·subst e;trivial
 ·subst e1;subst e2;exact cl_is H hk M hcl h
 ·subst e;exact AH M ho h
theorem DR (H : bq B E p g s.h w) (hk : ∀ b∈s.known,(b.den E).bool=true) (M : yB E F p q L ls al) {t u : List SR} (h : aE (Tl L s ls al) t u) (R : cA E p g u a) : cA F q g t a :=
 ⟨R.defers,R.size.trans h.length.symm,fun i c hc=>by
  obtain ⟨d,h1,h2⟩:=h.nth hc
  exact tl_is H hk M h2 (R.tmp i d h1)⟩
theorem CP (M : yB E F p q L ls al) : ∀ {l m : List (List SR)} {as : List Act},yo L l m=true→aE (cA E p g) m as→aE (cA F q g) l as
 | [],[],[],_,_=>trivial
 | [],[],_ :: _,_,h=>h.elim
 | _ :: _,_ :: _,[],_,h=>h.elim
 | t :: l,u :: m,a :: as,hb,h=>by
  simp only [yo,gp,Bool.and_eq_true] at hb
  refine ⟨?_,CP M hb.2 h.2⟩
  have key : ∀ {t u : List SR},gp (vG L) t u=true→t.length=u.length∧∀ i c,nth t i=some c→∃ d,nth u i=some d∧vG L c d=true:=by
   intro t
   induction t with
   | nil=>intro u h;cases u <;> simp only [gp,Bool.false_eq_true] at h;exact ⟨rfl,fun i c hc=>by simp [nth] at hc⟩
   | cons x t ih =>
    intro u h
    cases u <;> simp only [gp,Bool.false_eq_true,Bool.and_eq_true] at h
    obtain ⟨i1,i2⟩:=ih h.2
    refine ⟨by simp [i1],fun i c hc=>?_⟩
    cases i with
    | zero=>simp only [nth,Option.some.injEq] at hc;subst hc;exact ⟨_,rfl,h.1⟩
    | succ i=>exact i2 i c hc
  obtain ⟨k1,k2⟩:=key hb.1
  refine ⟨h.1.defers,h.1.size.trans k1.symm,fun i c hc=>?_⟩
  obtain ⟨d,d1,d2⟩:=k2 i c hc
  have hd:=h.1.tmp i d d1
  unfold vG at d2
  split at d2
  ·trivial
  ·simp only [Bool.and_eq_true] at d2
   have e:=SR.av _ _ d2.1
   subst e
   exact AH M d2.2 hd
 | [],_ :: _,_,h,_=>by simp [yo,gp] at h
 | _ :: _,[],_,h,_=>by simp [yo,gp] at h
theorem cY.ok {k : Kd} {v : Value} {d : CD} (h : cY k v d) : CD.ok k d:=by
 cases k with
 | int k=>obtain ⟨n,_,e⟩:=h;exact ⟨n,e⟩
 | bool=>obtain ⟨n,_,e⟩:=h;exact ⟨n,e⟩
 | str=>exact h.elim
 | sl _ _=>exact h.elim
 | os _=>exact h.elim
theorem cY.ok0 {k : Kd} {v : Value} {d : CD} (h : cY k v d) : CD.ok0 k d:=by
 cases k with
 | int k=>obtain ⟨n,_,e⟩:=h;exact ⟨n,e⟩
 | bool=>obtain ⟨n,_,e⟩:=h;exact ⟨n,e⟩
 | _=>exact h.elim
theorem G9.oks : ∀ {kk : List Kd} {vs : List Value} {a : List CD},G9 kk vs a→CD.ny kk a∧∀ (j e : Nat),kk[j]?≠some (.os e)
 | [],[],[],_=>⟨trivial,fun j e h=>by simp at h⟩
 | k :: _,_ :: _,_ :: _,h=>⟨⟨h.1.ok0,(G9.oks h.2).1⟩,fun j e hj=>by
  cases j with
  | zero =>
   simp only [List.getElem?_cons_zero,Option.some.injEq] at hj
   subst hj
   exact h.1.elim
  | succ j=>exact (G9.oks h.2).2 j e (by simpa using hj)⟩
 | [],_ :: _,_,h=>h.elim
 | [],[],_ :: _,h=>h.elim
 | _ :: _,[],_,h=>h.elim
 | _ :: _,_ :: _,[],h=>h.elim
def Ml (L : LI) (ls : List (Nat × Kd × X)) : Pc Mp→Pc Mp→Prop
 | .here A,.here B=>ET A B=true∧((A.x=B.x∧A.x.under L.nx0=true)∨∃ i,A.x=.var i∧(i,Kd.sl 0 (A.kk ++ [A.vk]),B.x)∈ls)
 | .here _,_=>False
 | _,_=>True
theorem Ml.mono {ls ls' : List (Nat × Kd × X)} (h1 : ∀ x∈ls,x∈ls') {x y : Pc Mp} (h : Ml L ls x y) : Ml L ls' x y:=by
 cases x with
 | fr=>trivial
 | go=>trivial
 | here A=>cases y with
  | fr=>exact h.elim
  | go=>exact h.elim
  | here B=>exact ⟨h.1,h.2.imp id fun ⟨i,e,hm⟩=>⟨i,e,h1 _ hm⟩⟩
def Em (E : Env) (M : Mp) : Prop:=∃ rows,M.x.den E=.l rows∧∀ row∈rows,∃ vs,G9 (M.kk ++ [M.vk]) vs row
theorem uR {A B : Mp} (h : ET A B=true) : A.kk=B.kk∧A.vk=B.vk∧A.agg=B.agg:=by
 simp only [ET,Bool.and_eq_true] at h
 exact ⟨Kd.fu _ _ h.2.1.1,Kd.av _ _ h.2.1.2,iq h.2.2⟩
theorem Cm {A B' : Mp} {b : Sub} (hf : Em E B') (h : (Cn L A B' b).no=[]) : lF E L s b (Cn L A B' b)∧Ml L (Cn L A B' b).ls (.here A) (.here B'):=by
 generalize hb' : Cn L A B' b=b' at h ⊢
 unfold Cn at hb'
 split at hb'
 ·rename_i ht
  obtain ⟨t1,t2,t3⟩:=uR ht
  split at hb'
  ·rename_i hs
   simp only [Bool.and_eq_true] at hs
   subst hb'
   exact ⟨.refl h,ht,.inl ⟨X.av hs.1,hs.2⟩⟩
  ·split at hb'
   ·rename_i i hx
    split at hb'
    ·rename_i hi
     subst hb'
     obtain ⟨rows,e1,e2⟩:=hf
     refine ⟨.gD h hi ?_,ht,.inr ⟨i,hx,by simp [Sub.gD]⟩⟩
     rw [e1]
     refine ⟨⟨rows,rfl,by simp,fun row hr=>?_⟩,fun rs hrs j e' hj row hr=>?_⟩
     ·obtain ⟨vs,hv⟩:=e2 row hr
      rw [t1,t2]
      exact hv.oks.1
     ·cases hrs
      obtain ⟨vs,hv⟩:=e2 row hr
      rw [t1,t2] at hj
      exact absurd hj (hv.oks.2 j e')
    ·subst hb';exact (bs h).elim
   ·subst hb';exact (bs h).elim
 ·subst hb';exact (bs h).elim
theorem oM : ∀ {l m : List (Pc Mp)} {b : Sub},(∀ j M,nth m j=some (.here M)→Em E M)→(pP L l m b).no=[]→lF E L s b (pP L l m b)∧∃ m',(∃ r,m=m' ++ r)∧aE (Ml L (pP L l m b).ls) l m'
 | [],m,b,_,h=>⟨.refl h,[],⟨m,rfl⟩,trivial⟩
 | .here A :: l,.here B' :: m,b,hv,h=>by
  simp only [pP] at h ⊢
  obtain ⟨h3,m',⟨r,e⟩,h4⟩:=oM (l:=l) (m:=m) (fun j u hj=>hv (j + 1) u hj) h
  obtain ⟨h1,h2⟩:=Cm (s:=s) (hv 0 B' rfl) h3.no
  exact ⟨h1.trans h3,.here B' :: m',⟨r,by rw [e];rfl⟩,h2.mono h3.ls,h4⟩
 | .go :: l,.go :: m,b,hv,h=>by
  simp only [pP] at h ⊢
  obtain ⟨h3,m',⟨r,e⟩,h4⟩:=oM (l:=l) (m:=m) (fun j u hj=>hv (j + 1) u hj) h
  exact ⟨h3,.go :: m',⟨r,by rw [e];rfl⟩,trivial,h4⟩
 | .here _ :: _,[],b,_,h=>(bs h).elim
 | .here _ :: _,.fr :: _,b,_,h=>(bs h).elim
 | .here _ :: _,.go :: _,b,_,h=>(bs h).elim
 | .fr :: _,_,b,_,h=>(bs h).elim
 | .go :: _,[],b,_,h=>(bs h).elim
 | .go :: _,.fr :: _,b,_,h=>(bs h).elim
 | .go :: _,.here _ :: _,b,_,h=>(bs h).elim
theorem q9 (R : Rep B E p g s a as w) (hb : (holds L s).no=[]) {cs : List X} (hc : collect (holds L s).ls (L.nx0 + 1) L.ks=some cs) {E0 : Env} (hE : E0.bW L.nx0 E)
  (hkn : ∀ b∈L.hd.known,b.under L.nx0=true∧(b.den E0).bool=true) (hr0 : ∀ i x,B.r0 i=some x→i < L.r0) :
  CD.oks L.ks (cs.map (X.den E))∧∃ p',Rep B (E0.put (L.nx0 + 1) (cs.map (X.den E))) p' g L.hd a as w:=by
 unfold holds at hb hc
 dsimp only at hb hc
 generalize hbM : pP L L.hd.h.mps s.h.mps ⟨[],[],[]⟩=bM at hb hc
 generalize hbT : mM L s 0 L.hd.tmps s.tmps bM=bT at hb hc
 generalize hbR : fq L s 0 L.hd.h.regs s.h.regs bT=bR at hb hc
 generalize hbA : jP L s 0 L.hd.h.arrs bR=bA at hb hc
 split at hb
 ·rename_i hcond
  rw [if_pos hcond] at hc
  simp only [Bool.and_eq_true] at hcond
  obtain ⟨⟨c1,c2⟩,⟨c3,c4⟩,c5,c6,c7⟩:=hcond
  have c5:=Nat.le_of_ble_eq_true c5
  have c6:=Nat.eq_of_beq_eq_true c6
  have c7:=Nat.eq_of_beq_eq_true c7
  rw [← hbA] at hb
  obtain ⟨x1,x2⟩:=jE hb
  rw [hbA] at x1 hb
  have x1:=x1.symm
  subst x1
  rw [← hbR] at hb
  obtain ⟨y1,y2⟩:=mN R.mem R.known (fun j cs hj i c hi=>by
   obtain ⟨b,q,_,_,_,e4⟩:=(R.mem.reg j cs hj).ex
   obtain ⟨_,_,v,_,hv⟩:=e4 i c hi
   exact ⟨v,hv⟩) hb
  have hbT':=y1.no
  rw [← hbT] at hbT'
  obtain ⟨z1,z2⟩:=rq R.mem R.known (fun j u hj=>⟨_,R.frame.tmp j u hj⟩) hbT'
  rw [hbT] at z1 z2
  rw [hbR] at y1 y2
  have hbM':=z1.no
  rw [← hbM] at hbM'
  obtain ⟨m1,m2⟩:=oM (E:=E) (s:=s) (fun j M hj=>by
   obtain ⟨b,es,clock,rows,_,_,_,_,h5,h6⟩:=R.mem.mm.at_ j M hj
   obtain ⟨ents,_,h7,_⟩:=h6
   exact ⟨rows,h5,h7⟩) hbM'
  rw [hbM] at m1 m2
  obtain ⟨mt,⟨mr,hmt⟩,m2⟩:=m2
  have m2:=m2.mono fun _ _ h=>(h.mono z1.ls).mono y1.ls
  have ok : BOk E L s bR:=y1.ok (z1.ok (m1.ok ⟨fun x hx=>(by cases hx),fun x hx=>(by cases hx)⟩))
  obtain ⟨k1,k2⟩:=pK hc
  have hds : (cs.map (X.den E)).length=L.ks.length:=by rw [List.length_map,k1]
  have hlook : ∀ i k x,(i,k,x)∈bR.ls→(E0.put (L.nx0 + 1) (cs.map (X.den E))) i=x.den E:=fun i k x hm=>by
   obtain ⟨⟨n1,n2⟩,_⟩:=ok.ls _ hm
   simp only at n1 n2
   rw [c7] at n2
   obtain ⟨k0,hk0⟩ : ∃ k0,L.ks[i - (L.nx0 + 1)]?=some k0:=⟨_,List.getElem?_eq_getElem (by omega)⟩
   obtain ⟨y,y1,y2⟩:=k2 _ _ hk0
   rw [show L.nx0 + 1 + (i - (L.nx0 + 1))=i from by omega,m9 c3 hm] at y2
   cases y2
   have : ¬ i < L.nx0 + 1:=by omega
   simp [Env.put,this,y1]
  have hF : E.bW L.nx0 (E0.put (L.nx0 + 1) (cs.map (X.den E))):=fun i hi=>by
   have : i < L.nx0 + 1:=by omega
   simp only [Env.put,if_pos this]
   exact (hE i hi).symm
  have M : yB E (E0.put (L.nx0 + 1) (cs.map (X.den E))) p (HH p L bR.as) L bR.ls bR.as :=
   ⟨hF,hlook,fun r hr=>oE hr,fun a ha=>zM ha,fun a ha=>if_pos ha,fun a ha=>tD (ok.as _ ha).1 (m9 c4 ha),fun a c ha=>oF (ok.as _ ha).1 (m9 c4 ha)⟩
  refine ⟨oks_of hds fun j k hj=>?_,HH p L bR.as,⟨R.mem.fr,R.mem.g0,R.mem.g1,fun k o v hk=>?_,fun r cs' hr=>?_,fun r hr=>?_,fun a' A ha=>?_,fun a' ha=>?_,⟨fun a' M' ha=>?_,fun a' ha=>if_neg (Nat.not_lt.2 ha)⟩,fun k a' hk=>by obtain ⟨c,h⟩:=zN hk;exact R.mem.nz k c h⟩,DR R.mem R.known M (z2.mono fun _ _ h=>h.mono y1.ls y1.as) R.frame,CP M c1 R.stk,fun b hb'=>?_,fun i x hi=>?_⟩
  ·obtain ⟨y,y1,y2⟩:=k2 j k hj
   exact ⟨y.den E,by rw [List.getElem?_map,y1];rfl,(ok.ls _ (iS y2)).2⟩
  ·obtain ⟨h1,h2⟩:=R.mem.gg k o v hk
   exact ⟨h1,by rw [qq (by rw [h2];intro c h;exact h)];exact h2⟩
  ·obtain ⟨r1,r2⟩:=y2 r _ hr
   obtain ⟨ds,d1,d2⟩:=r2 cs' rfl
   obtain ⟨b,q0,e1,e2,e3,e4⟩:=(R.mem.reg r ds d1).ex
   have hrl : r < L.r0:=by rw [c6];exact cn hr
   refine ⟨b,q0,by rw [oE hrl];exact e1,by rw [qq (by rw [e2];intro c h;exact h)];exact e2,e3,fun o c hc'=>?_⟩
   obtain ⟨d,d3,d4⟩:=d2.nth hc'
   obtain ⟨f1,f2,v,f3,f4⟩:=e4 o d d3
   exact ⟨f1,f2,v,f3,cl_is R.mem R.known M d4 f4⟩
  ·have hno : ¬ r < L.r0:=fun hl=>by
    rcases hr with hr | hr
    ·rw [c6] at hl
     obtain ⟨x,hx⟩:=cH hl
     rw [hr] at hx;cases hx
    ·exact (y2 r _ hr).1 rfl
   exact if_neg hno
  ·obtain ⟨a1,a2⟩:=x2 a' _ ha
   rw [Nat.zero_add] at a2
   rcases a2 A rfl with ⟨h1,A',h2,h3,h4,h5,h6,h7⟩ | ⟨h1,c,h2⟩
   ·obtain ⟨ad,cap,rows,e1,e2,e3,e4,e5,e6,e7,e8⟩:=(R.mem.arr a' A' h2).ex
    have hx : A.x.den (E0.put (L.nx0 + 1) (cs.map (X.den E)))=.l rows:=by rw [← X.dM hF h6,h5];exact e2
    refine ⟨⟨ad,cap,rows,(M.arr a' h1).trans e1,hx,e3,e4,by rw [h4];exact e5,by rw [h4];exact e6,by rw [h4];exact e7,fun hcap=>?_⟩,fun j' e' b c rows' n1 n2 n3 i' row v n4 n5=>?_⟩
    ·obtain ⟨b,cur,f1,f2,f3,f4,f5,f6⟩:=e8 hcap
     refine ⟨b,cur,f1,tB c2 f2 ha (if_pos h1),by rw [h3];exact f3,by rw [h4];exact f4,f5,by rw [h4];exact f6⟩
    ·rw [hx] at n3;cases n3
     rw [h4] at n1 n5
     have hcl:=(jB e2 h7 R.known).2 j' e' n1 row (List.mem_of_getElem? n4)
     exact jG.head ((R.mem.arr a' A' h2).ns j' e' b c rows n1 ((M.arr a' h1).symm.trans n2) e2 i' row v n4 n5) hcl fun b' hb'=>tC c2 hb' ha (if_pos h1)
   ·obtain ⟨_,A0,i,g1,g2,g3⟩:=ok.as _ (iS h2)
    simp only at g1
    rw [ha] at g1
    cases g1
    cases c with
    | zero =>
     obtain ⟨g3,g4⟩:=g3
     obtain ⟨p1,p2⟩:=SK.yV g3
     have hx : A.x.den (E0.put (L.nx0 + 1) (cs.map (X.den E)))=.l []:=by
      rw [g2]
      simp only [X.den]
      rw [hlook _ _ _ g4];rfl
     refine ⟨⟨none,0,[],tD h1 h2,hx,Nat.le_refl _,Nat.zero_le _,by simp,p2,p1,fun h=>absurd h (Nat.lt_irrefl _)⟩,fun j' e' b c rows' n1 n2 n3 i' row v n4 n5=>?_⟩
     rw [hx] at n3;cases n3
     simp at n4
    | succ c =>
     obtain ⟨A',n,g4,g5,g6,g7,g8,g9⟩:=g3
     obtain ⟨ad,cap,rows,e1,e2,e3,e4,e5,e6,e7,e8⟩:=(R.mem.arr c A' g4).ex
     have hx : A.x.den (E0.put (L.nx0 + 1) (cs.map (X.den E)))=.l (rows.take (n.den E).int.toNat):=by
      rw [g2]
      simp only [X.den]
      rw [hlook _ _ _ g8,db e2]
     have ht : tgt L bR.as a'=some c:=by
      unfold tgt
      rw [if_neg (by omega),h2]
     refine ⟨⟨ad,cap,rows.take (n.den E).int.toNat,(oF h1 h2).trans e1,hx,?_,e4,?_,by rw [g6];exact e6,by rw [g6];exact e7,fun hcap=>?_⟩,fun j' e' b c' rows' n1 n2 n3 i' row v n4 n5=>?_⟩
     ·rw [List.length_take];omega
     ·rw [g6,List.length_take]
      exact Nat.le_trans (Nat.mul_le_mul_right _ (Nat.min_le_right _ _)) e5
     ·obtain ⟨b,cur,f1,f2,f3,f4,f5,f6⟩:=e8 hcap
      refine ⟨b,cur,f1,tB c2 f2 ha ht,by rw [g5];exact f3,by rw [g6];exact f4,f5,fun i' row hi'=>?_⟩
      rw [List.getElem?_take] at hi'
      split at hi'
      ·rw [g6];exact f6 i' row hi'
      ·cases hi'
     ·rw [hx] at n3;cases n3
      rw [g6] at n1 n5
      rw [List.getElem?_take] at n4
      split at n4
      ·have hcl:=(jB e2 g9 R.known).2 j' e' n1 row (List.mem_of_getElem? n4)
       exact jG.head ((R.mem.arr c A' g4).ns j' e' b c' rows n1 ((oF h1 h2).symm.trans n2) e2 i' row v n4 n5) hcl fun b' hb'=>tC c2 hb' ha ht
      ·cases n4
  ·have hnl : L.hd.h.arrs.length≤a':=by
    rcases Nat.lt_or_ge a' L.hd.h.arrs.length with hl | hl
    ·exfalso
     obtain ⟨x,hx⟩:=cH hl
     rcases ha with ha | ha
     ·rw [ha] at hx;cases hx
     ·exact (x2 a' _ ha).1 rfl
    ·exact hl
   have : fk a' bR.as=none:=by
    cases hl : fk a' bR.as with
    | none=>rfl
    | some c =>
     obtain ⟨_,A,i,h2,_⟩:=ok.as _ (iS hl)
     have:=cn h2
     simp only at this
     omega
   simp only [HH,if_neg (show ¬ a' < L.a0 by omega),this]
  ·obtain ⟨y,k1,k2⟩:=m2.nth ha
   cases y with
   | fr=>exact k2.elim
   | go=>exact k2.elim
   | here M0 =>
    obtain ⟨b,es,clock,rows,h1,h2,h3,h4,h5,h6⟩:=R.mem.mm.at_ a' M0 (by rw [hmt,eG,if_pos (cn k1)];exact k1)
    obtain ⟨t,k3⟩:=k2
    obtain ⟨t1,t2,t3⟩:=uR t
    refine ⟨b,es,clock,rows,(M.mp a' (cn ha)).trans h1,by rw [qq (by rw [h2];intro c h;exact h)];exact h2,h3,h4,?_,by rw [t1,t2,t3];exact h6⟩
    rcases k3 with ⟨e1,e2⟩ | ⟨i,e1,e2⟩
    ·rw [← X.dM hF e2,e1];exact h5
    ·rw [e1]
     simp only [X.den]
     rw [hlook _ _ _ e2];exact h5
  ·obtain ⟨u,hu⟩:=hkn b hb'
   rw [← X.dM (hE.trans hF) u];exact hu
  ·rw [oE (hr0 i x hi)];exact R.fa i x hi
 ·exact (bs hb).elim
end
end Go.Sy

namespace Go.Sy
open Go.RowKit
section
variable {P : Program} {Z : Cx} {Γ : Gam} {B : cT} {Q : List CD→Prop} {E F : Env} {J : JJ} {p q : Pl} {g : Gm} {s : St} {a : Act} {as : List Act} {w : World}
def resM (a : Act) : ResultVar→Sem Value
 | .tmp t=>pure (a.tmps.getD t Go.undef)
 | .cell b t=>do loadVar t (← asAddr (a.tmps.getD b Go.undef))
theorem lZ {T : TT} (hT : TOk P T) (R : Rep B E p g s a as w) : ∀ {l : List ResultVar} {vals : List SV},oY T s.h s.tmps l=some vals→∃ vs : List Value,aE (SV.is E p g) vals vs ∧
  l.length=vs.length∧∀ (i : Nat) x,l[i]?=some x→∃ v,vs[i]?=some v∧(resM a x).run P w=.ok v w
 | [],vals,h=>by
  simp only [oY,Option.some.injEq] at h
  subst h
  exact ⟨[],trivial,rfl,fun i x hx=>(by simp at hx)⟩
 | .tmp t :: l,vals,h=>by
  simp only [oY] at h
  split at h
  ·rename_i x m h1 h2
   cases h
   obtain ⟨vs,i1,i2,i3⟩:=lZ hT R h2
   refine ⟨a.tmps.getD t Go.undef :: vs,⟨R.frame.tmp t _ h1,i1⟩,by simp [i2],fun i y hy=>?_⟩
   cases i with
   | zero =>
    simp only [List.getElem?_cons_zero,Option.some.injEq] at hy
    subst hy
    exact ⟨_,rfl,rfl⟩
   | succ i=>simpa using i3 i y (by simpa using hy)
  ·cases h
 | .cell t ty :: l,vals,h=>by
  simp only [oY] at h
  split at h
  ·rename_i r o m h1 h2
   split at h
   ·rename_i x hh hl
    cases h
    obtain ⟨vs,i1,i2,i3⟩:=lZ hT R h2
    obtain ⟨b,q,h5,hv⟩:=(R.frame.tmp t _ h1 : ∃ b q,p.reg r=some (b,q)∧a.tmps.getD t Go.undef=.pointer (some ⟨b,q + o,none⟩))
    obtain ⟨_,v,h3,h4⟩:=pg hT R.mem (r:=.v (.one (.loc r o))) (v:=.pointer (some ⟨b,q + o,none⟩)) ⟨b,q,h5,rfl⟩ hl (fun b hb=>by cases hb)
    have h3:=h3 w (bj.refl _ _ _ _)
    refine ⟨v :: vs,⟨h4,i1⟩,by simp [i2],fun i y hy=>?_⟩
    cases i with
    | zero =>
     simp only [List.getElem?_cons_zero,Option.some.injEq] at hy
     subst hy
     refine ⟨v,rfl,?_⟩
     simp only [resM,hv]
     simpa [Instr.loadAt,Instr.sureAddr,asAddr] using h3
    | succ i=>simpa using i3 i y (by simpa using hy)
   ·cases h
  ·cases h
theorem xE {α β : Type} {P : Program} {w : World} {f : α→Sem β} : ∀ {l : List α} {vs : List β},l.length=vs.length→(∀ (i : Nat) x,l[i]?=some x→∃ v,vs[i]?=some v∧(f x).run P w=.ok v w)→(l.mapM f).run P w=.ok vs w
 | [],[],_,_=>by simp [List.mapM_nil]
 | x :: l,v :: vs,h,hh=>by
  obtain ⟨v',h1,h2⟩:=hh 0 x rfl
  simp only [List.getElem?_cons_zero,Option.some.injEq] at h1
  subst h1
  rw [List.mapM_cons,Sem.run_bind,h2,Result.andThen_ok,Sem.run_bind,xE (l:=l) (vs:=vs) (by simpa using h) (fun i y hy=>by simpa using hh (i + 1) y (by simpa using hy))]
  rfl
 | [],_ :: _,h,_=>by simp at h
 | _ :: _,[],h,_=>by simp at h
def outV : List Value→Value
 | [v]=>v
 | vs=>.tuple vs.toArray
theorem qP {T : TT} {fn : Func} (hT : TOk P T) (R : Rep B E p g s a as w) {vals : List SV} (h : oY T s.h s.tmps fn.results.toList=some vals) :
  ∃ vs v,aE (SV.is E p g) vals vs∧v=outV vs∧(results fn a.tmps).run P w=.ok v w:=by
 obtain ⟨vs,h1,h2,h3⟩:=lZ hT R h
 refine ⟨vs,_,h1,rfl,?_⟩
 unfold results
 rw [Sem.run_bind,Array.mapM_eq_mapM_toList]
 simp only [Sem.run_map]
 rw [xE h2 (fun i x hx=>(by
  obtain ⟨v,e1,e2⟩:=h3 i x hx
  exact ⟨v,e1,by cases x <;> exact e2⟩))]
 simp only [Result.andThen_ok]
 cases vs with
 | nil=>rfl
 | cons x l=>cases l <;> rfl
theorem Ah {vals : List SV} {vs : List Value} (h : aE (SV.is E p g) vals vs) : (wP vals).is E p g (outV vs):=by
 match vals,vs,h with
 | [],[],_=>exact ⟨[],rfl,trivial⟩
 | [x],[v],h=>exact h.1
 | x :: y :: l,u :: v :: m,h=>exact ⟨_,rfl,h⟩
 | [],_ :: _,h=>exact h.elim
 | _ :: _,[],h=>exact h.elim
 | [_],_ :: _ :: _,h=>exact h.2.elim
 | _ :: _ :: _,[_],h=>exact h.2.elim
theorem mz : ∀ {l : List RK} {vals : List SV} {vs : List Value} {ds : List SC},lI l vals=some ds→aE (SV.is E p g) vals vs →
  ∃ us,aE (SC.is E p g) ds us∧∀ (Ec : Env) (pc : Pl) (gc : Gm) (cs : List SC),aE (SC.is Ec pc gc) cs us→aE (SV.is Ec pc gc) (lN l cs) vs
 | [],[],vs,ds,h,hv=>by
  simp only [lI,Option.some.injEq] at h
  subst h
  cases vs with
  | nil=>exact ⟨[],trivial,fun Ec pc gc cs _=>by cases cs <;> trivial⟩
  | cons=>exact hv.elim
 | .one k :: l,.one c :: vals,vs,ds,h,hv=>by
  simp only [lI] at h
  split at h
  ·rename_i m hm
   cases h
   cases vs with
   | nil=>exact hv.elim
   | cons v vs =>
    obtain ⟨us,h1,h2⟩:=mz hm hv.2
    refine ⟨v :: us,⟨hv.1,h1⟩,fun Ec pc gc cs hc=>?_⟩
    cases cs with
    | nil=>exact hc.elim
    | cons c cs=>exact ⟨hc.1,h2 Ec pc gc cs hc.2⟩
  ·cases h
 | .agg ks :: l,.agg c :: vals,vs,ds,h,hv=>by
  simp only [lI] at h
  split at h
  ·rename_i hlen
   have hlen:=Nat.eq_of_beq_eq_true hlen
   split at h
   ·rename_i m hm
    cases h
    cases vs with
    | nil=>exact hv.elim
    | cons v vs =>
     obtain ⟨us,h1,h2⟩:=mz hm hv.2
     obtain ⟨ws,e,hw⟩:=hv.1
     have hwl:=hw.length
     refine ⟨ws ++ us,hw.append h1,fun Ec pc gc cs hc=>?_⟩
     have ht:=hc.take ks.length
     have hd:=hc.drop ks.length
     rw [oS (l:=ws) (by omega)] at ht
     rw [mC (l:=ws) (by omega)] at hd
     have e1 : lN (.agg ks :: l) cs=.agg (cs.take ks.length) :: lN l (cs.drop ks.length):=by cases cs <;> rfl
     rw [e1]
     exact ⟨⟨ws,e,ht⟩,h2 Ec pc gc _ hd⟩
   ·cases h
  ·cases h
 | [],_ :: _,_,_,h,_=>by simp [lI] at h
 | .one _ :: _,[],_,_,h,_=>by simp [lI] at h
 | .agg _ :: _,[],_,_,h,_=>by simp [lI] at h
 | .one _ :: _,.agg _ :: _,_,_,h,_=>by simp [lI] at h
 | .agg _ :: _,.one _ :: _,_,_,h,_=>by simp [lI] at h
def RegEnd (p : Pl) (w : World) (Ec : Env) (pc : Pl) (gc : Gm) (r : Nat) (cs : List SC) : Prop:=∃ b q,p.reg r=some (b,q)∧∀ i c,nth cs i=some c→∃ v,w.cell? ⟨b,q + i,none⟩=some v∧c.is Ec pc gc v
theorem ie {h : Hp} (H : bq B E p g h w) : ∀ {l : List AK} {r : Nat} {cs : List SC},pE h r l=some cs→cs.length=(l.flatMap AK.ps).length∧(∀ j,j < oh l→∃ old,nth h.regs (r + j)=some (.here old)∧∀ ds c,nth (dR l ds) j=some c→c.length≤old.length) ∧
  ∃ us,aE (SC.is E p g) cs us∧∀ (Ec : Env) (pc : Pl) (gc : Gm) (ds : List SC) (us' : List Value),aE (SC.is Ec pc gc) ds (us ++ us')→∀ j c,nth (dR l ds) j=some c→RegEnd p w Ec pc gc (r + j) c
 | [],r,cs,hf=>by
  simp only [pE,Option.some.injEq] at hf
  subst hf
  exact ⟨rfl,fun j hj=>(by simp [oh] at hj),[],trivial,fun _ _ _ _ _ _ j c hj=>by simp [dR,nth] at hj⟩
 | .one k :: l,r,cs,hf=>by
  have hf : pE h r l=some cs:=hf
  obtain ⟨h1,h2,h3⟩:=ie H hf
  exact ⟨by simpa [AK.ps] using h1,h2,h3⟩
 | .agg k :: l,r,cs,hf=>by
  have hf : pE h r l=some cs:=hf
  obtain ⟨h1,h2,h3⟩:=ie H hf
  exact ⟨by simpa [AK.ps] using h1,h2,h3⟩
 | .fn k :: l,r,cs,hf=>by
  have hf : pE h r l=some cs:=hf
  obtain ⟨h1,h2,h3⟩:=ie H hf
  exact ⟨by simpa [AK.ps,AK.ks] using h1,h2,h3⟩
 | .ptr ks :: l,r,cs,hf=>by
  simp only [pE] at hf
  split at hf
  ·rename_i c m hc hm
   split at hf
   ·rename_i hlen
    have hlen:=Nat.eq_of_beq_eq_true hlen
    cases hf
    obtain ⟨h1,h2,us,h3,h4⟩:=ie H hm
    obtain ⟨b,q,e1,e2,e3,e4⟩:=(H.reg r c hc).ex
    obtain ⟨ws,w1,w2⟩:=vY (R:=SC.is E p g) (l:=c) (f:=fun j=>w.cell? ⟨b,q + j,none⟩) fun j c0 hc0=>(e4 j c0 hc0).2.2
    have hwl:=w1.length
    refine ⟨by simp [AK.ps,h1,hlen],fun j hj=>?_,ws ++ us,w1.append h3,fun Ec pc gc ds us' hd j c' hj=>?_⟩
    ·cases j with
     | zero =>
      refine ⟨c,hc,fun ds c0 h0=>?_⟩
      simp only [dR,nth,Option.some.injEq] at h0
      subst h0
      rw [List.length_take];omega
     | succ j =>
      obtain ⟨old,o1,o2⟩:=h2 j (by simp only [oh] at hj;omega)
      exact ⟨old,by rw [show r + (j + 1)=r + 1 + j from by omega];exact o1,fun ds c0 h0=>o2 (ds.drop ks.length) c0 h0⟩
    ·rw [List.append_assoc] at hd
     have ht:=hd.take ks.length
     have hdd:=hd.drop ks.length
     rw [oS (l:=ws) (by omega)] at ht
     rw [mC (l:=ws) (by omega)] at hdd
     cases j with
     | zero =>
      simp only [dR,nth,Option.some.injEq] at hj
      subst hj
      refine ⟨b,q,e1,fun i c0 hi=>?_⟩
      obtain ⟨v,v1,v2⟩:=ht.nth hi
      exact ⟨v,w2 i v v1,v2⟩
     | succ j =>
      rw [show r + (j + 1)=r + 1 + j from by omega]
      exact h4 Ec pc gc _ us' hdd j c' hj
   ·cases hf
  ·cases hf
def C1 (p : Pl) (n : Nat) (own : List (Option Nat)) (L : List (Option Addr × Nat)) : Pl where
 reg j:=if j < n then p.reg j else none
 arr j:=L[j]?
 mp _:=none
 ow k:=match p.ow k with
  | .reg r=>.reg r
  | .arr a=>(match js a own with | some j=>.arr j | none=>.z)
  | .nst a i' j'=>(match js a own with | some j=>.nst j i' j' | none=>.z)
  | _=>.z
theorem BL {n : Nat} {own : List (Option Nat)} {L : List (Option Addr × Nat)} {k a : Nat} (h : ((C1 p n own L).ow k).ofA a) : ∃ a',(p.ow k).ofA a':=by
 unfold C1 at h
 dsimp only at h
 split at h
 ·exact h.elim
 ·rename_i a' he;exact ⟨a',by rw [he];rfl⟩
 ·rename_i a' i1 j1 he;exact ⟨a',by rw [he];rfl⟩
 ·exact h.elim
def Ep (Z : Cx) (B : cT) (Q : List CD→Prop) (E0 : Env) (e : Ending) (w : World) : Prop :=
 ∃ outs p1 g1 v,e=.returned v∧CD.oks Z.sig.o0 outs∧Q outs∧(∀ i x,i < oh Z.sig.args→B.r0 i=some x→p1.reg i=some x)∧bq B (E0.put Z.sig.ins.length outs) p1 g1 Z.sig.h1 w∧Z.sig.C2.is (E0.put Z.sig.ins.length outs) p1 g1 v
theorem nD (S : Told P Z Γ) {fn : Func} (E0 : Env) : ∀ (n : Nat) (s : St) (p : Pl) (g : Gm),(rQ Z fn.results.toList n s).den Γ Q E J→Rep B E p g s a as w→bodyPost P fn (Ep Z B Q E0) .ret a w
 | 0,s,p,g,hd,_=>hd.elim
 | n + 1,s,p,g,hd,R=>by
  simp only [rQ] at hd
  split at hd
  ·exact hd.elim
  ·rename_i vals hvals
   split at hd
   ·rename_i cs ds hcs hds
    split at hd
    ·rename_i b hb
     obtain ⟨s',q,g',h1,h2,h3,h4,h5,h6,h7⟩:=ia R hd
     exact nD S E0 n s' q g' h7 h3
    ·rename_i hfz
     split at hd
     ·exact hd.elim
     ·rename_i m hm
      split at hd
      ·rename_i hdup
       obtain ⟨hn,hd⟩:=cC R.known hd
       have hd : Q (m.data.map (X.den E)):=hd
       obtain ⟨vs,v,v1,v2,v3⟩:=qP (fn:=fn) S.T R hvals
       obtain ⟨u1,f1,f2⟩:=mz hds v1
       obtain ⟨p1,p2,u2,p3,p4⟩:=ie R.mem hcs
       have hlent:=qh hm hfz
       obtain ⟨m1,m2,L,m3,m4,m5,m6⟩:=om R.mem hm (p3.append f1) hn
       let n0:=Z.sig.ins.length
       let Ec : Env:=E0.put n0 (m.data.map (X.den E))
       let pc : Pl:=C1 p (oh Z.sig.args) m.own L
       have hEc : ∀ i x,m.data[i]?=some x→Ec (n0 + i)=x.den E:=fun i x hi=>by
        rw [show Ec (n0 + i)=(m.data.map (X.den E)).getD i .u from jh]
        simp [List.getD_eq_getElem?_getD,hi]
       have hcells : aE (SC.is Ec pc g) (mkC n0 0 Z.sig.outs) (u2 ++ u1):=m6 Ec pc g n0 0 hEc (fun i pl hi=>by rw [Nat.zero_add];exact hi) (Gm.Le.refl _) (by rw [hlent];intro a ha;cases ha)
       have hnP : Z.sig.nP=u2.length:=by
        rw [← p3.length,p1];rfl
       have hres:=hcells.drop Z.sig.nP
       rw [mC (l:=u2) hnP.symm] at hres
       have hAr : ∀ j A,nth Z.sig.h1.arrs j=some (.here A)→∃ i e K o pl d,nth Z.sig.outs i=some (.own e K)∧A=⟨e,K,.var (n0 + i)⟩∧Ec (n0 + i)=d∧m.own[j]?=some o∧L[j]?=some pl∧yz E p s.h o pl e K d:=fun j A hj=>by
        obtain ⟨i,e,K,o,pl,d,h1,h2,h3,h4,h5,h6⟩:=rW m3 (show nth (mkA n0 Z.sig.outs) j=_ from hj)
        refine ⟨i,e,K,o,pl,d,h1,h2,?_,h4,h5,h6⟩
        rw [show Ec (n0 + i)=(m.data.map (X.den E)).getD i .u from jh]
        simp [List.getD_eq_getElem?_getD,h3]
       have hregs : ∀ j x,nth Z.sig.h1.regs j=some x→j < oh Z.sig.args∧∃ c,x=.here c∧nth (dR Z.sig.args (mkC n0 0 Z.sig.outs)) j=some c:=fun j x hj=>by
        have hj' : nth ((dR Z.sig.args (mkC n0 0 Z.sig.outs)).map Pc.here) j=some x:=hj
        rw [aW,List.getElem?_map,Option.map_eq_some_iff] at hj'
        obtain ⟨c,h1,h2⟩:=hj'
        rw [← aW] at h1
        exact ⟨by rw [← du Z.sig.args (mkC n0 0 Z.sig.outs)];exact cn h1,c,h2.symm,h1⟩
       refine ⟨R.frame.defers,v,v3,m.data.map (X.den E),pc,g,v,rfl,m2,hd,fun i x hi hx=>(if_pos hi).trans (R.fa i x hx),⟨R.mem.fr,R.mem.g0,R.mem.g1,fun k o u hk=>?_,fun r c hr=>?_,fun r hr=>?_,fun j A hj=>?_,fun j hj=>?_,⟨fun a M ha=>(by cases a <;> cases ha),fun _ _=>rfl⟩,fun k a hk=>by obtain ⟨a',h⟩:=BL hk;exact R.mem.nz k a' h⟩,?_⟩
       ·obtain ⟨h1,h2⟩:=R.mem.gg k o u hk
        refine ⟨h1,?_⟩
        show (match p.ow k with | .reg r=>_ | .arr a=>_ | .nst a i' j'=>_ | _=>_)=_
        rw [h2]
       ·obtain ⟨h1,c',h2,h3⟩:=hregs r _ hr
        cases h2
        obtain ⟨old,h4,h5⟩:=p2 r h1
        rw [Nat.zero_add] at h4
        obtain ⟨b,q,e1,e2,e3,e4⟩:=(R.mem.reg r old h4).ex
        obtain ⟨b',q',k1,k2⟩:=p4 Ec pc g _ u1 hcells r c h3
        rw [Nat.zero_add,e1] at k1
        cases k1
        refine ⟨b,q,(if_pos h1).trans e1,?_,e3,fun i c0 hi=>?_⟩
        ·show (match p.ow b with | .reg r=>_ | .arr a=>_ | .nst a i' j'=>_ | _=>_)=_
         rw [e2]
        ·have hil:=cn hi
         obtain ⟨c1,hc1⟩:=cH (l:=old) (i:=i) (by have:=h5 _ _ h3;omega)
         obtain ⟨n1,n2,_⟩:=e4 i c1 hc1
         obtain ⟨u,x1,x2⟩:=k2 i c0 hi
         exact ⟨n1,n2,u,x1,x2⟩
       ·have hno : ¬ r < oh Z.sig.args:=fun hl=>by
         rw [← du Z.sig.args (mkC n0 0 Z.sig.outs)] at hl
         obtain ⟨c,hc⟩:=cH hl
         have : nth Z.sig.h1.regs r=some (.here c):=by
          show nth ((dR Z.sig.args (mkC n0 0 Z.sig.outs)).map Pc.here) r=_
          rw [aW,List.getElem?_map,← aW,hc];rfl
         rcases hr with hr | hr <;> rw [this] at hr <;> cases hr
        exact if_neg hno
       ·obtain ⟨i,e,K,o,pl,d,h1,h2,h3,h4,h5,h6⟩:=hAr j A hj
        subst h2
        cases o with
        | none =>
         obtain ⟨k1,k2,k3,k4⟩:=h6
         have hx : (X.var (n0 + i)).den Ec=.l []:=by simp only [X.den];exact h3.trans k2
         refine ⟨⟨pl.1,pl.2,[],h5,hx,by simp,by rw [k1];simp,by simp,k4,k3,fun h=>by omega⟩,fun j' e' b c rows' n1 n2 n3 i' row v n4 n5=>?_⟩
         rw [hx] at n3;cases n3
         simp at n4
        | some a' =>
         obtain ⟨k1,A,k,rows,k2,k3,k4,k5,k6,k7,hcl⟩:=h6
         subst k3;subst k4
         obtain ⟨ad,cap,rows',e1,e2,e3,e4,e5,e6,e7,e8⟩:=(R.mem.arr a' A k2).ex
         rw [k1] at e1;cases e1
         rw [k5] at e2;cases e2
         have hx : (X.var (n0 + i)).den Ec=.l (rows.take k):=by simp only [X.den];exact h3.trans k7
         refine ⟨⟨ad,cap,rows.take k,h5,hx,by rw [List.length_take];omega,e4,?_,e6,e7,fun hc=>?_⟩,fun j' e' b c rows' n1 n2 n3 i' row v n4 n5=>?_⟩
         ·rw [List.length_take]
          exact Nat.le_trans (Nat.mul_le_mul_right _ (Nat.min_le_right _ _)) e5
         ·obtain ⟨b,cur,g1,g2,g3,g4,g5,g6⟩:=e8 hc
          subst g1
          refine ⟨b,cur,rfl,?_,g3,g4,g5,fun i' row hi=>?_⟩
          ·show (match p.ow b with | .reg r=>_ | .arr a=>_ | .nst a i' j'=>_ | _=>_)=_
           rw [g2]
           show (match js a' m.own with | some j=>Ow.arr j | none=>.z)=_
           rw [m8 hdup h4]
          ·rw [List.getElem?_take] at hi
           split at hi
           ·exact g6 i' row hi
           ·cases hi
         ·rw [hx] at n3;cases n3
          rw [List.getElem?_take] at n4
          split at n4
          ·have n2 : L[j]?=some (some ⟨b,0,none⟩,c):=n2
           rw [h5] at n2
           refine jG.head ((R.mem.arr a' A k2).ns j' e' b c rows n1 (k1.trans n2) k5 i' row v n4 n5) (hcl j' e' n1 row (List.mem_of_getElem? n4)) fun b' hb'=>?_
           show (match p.ow b' with | .reg r=>_ | .arr a=>_ | .nst a i' j'=>_ | _=>_)=_
           rw [hb']
           show (match js a' m.own with | some j=>Ow.nst j i' j' | none=>.z)=_
           rw [m8 hdup h4]
          ·cases n4
       ·have : nth Z.sig.h1.arrs j=none:=by
         rcases hj with hj | hj
         ·exact hj
         ·obtain ⟨A,e⟩:=td (show nth (mkA n0 Z.sig.outs) j=_ from hj)
          cases e
        rw [aW,List.getElem?_eq_none_iff] at this
        show L[j]?=none
        exact List.getElem?_eq_none (by rw [m4,← k9 Z.sig.outs n0];exact this)
       ·rw [v2]
        exact Ah (f2 Ec pc g _ hres)
      ·exact hd.elim
   ·exact hd.elim
theorem vE (S : Told P Z Γ) {fn : Func} (E0 : Env) (n : Nat) (s : St) (p : Pl) (g : Gm) (hd : (bt Z fn.results.toList n s).den Γ Q E J) (R : Rep B E p g s a as w) : bodyPost P fn (Ep Z B Q E0) .ret a w:=by
 unfold bt at hd
 obtain ⟨s',q,h1,h2,h3,h4,h5⟩:=fD R hd
 exact nD S E0 n s' q g h5 h2
end
end Go.Sy

namespace Go.Sy
open Go.RowKit
def Rn (P : Program) (c : Code) (Q : Exit→Act→World→Prop) (a : Act) (w : World) : Prop:=∀ X : Act→World→Prop,(∀ a w,c.wp P (Exit.then X Q) a w→X a w)→X a w
section
variable {P : Program} {Q : Exit→Act→World→Prop} {a : Act} {w : World} {c : Code}
theorem pV {X Y : Act→World→Prop} (h : ∀ a w,X a w→Y a w) : ∀ e a w,Exit.then X Q e a w→Exit.then Y Q e a w:=by
 intro e a w hh
 cases e <;> first | exact h _ _ hh | exact hh
theorem Rn_of (h : c.wp P (Exit.then (Rn P c Q) Q) a w) : Rn P c Q a w:=fun X hX=>hX a w (wp_mono h (pV fun _ _ hr=>hr X hX))
theorem AU (h : c.wp P (Exit.then (Rn P c Q) Q) a w) : (Code.loop c).wp P Q a w:=by
 intro b k cs
 let X : Act→World→Prop:=fun a w=>∃ e a' w',Q e a' w'∧Arrives P (lone (b.at a (.inLoop c :: k)) cs w) b k cs e a' w'
 have hX : ∀ a w,c.wp P (Exit.then X Q) a w→X a w:=fun a w hw=>by
  obtain ⟨e,a1,w1,hq,harr⟩:=hw b (.inLoop c :: k) cs
  cases e with
  | normal =>
   obtain ⟨e2,a2,w2,hq2,harr2⟩:=hq
   exact ⟨e2,a2,w2,hq2,.of_steps (.head step_inLoop harr) harr2⟩
  | exit id=>exact ⟨_,a1,w1,hq,.of_steps (.one step_inLoop) (.pass (x:=.inLoop c) rfl (fun _ _=>.inl (by simp)) harr)⟩
  | goto l=>exact ⟨_,a1,w1,hq,.of_steps (.one step_inLoop) (.pass (x:=.inLoop c) rfl (fun _ _=>.inl (by simp)) harr)⟩
  | ret=>exact ⟨_,a1,w1,hq,.of_steps (.one step_inLoop) (.pass (x:=.inLoop c) rfl (fun _ _=>.inl (by simp)) harr)⟩
  | panic ch=>exact ⟨_,a1,w1,hq,.of_steps (.one step_inLoop) (.pass (x:=.inLoop c) rfl (fun _ _=>.inl (by simp)) harr)⟩
  | outgrown=>exact ⟨_,a1,w1,hq,.of_steps (.one step_inLoop) (.pass (x:=.inLoop c) rfl (fun _ _=>.inl (by simp)) harr)⟩
 obtain ⟨e,a1,w1,hq,harr⟩:=h b (.inLoop c :: k) cs
 cases e with
 | normal =>
  obtain ⟨e2,a2,w2,hq2,harr2⟩:=hq X hX
  exact ⟨e2,a2,w2,hq2,.of_steps (.head step_loop harr) harr2⟩
 | exit id=>exact ⟨_,a1,w1,hq,.of_steps (.one step_loop) (.pass (x:=.inLoop c) rfl (fun _ _=>.inl (by simp)) harr)⟩
 | goto l=>exact ⟨_,a1,w1,hq,.of_steps (.one step_loop) (.pass (x:=.inLoop c) rfl (fun _ _=>.inl (by simp)) harr)⟩
 | ret=>exact ⟨_,a1,w1,hq,.of_steps (.one step_loop) (.pass (x:=.inLoop c) rfl (fun _ _=>.inl (by simp)) harr)⟩
 | panic ch=>exact ⟨_,a1,w1,hq,.of_steps (.one step_loop) (.pass (x:=.inLoop c) rfl (fun _ _=>.inl (by simp)) harr)⟩
 | outgrown=>exact ⟨_,a1,w1,hq,.of_steps (.one step_loop) (.pass (x:=.inLoop c) rfl (fun _ _=>.inl (by simp)) harr)⟩
open Classical in
theorem EV (I : Nat→Act→World→Prop) (h0 : ∃ m,I m a w) (round : ∀ m a w,I m a w→c.wp P (Exit.then (fun a' w'=>∃ m',m' < m∧I m' a' w') Q) a w) : (Code.loop c).wp P Q a w:=by
 have key : ∀ m a w,I m a w→∀ X : Act→World→Prop,(∀ a w,c.wp P (Exit.then X Q) a w→X a w)→X a w:=by
  intro m
  induction m using Nat.strongRecOn with
  | _ m ih=>exact fun a w hI X hX=>hX a w (wp_mono (round m a w hI) (pV fun a' w' ⟨m',hlt,hI'⟩=>ih m' hlt a' w' hI' X hX))
 obtain ⟨m,hm⟩:=h0
 exact AU (wp_mono (round m a w hm) (pV fun a' w' ⟨m',_,hI'⟩=>key m' a' w' hI'))
end
def its (P : Program) (Bd : Exit→Act→World→Prop) (Y : Nat→Act→World→Prop) : List It→Exit→Act→World→Prop
 | []=>fun _ _ _=>False
 | .fin _ :: _=>Bd
 | .code c :: k=>Exit.then (c.wp P (its P Bd Y k)) (its P Bd Y k)
 | .blk id :: k=>Exit.inBlock id (its P Bd Y k)
 | .ops l all :: k=>Exit.then (wpList P all.toArray (its P Bd Y k) l) (its P Bd Y k)
 | .again c :: k=>Exit.then (Rn P c (its P Bd Y k)) (its P Bd Y k)
 | .round L :: k=>Exit.then (Y L.nx0) (its P Bd Y k)
section
variable {P : Program} {Γ : Gam} {B : cT} {Q : List CD→Prop} {Bd : Exit→Act→World→Prop} {Y Y' : Nat→Act→World→Prop} {as : List Act}
theorem ng {a : Act} {w : World} {f : St→Tree} : ∀ {k : List It},w8 k=some f→Bd .ret a w→its P Bd Y k .ret a w
 | [],h,_=>by simp [w8] at h
 | .fin _ :: _,_,h=>h
 | .code _ :: k,h,hb=>ng (k:=k) h hb
 | .blk _ :: k,h,hb=>ng (k:=k) h hb
 | .ops _ _ :: k,h,hb=>ng (k:=k) h hb
 | .again _ :: k,h,hb=>ng (k:=k) h hb
 | .round _ :: k,h,hb=>ng (k:=k) h hb
theorem iU (hB : ∀ c a w,¬ Bd (.panic c) a w) : ∀ (k : List It) (c : List PanicEntry) (a : Act) (w : World),¬ its P Bd Y k (.panic c) a w
 | [],_,_,_,h=>h
 | .fin _ :: _,c,a,w,h=>hB c a w h
 | .code _ :: k,c,a,w,h=>iU hB k c a w h
 | .blk _ :: k,c,a,w,h=>iU hB k c a w h
 | .ops _ _ :: k,c,a,w,h=>iU hB k c a w h
 | .again _ :: k,c,a,w,h=>iU hB k c a w h
 | .round _ :: k,c,a,w,h=>iU hB k c a w h
theorem IA {id : Nat} {a : Act} {w : World} : ∀ {k k' : List It},jn id k=some k'→its P Bd Y k' .normal a w→its P Bd Y k (.exit id) a w
 | [],_,h,_=>by simp [jn] at h
 | .fin _ :: _,_,h,_=>by simp [jn] at h
 | .code _ :: k,_,h,hn=>IA (k:=k) h hn
 | .ops _ _ :: k,_,h,hn=>IA (k:=k) h hn
 | .again _ :: k,_,h,hn=>IA (k:=k) h hn
 | .round _ :: k,_,h,hn=>IA (k:=k) h hn
 | .blk j :: k,k',h,hn=>by
  simp only [jn] at h
  simp only [its,Exit.inBlock]
  split at h
  ·rename_i e
   cases h
   rw [if_pos (Nat.eq_of_beq_eq_true e).symm]
   exact hn
  ·rename_i e
   rw [if_neg (fun e2=>e (by rw [e2];exact Nat.beq_refl j))]
   exact IA (k:=k) h hn
def rE (Γ : Gam) (B : cT) (Q : List CD→Prop) (n : Nat) (E : Env) (J : JJ) (Bd : Exit→Act→World→Prop) (as : List Act) (f : St→Tree) : Prop :=
 (∀ c a w,¬ Bd (.panic c) a w)∧∀ s' E' J' p' g' a' w',n≤s'.nx→E.bW n E'→JJ.HC n J' J→(f s').den Γ Q E' J'→Rep B E' p' g' s' a' as w'→Bd .normal a' w'∧Bd .ret a' w'
def Okk (Γ : Gam) (B : cT) (Q : List CD→Prop) (n : Nat) (E : Env) (J : JJ) (Y : Nat→Act→World→Prop) (Bd : Exit→Act→World→Prop) (as : List Act) : List It→Prop
 | []=>False
 | .fin f :: _=>rE Γ B Q n E J Bd as f
 | .round L :: k=>(L.nx0 < n∧(∀ i x,B.r0 i=some x→i < L.r0)∧∃ E0 : Env,E0.bW L.nx0 E∧(∀ b∈L.hd.known,b.under L.nx0=true∧(b.den E0).bool=true) ∧
   ∀ (ds : List CD) (p' : Pl) (g' : Gm) (a : Act) (w : World),CD.oks L.ks ds→J.b L.nx0 ds→Rep B (E0.put (L.nx0 + 1) ds) p' g' L.hd a as w→Y L.nx0 a w)∧Okk Γ B Q n E J Y Bd as k
 | _ :: k=>Okk Γ B Q n E J Y Bd as k
theorem rE.mono {n n' : Nat} {E E' : Env} {J J' : JJ} (hn : n≤n') (hE : E.bW n E') (hJ : JJ.HC n J' J) {f : St→Tree} (h : rE Γ B Q n E J Bd as f) : rE Γ B Q n' E' J' Bd as f :=
 ⟨h.1,fun s' E2 J2 p' g' a' w' h1 h2 h3=>h.2 s' E2 J2 p' g' a' w' (by omega) (hE.trans (h2.mono hn)) (h3.trans hJ hn)⟩
theorem Okk.mono {n n' : Nat} {E E' : Env} {J J' : JJ} (hn : n≤n') (hE : E.bW n E') (hJ : JJ.HC n J' J) (hY : ∀ i,i < n→Y' i=Y i) : ∀ {k : List It},Okk Γ B Q n E J Y Bd as k→Okk Γ B Q n' E' J' Y' Bd as k
 | [],h=>h.elim
 | .fin _ :: _,h=>rE.mono hn hE hJ h
 | .round L :: k,h=>by
  obtain ⟨⟨h1,h0,E0,h2,h3,h4⟩,h5⟩:=h
  refine ⟨⟨by omega,h0,E0,h2.trans (hE.mono (by omega)),h3,fun ds p' g' a w e1 e2 e3=>?_⟩,h5.mono hn hE hJ hY⟩
  rw [hY _ h1]
  exact h4 ds p' g' a w e1 (by rw [← hJ.1 _ h1];exact e2) e3
 | .code _ :: k,h=>Okk.mono (k:=k) hn hE hJ hY h
 | .blk _ :: k,h=>Okk.mono (k:=k) hn hE hJ hY h
 | .ops _ _ :: k,h=>Okk.mono (k:=k) hn hE hJ hY h
 | .again _ :: k,h=>Okk.mono (k:=k) hn hE hJ hY h
theorem gM {n : Nat} {E : Env} {J : JJ} (hY : ∀ i,i < n→Y' i=Y i) : ∀ {k : List It},Okk Γ B Q n E J Y Bd as k→its P Bd Y' k=its P Bd Y k
 | [],h=>h.elim
 | .fin _ :: _,_=>rfl
 | .round L :: k,h=>by simp only [its,gM hY h.2,hY _ h.1.1]
 | .code _ :: k,h=>by simp only [its,gM (k:=k) hY h]
 | .blk _ :: k,h=>by simp only [its,gM (k:=k) hY h]
 | .ops _ _ :: k,h=>by simp only [its,gM (k:=k) hY h]
 | .again _ :: k,h=>by simp only [its,gM (k:=k) hY h]
theorem Okk.exit {n id : Nat} {E : Env} {J : JJ} : ∀ {k k' : List It},jn id k=some k'→Okk Γ B Q n E J Y Bd as k→Okk Γ B Q n E J Y Bd as k'
 | [],_,h,_=>by simp [jn] at h
 | .fin _ :: _,_,h,_=>by simp [jn] at h
 | .code _ :: k,_,h,ho=>Okk.exit (k:=k) h ho
 | .ops _ _ :: k,_,h,ho=>Okk.exit (k:=k) h ho
 | .again _ :: k,_,h,ho=>Okk.exit (k:=k) h ho
 | .round _ :: k,_,h,ho=>Okk.exit (k:=k) h ho.2
 | .blk j :: k,k',h,ho=>by
  simp only [jn] at h
  split at h
  ·cases h;exact ho
  ·exact Okk.exit (k:=k) h ho
theorem Okk.end {n : Nat} {E : Env} {J : JJ} : ∀ {k : List It},Okk Γ B Q n E J Y Bd as k→∃ f,w8 k=some f∧rE Γ B Q n E J Bd as f
 | [],h=>h.elim
 | .fin f :: _,h=>⟨f,rfl,h⟩
 | .round _ :: k,h=>Okk.end (k:=k) h.2
 | .code _ :: k,h=>Okk.end (k:=k) h
 | .blk _ :: k,h=>Okk.end (k:=k) h
 | .ops _ _ :: k,h=>Okk.end (k:=k) h
 | .again _ :: k,h=>Okk.end (k:=k) h
end
section
variable {P : Program} {Z : Cx} {Γ : Gam} {B : cT} {Q : List CD→Prop} {E : Env} {J : JJ} {Y : Nat→Act→World→Prop} {Bd : Exit→Act→World→Prop} {p : Pl} {g : Gm} {s : St} {a : Act} {as : List Act} {w : World}
theorem FQ {L : LI} {k : List It} {n : Nat} (hd : (pS L s).den Γ Q E J) (ho : Okk Γ B Q n E J Y Bd as (.round L :: k)) (R : Rep B E p g s a as w) : Y L.nx0 a w:=by
 obtain ⟨⟨_,h0,E0,h2,h3,h4⟩,_⟩:=ho
 unfold pS at hd
 dsimp only at hd
 split at hd
 ·rename_i hok
  split at hd
  ·rename_i cs hcs
   obtain ⟨k1,p',k2⟩:=q9 R hok hcs h2 h3 h0
   exact h4 _ p' g a w k1 hd k2
  ·exact hd.elim
 ·exact hd.elim
theorem gy {k : St→Tree} : ∀ {l : List Nat} {s : St} {p : Pl} {g : Gm},Rep B E p g s a as w→(fM l s k).den Γ Q E J→∃ s' q g',Rep B E q g' s' a as w∧s'.nx=s.nx∧s'.fn=s.fn∧(k s').den Γ Q E J
 | [],s,p,g,R,h=>⟨s,p,g,R,rfl,rfl,h⟩
 | b :: l,s,p,g,R,h=>by
  simp only [fM] at h
  obtain ⟨s1,q,g',_,_,h2,_,h3,h4,h5⟩:=ia R h
  obtain ⟨s2,q2,g2,k1,k2,k3,k4⟩:=gy h2 h5
  exact ⟨s2,q2,g2,k1,k2.trans h3,k3.trans h4,k4⟩
theorem vH {k : St→Tree} {f : St→List Nat} {ns : St→List X} {m : Nat} {s : St} {p : Pl} {g : Gm} (R : Rep B E p g s a as w) (h : (fV m s (fun s=>fM (f s) s (fun s=>fy s.known (ns s) (k { s with known:=df s.known (ns s)})))).den Γ Q E J) :
  ∃ s' q g',Rep B E q g' s' a as w∧s'.nx=s.nx∧s'.fn=s.fn∧(k s').den Γ Q E J:=by
 obtain ⟨s1,q1,_,h1,h2,h3,h4⟩:=fD R h
 obtain ⟨s2,q2,g2,k1,k2,k3,k4⟩:=gy h1 h4
 obtain ⟨n1,n2⟩:=cC k1.known k4
 exact ⟨_,q2,g2,k1.df n1,k2.trans h2,k3.trans h3,n2⟩
def Bo (P : Program) (Γ : Gam) (B : cT) (Q : List CD→Prop) (rn : List It→St→Tree) : Prop :=
 ∀ (k : List It) (s : St) (E : Env) (J : JJ) (Y : Nat→Act→World→Prop) (Bd : Exit→Act→World→Prop) (as : List Act),(rn k s).den Γ Q E J→Okk Γ B Q s.nx E J Y Bd as k→∀ (p : Pl) (g : Gm) (a : Act) (w : World),Rep B E p g s a as w→its P Bd Y k .normal a w
theorem zr {n : Nat} {b : Code} {L : LI} {k : List It} {init : List X} (ih : Bo P Γ B Q (run Z n)) (hL : L.nx0=s.nx∧L.r0=s.h.regs.length∧L.hd.known=s.known) (hlt : s.nx < L.hd.nx) (hkn : dD (X.under s.nx) s.known=true)
  (hno : (holds L s).no=[]) (hc : collect (holds L s).ls (s.nx + 1) L.ks=some init) (hd : (Tree.loop s.nx L.ks init (run Z n (.code b :: .round L :: k) L.hd)).den Γ Q E J) (ho : Okk Γ B Q s.nx E J Y Bd as k) (R : Rep B E p g s a as w) :
  (Code.loop b).wp P (its P Bd Y k) a w:=by
 obtain ⟨l1,l2,l3⟩:=hL
 obtain ⟨I,mu,hI,hbody⟩:=hd
 have hknown : ∀ b∈L.hd.known,b.under L.nx0=true∧(b.den E).bool=true:=fun b hb=>by
  rw [l3] at hb
  rw [l1]
  exact ⟨dZ hkn b hb,R.known b hb⟩
 have hr0 : ∀ i x,B.r0 i=some x→i < L.r0:=fun i x hi=>by
  rw [l2]
  rcases Nat.lt_or_ge i s.h.regs.length with hl | hl
  ·exact hl
  ·have:=R.mem.rfree i (.inl (dt hl))
   rw [R.fa i x hi] at this;cases this
 obtain ⟨h1,p1,h2⟩:=q9 R hno (by rw [l1];exact hc) (Env.bW.refl E L.nx0) hknown hr0
 rw [l1] at h2
 let Inv : Nat→Act→World→Prop:=fun m a w=>∃ (ds : List CD) (p' : Pl) (g' : Gm),CD.oks L.ks ds∧I ds∧m=mu ds∧Rep B (E.put (s.nx + 1) ds) p' g' L.hd a as w
 refine EV Inv ⟨_,_,p1,g,h1,hI,rfl,h2⟩ (fun m a1 w1 ⟨ds,p',g',i1,i2,i3,i4⟩=>?_)
 let J' : JJ:=J.put s.nx fun ds'=>I ds'∧mu ds' < mu ds
 let Y' : Nat→Act→World→Prop:=fun i=>if i=s.nx then (fun a' w'=>∃ m',m' < m∧Inv m' a' w') else Y i
 have hYo : ∀ i,i < s.nx→Y' i=Y i:=fun i hi=>if_neg (by omega)
 have hJo : JJ.HC s.nx J' J:=JJ.HC.put (Nat.le_refl _)
 have hA : E.bW s.nx (E.put (s.nx + 1) ds):=(Env.m7 E (s.nx + 1) ds).mono (by omega)
 have:=ih (.code b :: .round L :: k) L.hd _ J' Y' Bd as (hbody ds i1 i2) ⟨⟨by rw [l1];exact hlt,hr0,E,by rw [l1];exact hA,hknown,fun ds' p2 g2 a2 w2 g3 g4 g5=>?_⟩,ho.mono (by omega) hA hJo hYo⟩ p' g' a1 w1 i4
 ·have hcong:=gM (Y':=Y') hYo ho (P:=P)
  simp only [its,Exit.then,hcong] at this
  have hY : Y' L.nx0=fun a' w'=>∃ m',m' < m∧Inv m' a' w':=by rw [l1];exact if_pos rfl
  rw [hY] at this
  exact this
 ·rw [l1] at g4 g5
  have g4 : I ds'∧mu ds' < mu ds:=by
   have : J'.b s.nx=fun ds'=>I ds'∧mu ds' < mu ds:=if_pos rfl
   rw [this] at g4;exact g4
  have hY : Y' L.nx0=fun a' w'=>∃ m',m' < m∧Inv m' a' w':=by rw [l1];exact if_pos rfl
  rw [hY]
  exact ⟨mu ds',by rw [i3];exact g4.2,ds',p2,g2,g3,g4.1,rfl,g5⟩
theorem zI {n : Nat} {x y : Code} {L : LI} {k : List It} (ih : Bo P Γ B Q (run Z n)) (hL : L.nx0=s.nx∧L.r0=s.h.regs.length∧L.hd.known=s.known) (hlt : s.nx < L.hd.nx) (hkn : dD (X.under s.nx) s.known=true)
  (hd : (Tree.join s.nx L.ks (run Z n (.code x :: .round L :: k) { s with nx:=s.nx + 1}) (run Z n (.code y :: k) L.hd)).den Γ Q E J) (ho : Okk Γ B Q s.nx E J Y Bd as k) (R : Rep B E p g s a as w) :
  x.wp P (its P Bd Y (.code y :: k)) a w:=by
 obtain ⟨l1,l2,l3⟩:=hL
 obtain ⟨I,hx,hy⟩:=hd
 have hknown : ∀ b∈L.hd.known,b.under L.nx0=true∧(b.den E).bool=true:=fun b hb=>by
  rw [l3] at hb
  rw [l1]
  exact ⟨dZ hkn b hb,R.known b hb⟩
 have hr0 : ∀ i x,B.r0 i=some x→i < L.r0:=fun i x hi=>by
  rw [l2]
  rcases Nat.lt_or_ge i s.h.regs.length with hl | hl
  ·exact hl
  ·have:=R.mem.rfree i (.inl (dt hl))
   rw [R.fa i x hi] at this;cases this
 let J' : JJ:=J.put s.nx I
 let Y' : Nat→Act→World→Prop:=fun i=>if i=s.nx then y.wp P (its P Bd Y k) else Y i
 have hYo : ∀ i,i < s.nx→Y' i=Y i:=fun i hi=>if_neg (by omega)
 have hJo : JJ.HC s.nx J' J:=JJ.HC.put (Nat.le_refl _)
 have hY : Y' L.nx0=y.wp P (its P Bd Y k):=by rw [l1];exact if_pos rfl
 have:=ih (.code x :: .round L :: k) { s with nx:=s.nx + 1} E J' Y' Bd as hx ⟨⟨by rw [l1];exact Nat.lt_succ_self _,hr0,E,Env.bW.refl _ _,hknown,fun ds p2 g2 a2 w2 g3 g4 g5=>?_⟩,ho.mono (Nat.le_succ _) (Env.bW.refl _ _) hJo hYo⟩ p g a w ⟨R.mem,R.frame,R.stk,R.known,R.fa⟩
 ·have hcong:=gM (Y':=Y') hYo ho (P:=P)
  simp only [its,Exit.then,hcong,hY] at this
  simp only [its]
  exact this
 ·rw [hY]
  rw [l1] at g4 g5
  have g4 : I ds:=by
   have : J'.b s.nx=I:=if_pos rfl
   rw [this] at g4;exact g4
  have hA : E.bW s.nx (E.put (s.nx + 1) ds):=(Env.m7 E (s.nx + 1) ds).mono (by omega)
  exact ih (.code y :: k) L.hd _ J Y Bd as (hy ds g3 g4) (ho.mono (by omega) hA (JJ.HC.refl _ _) (fun _ _=>rfl)) p2 g2 a2 w2 g5
theorem ri {args : List SR} {vals : List Value} {m : Nat} (ha : aE (SR.is E p g) args vals) :
  cA E p g (args ++ List.replicate (m - args.length) (.v (.one .undef))) { tmps:=vals.toArray ++ Array.replicate (m - vals.toArray.size) undef,defers:=[]}:=by
 have hl : args.length=vals.length:=ha.length
 refine ⟨rfl,by simp [hl],fun i c hc=>?_⟩
 rw [Array.getD_eq_getD_getElem?]
 rw [eG] at hc
 split at hc
 ·rename_i hi
  obtain ⟨v,hv,hcv⟩:=ha.nth hc
  rw [aW] at hv
  rw [Array.getElem?_append_left (by simp;omega)]
  have : vals.toArray[i]?=some v:=by simpa using hv
  rw [this];exact hcv
 ·rename_i hi
  rw [aW,List.getElem?_replicate] at hc
  split at hc
  ·cases hc
   rw [Array.getElem?_append_right (by simp;omega),Array.getElem?_replicate]
   split <;> rfl
  ·cases hc
theorem u7 (S : Told P Z Γ) {n : Nat} (ih : Bo P Γ B Q (run Z n)) : Eo P Γ B Q (A4 Z (run Z n)):=by
 intro fn f args vals dst s next E J p g a as w K hf hd R hv hK
 unfold A4 at hd
 split at hd
 ·exact hd.elim
 ·rename_i c hb
  refine calls_of_wp hf hb ?_
  have:=ih _ _ E J (fun _ _ _=>False) (bodyPost P fn fun e w''=>∃ v,e=.returned v∧K (a.put dst v) w'') (a :: as) hd
   (show rE _ _ _ _ _ _ _ _ _ from ⟨fun c a w h=>(by obtain ⟨_,v,e,_⟩:=h;cases e),fun s' E' J' p' g' a' w' h1 h2 h3 h4 h5=>?_⟩) p g { tmps:=vals.toArray ++ Array.replicate (fn.ntmps - vals.toArray.size) undef,defers:=[]} w
   ⟨R.mem,ri hv,⟨R.frame,R.stk⟩,R.known,R.fa⟩
  ·exact this
  ·have key : bodyPost P fn (fun e w''=>∃ v,e=.returned v∧K (a.put dst v) w'') .ret a' w':=by
    dsimp only at h4
    split at h4
    ·rename_i vals' tm stk hvals hstk
     obtain ⟨vs,v,v1,v2,v3⟩:=qP (fn:=fn) S.T h5 hvals
     have hst:=h5.stk
     rw [hstk] at hst
     refine ⟨h5.frame.defers,v,v3,v,rfl,hK _ E' J' p' g' v w' h3 h4 h1 h2 ⟨h5.mem,hst.1.put ?_,hst.2,h5.known,h5.fa⟩⟩
     rw [v2];exact Ah v1
    ·exact h4.elim
   exact ⟨key,key⟩
end
end Go.Sy
