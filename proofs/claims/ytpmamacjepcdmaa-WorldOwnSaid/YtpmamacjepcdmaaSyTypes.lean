import Derived.Test.YtpmamacjepcdmaaSySound
namespace Go.Sy
open Go.RowKit
section
variable {P : Program} {Z : Cx} {Γ : Gam} {B : cT} {Q : List CD→Prop} {E : Env} {p : Pl} {g : Gm} {s : St} {a : Act} {as : List Act} {w : World}
theorem bq.drew {h : Hp} (H : bq B E p g h w) : bq B E p g h { w with drawn:=w.drawn + 1}:=H.below ⟨rfl,rfl,rfl,Nat.le_refl _,fun _ _=>rfl⟩
theorem vR {α : Type} {l : List (Pc α)} {n i : Nat} {x : Pc α} (h : nth (l ++ List.replicate n .fr) i=some x) : nth l i=some x∨(nth l i=none∧x=.fr):=by
 rw [eG] at h
 split at h
 ·exact .inl h
 ·rename_i hl
  rw [aW,List.getElem?_replicate] at h
  split at h
  ·cases h;exact .inr ⟨dt (by omega),rfl⟩
  ·cases h
theorem AM {α : Type} {l : List (Pc α)} {n i : Nat} (h : nth (l ++ List.replicate n .fr) i=none) : nth l i=none:=by
 rw [aW,List.getElem?_eq_none_iff,List.length_append] at h
 exact dt (by omega)
theorem bq.qd {h : Hp} (H : bq B E p g h w) (n : Nat) : bq B E p g { h with regs:=h.regs ++ List.replicate n .fr,arrs:=h.arrs ++ List.replicate n .fr} w:=by
 refine ⟨H.fr,H.g0,H.g1,H.gg,fun r cs hr=>?_,fun r hr=>?_,fun a A ha=>?_,fun a ha=>?_,H.mm,H.nz⟩
 ·rcases vR hr with h1 | ⟨_,h1⟩
  ·exact H.reg r cs h1
  ·cases h1
 ·rcases hr with hr | hr
  ·exact H.rfree r (.inl (AM hr))
  ·rcases vR hr with h1 | ⟨h1,_⟩
   ·exact H.rfree r (.inr h1)
   ·exact H.rfree r (.inl h1)
 ·rcases vR ha with h1 | ⟨_,h1⟩
  ·exact H.arr a A h1
  ·cases h1
 ·rcases ha with ha | ha
  ·exact H.afree a (.inl (AM ha))
  ·rcases vR ha with h1 | ⟨h1,_⟩
   ·exact H.afree a (.inr h1)
   ·exact H.afree a (.inl h1)
theorem BJ (S : Told P Z Γ) : ∀ n,Bo P Γ B Q (run Z n):=by
 intro n
 induction n with
 | zero=>intro k s E J Y Bd as hd;exact hd.elim
 | succ n ih =>
  intro k s E J Y Bd as hd ho p g a w R
  have id2 : ∀ i,i < s.nx→Y i=Y i:=fun _ _=>rfl
  cases k with
  | nil=>exact ho.elim
  | cons it k =>
   cases it with
   | fin f=>exact (ho.2 s E J p g a w (Nat.le_refl _) (Env.bW.refl _ _) (JJ.HC.refl _ _) hd R).1
   | blk id=>exact ih k s E J Y Bd as hd ho p g a w R
   | again c=>exact Rn_of (ih _ s E J Y Bd as hd ho p g a w R)
   | round L =>
    simp only [run] at hd
    obtain ⟨s1,q,g',R1,_,_,hd⟩:=vH (f:=Az L) (ns:=vJ L) (k:=pS L) R hd
    exact FQ hd ho R1
   | ops l all =>
    cases l with
    | nil=>exact ih k s E J Y Bd as hd ho p g a w R
    | cons o l =>
     have ho : Okk Γ B Q s.nx E J Y Bd as k:=ho
     have : HD P all o (wpList P all.toArray (its P Bd Y k) l) (its P Bd Y k) a w:=by
      refine oU S (u7 S ih) hd R (fun s' q g' h1 h2 h3 _=>?_) (fun s' E' J' q g' a' w' h1 h2 h3 h4 h5 _=>?_)
      ·exact ih (.ops (o :: l) all :: k) s' E J Y Bd as h2 (show Okk Γ B Q s'.nx E J Y Bd as k by rw [h1];exact ho) q g' a w h3
      ·exact ih (.ops l all :: k) s' E' J' Y Bd as h2 (show Okk Γ B Q s'.nx E' J' Y Bd as k from ho.mono h3 h4 h1 id2) q g' a' w' h5
     exact this
   | code c =>
    have hk0 : Okk Γ B Q s.nx E J Y Bd as k:=ho
    clear ho
    cases c with
    | skip=>exact wp_skip (ih k s E J Y Bd as hd hk0 p g a w R)
    | seq x y =>
     simp only [run] at hd
     split at hd
     ·exact wp_seq (ih (.code x :: .code y :: k) s E J Y Bd as hd hk0 p g a w R)
     ·rename_i H _
      obtain ⟨s0,q0,g0,R0,e0,_,hd⟩:=gv R hd
      obtain ⟨s1,q1,_,R1,e1,_,hd⟩:=fD R0 hd
      obtain ⟨s2,q2,g2,R2,e2,_,hd⟩:=gy R1 hd
      obtain ⟨n1,hd⟩:=cC R2.known hd
      have R3:=R2.df n1
      have ho : Okk Γ B Q s2.nx E J Y Bd as k:=by rw [e2,e1,e0];exact hk0
      split at hd
      ·rename_i hcond
       simp only [Bool.and_eq_true] at hcond
       exact wp_seq (zI (s:={ s2 with known:=df s2.known (vK s2.h.arrs)}) ih (by exact ⟨rfl,rfl,rfl⟩) (Hk hcond.2.2) hcond.1 hd ho R3)
      ·exact hd.elim
    | block id b=>exact wp_block (ih (.code b :: .blk id :: k) s E J Y Bd as hd hk0 p g a w R)
    | ret =>
     simp only [run] at hd
     obtain ⟨f,h1,h2⟩:=hk0.end
     rw [h1] at hd
     exact wp_ret (ng h1 (h2.2 s E J p g a w (Nat.le_refl _) (Env.bW.refl _ _) (JJ.HC.refl _ _) hd R).2)
    | exit id =>
     simp only [run] at hd
     split at hd
     ·rename_i k' hk
      exact wp_exit (IA hk (ih k' s E J Y Bd as hd (Okk.exit hk hk0) p g a w R))
     ·exact hd.elim
    | cond o x y =>
     simp only [run] at hd
     split at hd
     ·rename_i c hc
      obtain ⟨b,hb,hv⟩:=(bw R.frame.tmp hc : ∃ b,c.den E=.b b∧a.eval o=.bool b)
      have hcb : (c.den E).bool=b:=by rw [hb];rfl
      split at hd
      ·rename_i hdec
       have:=gU R.known hdec
       rw [hcb] at this
       refine wp_cond_true (by rw [hv,this]) (ih (.code x :: k) s E J Y Bd as hd hk0 p g a w R)
      ·rename_i hdec
       have:=gU R.known hdec
       rw [hcb] at this
       refine wp_cond_false (by rw [hv,this]) (ih (.code y :: k) s E J Y Bd as hd hk0 p g a w R)
      ·refine wp_cond_split hv (fun hb'=>?_) (fun hb'=>?_)
       ·exact ih (.code x :: k) _ E J Y Bd as (hd.1 (by rw [hcb];exact hb')) hk0 p g a w (R.DE (by rw [hcb];exact hb'))
       ·exact ih (.code y :: k) _ E J Y Bd as (hd.2 (by rw [hcb];exact hb')) hk0 p g a w (R.DE (by rw [neg_den,hcb,hb'];rfl))
     ·exact hd.elim
    | region id ops draw =>
     cases draw with
     | false =>
      have : wpList P ops.toList.toArray (its P Bd Y k) ops.toList a w:=ih (.ops ops.toList ops.toList :: k) s E J Y Bd as hd hk0 p g a w R
      rw [Array.toArray_toList] at this
      exact wp_region_list this
     | true =>
      simp only [run] at hd
      split at hd
      ·rename_i hok
       have R' : Rep B E p g s a as { w with drawn:=w.drawn + 1}:=⟨R.mem.drew,R.frame,R.stk,R.known,R.fa⟩
       have hsh : yy ops (Array.replicate ops.size false):=fun k o _ hk=>by
        exfalso
        have : (Array.replicate ops.size false).getD k false=false:=by
         simp only [Array.getD]
         split <;> simp
        rw [this] at hk;cases hk
       obtain ⟨f,_,hfin⟩:=hk0.end
       refine wp_region_any S.m (rv (D:=fun _ _=>False) (F:=inF ops (wT ops)) _ _ _ _ ?_)
       replace hd:=Co (JJ.HC.refl _ _) hd
       have hk : ∀ {s1 : St},s1.nx=s.nx→El Γ B Q (its P Bd Y k) as .leaf s1.nx E (J.ends fun s' E'=>∃ J',JJ.HC s.nx J' J∧(run Z n k s').den Γ Q E' J'):=fun e s' E' J' q g' a' w' h1 h2 h3 h4 h5=>by
        rw [e] at h1 h3 h4
        have h2 : J'.k s' E':=h2
        rw [h1.2] at h2
        obtain ⟨J2,h6,h7⟩:=h2
        exact ih k s' E' J2 Y Bd as h7 (hk0.mono h3 h4 h6 id2) q g' a' w' h5
       have hs0 : ∀ {b : Bool},(if b=true then { s with h:={ s.h with regs:=s.h.regs ++ List.replicate ops.size .fr,arrs:=s.h.arrs ++ List.replicate ops.size .fr}} else s).nx=s.nx∧Rep B E p g (if b=true then { s with h:={ s.h with regs:=s.h.regs ++ List.replicate ops.size .fr,arrs:=s.h.arrs ++ List.replicate ops.size .fr}} else s) a as { w with drawn:=w.drawn + 1}:=fun {b}=>by
        cases b with
        | true=>exact ⟨rfl,R'.mem.qd _,R'.frame,R'.stk,R'.known,R'.fa⟩
        | false=>exact ⟨rfl,R'⟩
       have hs0:=@hs0 (Nat.blt 1 (vW ops.toList))
       revert hs0 hd
       generalize (if Nat.blt 1 (vW ops.toList)=true then { s with h:={ s.h with regs:=s.h.regs ++ List.replicate ops.size .fr,arrs:=s.h.arrs ++ List.replicate ops.size .fr}} else s)=s0
       intro hd ⟨e0,R0⟩
       exact yQ S (u7 S ih) hok (iU hfin.1 k) n _ E _ p g a _ _ ops.size _ 0 s0 hd (List.mem_singleton.2 rfl) (fun x hx=>by
        rw [List.mem_singleton.1 hx]
        exact ⟨rfl,R0.known⟩) hsh R0 ⟨fun _ _ _ h=>h,fun h=>absurd rfl h⟩ (E5 _ _) (hk e0)
      ·exact hd.elim
    | loop b =>
     simp only [run] at hd
     split at hd
     ·exact hd.elim
     ·split at hd
      ·exact hd.elim
      ·rename_i H _
       split at hd
       ·exact AU (ih (.code b :: .again b :: k) s E J Y Bd as hd hk0 p g a w R)
       ·have Rb : Rep B E p g (Ck H s) a as w:=by
         unfold Ck;split
         ·exact ⟨R.mem,R.frame,R.stk,R.known,R.fa⟩
         ·exact R
        have hle : s.nx≤(Ck H s).nx:=by
         unfold Ck;split
         ·rename_i h;exact Nat.le_of_ble_eq_true h
         ·exact Nat.le_refl _
        replace hk0:=hk0.mono (Y':=Y) hle (Env.bW.refl _ _) (JJ.HC.refl _ _) (fun _ _=>rfl)
        obtain ⟨s0,q0,g0,R0,e0,_,hd⟩:=gv Rb hd
        obtain ⟨s1,q1,_,R1,e1,_,hd⟩:=fD R0 hd
        obtain ⟨s2,q2,g2,R2,e2,_,hd⟩:=gy R1 hd
        obtain ⟨n1,hd⟩:=cC R2.known hd
        have R3:=R2.df n1
        have ho : Okk Γ B Q s2.nx E J Y Bd as k:=by rw [e2,e1,e0];exact hk0
        split at hd
        ·rename_i hcond
         simp only [Bool.and_eq_true] at hcond
         split at hd
         ·rename_i init hno hcol
          exact zr (s:={ s2 with known:=df s2.known (vK s2.h.arrs)}) ih (by exact ⟨rfl,rfl,rfl⟩) (Hk hcond.2.2) hcond.1 hno hcol hd ho R3
         ·exact hd.elim
        ·exact hd.elim
    | _=>exact hd.elim
theorem wz (S : Told P Z Γ) {f : FuncId} {fn : Func} {c : Code} {fuel m : Nat} {t : Tree} {ct : Ct} (hf : P.funcs[f]?=some fn) (hb : fn.body=some c) (hname : (fn.name == "runtime.NumGoroutine")=false) (hsig : Z.sig=ct.sig)
  (ht : run Z fuel [.code c,.fin (bt Z fn.results.toList m)] { fn:=f,tmps:=Z.sig.aM ++ List.replicate (fn.ntmps - Z.sig.aM.length) (.v (.one .undef)),stk:=[],h:=Z.sig.h0,nx:=Z.sig.ins.length,known:=[]}=t)
  (hd : ∀ E : Env,CD.oks ct.sig.Jv (aH E ct.sig.ins.length)→ct.pre (aH E ct.sig.ins.length)→t.den Γ (fun outs=>ct.post (aH E ct.sig.ins.length) outs) E JJ.none) : cB P f ct:=by
 refine ⟨⟨fn,c,hf,hb,hname⟩,fun w g p E vals H hv hk hp=>?_⟩
 have hd:=hd E hk hp
 subst ht
 have H : bq ⟨w,Mof Z.sig.h0 p,g,p.reg⟩ E p g Z.sig.h0 w:=by rw [hsig];exact H
 have hv : aE (SR.is E p g) Z.sig.aM vals:=by rw [hsig];exact hv
 have R : Rep ⟨w,Mof Z.sig.h0 p,g,p.reg⟩ E p g { fn:=f,tmps:=Z.sig.aM ++ List.replicate (fn.ntmps - Z.sig.aM.length) (.v (.one .undef)),stk:=[],h:=Z.sig.h0,nx:=Z.sig.ins.length,known:=[]} { tmps:=vals.toArray ++ Array.replicate (fn.ntmps - vals.toArray.size) undef,defers:=[]} [] w :=
  ⟨H,ri hv,trivial,fun b hb=>(by cases hb),fun _ _ h=>h⟩
 have:=BJ (B:=⟨w,Mof Z.sig.h0 p,g,p.reg⟩) S fuel _ _ E _ (fun _ _ _=>False) (bodyPost P fn (Ep Z ⟨w,Mof Z.sig.h0 p,g,p.reg⟩ (fun outs=>ct.post (aH E ct.sig.ins.length) outs) E)) [] hd
  (show rE _ _ _ _ _ _ _ _ _ from ⟨fun c a w h=>(by obtain ⟨_,_,_,_,v,e,_⟩:=h;cases e),fun s' E' J' p' g' a' w' h1 h2 h3 h4 h5=>by
   have key:=vE (a:=a') (as:=[]) (w:=w') (fn:=fn) S E m s' p' g' h4 h5
   exact ⟨key,key⟩⟩) p g _ w R
 refine Calls.mono (calls_of_wp hf hb this) fun e w' he=>?_
 obtain ⟨outs,p1,g1,v,h1,h2,h3,h4,h5,h6⟩:=he
 refine ⟨outs,p1,g1,v,h1,by rw [← hsig];exact h2,h3,fun i x hi=>h4 i x ?_ hi,by rw [← hsig];exact h5,by rw [← hsig];exact h6⟩
 have hlen : Z.sig.h0.regs.length=oh Z.sig.args:=by
  have:=(rh (l:=Z.sig.args) (cs:=mkC 0 0 Z.sig.ins) (cs':=mkC 0 0 Z.sig.ins) (by rw [fL];rfl) (by
   rw [fL]
   exact qx Z.sig.args)).length
  rw [du] at this
  exact this
 rw [← hlen]
 rcases Nat.lt_or_ge i Z.sig.h0.regs.length with hl | hl
 ·exact hl
 ·rw [H.rfree i (.inl (dt hl))] at hi;cases hi
end
end Go.Sy

namespace Go.Sy
open Go.RowKit
def nr : List Field→List (Nat × Nat)→Bool
 | [],[]=>true
 | f :: l,(o,u) :: m=>((Nat.beq f.offset o).and (Nat.beq f.type u)).and (nr l m)
 | _,_=>false
def kChk : TK→TypeDesc→Bool
 | .struct fs,.struct flds=>nr flds.toList fs
 | .array n e,.array m f=>(Nat.beq n m).and (Nat.beq e f)
 | .slice e,.slice f=>Nat.beq e f
 | .map k v,.map k' v'=>(Nat.beq k k').and (Nat.beq v v')
 | .ptr e,.pointer f=>Nat.beq e f
 | .other,_=>true
 | _,_=>false
def DI : Value→Bool | .agg _=>true | _=>false
def DJ : TypeDesc→Bool | .struct _=>true | .array _ _=>true | _=>false
def Bh (a b : Bool) : Bool:=if a then b else b.not
def CE (P : Program) (t : Nat) (ti : TI) : Bool:=match P.info? t,P.underlying t with
 | some i,some d=>(match i.zero with
  | some z=>((Nat.beq i.size ti.sz).and ((Nat.beq i.bytes ti.by_).and (Nat.beq z.cells.size ti.sz))).and (((match jx z.cells.toList with | some l=>bK SC.same l ti.zero | none=>false)).and
    (((Bh ti.agg (DI z)).and (Bh ti.agg (DJ d))).and (kChk ti.k d)))
  | none=>false)
 | _,_=>false
def Ae (P : Program) : TT→Bool
 | []=>true
 | (t,ti) :: l=>(CE P t ti).and (Ae P l)
theorem vt {a b : Bool} (h : Bh a b=true) : a=b:=by revert h;cases a <;> cases b <;> simp [Bh]
theorem nR : ∀ {l : List Field} {m : List (Nat × Nat)},nr l m=true→l.length=m.length∧∀ j off u,nth m j=some (off,u)→∃ f,l[j]?=some f∧f.offset=off∧f.type=u
 | [],[],_=>⟨rfl,fun _ _ _ h=>by simp [nth] at h⟩
 | f :: l,(o,u) :: m,h=>by
  simp only [nr,Bool.and_eq_true] at h
  obtain ⟨i1,i2⟩:=nR h.2
  refine ⟨by simp [i1],fun j off v hj=>?_⟩
  cases j with
  | zero =>
   simp only [nth,Option.some.injEq,Prod.mk.injEq] at hj
   exact ⟨f,rfl,by rw [Nat.eq_of_beq_eq_true h.1.1];exact hj.1,by rw [Nat.eq_of_beq_eq_true h.1.2];exact hj.2⟩
  | succ j=>simp only [nth] at hj;simpa using i2 j off v hj
 | [],_ :: _,h=>by simp [nr] at h
 | _ :: _,[],h=>by simp [nr] at h
theorem wR {P : Program} {t : Nat} {ti : TI} (h : CE P t ti=true) : Ek P t ti:=by
 unfold CE at h
 split at h
 ·rename_i i d hi hd
  split at h
  ·rename_i z hz
   simp only [Bool.and_eq_true] at h
   obtain ⟨⟨h1,h2,h3⟩,h4,⟨g5,g6⟩,h7⟩:=h
   have h5:=vt g5
   have h6:=vt g6
   clear g5 g6
   refine ⟨i,d,z,hi,hd,Nat.eq_of_beq_eq_true h1,Nat.eq_of_beq_eq_true h2,hz,Nat.eq_of_beq_eq_true h3,?_,?_,?_,?_⟩
   ·split at h4
    ·rename_i l hl;rw [hl,bH SC.av h4]
    ·cases h4
   ·rw [h5];cases z <;> simp [DI]
   ·rw [h6];cases d <;> simp [DJ]
   ·cases hk : ti.k <;> rw [hk] at h7 <;> cases d <;> simp only [kChk,Bool.false_eq_true] at h7 <;> try trivial
    ·rename_i fs flds
     obtain ⟨e1,e2⟩:=nR h7
     exact ⟨flds,rfl,by rw [← Array.length_toList];exact e1,fun j off u hj=>by
      obtain ⟨f,hf,h8⟩:=e2 j off u hj
      exact ⟨f,by simpa using hf,h8⟩⟩
    ·simp only [Bool.and_eq_true] at h7
     rw [Nat.eq_of_beq_eq_true h7.1,Nat.eq_of_beq_eq_true h7.2]
    ·rw [Nat.eq_of_beq_eq_true h7]
    ·simp only [Bool.and_eq_true] at h7
     rw [Nat.eq_of_beq_eq_true h7.1,Nat.eq_of_beq_eq_true h7.2]
    ·rw [Nat.eq_of_beq_eq_true h7]
  ·cases h
 ·cases h
theorem uF {P : Program} : ∀ {T : TT},Ae P T=true→∀ t ti,T.get t=some ti→Ek P t ti
 | [],_,_,_,h=>by simp [TT.get] at h
 | (u,i) :: l,hc,t,ti,h=>by
  simp only [Ae,Bool.and_eq_true] at hc
  simp only [TT.get] at h
  split at h
  ·rename_i e
   cases h
   rw [← Nat.eq_of_beq_eq_true e];exact wR hc.1
  ·exact uF hc.2 t ti h
end Go.Sy
