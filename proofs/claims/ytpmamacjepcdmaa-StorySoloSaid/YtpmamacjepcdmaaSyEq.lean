import Derived.Test.YtpmamacjepcdmaaSySound
import Derived.Laws.StructEq
import Derived.MapKept
namespace Go.Sy
open Go.RowKit
section
variable {P : Program} {Z : Cx} {Γ : Gam} {B : cT} {Q : List CD→Prop} {E : Env} {p : Pl} {g : Gm} {s : St} {a : Act} {as : List Act} {w : World}
theorem bq.drew {h : Hp} (H : bq B E p g h w) : bq B E p g h { w with drawn:=w.drawn + 1}:=H.below ⟨rfl,rfl,rfl,Nat.le_refl _,fun _ _=>rfl⟩
theorem vR {α : Type} {l : List (Pc α)} {n i : Nat} {x : Pc α} (h : nth (l ++ List.replicate n .fr) i=some x) : nth l i=some x∨(nth l i=none∧x=.fr):=by
 rw [eG] at h
 split at h
 ·exact .inl h
 ·rename_i hl
  rw [aW,List.getElem?_replicate] at h
  split at h
  ·cases h;exact .inr ⟨dt (by omega),rfl⟩
  ·cases h
theorem AM {α : Type} {l : List (Pc α)} {n i : Nat} (h : nth (l ++ List.replicate n .fr) i=none) : nth l i=none:=by
 rw [aW,List.getElem?_eq_none_iff,List.length_append] at h
 exact dt (by omega)
theorem bq.qd {h : Hp} (H : bq B E p g h w) (n : Nat) : bq B E p g { h with regs:=h.regs ++ List.replicate n .fr,arrs:=h.arrs ++ List.replicate n .fr} w:=by
 refine ⟨H.fr,H.g0,H.g1,H.gg,fun r cs hr=>?_,fun r hr=>?_,fun a A ha=>?_,fun a ha=>?_,H.mm,H.nz⟩
 ·rcases vR hr with h1 | ⟨_,h1⟩
  ·exact H.reg r cs h1
  ·cases h1
 ·rcases hr with hr | hr
  ·exact H.rfree r (.inl (AM hr))
  ·rcases vR hr with h1 | ⟨h1,_⟩
   ·exact H.rfree r (.inr h1)
   ·exact H.rfree r (.inl h1)
 ·rcases vR ha with h1 | ⟨_,h1⟩
  ·exact H.arr a A h1
  ·cases h1
 ·rcases ha with ha | ha
  ·exact H.afree a (.inl (AM ha))
  ·rcases vR ha with h1 | ⟨h1,_⟩
   ·exact H.afree a (.inr h1)
   ·exact H.afree a (.inl h1)
theorem BJ (S : Told P Z Γ) : ∀ n,Bo P Γ B Q (run Z n):=by
 intro n
 induction n with
 | zero=>intro k s E J Y Bd as hd;exact hd.elim
 | succ n ih =>
  intro k s E J Y Bd as hd ho p g a w R
  have id2 : ∀ i,i < s.nx→Y i=Y i:=fun _ _=>rfl
  cases k with
  | nil=>exact ho.elim
  | cons it k =>
   cases it with
   | fin f=>exact (ho.2 s E J p g a w (Nat.le_refl _) (Env.bW.refl _ _) (JJ.HC.refl _ _) hd R).1
   | blk id=>exact ih k s E J Y Bd as hd ho p g a w R
   | again c=>exact Rn_of (ih _ s E J Y Bd as hd ho p g a w R)
   | round L =>
    simp only [run] at hd
    obtain ⟨s1,q,g',R1,_,_,hd⟩:=vH (f:=Az L) (ns:=vJ L) (k:=pS L) R hd
    exact FQ hd ho R1
   | ops l all =>
    cases l with
    | nil=>exact ih k s E J Y Bd as hd ho p g a w R
    | cons o l =>
     have ho : Okk Γ B Q s.nx E J Y Bd as k:=ho
     have : HD P all o (wpList P all.toArray (its P Bd Y k) l) (its P Bd Y k) a w:=by
      refine oU S (u7 S ih) hd R (fun s' q g' h1 h2 h3 _=>?_) (fun s' E' J' q g' a' w' h1 h2 h3 h4 h5 _=>?_)
      ·exact ih (.ops (o :: l) all :: k) s' E J Y Bd as h2 (show Okk Γ B Q s'.nx E J Y Bd as k by rw [h1];exact ho) q g' a w h3
      ·exact ih (.ops l all :: k) s' E' J' Y Bd as h2 (show Okk Γ B Q s'.nx E' J' Y Bd as k from ho.mono h3 h4 h1 id2) q g' a' w' h5
     exact this
   | code c =>
    have hk0 : Okk Γ B Q s.nx E J Y Bd as k:=ho
    clear ho
    cases c with
    | skip=>exact wp_skip (ih k s E J Y Bd as hd hk0 p g a w R)
    | seq x y =>
     simp only [run] at hd
     split at hd
     ·exact wp_seq (ih (.code x :: .code y :: k) s E J Y Bd as hd hk0 p g a w R)
     ·rename_i H _
      obtain ⟨s0,q0,g0,R0,e0,_,hd⟩:=gv R hd
      obtain ⟨s1,q1,_,R1,e1,_,hd⟩:=fD R0 hd
      obtain ⟨s2,q2,g2,R2,e2,_,hd⟩:=gy R1 hd
      obtain ⟨n1,hd⟩:=cC R2.known hd
      have R3:=R2.df n1
      have ho : Okk Γ B Q s2.nx E J Y Bd as k:=by rw [e2,e1,e0];exact hk0
      split at hd
      ·rename_i hcond
       simp only [Bool.and_eq_true] at hcond
       exact wp_seq (zI (s:={ s2 with known:=df s2.known (vK s2.h.arrs)}) ih (by exact ⟨rfl,rfl,rfl⟩) (Hk hcond.2.2) hcond.1 hd ho R3)
      ·exact hd.elim
    | block id b=>exact wp_block (ih (.code b :: .blk id :: k) s E J Y Bd as hd hk0 p g a w R)
    | ret =>
     simp only [run] at hd
     obtain ⟨f,h1,h2⟩:=hk0.end
     rw [h1] at hd
     exact wp_ret (ng h1 (h2.2 s E J p g a w (Nat.le_refl _) (Env.bW.refl _ _) (JJ.HC.refl _ _) hd R).2)
    | exit id =>
     simp only [run] at hd
     split at hd
     ·rename_i k' hk
      exact wp_exit (IA hk (ih k' s E J Y Bd as hd (Okk.exit hk hk0) p g a w R))
     ·exact hd.elim
    | cond o x y =>
     simp only [run] at hd
     split at hd
     ·rename_i c hc
      obtain ⟨b,hb,hv⟩:=(bw R.frame.tmp hc : ∃ b,c.den E=.b b∧a.eval o=.bool b)
      have hcb : (c.den E).bool=b:=by rw [hb];rfl
      split at hd
      ·rename_i hdec
       have:=gU R.known hdec
       rw [hcb] at this
       refine wp_cond_true (by rw [hv,this]) (ih (.code x :: k) s E J Y Bd as hd hk0 p g a w R)
      ·rename_i hdec
       have:=gU R.known hdec
       rw [hcb] at this
       refine wp_cond_false (by rw [hv,this]) (ih (.code y :: k) s E J Y Bd as hd hk0 p g a w R)
      ·refine wp_cond_split hv (fun hb'=>?_) (fun hb'=>?_)
       ·exact ih (.code x :: k) _ E J Y Bd as (hd.1 (by rw [hcb];exact hb')) hk0 p g a w (R.DE (by rw [hcb];exact hb'))
       ·exact ih (.code y :: k) _ E J Y Bd as (hd.2 (by rw [hcb];exact hb')) hk0 p g a w (R.DE (by rw [neg_den,hcb,hb'];rfl))
     ·exact hd.elim
    | region id ops draw =>
     cases draw with
     | false =>
      have : wpList P ops.toList.toArray (its P Bd Y k) ops.toList a w:=ih (.ops ops.toList ops.toList :: k) s E J Y Bd as hd hk0 p g a w R
      rw [Array.toArray_toList] at this
      exact wp_region_list this
     | true =>
      simp only [run] at hd
      split at hd
      ·rename_i hok
       have R' : Rep B E p g s a as { w with drawn:=w.drawn + 1}:=⟨R.mem.drew,R.frame,R.stk,R.known,R.fa⟩
       have hsh : yy ops (Array.replicate ops.size false):=fun k o _ hk=>by
        exfalso
        have : (Array.replicate ops.size false).getD k false=false:=by
         simp only [Array.getD]
         split <;> simp
        rw [this] at hk;cases hk
       obtain ⟨f,_,hfin⟩:=hk0.end
       refine wp_region_any S.m (rv (D:=fun _ _=>False) (F:=inF ops (wT ops)) _ _ _ _ ?_)
       replace hd:=Co (JJ.HC.refl _ _) hd
       have hk : ∀ {s1 : St},s1.nx=s.nx→El Γ B Q (its P Bd Y k) as .leaf s1.nx E (J.ends fun s' E'=>∃ J',JJ.HC s.nx J' J∧(run Z n k s').den Γ Q E' J'):=fun e s' E' J' q g' a' w' h1 h2 h3 h4 h5=>by
        rw [e] at h1 h3 h4
        have h2 : J'.k s' E':=h2
        rw [h1.2] at h2
        obtain ⟨J2,h6,h7⟩:=h2
        exact ih k s' E' J2 Y Bd as h7 (hk0.mono h3 h4 h6 id2) q g' a' w' h5
       have hs0 : ∀ {b : Bool},(if b=true then { s with h:={ s.h with regs:=s.h.regs ++ List.replicate ops.size .fr,arrs:=s.h.arrs ++ List.replicate ops.size .fr}} else s).nx=s.nx∧Rep B E p g (if b=true then { s with h:={ s.h with regs:=s.h.regs ++ List.replicate ops.size .fr,arrs:=s.h.arrs ++ List.replicate ops.size .fr}} else s) a as { w with drawn:=w.drawn + 1}:=fun {b}=>by
        cases b with
        | true=>exact ⟨rfl,R'.mem.qd _,R'.frame,R'.stk,R'.known,R'.fa⟩
        | false=>exact ⟨rfl,R'⟩
       have hs0:=@hs0 (Nat.blt 1 (vW ops.toList))
       revert hs0 hd
       generalize (if Nat.blt 1 (vW ops.toList)=true then { s with h:={ s.h with regs:=s.h.regs ++ List.replicate ops.size .fr,arrs:=s.h.arrs ++ List.replicate ops.size .fr}} else s)=s0
       intro hd ⟨e0,R0⟩
       exact yQ S (u7 S ih) hok (iU hfin.1 k) n _ E _ p g a _ _ ops.size _ 0 s0 hd (List.mem_singleton.2 rfl) (fun x hx=>by
        rw [List.mem_singleton.1 hx]
        exact ⟨rfl,R0.known⟩) hsh R0 ⟨fun _ _ _ h=>h,fun h=>absurd rfl h⟩ (E5 _ _) (hk e0)
      ·exact hd.elim
    | loop b =>
     simp only [run] at hd
     split at hd
     ·exact hd.elim
     ·split at hd
      ·exact hd.elim
      ·rename_i H _
       split at hd
       ·exact AU (ih (.code b :: .again b :: k) s E J Y Bd as hd hk0 p g a w R)
       ·have Rb : Rep B E p g (Ck H s) a as w:=by
         unfold Ck;split
         ·exact ⟨R.mem,R.frame,R.stk,R.known,R.fa⟩
         ·exact R
        have hle : s.nx≤(Ck H s).nx:=by
         unfold Ck;split
         ·rename_i h;exact Nat.le_of_ble_eq_true h
         ·exact Nat.le_refl _
        replace hk0:=hk0.mono (Y':=Y) hle (Env.bW.refl _ _) (JJ.HC.refl _ _) (fun _ _=>rfl)
        obtain ⟨s0,q0,g0,R0,e0,_,hd⟩:=gv Rb hd
        obtain ⟨s1,q1,_,R1,e1,_,hd⟩:=fD R0 hd
        obtain ⟨s2,q2,g2,R2,e2,_,hd⟩:=gy R1 hd
        obtain ⟨n1,hd⟩:=cC R2.known hd
        have R3:=R2.df n1
        have ho : Okk Γ B Q s2.nx E J Y Bd as k:=by rw [e2,e1,e0];exact hk0
        split at hd
        ·rename_i hcond
         simp only [Bool.and_eq_true] at hcond
         split at hd
         ·rename_i init hno hcol
          exact zr (s:={ s2 with known:=df s2.known (vK s2.h.arrs)}) ih (by exact ⟨rfl,rfl,rfl⟩) (Hk hcond.2.2) hcond.1 hno hcol hd ho R3
         ·exact hd.elim
        ·exact hd.elim
    | _=>exact hd.elim
theorem wz (S : Told P Z Γ) {f : FuncId} {fn : Func} {c : Code} {fuel m : Nat} {t : Tree} {ct : Ct} (hf : P.funcs[f]?=some fn) (hb : fn.body=some c) (hname : (fn.name == "runtime.NumGoroutine")=false) (hsig : Z.sig=ct.sig)
  (ht : run Z fuel [.code c,.fin (bt Z fn.results.toList m)] { fn:=f,tmps:=Z.sig.aM ++ List.replicate (fn.ntmps - Z.sig.aM.length) (.v (.one .undef)),stk:=[],h:=Z.sig.h0,nx:=Z.sig.ins.length,known:=[]}=t)
  (hd : ∀ E : Env,CD.oks ct.sig.Jv (aH E ct.sig.ins.length)→ct.pre (aH E ct.sig.ins.length)→t.den Γ (fun outs=>ct.post (aH E ct.sig.ins.length) outs) E JJ.none) : cB P f ct:=by
 refine ⟨⟨fn,c,hf,hb,hname⟩,fun w g p E vals H hv hk hp=>?_⟩
 have hd:=hd E hk hp
 subst ht
 have H : bq ⟨w,Mof Z.sig.h0 p,g,p.reg⟩ E p g Z.sig.h0 w:=by rw [hsig];exact H
 have hv : aE (SR.is E p g) Z.sig.aM vals:=by rw [hsig];exact hv
 have R : Rep ⟨w,Mof Z.sig.h0 p,g,p.reg⟩ E p g { fn:=f,tmps:=Z.sig.aM ++ List.replicate (fn.ntmps - Z.sig.aM.length) (.v (.one .undef)),stk:=[],h:=Z.sig.h0,nx:=Z.sig.ins.length,known:=[]} { tmps:=vals.toArray ++ Array.replicate (fn.ntmps - vals.toArray.size) undef,defers:=[]} [] w :=
  ⟨H,ri hv,trivial,fun b hb=>(by cases hb),fun _ _ h=>h⟩
 have:=BJ (B:=⟨w,Mof Z.sig.h0 p,g,p.reg⟩) S fuel _ _ E _ (fun _ _ _=>False) (bodyPost P fn (Ep Z ⟨w,Mof Z.sig.h0 p,g,p.reg⟩ (fun outs=>ct.post (aH E ct.sig.ins.length) outs) E)) [] hd
  (show rE _ _ _ _ _ _ _ _ _ from ⟨fun c a w h=>(by obtain ⟨_,_,_,_,v,e,_⟩:=h;cases e),fun s' E' J' p' g' a' w' h1 h2 h3 h4 h5=>by
   have key:=vE (a:=a') (as:=[]) (w:=w') (fn:=fn) S E m s' p' g' h4 h5
   exact ⟨key,key⟩⟩) p g _ w R
 refine Calls.mono (calls_of_wp hf hb this) fun e w' he=>?_
 obtain ⟨outs,p1,g1,v,h1,h2,h3,h4,h5,h6⟩:=he
 refine ⟨outs,p1,g1,v,h1,by rw [← hsig];exact h2,h3,fun i x hi=>h4 i x ?_ hi,by rw [← hsig];exact h5,by rw [← hsig];exact h6⟩
 have hlen : Z.sig.h0.regs.length=oh Z.sig.args:=by
  have:=(rh (l:=Z.sig.args) (cs:=mkC 0 0 Z.sig.ins) (cs':=mkC 0 0 Z.sig.ins) (by rw [fL];rfl) (by
   rw [fL]
   exact qx Z.sig.args)).length
  rw [du] at this
  exact this
 rw [← hlen]
 rcases Nat.lt_or_ge i Z.sig.h0.regs.length with hl | hl
 ·exact hl
 ·rw [H.rfree i (.inl (dt hl))] at hi;cases hi
end
end Go.Sy

namespace Go.Sy
open Go.RowKit
def nr : List Field→List (Nat × Nat)→Bool
 | [],[]=>true
 | f :: l,(o,u) :: m=>((Nat.beq f.offset o).and (Nat.beq f.type u)).and (nr l m)
 | _,_=>false
def kChk : TK→TypeDesc→Bool
 | .struct fs,.struct flds=>nr flds.toList fs
 | .array n e,.array m f=>(Nat.beq n m).and (Nat.beq e f)
 | .slice e,.slice f=>Nat.beq e f
 | .map k v,.map k' v'=>(Nat.beq k k').and (Nat.beq v v')
 | .ptr e,.pointer f=>Nat.beq e f
 | .other,_=>true
 | _,_=>false
def DI : Value→Bool | .agg _=>true | _=>false
def DJ : TypeDesc→Bool | .struct _=>true | .array _ _=>true | _=>false
def Bh (a b : Bool) : Bool:=if a then b else b.not
def CE (P : Program) (t : Nat) (ti : TI) : Bool:=match P.info? t,P.underlying t with
 | some i,some d=>(match i.zero with
  | some z=>((Nat.beq i.size ti.sz).and ((Nat.beq i.bytes ti.by_).and (Nat.beq z.cells.size ti.sz))).and (((match jx z.cells.toList with | some l=>bK SC.same l ti.zero | none=>false)).and
    (((Bh ti.agg (DI z)).and (Bh ti.agg (DJ d))).and (kChk ti.k d)))
  | none=>false)
 | _,_=>false
def Ae (P : Program) : TT→Bool
 | []=>true
 | (t,ti) :: l=>(CE P t ti).and (Ae P l)
theorem vt {a b : Bool} (h : Bh a b=true) : a=b:=by revert h;cases a <;> cases b <;> simp [Bh]
theorem nR : ∀ {l : List Field} {m : List (Nat × Nat)},nr l m=true→l.length=m.length∧∀ j off u,nth m j=some (off,u)→∃ f,l[j]?=some f∧f.offset=off∧f.type=u
 | [],[],_=>⟨rfl,fun _ _ _ h=>by simp [nth] at h⟩
 | f :: l,(o,u) :: m,h=>by
  simp only [nr,Bool.and_eq_true] at h
  obtain ⟨i1,i2⟩:=nR h.2
  refine ⟨by simp [i1],fun j off v hj=>?_⟩
  cases j with
  | zero =>
   simp only [nth,Option.some.injEq,Prod.mk.injEq] at hj
   exact ⟨f,rfl,by rw [Nat.eq_of_beq_eq_true h.1.1];exact hj.1,by rw [Nat.eq_of_beq_eq_true h.1.2];exact hj.2⟩
  | succ j=>simp only [nth] at hj;simpa using i2 j off v hj
 | [],_ :: _,h=>by simp [nr] at h
 | _ :: _,[],h=>by simp [nr] at h
theorem wR {P : Program} {t : Nat} {ti : TI} (h : CE P t ti=true) : Ek P t ti:=by
 unfold CE at h
 split at h
 ·rename_i i d hi hd
  split at h
  ·rename_i z hz
   simp only [Bool.and_eq_true] at h
   obtain ⟨⟨h1,h2,h3⟩,h4,⟨g5,g6⟩,h7⟩:=h
   have h5:=vt g5
   have h6:=vt g6
   clear g5 g6
   refine ⟨i,d,z,hi,hd,Nat.eq_of_beq_eq_true h1,Nat.eq_of_beq_eq_true h2,hz,Nat.eq_of_beq_eq_true h3,?_,?_,?_,?_⟩
   ·split at h4
    ·rename_i l hl;rw [hl,bH SC.av h4]
    ·cases h4
   ·rw [h5];cases z <;> simp [DI]
   ·rw [h6];cases d <;> simp [DJ]
   ·cases hk : ti.k <;> rw [hk] at h7 <;> cases d <;> simp only [kChk,Bool.false_eq_true] at h7 <;> try trivial
    ·rename_i fs flds
     obtain ⟨e1,e2⟩:=nR h7
     exact ⟨flds,rfl,by rw [← Array.length_toList];exact e1,fun j off u hj=>by
      obtain ⟨f,hf,h8⟩:=e2 j off u hj
      exact ⟨f,by simpa using hf,h8⟩⟩
    ·simp only [Bool.and_eq_true] at h7
     rw [Nat.eq_of_beq_eq_true h7.1,Nat.eq_of_beq_eq_true h7.2]
    ·rw [Nat.eq_of_beq_eq_true h7]
    ·simp only [Bool.and_eq_true] at h7
     rw [Nat.eq_of_beq_eq_true h7.1,Nat.eq_of_beq_eq_true h7.2]
    ·rw [Nat.eq_of_beq_eq_true h7]
  ·cases h
 ·cases h
theorem uF {P : Program} : ∀ {T : TT},Ae P T=true→∀ t ti,T.get t=some ti→Ek P t ti
 | [],_,_,_,h=>by simp [TT.get] at h
 | (u,i) :: l,hc,t,ti,h=>by
  simp only [Ae,Bool.and_eq_true] at hc
  simp only [TT.get] at h
  split at h
  ·rename_i e
   cases h
   rw [← Nat.eq_of_beq_eq_true e];exact wR hc.1
  ·exact uF hc.2 t ti h
end Go.Sy

namespace Go.Sy
open Go.RowKit
def eqF (T : TT) (chk : Nat→List Kd→Bool) : List Field→Nat→List Kd→Bool
 | [],_,ks=>ks.isEmpty
 | f :: l,off,ks=>((decide (f.name≠ "_")).and (Nat.beq f.offset off)).and (match T.get f.type with
  | some ti=>((Nat.ble ti.sz ks.length).and (Nat.blt 0 ti.sz)).and ((chk f.type (ks.take ti.sz)).and (eqF T chk l (off + ti.sz) (ks.drop ti.sz)))
  | none=>false)
def tN (P : Program) (T : TT) : Nat→Nat→List Kd→Bool
 | 0,_,_=>false
 | d + 1,t,ks=>match P.underlying t with
  | some .bool=>(match ks with | [.bool]=>true | _=>false)
  | some (.int _)=>(match ks with | [.int _]=>true | _=>false)
  | some (.struct fs)=>(P.stoodInHeld t).not.and (eqF T (tN P T d) fs.toList 0 ks)
  | _=>false
def BT (T : TT) : TT:=T.map fun x=>(x.1,{ x.2 with eq:=false,key:=false})
def B6 (P : Program) (T : TT) : List Field→Nat→List Kd→Bool
 | [],_,_=>true
 | f :: l,off,k :: ks=>(((decide (f.name≠ "_")).and (Nat.beq f.offset off)).and (match T.get f.type,P.underlying f.type,k with
  | some ti,some (.int q),.int q'=>((Nat.beq ti.sz 1).and ti.agg.not).and (IntKind.same q q')
  | some ti,some .bool,.bool=>(Nat.beq ti.sz 1).and ti.agg.not
  | _,_,_=>false)).and (B6 P T l (off + 1) ks)
 | _,_,_=>false
def zG (P : Program) (T : TT) (t : Nat) (ti : TI) : Bool:=match P.underlying t,ti.kd with
 | some (.int q),some [.int q']=>(IntKind.same q q').and ti.agg.not
 | some .bool,some [.bool]=>ti.agg.not
 | some (.struct fs),some kd=>ti.agg.and ((tN P T 20 t kd).and (B6 P T fs.toList 0 kd))
 | _,_=>false
def tw (P : Program) (T : TT) : TT→Bool
 | []=>true
 | (t,ti) :: l=>(if ti.key then zG P T t ti else true).and (tw P T l)
def Bb (P : Program) (T : TT) : TT→Bool
 | []=>true
 | (t,ti) :: l=>(if ti.eq then (match ti.kd with | some kd=>(tN P T 20 t kd).and (if ti.agg then (P.eqGuardType P.depth t).not else (match kd with | [.bool]=>true | _=>false)) | none=>true) else true).and (Bb P T l)
section
variable {P : Program} {T : TT}
theorem la : ∀ {ks : List Kd} {xs : List Value} (n : Nat),aE Kd.isv ks xs→aE Kd.isv (ks.take n) (xs.take n)∧aE Kd.isv (ks.drop n) (xs.drop n)
 | [],[],n,_=>by cases n <;> exact ⟨trivial,trivial⟩
 | k :: ks,x :: xs,0,h=>⟨trivial,h⟩
 | k :: ks,x :: xs,n + 1,h=>⟨⟨h.1,(la n h.2).1⟩,(la n h.2).2⟩
 | [],_ :: _,_,h=>h.elim
 | _ :: _,[],_,h=>h.elim
theorem pG : ∀ {ks : List Kd} {xs ys : List Value} (n : Nat),aE Kd.isv ks xs→aE Kd.isv ks ys→cS xs ys=(cS (xs.take n) (ys.take n) && cS (xs.drop n) (ys.drop n))
 | [],[],[],n,_,_=>by cases n <;> rfl
 | k :: ks,x :: xs,y :: ys,0,_,_=>rfl
 | k :: ks,x :: xs,y :: ys,n + 1,h1,h2=>by
  have ih:=pG n h1.2 h2.2
  cases k with
  | int k =>
   obtain ⟨a,rfl⟩:=h1.1
   obtain ⟨b,rfl⟩:=h2.1
   simp only [cS,List.take_succ_cons,List.drop_succ_cons,ih,Bool.and_assoc]
  | bool =>
   obtain ⟨a,rfl⟩:=h1.1
   obtain ⟨b,rfl⟩:=h2.1
   simp only [cS,List.take_succ_cons,List.drop_succ_cons,ih,Bool.and_assoc]
  | str=>exact h1.1.elim
  | sl b k=>exact h1.1.elim
  | os e=>exact h1.1.elim
 | [],_ :: _,_,_,h,_=>h.elim
 | _ :: _,[],_,_,h,_=>h.elim
 | [],[],_ :: _,_,_,h=>h.elim
 | _ :: _,_ :: _,[],_,_,h=>h.elim
theorem qe (hT : TOk P T) {t : Nat} {ti : TI} (ht : T.get t=some ti) (hz : 0 < ti.sz) (xs : List Value) (off : Nat) (h : off + ti.sz≤xs.length) (w : World) :
  (part t xs.toArray off).run P w=.ok (vof ti.agg ((xs.drop off).take ti.sz)) w:=by
 simp only [part,Sem.run_bind,jU hT ht,Result.andThen_ok]
 cases hg : ti.agg with
 | true =>
  simp only [if_true,Sem.run_bind,run_sizeOf hT ht,Result.andThen_ok,Sem.run_pure,vof]
  congr 2
  apply Array.ext'
  simp only [List.extract_toArray]
  simp
 | false =>
  have hlt : off < xs.length:=by omega
  simp only [Bool.false_eq_true,if_false,vof]
  have e1 : xs.toArray[off]?=some xs[off]:=by simp [hlt]
  have e2 : ((xs.drop off).take ti.sz).headD Go.undef=xs[off]:=by
   cases hs : ti.sz with
   | zero=>omega
   | succ k=>rw [List.drop_eq_getElem_cons hlt];rfl
  rw [e1,e2]
  rfl
theorem vg (hT : TOk P T) {d : Nat} {w : World} {chk : Nat→List Kd→Bool}
  (hchk : ∀ t ti ks xs ys,T.get t=some ti→chk t ks=true→aE Kd.isv ks xs→aE Kd.isv ks ys→(Op.equalIn d t (vof ti.agg xs) (vof ti.agg ys)).run P w=.ok (cS xs ys) w) (xs ys : List Value) (hxy : xs.length=ys.length) :
  ∀ {l : List Field} {off : Nat} {ks : List Kd},eqF T chk l off ks=true→aE Kd.isv ks (xs.drop off)→aE Kd.isv ks (ys.drop off)→(Op.eqFields d xs.toArray ys.toArray l).run P w=.ok (cS (xs.drop off) (ys.drop off)) w
 | [],off,ks,h,h1,h2=>by
  simp only [eqF,List.isEmpty_iff] at h
  subst h
  cases hx : xs.drop off with
  | cons x l=>rw [hx] at h1;exact h1.elim
  | nil =>
   cases hy : ys.drop off with
   | cons y l=>rw [hy] at h2;exact h2.elim
   | nil=>rfl
 | f :: l,off,ks,h,h1,h2=>by
  simp only [eqF,Bool.and_eq_true,decide_eq_true_eq] at h
  obtain ⟨⟨hn,ho⟩,h⟩:=h
  have ho:=Nat.eq_of_beq_eq_true ho
  split at h
  ·rename_i ti ht
   simp only [Bool.and_eq_true] at h
   obtain ⟨⟨hl,hz⟩,hc,hr⟩:=h
   have hl:=Nat.le_of_ble_eq_true hl
   have hz:=Hk hz
   have lx:=h1.length
   have ly:=h2.length
   rw [List.length_drop] at lx ly
   obtain ⟨a1,a2⟩:=la ti.sz h1
   obtain ⟨b1,b2⟩:=la ti.sz h2
   rw [List.drop_drop] at a2 b2
   have hv:=hchk f.type ti _ _ _ ht hc a1 b1
   have ih:=vg hT hchk xs ys hxy hr a2 b2
   simp only [Op.eqFields]
   rw [if_pos hn,ho]
   simp only [Sem.run_bind,qe hT ht hz xs off (by omega) w,qe hT ht hz ys off (by omega) w,Result.andThen_ok,hv]
   rw [pG ti.sz h1 h2,List.drop_drop,List.drop_drop]
   cases he : cS ((xs.drop off).take ti.sz) ((ys.drop off).take ti.sz) with
   | false=>simp
   | true=>simp only [Bool.not_true,Bool.false_eq_true,if_false,Bool.true_and];exact ih
  ·cases h
theorem mA (hT : TOk P T) {w : World} : ∀ (d D t : Nat) (ti : TI) (ks : List Kd) (xs ys : List Value),d≤D→T.get t=some ti→tN P T d t ks=true→aE Kd.isv ks xs→aE Kd.isv ks ys →
  (Op.equalIn D t (vof ti.agg xs) (vof ti.agg ys)).run P w=.ok (cS xs ys) w
 | 0,_,_,_,_,_,_,_,_,h,_,_=>by simp [tN] at h
 | d + 1,0,_,_,_,_,_,hd,_,_,_,_=>by omega
 | d + 1,D + 1,t,ti,ks,xs,ys,hd,ht,h,h1,h2=>by
  obtain ⟨i,de,z,_,hu,_,_,_,_,_,_,hagg,_⟩:=(hT.get t ti ht).ex
  simp only [tN] at h
  have one : ∀ {v w : Value},xs=[v]→ys=[w]→ti.agg=false→vof ti.agg xs=v∧vof ti.agg ys=w:=fun e1 e2 e3=>by subst e1;subst e2;rw [e3];exact ⟨rfl,rfl⟩
  split at h
  ·rename_i hb
   rw [hu] at hb
   cases hb
   have hag : ti.agg=false:=by
    cases hq : ti.agg with
    | false=>rfl
    | true=>rcases hagg.1 hq with ⟨_,e⟩ | ⟨_,_,e⟩ <;> cases e
   split at h
   ·match xs,ys,h1,h2 with
    | [x],[y],h1,h2 =>
     obtain ⟨a,rfl⟩:=h1.1
     obtain ⟨b,rfl⟩:=h2.1
     rw [hag]
     simp only [vof,Bool.false_eq_true,if_false,List.headD_cons,run_equalIn_bool' w D t a b hu,cS,Bool.and_true]
   ·cases h
  ·rename_i k hb
   rw [hu] at hb
   cases hb
   have hag : ti.agg=false:=by
    cases hq : ti.agg with
    | false=>rfl
    | true=>rcases hagg.1 hq with ⟨_,e⟩ | ⟨_,_,e⟩ <;> cases e
   split at h
   ·match xs,ys,h1,h2 with
    | [x],[y],h1,h2 =>
     obtain ⟨a,rfl⟩:=h1.1
     obtain ⟨b,rfl⟩:=h2.1
     rw [hag]
     simp only [vof,Bool.false_eq_true,if_false,List.headD_cons,run_equalIn_int w D t _ _ a b hu,cS,Bool.and_true]
   ·cases h
  ·rename_i fs hb
   rw [hu] at hb
   cases hb
   have hag : ti.agg=true:=hagg.2 (.inl ⟨_,rfl⟩)
   simp only [Bool.and_eq_true,Bool.not_eq_true'] at h
   have hf : P.fieldsOf t=fs:=by simp [Program.fieldsOf,hu]
   rw [hag]
   simp only [vof,if_true]
   rw [run_equalIn_agg w D t _ _ (by rw [hf];exact hu) h.1,hf]
   have:=vg hT (d:=D) (w:=w) (fun t' ti' ks' xs' ys' a1 a2 a3 a4=>mA hT d D t' ti' ks' xs' ys' (by omega) a1 a2 a3 a4) xs ys (by rw [← h1.length,← h2.length]) h.2 (by simpa using h1) (by simpa using h2)
   simpa using this
  ·cases h
theorem jZ : ∀ {T : TT} {t : Nat},(BT T).get t=(T.get t).map fun ti=>{ ti with eq:=false,key:=false}
 | [],_=>rfl
 | (u,i) :: l,t=>by
  simp only [BT,List.map_cons,TT.get]
  split
  ·rfl
  ·exact jZ (T:=l)
theorem sA (hG : ∀ t ti,T.get t=some ti→Ek P t ti) : TOk P (BT T):=by
 refine ⟨fun t ti h=>?_,fun t ti _ h he=>?_,fun t ti h he=>?_⟩
 ·rw [jZ] at h
  cases hq : T.get t with
  | none=>rw [hq] at h;cases h
  | some x =>
   rw [hq] at h
   cases h
   exact ⟨(hG t x hq).ex⟩
 ·rw [jZ] at h
  cases hq : T.get t with
  | none=>rw [hq] at h;cases h
  | some x=>rw [hq] at h;cases h;cases he
 ·rw [jZ] at h
  cases hq : T.get t with
  | none=>rw [hq] at h;cases h
  | some x=>rw [hq] at h;cases h;cases he
theorem tu {S : TT} : ∀ {l : TT},tw P S l=true→∀ t ti,l.get t=some ti→ti.key=true→zG P S t ti=true
 | [],_,_,_,h,_=>by simp [TT.get] at h
 | (u,i) :: l,hc,t,ti,h,he=>by
  simp only [tw,Bool.and_eq_true] at hc
  simp only [TT.get] at h
  split at h
  ·rename_i e
   cases h
   have hc:=hc.1
   rw [← Nat.eq_of_beq_eq_true e]
   rw [if_pos he] at hc
   exact hc
  ·exact tu hc.2 t ti h he
theorem tt (hT : TOk P T) (em : Bool) (n : Nat) (w : World) (xs : List Value) : ∀ {l : List Field} {off : Nat} {ks : List Kd},B6 P T l off ks=true→aE Kd.isv ks (xs.drop off) →
  ∀ f∈l,f.name≠ "_"∧∃ v,(part f.type xs.toArray f.offset).run P w=.ok v w∧(Instr.checkKey em (n + 1) f.type v).run P w=.ok () w
 | [],_,_,_,_,f,hf=>by cases hf
 | f :: l,off,[],h,_,_,_=>by simp [B6] at h
 | f :: l,off,k :: ks,h,hx,f',hf=>by
  simp only [B6,Bool.and_eq_true,decide_eq_true_eq] at h
  obtain ⟨⟨⟨hn,ho⟩,h3⟩,h4⟩:=h
  have ho:=Nat.eq_of_beq_eq_true ho
  cases hd : xs.drop off with
  | nil=>rw [hd] at hx;exact hx.elim
  | cons x ys =>
   rw [hd] at hx
   have hlt : off < xs.length:=by
    rcases Nat.lt_or_ge off xs.length with hl | hg
    ·exact hl
    ·rw [List.drop_eq_nil_of_le hg] at hd;cases hd
   rcases List.mem_cons.1 hf with rfl | hf
   ·refine ⟨hn,x,?_⟩
    have hp : ∀ {ti : TI},T.get f'.type=some ti→ti.sz=1→ti.agg=false→(part f'.type xs.toArray f'.offset).run P w=.ok x w:=fun {ti} h1 h2 h3=>by
     rw [ho,qe hT h1 (by omega) xs off (by omega) w,h2,h3,hd]
     rfl
    split at h3
    ·rename_i ti q q' h1 h2
     simp only [Bool.and_eq_true,Bool.not_eq_true'] at h3
     have e:=IntKind.av h3.2
     subst e
     obtain ⟨m,rfl⟩:=hx.1
     exact ⟨hp h1 (Nat.eq_of_beq_eq_true h3.1.1) h3.1.2,Go.MapKept.run_checkKey h2 (k:=.int q m) rfl em n⟩
    ·rename_i ti h1 h2
     simp only [Bool.and_eq_true,Bool.not_eq_true'] at h3
     obtain ⟨m,rfl⟩:=hx.1
     exact ⟨hp h1 (Nat.eq_of_beq_eq_true h3.1) h3.2,Go.MapKept.run_checkKey h2 (k:=.bool m) trivial em n⟩
    ·cases h3
   ·refine tt hT em n w xs h4 ?_ f' hf
    rw [← List.drop_drop,hd]
    exact hx.2
theorem rL (hT : TOk P T) {t : Nat} {fs : Array Field} {ks : List Kd} (hu : P.underlying t=some (.struct fs)) (h : B6 P T fs.toList 0 ks=true) {xs : List Value} (hx : aE Kd.isv ks xs) (w : World) (em : Bool) :
  (Instr.checkKey em 10000 t (.agg xs.toArray)).run P w=.ok () w:=by
 have all:=tt hT em 9998 w xs h (by simpa using hx)
 rw [show (10000 : Nat)=9999 + 1 from rfl,Instr.checkKey]
 simp only [Sem.run_bind,run_underlying hu,Result.andThen_ok]
 rw [← Array.forIn_toList]
 generalize fs.toList=L at all
 induction L with
 | nil=>simp
 | cons f L ih =>
  obtain ⟨hn,v,p1,p2⟩:=all f (by simp)
  simp only [List.forIn_cons,Sem.run_bind,hn,ne_eq,not_false_eq_true,if_true,Result.andThen_ok,p1,p2,Sem.run_pure]
  exact ih (fun y hy=>all y (by simp [hy]))
theorem E7 (hG : ∀ t ti,T.get t=some ti→Ek P t ti) (h : tw P (BT T) T=true) (t : Nat) (ti : TI) (ht : T.get t=some ti) (hk : ti.key=true) :
  (ti.agg=false→(∃ k,P.underlying t=some (.int k)∧ti.kd=some [.int k])∨(P.underlying t=some .bool∧ti.kd=some [.bool])) ∧
  (ti.agg=true→(∃ fs,P.underlying t=some (.struct fs))∧∀ kd,ti.kd=some kd→(∀ xs,aE Kd.isv kd xs→∀ (w : World) (em : Bool),(Instr.checkKey em 10000 t (.agg xs.toArray)).run P w=.ok () w) ∧
   ∀ xs ys,aE Kd.isv kd xs→aE Kd.isv kd ys→∀ w : World,(Op.equal t (.agg xs.toArray) (.agg ys.toArray)).run P w=.ok (cS xs ys) w):=by
 have hc:=tu h t ti ht hk
 unfold zG at hc
 split at hc
 ·rename_i q q' h1 h2
  simp only [Bool.and_eq_true,Bool.not_eq_true'] at hc
  have e:=IntKind.av hc.1
  subst e
  exact ⟨fun _=>.inl ⟨q,h1,h2⟩,fun ha=>by rw [hc.2] at ha;cases ha⟩
 ·rename_i h1 h2
  simp only [Bool.not_eq_true'] at hc
  exact ⟨fun _=>.inr ⟨h1,h2⟩,fun ha=>by rw [hc] at ha;cases ha⟩
 ·rename_i fs kd h1 h2
  simp only [Bool.and_eq_true] at hc
  refine ⟨fun ha=>(by rw [hc.1] at ha;cases ha),fun ha=>⟨⟨fs,h1⟩,fun kd' hk'=>?_⟩⟩
  rw [h2] at hk';cases hk'
  refine ⟨fun xs hx w em=>rL (sA hG) h1 hc.2.2 hx w em,fun xs ys hx hy w=>?_⟩
  have hv:=mA (sA hG) (w:=w) 20 10000 t { ti with eq:=false,key:=false} kd xs ys (by omega) (by rw [jZ,ht];rfl) hc.2.1 hx hy
  simp only [vof,ha,if_true] at hv
  simp only [Op.equal,Op.maxDepth]
  exact hv
 ·cases hc
theorem vh {S : TT} : ∀ {l : TT},Bb P S l=true→∀ t ti kd,l.get t=some ti→ti.eq=true→ti.kd=some kd→tN P S 20 t kd=true∧(ti.agg=true→P.eqGuardType P.depth t=false)∧(ti.agg=false→kd=[.bool])
 | [],_,_,_,_,h,_,_=>by simp [TT.get] at h
 | (u,i) :: l,hc,t,ti,kd,h,he,hk=>by
  simp only [Bb,Bool.and_eq_true] at hc
  simp only [TT.get] at h
  split at h
  ·rename_i e
   cases h
   have hc:=hc.1
   rw [← Nat.eq_of_beq_eq_true e]
   rw [if_pos he,hk] at hc
   simp only [Bool.and_eq_true] at hc
   refine ⟨hc.1,fun ha=>?_,fun ha=>?_⟩
   ·have:=hc.2;rw [if_pos ha] at this;simpa using this
   ·have:=hc.2
    rw [ha] at this
    simp only [Bool.false_eq_true,if_false] at this
    split at this
    ·rfl
    ·cases this
  ·exact vh hc.2 t ti kd h he hk
theorem tOk_of (h1 : Ae P T=true) (h2 : Bb P (BT T) T=true) (h3 : tw P (BT T) T=true) : TOk P T:=by
 have hG:=uF h1
 refine ⟨hG,fun t ti kd ht he hk xs ys hx hy w x y op hop=>?_,E7 hG h3⟩
 obtain ⟨g1,g2,g3⟩:=vh h2 t ti kd ht he hk
 have hv:=mA (sA hG) (w:=w) 20 10000 t { ti with eq:=false,key:=false} kd xs ys (by omega) (by rw [jZ,ht];rfl) g1 hx hy
 cases ha : ti.agg with
 | true =>
  simp only [vof,ha,if_true] at hv ⊢
  rw [Sem.run_bind,run_eqGuard_agg w op t x y _ _ (g2 ha),Result.andThen_ok]
  rcases hop with e | e <;> subst e
  ·rw [run_eql_struct,hv];rfl
  ·rw [run_neq_struct,hv];rfl
 | false =>
  rw [g3 ha] at hx hy
  match xs,ys,hx,hy with
  | [u],[v],hx,hy =>
   obtain ⟨b1,rfl⟩:=hx.1
   obtain ⟨b2,rfl⟩:=hy.1
   simp only [vof,ha,Bool.false_eq_true,if_false,List.headD_cons] at hv ⊢
   have hg : (eqGuard op t x y (.bool b1) (.bool b2)).run P w=.ok () w:=by unfold eqGuard;split <;> rfl
   rw [Sem.run_bind,hg,Result.andThen_ok]
   rcases hop with e | e <;> subst e
   ·simp only [binOp,Sem.run_bind,Op.equal,Op.maxDepth,hv,Result.andThen_ok];rfl
   ·simp only [binOp,Sem.run_bind,Op.equal,Op.maxDepth,hv,Result.andThen_ok];rfl
end
end Go.Sy
