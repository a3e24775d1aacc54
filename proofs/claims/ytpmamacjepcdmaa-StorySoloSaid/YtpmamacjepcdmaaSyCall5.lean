import Derived.Test.YtpmamacjepcdmaaSyCall2
namespace Go.Sy
open Go.RowKit
theorem cd.cells {Mc : Nat→Nat→Prop} {w w' : World} (T : cd Mc w w') : cd (fun k i=>Mc k i∧(w.cell? ⟨k,i,none⟩).isSome=true) w w' :=
 ⟨T.os,T.tape,T.output,T.size,fun k o hk=>by
  obtain ⟨o',h1,h2⟩:=T.obj k o hk
  refine ⟨o',h1,?_⟩
  cases o with
  | cells c e f =>
   obtain ⟨c',rfl,h3,h4⟩:=h2
   refine ⟨c',rfl,h3,fun i hi=>?_⟩
   by_cases hm : Mc k i
   ·have hn : ¬ i < c.size:=fun hl=>hi ⟨hm,by simp [World.cell?,hk,hl]⟩
    rw [Array.getElem?_eq_none (by omega),Array.getElem?_eq_none (by omega)]
   ·exact h4 i hm
  | _=>exact h2⟩
theorem gR {r : Nat} : ∀ {regs : List (Pc (List SC))} {ps : List (Nat × Nat)} {css : List (List SC)},r ∉ ps.map (·.1)→nth (dq regs ps css) r=nth regs r
 | regs,[],css,_=>by simp [dq]
 | regs,_ :: _,[],_=>by simp [dq]
 | regs,(r',o) :: ps,c :: css,h=>by
  simp only [dq]
  simp only [List.map_cons,List.mem_cons,not_or] at h
  rw [gR h.2]
  split
  ·rw [aS,if_neg (fun e=>h.1 e.symm)]
  ·rfl
theorem od {r o : Nat} {old c : List SC} : ∀ {regs : List (Pc (List SC))} {ps : List (Nat × Nat)} {css : List (List SC)} {j : Nat},eJ (ps.map (·.1))=true→ps[j]?=some (r,o)→css[j]?=some c→nth regs r=some (.here old)→nth (dq regs ps css) r=some (.here (cq old o c))
 | regs,[],css,j,_,h,_,_=>by simp at h
 | regs,_ :: _,[],j,_,_,h,_=>by simp at h
 | regs,(r',o') :: ps,c' :: css,0,hd,h1,h2,h3=>by
  simp only [List.getElem?_cons_zero,Option.some.injEq,Prod.mk.injEq] at h1 h2
  obtain ⟨rfl,rfl⟩:=h1
  subst h2
  simp only [dq,h3]
  rw [List.map_cons] at hd
  rw [gR (gI hd).1,aS,if_pos rfl,if_pos (cn h3)]
 | regs,(r',o') :: ps,c' :: css,j + 1,hd,h1,h2,h3=>by
  simp only [List.getElem?_cons_succ] at h1 h2
  rw [List.map_cons] at hd
  obtain ⟨n1,n2⟩:=gI hd
  have hne : r'≠r:=fun e=>n1 (by rw [e];exact List.mem_map.2 ⟨(r,o),List.mem_of_getElem? h1,rfl⟩)
  simp only [dq]
  refine od n2 h1 h2 ?_
  split
  ·rw [aS,if_neg hne];exact h3
  ·exact h3
theorem gu : ∀ (l : List Nat) (arrs : List (Pc Ar)),(fh arrs l).length=arrs.length
 | [],_=>rfl
 | a :: l,arrs=>by rw [fh,gu l,cL]
theorem IT : ∀ (l : List Nat) (arrs : List (Pc Ar)) (i : Nat),nth (fh arrs l) i=if i∈l∧i < arrs.length then some .go else nth arrs i
 | [],_,_=>by simp [fh]
 | a :: l,arrs,i=>by
  rw [fh,IT l,cL,aS]
  by_cases h1 : i∈l∧i < arrs.length
  ·rw [if_pos h1,if_pos ⟨List.mem_cons_of_mem _ h1.1,h1.2⟩]
  ·rw [if_neg h1]
   by_cases h2 : a=i
   ·subst h2
    rw [if_pos rfl]
    by_cases h3 : a < arrs.length
    ·rw [if_pos h3,if_pos ⟨by simp,h3⟩]
    ·rw [if_neg h3,if_neg (fun h=>h3 h.2),dt (by omega)]
   ·rw [if_neg h2,if_neg]
    rintro ⟨h3,h4⟩
    rcases List.mem_cons.1 h3 with e | h3
    ·exact h2 e.symm
    ·exact h1 ⟨h3,h4⟩
def oh : List AK→Nat
 | []=>0
 | .ptr _ :: l=>oh l + 1
 | _ :: l=>oh l
theorem du : ∀ (l : List AK) (cs : List SC),(dR l cs).length=oh l
 | [],_=>rfl
 | .ptr ks :: l,cs=>by simp [dR,oh,du l]
 | .one _ :: l,cs=>by simp [dR,oh,du l]
 | .agg _ :: l,cs=>by simp [dR,oh,du l]
 | .fn _ :: l,cs=>by simp [dR,oh,du l]
theorem rh : ∀ {l : List AK} {cs cs' : List SC},cs.length=(l.flatMap AK.ks).length→(l.flatMap AK.ps).length≤cs'.length→aE (fun x (c : List SC)=>∀ d,x=Pc.here d→d.length=c.length) (dv l cs) (dR l cs')
 | [],cs,cs',_,_=>by cases cs <;> trivial
 | .one k :: l,[],cs',h,_=>by simp [AK.ks] at h
 | .one k :: l,c :: cs,cs',h,h'=>by
  simp only [List.flatMap_cons,AK.ks,AK.ps,List.length_append,List.length_cons,List.length_nil] at h h'
  exact rh (l:=l) (by omega) (by omega)
 | .agg ks :: l,cs,cs',h,h'=>by
  simp only [List.flatMap_cons,AK.ks,AK.ps,List.length_append,List.length_nil] at h h'
  have e : dv (.agg ks :: l) cs=dv l (cs.drop ks.length):=by cases cs <;> rfl
  rw [e]
  exact rh (l:=l) (by rw [List.length_drop];omega) (by omega)
 | .ptr ks :: l,cs,cs',h,h'=>by
  simp only [List.flatMap_cons,AK.ks,AK.ps,List.length_append] at h h'
  have e : dv (.ptr ks :: l) cs=.here (cs.take ks.length) :: dv l (cs.drop ks.length):=by cases cs <;> rfl
  rw [e]
  refine ⟨fun d hd=>?_,rh (l:=l) (by rw [List.length_drop];omega) (by rw [List.length_drop];omega)⟩
  cases hd
  rw [List.length_take,List.length_take];omega
 | .fn f :: l,cs,cs',h,h'=>by
  simp only [List.flatMap_cons,AK.ks,AK.ps,List.length_append,List.length_nil] at h h'
  have e : dv (.fn f :: l) cs=dv l cs:=by cases cs <;> rfl
  rw [e]
  exact rh (l:=l) (by omega) (by omega)
theorem nm : ∀ {l : List AK} {cs : List SC},dU (fun (k : AK)=>match k with | .ptr _=>true | _=>false) l=false→dv l cs=[]
 | [],cs,_=>by cases cs <;> rfl
 | .one _ :: l,[],_=>rfl
 | .one _ :: l,_ :: cs,h=>nm (l:=l) (by simpa [dU] using h)
 | .agg ks :: l,cs,h=>by
  have e : dv (.agg ks :: l) cs=dv l (cs.drop ks.length):=by cases cs <;> rfl
  rw [e];exact nm (l:=l) (by simpa [dU] using h)
 | .ptr ks :: l,cs,h=>by simp [dU] at h
 | .fn f :: l,cs,h=>by
  have e : dv (.fn f :: l) cs=dv l cs:=by cases cs <;> rfl
  rw [e];exact nm (l:=l) (by simpa [dU] using h)
theorem ye : ∀ {l : List PK},dU (fun (k : PK)=>match k with | .own _ _=>true | _=>false) l=false→cnt l=0
 | [],_=>rfl
 | k :: l,h=>by cases k <;> first | exact ye (l:=l) (by simpa [dU] using h) | simp [dU] at h
theorem tc : ∀ {ks : List PK} {nx j : Nat} {A : Ar},nth (mkA nx ks) j=some (.here A)→∃ i e K,nth ks i=some (.own e K)∧A=⟨e,K,.var (nx + i)⟩∧∀ nx',nth (mkA nx' ks) j=some (.here ⟨e,K,.var (nx' + i)⟩)
 | [],_,_,_,h=>by simp [mkA,nth] at h
 | k :: l,nx,j,A,h=>by
  cases k with
  | own e K =>
   cases j with
   | zero =>
    simp only [mkA,nth,Option.some.injEq,Pc.here.injEq] at h
    exact ⟨0,e,K,rfl,h.symm,fun _=>rfl⟩
   | succ j =>
    obtain ⟨i,e',K',h1,h2,h3⟩:=tc (ks:=l) (nx:=nx + 1) h
    exact ⟨i + 1,e',K',h1,by rw [h2,show nx + 1 + i=nx + (i + 1) from by omega],fun nx'=>(h3 (nx' + 1)).trans (by rw [show nx' + 1 + i=nx' + (i + 1) from by omega])⟩
  | _ =>
   obtain ⟨i,e',K',h1,h2,h3⟩:=tc (ks:=l) (nx:=nx + 1) h
   exact ⟨i + 1,e',K',h1,by rw [h2,show nx + 1 + i=nx + (i + 1) from by omega],fun nx'=>(h3 (nx' + 1)).trans (by rw [show nx' + 1 + i=nx' + (i + 1) from by omega])⟩
theorem tZ {α : Type} {f : α→Bool} : ∀ {l : List α} {i : Nat} {x : α},dU f l=false→nth l i=some x→f x=false
 | [],_,_,_,h=>by simp [nth] at h
 | a :: l,0,x,h,e=>by simp only [nth,Option.some.injEq] at e;subst e;simp only [dU,Bool.or_eq_false_iff] at h;exact h.1
 | a :: l,i + 1,x,h,e=>by simp only [dU,Bool.or_eq_false_iff] at h;exact tZ h.2 e
theorem qh {h : Hp} : ∀ {ks : List PK} {cs : List SC} {m : Mt},pe h ks cs=some m→Cc ks cs=none→m.G4=[]
 | [],[],m,hm,_=>by simp only [pe,Option.some.injEq] at hm;subst hm;rfl
 | k :: ks,c :: cs,m,hm,hf=>by
  simp only [pe] at hm
  split at hm
  ·rename_i m1 m2 h1 h2
   cases hm
   have hc : Cc ks cs=none∧((∃ K,k=.fz K)→∀ a n,c≠.sl a n):=by
    cases k with
    | fz K =>
     cases c <;> first
      | exact ⟨hf,fun _ _ _ h=>by cases h⟩
      | (simp [Cc] at hf)
    | _=>exact ⟨hf,fun ⟨_,h⟩=>by cases h⟩
   have:=qh h2 hc.1
   show m1.G4 ++ m2.G4=[]
   rw [this,List.append_nil]
   unfold mtC at h1
   split at h1
   ·split at h1 <;> cases h1;rfl
   ·cases h1;rfl
   ·cases h1;rfl
   ·split at h1
    ·cases h1
    ·split at h1
     ·cases h1
      dsimp only
      split
      ·exact absurd rfl (hc.2 ⟨_,rfl⟩ _ _)
      ·rfl
     ·cases h1
   ·split at h1
    ·split at h1 <;> cases h1;rfl
    ·cases h1
   ·split at h1 <;> cases h1;rfl
   ·split at h1 <;> cases h1;rfl
   ·cases h1
  ·cases hm
 | [],_ :: _,_,hm,_=>by simp [pe] at hm
 | _ :: _,[],_,hm,_=>by simp [pe] at hm
end Go.Sy

namespace Go.Sy
open Go.RowKit
def mU (E : Env) (p : Pl) (h : Hp) (E' : Env) (q : Pl) (h' : Hp) (n : Nat) : Prop:=∀ k i,k < n→Kn E p h k i→Kn E' q h' k i
section
variable {B : cT} {E : Env} {p : Pl} {g : Gm} {h : Hp} {w w' : World}
open Classical in
noncomputable def lJ (p p1 : Pl) (len : Nat) (T : Nat→Prop) : Pl where
 reg:=p.reg
 arr j:=if j < len then p.arr j else p1.arr (j - len)
 mp:=p.mp
 ow k:=if T k then (match p1.ow k with | .arr j=>.arr (len + j) | .nst j i' j'=>.nst (len + j) i' j' | .z=>.z | _=>.mp 0) else p.ow k
theorem mB {p p1 : Pl} {len : Nat} {T : Nat→Prop} {k : Nat} (hT : ¬ T k) : (lJ p p1 len T).ow k=p.ow k:=if_neg hT
theorem Cg {p p1 : Pl} {len : Nat} {T : Nat→Prop} {k j : Nat} (hT : T k) (e : p1.ow k=.arr j) : (lJ p p1 len T).ow k=.arr (len + j):=by
 simp only [lJ,if_pos hT,e]
theorem Cf {p p1 : Pl} {len : Nat} {T : Nat→Prop} {k j i' j' : Nat} (hT : T k) (e : p1.ow k=.nst j i' j') : (lJ p p1 len T).ow k=.nst (len + j) i' j':=by
 simp only [lJ,if_pos hT,e]
theorem Ce {p p1 : Pl} {len : Nat} {T : Nat→Prop} {k a : Nat} (h : ((lJ p p1 len T).ow k).ofA a) : (∃ a',(p1.ow k).ofA a')∨(p.ow k).ofA a:=by
 simp only [lJ] at h
 split at h
 ·left
  split at h
  ·rename_i j e;exact ⟨j,by rw [e];rfl⟩
  ·rename_i j i' j' e;exact ⟨j,by rw [e];rfl⟩
  ·exact h.elim
  ·exact h.elim
 ·exact .inr h
theorem Ow.AJ {o : Ow} {a b : Nat} (h : o.ofA a) (k : o.ofA b) : a=b:=by
 cases o <;> first
  | exact h.elim
  | (simp only [Ow.ofA] at h k;omega)
theorem Da : ∀ {ks : List Kd} {ds : List CD} {i : Nat} {k : Kd},CD.oks ks ds→ks[i]?=some k→∃ d,ds[i]?=some d∧CD.ok k d
 | [],_,_,_,_,h=>by simp at h
 | _ :: _,[],_,_,h,_=>h.elim
 | k :: ks,d :: ds,0,k',h,e=>by simp only [List.getElem?_cons_zero,Option.some.injEq] at e;subst e;exact ⟨d,rfl,h.1⟩
 | k :: ks,d :: ds,i + 1,k',h,e=>by
  rw [List.getElem?_cons_succ] at e ⊢
  exact Da h.2 e
theorem Fg {p p1 : Pl} {len : Nat} {T : Nat→Prop} {k : Nat} (hT : T k) (e : p1.ow k=.z) : (lJ p p1 len T).ow k=.z:=by
 simp only [lJ,if_pos hT,e]
theorem vm {p p1 : Pl} {len : Nat} {T : Nat→Prop} {j : Nat} (hj : j < len) : (lJ p p1 len T).arr j=p.arr j:=if_pos hj
theorem qz {p p1 : Pl} {len : Nat} {T : Nat→Prop} {j : Nat} (hj : ¬ j < len) : (lJ p p1 len T).arr j=p1.arr (j - len):=if_neg hj
theorem jh {E : Env} {lo : Nat} {outs : List CD} {i : Nat} : (E.put lo outs) (lo + i)=outs.getD i .u:=by
 have : ¬ lo + i < lo:=by omega
 simp [Env.put,this]
theorem qx : ∀ l : List AK,(l.flatMap AK.ps).length≤(l.flatMap AK.ks).length
 | []=>Nat.le_refl _
 | a :: l=>by
  have:=qx l
  cases a <;> simp only [List.flatMap_cons,List.length_append,AK.ps,AK.ks,List.length_nil,List.length_cons] <;> omega
theorem D5 (H : bq B E p g h w) {sg : Sig} {ps : List (Nat × Nat)} {m : Mt} {vals : List Value} {Ec : Env} {pc : Pl} {gc : Gm} (S : Start B E p g h w sg ps m vals Ec pc gc) (hd2 : eJ (ps.map (·.1))=true) (hfz : sg.nM=true→m.G4=[])
  {nx : Nat} (hu : h.under nx=true) {outs : List CD} {p1 : Pl} {g1 : Gm} (hoks : CD.oks sg.o0 outs) (hreg : ∀ i x,pc.reg i=some x→p1.reg i=some x) (H1 : bq ⟨w,Mof sg.h0 pc,gc,pc.reg⟩ (Ec.put sg.ins.length outs) p1 g1 sg.h1 w') :
  ∃ q g',p.Le q∧g.Le g'∧bq B (E.put nx outs) q g' { h with regs:=dq h.regs ps (dR sg.args (mkC nx h.arrs.length sg.outs)),arrs:=fh h.arrs (di m.own) ++ mkA nx sg.outs} w' ∧
   (∀ v,sg.C2.is (Ec.put sg.ins.length outs) p1 g1 v→(wP (lN sg.res ((mkC nx h.arrs.length sg.outs).drop sg.nP))).is (E.put nx outs) q g' v) ∧
   (sg.quiet=true→bj E p h w w'∧mU E p h (E.put nx outs) q { h with regs:=dq h.regs ps (dR sg.args (mkC nx h.arrs.length sg.outs)),arrs:=fh h.arrs (di m.own) ++ mkA nx sg.outs} w.heap.size):=by
 let T : Nat→Prop:=fun k=>w.heap.size≤k∨(∃ a A c,a∈di m.own∧nth h.arrs a=some (.here A)∧p.arr a=some (some ⟨k,0,none⟩,c)∧0 < c)∨∃ a A i' j',a∈di m.own∧nth h.arrs a=some (.here A)∧p.ow k=.nst a i' j'∧yD B w k
 let q : Pl:=lJ p p1 h.arrs.length T
 let g' : Gm:=if sg.nM then g1 else g
 let E1:=Ec.put sg.ins.length outs
 let E':=E.put nx outs
 have hagree : E.bW nx E':=Env.m7 _ _ _
 simp only [Hp.under,Bool.and_eq_true] at hu
 have hle : p.Le q:=by
  refine ⟨fun _ _ h=>h,fun i x hi=>(vm ?_).trans hi,fun _ _ h=>h⟩
  rcases Nat.lt_or_ge i h.arrs.length with hl | hl
  ·exact hl
  ·rw [H.afree i (.inl (dt hl))] at hi;cases hi
 have hgc1 : gc.Le g1:=H1.g0
 have hgle : g.Le g':=by
  show g.Le (if sg.nM then g1 else g)
  split
  ·exact S.le.trans hgc1
  ·exact Gm.Le.refl _
 have hg'1 : ∀ k o v,g' k o=some v→g1 k o=some v:=fun k o v hk=>by
  have hk : (if sg.nM then g1 else g) k o=some v:=hk
  split at hk
  ·exact hk
  ·exact hgc1 _ _ _ (S.le _ _ _ hk)
 have hgor : g1.Le g'∨dU PK.B8 sg.outs=false:=by
  show g1.Le (if sg.nM then g1 else g)∨_
  split
  ·exact .inl (Gm.Le.refl _)
  ·rename_i hz
   exact .inr (by simpa [Sig.nM] using hz)
 have hconv : aE (fun c c'=>∀ v,SC.is E1 p1 g1 c v→SC.is E' q g' c' v) (mkC sg.ins.length 0 sg.outs) (mkC nx h.arrs.length sg.outs) :=
  Ds (fun i _=>by rw [show E' (nx + i)=outs.getD i .u from jh,show E1 (sg.ins.length + i)=outs.getD i .u from jh]) (fun i _=>by
   rw [Nat.zero_add,show q.arr (h.arrs.length + i)=_ from qz (by omega),show h.arrs.length + i - h.arrs.length=i from by omega]) hgor
 have T2:=H1.fr.cells
 have hM : ∀ k i,Mof sg.h0 pc k i∧(w.cell? ⟨k,i,none⟩).isSome=true→B.wr k i∧((∃ r,r∈ps.map (·.1)∧p.ow k=.reg r)∨∃ a,a∈di m.own∧(p.ow k).ofA a):=fun k i ⟨hk,hc⟩=>by
  rcases S.mof k i hk with ⟨j,r,o,old,b,q0,cs,h1,h2,h3,h4,rfl,h6,h7,c0,h8⟩ | ⟨a,A,c,h1,h2,h3,h4⟩ | ⟨a,A,i1,j1,h1,h2,h3,h4⟩
  ·obtain ⟨b',q',e1,e2,e3,e4⟩:=(H.reg r old h2).ex
   rw [h3] at e1;cases e1
   have:=(e4 _ c0 h8).1
   rw [show q0 + (i - q0)=i from by omega] at this
   exact ⟨this,.inl ⟨r,List.mem_map.2 ⟨(r,o),List.mem_of_getElem? h1,rfl⟩,e2⟩⟩
  ·obtain ⟨ad,cap,rows,e1,e2,e3,e4,e5,e6,e7,e8⟩:=(H.arr a A h2).ex
   rw [h3] at e1;cases e1
   obtain ⟨b,cur,f1,f2,f3,f4,f5,f6⟩:=e8 h4
   cases f1
   refine ⟨f5 i ?_,.inr ⟨a,h1,by rw [f2];rfl⟩⟩
   simp only [World.cell?,f3] at hc
   rcases Nat.lt_or_ge i cur.size with hl | hl
   ·exact hl
   ·simp [Array.getElem?_eq_none hl] at hc
  ·exact ⟨h4 i hc,.inr ⟨a,h1,by rw [h3];rfl⟩⟩
 have hTow : ∀ k,k < w.heap.size→T k→∃ a,a∈di m.own∧(p.ow k).ofA a:=fun k hk ht=>by
  rcases ht with ht | ⟨a,A,c,h1,h2,h3,h4⟩ | ⟨a,A,i1,j1,h1,h2,h3,h4⟩
  ·omega
  ·exact ⟨a,h1,by rw [(H.arr a A h2).ow h3 h4];rfl⟩
  ·exact ⟨a,h1,by rw [h3];rfl⟩
 have hTreg : ∀ k r,k < w.heap.size→p.ow k=.reg r→¬ T k:=fun k r hk e ht=>by
  obtain ⟨a,_,e'⟩:=hTow k hk ht
  rw [e] at e';exact e'.elim
 have hown : ∀ k i,(⟨w,Mof sg.h0 pc,gc,pc.reg⟩ : cT).wr k i→(∀ r,p1.ow k≠.reg r)→T k:=fun k i hk hne=>by
  rcases hk with hk | hk
  ·have hk : Mof sg.h0 pc k i:=hk
   rcases S.mof k i hk with ⟨j,r,o,old,b,q0,cs,h1,h2,h3,h4,rfl,h6⟩ | ⟨a,A,c,h1,h2,h3,h4⟩ | h1
   ·exfalso
    have hjl : j < sg.h1.regs.length:=by
     show j < ((dR sg.args (mkC sg.ins.length 0 sg.outs)).map Pc.here).length
     rw [List.length_map,du,← du sg.args (mkC 0 0 sg.ins)]
     have:=(rh (l:=sg.args) (cs:=mkC 0 0 sg.ins) (cs':=mkC 0 0 sg.ins) (by rw [fL];rfl) (by
      rw [fL]
      exact qx sg.args)).length
     rw [← this]
     exact cn (show nth (dv sg.args (mkC 0 0 sg.ins)) j=_ from h4)
    obtain ⟨x,hx⟩:=cH hjl
    have hx':=hx
    rw [show sg.h1.regs=(dR sg.args (mkC sg.ins.length 0 sg.outs)).map Pc.here from rfl,aW,List.getElem?_map,Option.map_eq_some_iff] at hx'
    obtain ⟨d,_,hd⟩:=hx'
    subst hd
    obtain ⟨b',q',e1,e2,_⟩:=(H1.reg j d hx).ex
    obtain ⟨_,b2,q2,k1,k2,k3⟩:=S.reg j r o h1
    rw [h3] at k2;cases k2
    rw [hreg j _ k3] at e1
    cases e1
    exact hne j e2
   ·exact .inr (.inl ⟨a,A,c,h1,h2,h3,h4⟩)
   ·exact .inr (.inr h1)
  ·exact .inl hk
 have hgg : ∀ k o v,g' k o=some v→q.ow k=.z:=fun k o v hk=>by
  have h1:=H1.gg k o v (hg'1 k o v hk)
  by_cases hT : T k
  ·exact Fg hT h1.2
  ·rw [show q.ow k=p.ow k from mB hT]
   have hk : (if sg.nM then g1 else g) k o=some v:=hk
   split at hk
   ·rename_i hz
    rcases H1.g1 k o v hk with h2 | h2
    ·have h2 : gc k o=some v:=h2
     rw [S.G4 (hfz hz)] at h2
     exact (H.gg k o v h2).2
    ·exact absurd (hown k o h2 fun r hr=>by rw [h1.2] at hr;cases hr) hT
   ·exact (H.gg k o v hk).2
 have hkeep : ∀ b,b < w.heap.size→∀ r,p.ow b=.reg r→q.ow b=.reg r:=fun b hb r e=>(mB (hTreg b r hb e)).trans e
 have hmem : ∀ {r},r∈ps.map (·.1)→∃ (j o : Nat),ps[j]?=some (r,o):=fun {r} hr=>by
  obtain ⟨x,hx,e⟩:=List.mem_map.1 hr
  obtain ⟨j,hj⟩:=List.getElem?_of_mem hx
  exact ⟨j,x.2,by rw [hj,← e]⟩
 have hP : (dR sg.args (mkC nx h.arrs.length sg.outs)).length=ps.length∧∀ j cs c,nth sg.h0.regs j=some (.here cs)→(dR sg.args (mkC nx h.arrs.length sg.outs))[j]?=some c→cs.length=c.length:=by
  have:=rh (l:=sg.args) (cs:=mkC 0 0 sg.ins) (cs':=mkC nx h.arrs.length sg.outs) (by rw [fL];rfl) (by
   rw [fL]
   show _≤(sg.args.flatMap AK.ps ++ _).length
   rw [List.length_append];omega)
  refine ⟨by rw [← this.length];exact S.regs,fun j cs c h1 h2=>?_⟩
  obtain ⟨c',h3,h4⟩:=this.nth (show nth (dv sg.args (mkC 0 0 sg.ins)) j=_ from h1)
  rw [aW,h2] at h3
  cases h3
  exact h4 cs rfl
 have hreg0 : ∀ (j r o : Nat),ps[j]?=some (r,o)→∃ cs,nth sg.h0.regs j=some (.here cs):=fun j r o hj=>by
  have hjl : j < sg.h0.regs.length:=by rw [S.regs];exact (List.getElem?_eq_some_iff.1 hj).1
  obtain ⟨x,hx⟩:=cH hjl
  have : ∀ (l : List AK) (cs : List SC) (j : Nat) (x : Pc (List SC)),nth (dv l cs) j=some x→∃ d,x=.here d:=by
   intro l
   induction l with
   | nil=>intro cs j x h;cases cs <;> simp [dv,nth] at h
   | cons a l ih =>
    intro cs j x h
    cases a with
    | one k =>
     cases cs with
     | nil=>simp [dv,nth] at h
     | cons c cs=>exact ih _ _ _ h
    | agg ks =>
     have e : dv (.agg ks :: l) cs=dv l (cs.drop ks.length):=by cases cs <;> rfl
     rw [e] at h;exact ih _ _ _ h
    | ptr ks =>
     have e : dv (.ptr ks :: l) cs=.here (cs.take ks.length) :: dv l (cs.drop ks.length):=by cases cs <;> rfl
     rw [e] at h
     cases j with
     | zero=>simp only [nth,Option.some.injEq] at h;exact ⟨_,h.symm⟩
     | succ j=>exact ih _ _ _ h
    | fn f =>
     have e : dv (.fn f :: l) cs=dv l cs:=by cases cs <;> rfl
     rw [e] at h;exact ih _ _ _ h
  obtain ⟨d,e⟩:=this _ _ _ _ (show nth (dv sg.args (mkC 0 0 sg.ins)) j=_ from hx)
  exact ⟨d,by rw [hx,e]⟩
 refine ⟨q,g',hle,hgle,⟨H.sc T2 fun k i _ hk=>(hM k i hk).1,H.g0.trans hgle,fun k o v hk=>?_,fun k o v hk=>⟨(H1.gg k o v (hg'1 k o v hk)).1,hgg k o v hk⟩,fun r cs hr=>?_,fun r hr=>?_,fun a A ha=>?_,fun a ha=>?_,mT.jF (H.mm.cU T2 rfl fun a b e1 e2 e3 _=>(mB fun ht=>(by obtain ⟨a',_,e'⟩:=hTow b e3 ht;rw [e2] at e';exact e'.elim)).trans e2) hagree hu.2.2,fun k a hk=>?_⟩,fun v hv=>?_,fun hq=>?_⟩
 ·have hk1:=hg'1 k o v hk
  have hk : (if sg.nM then g1 else g) k o=some v:=hk
  split at hk
  ·rename_i hz
   rcases H1.g1 k o v hk with h2 | h2
   ·have h2 : gc k o=some v:=h2
    rw [S.G4 (hfz hz)] at h2
    exact H.g1 k o v h2
   ·right
    rcases h2 with h2 | h2
    ·have h2 : Mof sg.h0 pc k o:=h2
     have hc:=(H1.gg k o v hk).1
     have hlt : k < w.heap.size:=by
      rcases S.mof k o h2 with ⟨j,r,o',old,b,q0,cs,h1,h2,h3,h4,rfl,h6⟩ | ⟨a,A,c,h1,h2,h3,h4⟩ | ⟨a,A,i1,j1,h1,h2,h3,h4⟩
      ·obtain ⟨b',q',e1,e2,e3,e4⟩:=(H.reg r old h2).ex
       rw [h3] at e1;cases e1;exact e3
      ·obtain ⟨ad,cap,rows,e1,e2,e3,e4,e5,e6,e7,e8⟩:=(H.arr a A h2).ex
       rw [h3] at e1;cases e1
       obtain ⟨b,cur,f1,f2,f3,_⟩:=e8 h4
       cases f1;exact lt_of_block f3
      ·exact H.nz k a (by rw [h3];rfl)
     refine (hM k o ⟨h2,?_⟩).1
     obtain ⟨ob,hob⟩:=fW hlt
     obtain ⟨o',k1,k2⟩:=H1.fr.obj k ob hob
     cases ob with
     | cells c e f =>
      obtain ⟨c',rfl,k3,k4⟩:=k2
      simp only [World.cell?,k1] at hc
      have : o < c'.size:=by
       rcases Nat.lt_or_ge o c'.size with hl | hl
       ·exact hl
       ·simp [Array.getElem?_eq_none hl] at hc
      have k3 : c'.size=c.size:=k3
      have hob : w.heap[k]?=some (Obj.cells c e f):=hob
      simp [World.cell?,hob,← k3,this]
     | _=>simp only [fE] at k2;subst k2;simp [World.cell?,k1] at hc
    ·have h2 : w.heap.size≤k:=h2
     have:=H.fr.size
     exact .inr (by omega)
  ·exact H.g1 k o v hk
 ·by_cases hin : r∈ps.map (·.1)
  ·obtain ⟨j,o,hj⟩:=hmem hin
   obtain ⟨old,b,q0,k1,k2,k3⟩:=S.reg j r o hj
   obtain ⟨cs0,hcs0⟩:=hreg0 j r o hj
   have hjl : j < (dR sg.args (mkC nx h.arrs.length sg.outs)).length:=by rw [hP.1];exact (List.getElem?_eq_some_iff.1 hj).1
   obtain ⟨c',hc'⟩ : ∃ c',(dR sg.args (mkC nx h.arrs.length sg.outs))[j]?=some c':=⟨_,List.getElem?_eq_getElem hjl⟩
   have hlen:=hP.2 j cs0 c' hcs0 hc'
   have hr : nth (dq h.regs ps (dR sg.args (mkC nx h.arrs.length sg.outs))) r=some (.here cs):=hr
   rw [od hd2 hj hc' k1] at hr
   cases hr
   have hcv:=kj (as:=sg.args) hconv
   obtain ⟨c1,hc1,hcc⟩ : ∃ c1,nth (dR sg.args (mkC sg.ins.length 0 sg.outs)) j=some c1∧aE (fun c c'=>∀ v,SC.is E1 p1 g1 c v→SC.is E' q g' c' v) c1 c':=by
    have hl:=hcv.length
    obtain ⟨c1,hc1⟩:=cH (l:=dR sg.args (mkC sg.ins.length 0 sg.outs)) (i:=j) (by omega)
    obtain ⟨c2,e1,e2⟩:=hcv.nth hc1
    rw [aW,hc'] at e1
    cases e1
    exact ⟨c1,hc1,e2⟩
   have hh1 : nth sg.h1.regs j=some (.here c1):=by
    show nth ((dR sg.args (mkC sg.ins.length 0 sg.outs)).map Pc.here) j=_
    rw [aW,List.getElem?_map,← aW,hc1];rfl
   obtain ⟨b1,q1,f1,f2,f3,f4⟩:=(H1.reg j c1 hh1).ex
   rw [hreg j _ k3] at f1
   cases f1
   obtain ⟨b',q',e1,e2,e3,e4⟩:=(H.reg r old k1).ex
   rw [k2] at e1
   cases e1
   have hwin : 0 < c'.length→o + c'.length≤old.length:=fun hpos=>by
    have hcc0:=(rh (l:=sg.args) (cs:=mkC 0 0 sg.ins) (cs':=mkC nx h.arrs.length sg.outs))
    have hmof : Mof sg.h0 pc b (q0 + o + (c'.length - 1)):=.inl ⟨j,cs0,b,q0 + o,hcs0,k3,rfl,by omega,by omega⟩
    rcases S.mof b (q0 + o + (c'.length - 1)) hmof with ⟨j2,r2,o2,old2,b2,q2,cs2,g1,g2,g3,g4,g5,g6,g7,c0,g8⟩ | ⟨a,A,c,g1,g2,g3,g4⟩ | ⟨a,A,i1,j1,g1,g2,g3,g4⟩
    ·subst g5
     obtain ⟨_,_,n1,n2,_⟩:=(H.reg r2 old2 g2).ex
     rw [g3] at n1
     cases n1
     rw [e2] at n2
     cases n2
     rw [k1] at g2;cases g2
     rw [k2] at g3;cases g3
     have:=cn g8
     omega
    ·have:=(H.arr a A g2).ow g3 g4
     rw [e2] at this;cases this
    ·rw [e2] at g3;cases g3
   refine ⟨b,q0,k2,hkeep b e3 r e2,Nat.lt_of_lt_of_le e3 T2.size,fun i c hi=>?_⟩
   have hil:=cn hi
   rw [gq] at hil
   obtain ⟨c0,hc0⟩:=cH hil
   obtain ⟨n1,n2,v0,n3,n4⟩:=e4 i c0 hc0
   refine ⟨n1,(T2.frozen e3 _).trans n2,?_⟩
   have hin' : ∀ (hout : ¬ (o≤i∧i < o + c'.length)),nth old i=some c→∃ v,w'.cell? ⟨b,q0 + i,none⟩=some v∧SC.is E' q g' c v:=fun hout hi=>by
    rw [hc0] at hi;cases hi
    refine ⟨v0,?_,SC.fA hagree (eS (eS hu.1 k1) hc0) (SC.is_le hle hgle n4)⟩
    rw [T2.cell e3]
    ·exact n3
    ·rintro ⟨hm,_⟩
     rcases S.mof b (q0 + i) hm with ⟨j2,r2,o2,old2,b2,q2,cs2,g1,g2,g3,g4,g5,g6,g7,_⟩ | ⟨a,A,c,g1,g2,g3,g4⟩ | ⟨a,A,i1,j1,g1,g2,g3,g4⟩
     ·subst g5
      obtain ⟨_,_,n1,n2,_⟩:=(H.reg r2 old2 g2).ex
      rw [g3] at n1
      cases n1
      rw [e2] at n2
      cases n2
      rw [k2] at g3;cases g3
      have e1:=rT hd2 (j:=j) (r:=r) (by rw [List.getElem?_map,hj];rfl)
      have e2:=rT hd2 (j:=j2) (r:=r) (by rw [List.getElem?_map,g1];rfl)
      rw [e1] at e2
      cases e2
      rw [hj] at g1;cases g1
      rw [hcs0] at g4;cases g4
      exact hout ⟨by omega,by omega⟩
     ·have:=(H.arr a A g2).ow g3 g4
      rw [e2] at this;cases this
     ·rw [e2] at g3;cases g3
   rcases Nat.eq_zero_or_pos c'.length with hz | hz
   ·have : c'=[]:=List.length_eq_zero_iff.1 hz
    subst this
    have e : cq old o []=old:=by cases old <;> rfl
    rw [e] at hi
    exact hin' (by simp only [List.length_nil];omega) hi
   ·rw [IS c' old o i (hwin hz)] at hi
    split at hi
    ·rename_i hwi
     have hcl:=hcc.length
     obtain ⟨d,hd⟩:=cH (l:=c1) (i:=i - o) (by omega)
     obtain ⟨_,_,v,x3,x4⟩:=f4 _ d hd
     obtain ⟨d',y1,y2⟩:=hcc.nth hd
     rw [hi] at y1;cases y1
     exact ⟨v,by rw [show q0 + i=q0 + o + (i - o) from by omega];exact x3,y2 v x4⟩
    ·rename_i hout
     exact hin' hout hi
  ·have hr : nth (dq h.regs ps (dR sg.args (mkC nx h.arrs.length sg.outs))) r=some (.here cs):=hr
   rw [gR hin] at hr
   have R:=H.reg r cs hr
   obtain ⟨b',q',e1,e2,e3,e4⟩:=R.ex
   refine mS.jF (R.cU T2 (fun b q0 o hb _ hm=>?_) hle hgle fun b q0 hb=>?_) hagree (eS hu.1 hr)
   ·rw [e1] at hb;cases hb
    rcases (hM _ _ hm).2 with ⟨r2,g1,g2⟩ | ⟨a,g1,g2⟩
    ·rw [e2] at g2;cases g2;exact hin g1
    ·rw [e2] at g2;exact g2.elim
   ·rw [e1] at hb;cases hb
    exact hkeep b' e3 r e2
 ·have hr : nth (dq h.regs ps (dR sg.args (mkC nx h.arrs.length sg.outs))) r=none∨nth (dq h.regs ps (dR sg.args (mkC nx h.arrs.length sg.outs))) r=some .fr:=hr
  by_cases hin : r∈ps.map (·.1)
  ·obtain ⟨j,o,hj⟩:=hmem hin
   obtain ⟨old,b,q0,k1,k2,k3⟩:=S.reg j r o hj
   have hjl : j < (dR sg.args (mkC nx h.arrs.length sg.outs)).length:=by rw [hP.1];exact (List.getElem?_eq_some_iff.1 hj).1
   rw [od hd2 hj (List.getElem?_eq_getElem hjl) k1] at hr
   rcases hr with hr | hr <;> cases hr
  ·rw [gR hin] at hr
   exact H.rfree r hr
 ·have ha : nth (fh h.arrs (di m.own) ++ mkA nx sg.outs) a=some (.here A):=ha
  rw [eG,gu] at ha
  split at ha
  ·rename_i hal
   rw [IT] at ha
   split at ha
   ·cases ha
   ·rename_i hno
    have hno : a ∉ di m.own:=fun hm=>hno ⟨hm,hal⟩
    refine nA.jF ((H.arr a A ha).cU T2 (fun b i _ ho hm=>?_) hle hgle fun b hb ho=>?_) hagree (eS hu.2.1 ha)
    ·rcases (hM _ _ hm).2 with ⟨r2,g1,g2⟩ | ⟨a2,g1,g2⟩
     ·rw [g2] at ho;exact ho.elim
     ·have:=Ow.AJ ho g2;subst this;exact hno g1
    ·refine mB fun hT=>?_
     obtain ⟨a2,g1,g2⟩:=hTow b hb hT
     have:=Ow.AJ ho g2;subst this;exact hno g1
  ·rename_i hal
   obtain ⟨i,e,K,k1,k2,k3⟩:=tc ha
   subst k2
   have R1:=H1.arr (a - h.arrs.length) ⟨e,K,.var (sg.ins.length + i)⟩ (k3 _)
   have blk : ∀ {oo oo' : Ow} {e : Nat} {K : SK} {ad : Option Addr} {cap : Nat} {rows : List (List CD)},(∀ r,oo≠.reg r)→(∀ k,T k→p1.ow k=oo→q.ow k=oo')→(g1.Le g'∨dU Kd.E8 K.kd=false)→rF ⟨w,Mof sg.h0 pc,gc,pc.reg⟩ p1 g1 oo e K ad cap rows w'→rF B q g' oo' e K ad cap rows w':=fun {oo oo' e K ad cap rows} hoo hqo hgor hb=>by
    obtain ⟨e3,e4,e5,e6,e7,e8⟩:=hb
    refine ⟨e3,e4,e5,e6,e7,fun hc=>?_⟩
    obtain ⟨b,cur,f1,f2,f3,f4,f5,f6⟩:=e8 hc
    have hpos : 0 < cur.size:=by rw [f4];exact Nat.mul_pos hc e6
    have hT : T b:=hown b 0 (f5 0 hpos) fun r hr=>by rw [f2] at hr;exact hoo r hr
    refine ⟨b,cur,f1,hqo b hT f2,f3,f4,fun i' hi'=>?_,fun i' row hi'=>?_⟩
    ·rcases hT with hT | ⟨a2,A2,c2,g1,g2,g3,g4⟩ | ⟨a2,A2,i1,j1,g1,g2,g3,g4⟩
     ·have:=H.fr.size
      exact .inr (by omega)
     ·obtain ⟨ad2,cap2,rows2,n1,n2,n3,n4,n5,n6,n7,n8⟩:=(H.arr a2 A2 g2).ex
      rw [g3] at n1;cases n1
      obtain ⟨b2,cur2,m1,m2,m3,m4,m5,m6⟩:=n8 g4
      cases m1
      refine m5 i' ?_
      obtain ⟨o',x1,x2⟩:=H1.fr.obj b _ m3
      rw [f3] at x1;cases x1
      obtain ⟨c',x3,x4,_⟩:=x2
      cases x3
      rw [← x4];exact hi'
     ·refine g4 i' ?_
      obtain ⟨ob,hob⟩:=fW (H.nz b a2 (by rw [g3];rfl))
      obtain ⟨o',x1,x2⟩:=H1.fr.obj b _ hob
      rw [f3] at x1;cases x1
      cases ob with
      | cells c0 e0 f0 =>
       obtain ⟨c',x3,x4,_⟩:=x2
       cases x3
       have x4 : cur.size=c0.size:=x4
       have : i' < c0.size:=by omega
       simp [World.cell?,hob,this]
      | _=>simp only [fE] at x2;cases x2
    ·rcases hgor with hg | hg
     ·exact aJ.mono hg _ _ _ _ (fun _ _ hv=>hv) (f6 i' row hi')
     ·exact aJ.flat hg (f6 i' row hi')
   have hqa : q.arr a=p1.arr (a - h.arrs.length):=qz (by omega)
   have hxe : (X.var (nx + i)).den E'=(X.var (sg.ins.length + i)).den E1:=by
    simp only [X.den]
    rw [show E' (nx + i)=outs.getD i .u from jh,show E1 (sg.ins.length + i)=outs.getD i .u from jh]
   refine ⟨?_,fun j' e' b c rows n1 n2 n3 i' row v n4 n5=>?_⟩
   ·obtain ⟨ad,cap,rows,e1,e2,e3⟩:=R1.ex
    refine ⟨ad,cap,rows,hqa.trans e1,hxe.trans e2,blk (fun r hr=>by cases hr) (fun k hT hk=>?_) ?_ e3⟩
    ·rw [show q.ow k=_ from Cg hT hk,show h.arrs.length + (a - h.arrs.length)=a from by omega]
    ·rcases hgor with hg | hg
     ·exact .inl hg
     ·refine .inr ?_
      have:=tZ hg k1
      simpa [PK.B8] using this
   ·have n3' : (X.var (sg.ins.length + i)).den E1=.l rows:=hxe.symm.trans n3
    have hN:=R1.ns j' e' b c rows n1 (hqa.symm.trans n2) n3' i' row v n4 n5
    cases hd : row.getD j' .u with
    | l r=>trivial
    | o r =>
     rw [hd] at hN
     obtain ⟨ad,cap,m1,m2⟩:=hN
     refine ⟨ad,cap,m1,blk (fun r hr=>by cases hr) (fun k hT hk=>?_) (.inr rfl) m2⟩
     rw [show q.ow k=_ from Cf hT hk,show h.arrs.length + (a - h.arrs.length)=a from by omega]
    | h s n =>
     exfalso
     obtain ⟨d,d1,d2⟩:=Da (i:=i) (k:=.sl K.by_ K.kd) hoks (by
      show (sg.outs.map PK.kd)[i]?=_
      rw [List.getElem?_map,← aW,k1];rfl)
     have : d=.l rows:=by
      rw [← n3]
      simp only [X.den]
      rw [jh,List.getD_eq_getElem?_getD,d1];rfl
     have:=d2.2 rows this j' e' n1 row (List.mem_of_getElem? n4)
     rw [hd] at this;cases this
    | _=>rw [hd] at hN;exact hN.elim
 ·have ha : nth (fh h.arrs (di m.own) ++ mkA nx sg.outs) a=none∨nth (fh h.arrs (di m.own) ++ mkA nx sg.outs) a=some .fr:=ha
  rw [eG,gu] at ha
  split at ha
  ·rename_i hal
   rw [show q.arr a=_ from vm hal]
   rw [IT] at ha
   split at ha
   ·rcases ha with ha | ha <;> cases ha
   ·exact H.afree a ha
  ·rename_i hal
   rw [show q.arr a=_ from qz hal]
   refine H1.afree _ (.inl ?_)
   rcases ha with ha | ha
   ·show nth (mkA sg.ins.length sg.outs) (a - h.arrs.length)=none
    rw [aW,List.getElem?_eq_none_iff,k9] at ha ⊢
    exact ha
   ·obtain ⟨A,e⟩:=td ha
    cases e
 ·rcases Ce hk with ⟨a',h⟩ | h
  ·exact H1.nz k a' h
  ·exact Nat.lt_of_lt_of_le (H.nz k a h) H1.fr.size
 ·have hd:=(hconv.drop sg.nP)
  exact Bw (qs (fun _ _ h=>h) hd) hv
 ·simp only [Sig.quiet,Bool.and_eq_true,Bool.not_eq_true'] at hq
  have hps : ps=[]:=List.length_eq_zero_iff.1 (by rw [← S.regs];show (dv sg.args (mkC 0 0 sg.ins)).length=0;rw [nm hq.1];rfl)
  have hmo : m.own=[]:=List.length_eq_zero_iff.1 (by rw [S.own];exact ye hq.2)
  have hsn : di m.own=[]:=by rw [hmo];rfl
  have hno : ∀ k i,¬ Mof sg.h0 pc k i:=fun k i hk=>by
   rcases S.mof k i hk with ⟨j,r,o,old,b,q0,cs,h1,_⟩ | ⟨a,A,c,h1,_⟩ | ⟨a,A,i1,j1,h1,_⟩
   ·rw [hps] at h1;simp at h1
   ·rw [hsn] at h1;cases h1
   ·rw [hsn] at h1;cases h1
  refine ⟨fun k i hk _=>T2.cell hk fun hm=>hno _ _ hm.1,fun k i hk hkn=>?_⟩
  have hT : ¬ T k:=fun ht=>by
   rcases ht with ht | ⟨a,A,c,h1,_⟩ | ⟨a,A,i1,j1,h1,_⟩
   ·omega
   ·rw [hsn] at h1;cases h1
   ·rw [hsn] at h1;cases h1
  rcases hkn with hkn | ⟨r,cs,b,q0,h1,h2,h3⟩ | ⟨a,A,b,c,h1,h2,h3,h4⟩
  ·exact .inl ((mB hT).trans hkn)
  ·refine .inr (.inl ⟨r,cs,b,q0,?_,h2,h3⟩)
   show nth (dq h.regs ps _) r=_
   rw [hps];simpa [dq] using h1
  ·refine .inr (.inr ⟨a,A,b,c,?_,hle.arr _ _ h2,h3,?_⟩)
   ·show nth (fh h.arrs (di m.own) ++ _) a=_
    rw [hsn,eG,if_pos (by rw [gu];exact cn h1)]
    exact h1
   ·rw [← X.dM hagree (eS hu.2.1 h1)];exact h4
end
end Go.Sy

namespace Go.Sy
open Go.RowKit
section
variable {P : Program} {Z : Cx} {Γ : Gam} {B : cT} {Q : List CD→Prop} {E : Env} {J : JJ} {p : Pl} {g : Gm} {s : St} {a : Act} {as : List Act} {w : World}
theorem aE.wq {n : Nat} {F : Env} {l : List (List SR)} {m : List Act} (h : aE (cA E p g) l m) (hE : E.bW n F) (hu : dD (dD (SR.under n)) l=true) : aE (cA F p g) l m :=
 h.imp fun t ht _ hb=>hb.jF hE (dZ hu t ht)
theorem yj {C : CT} (hC : ∀ f sg,C.get f=some sg→∃ ct,Γ f=some ct∧ct.sig=sg∧cB P f ct) {f : Nat} {sg : Sig} (hsg : C.get f=some sg) {dst : Option Nat} {args : List SR} {again next : St→Tree} (R : Rep B E p g s a as w)
  (hd : (D6 s dst f sg args again next).den Γ Q E J) {vals : List Value} (hv : aE (SR.is E p g) args vals) :
  (∃ s' q g',p.Le q∧g.Le g'∧Rep B E q g' s' a as w∧rO E p s.h q s'.h w.heap.size∧s'.nx=s.nx∧s'.fn=s.fn∧(again s').den Γ Q E J) ∨
  (Bp P f∧Calls P f vals.toArray w fun e w'=>∃ v,e=.returned v∧∃ s' E' q g',E.bW s.nx E'∧s.nx≤s'.nx∧p.Le q∧g.Le g'∧(next s').den Γ Q E' J∧Rep B E' q g' s' (a.put dst v) as w'∧w.heap.size≤w'.heap.size ∧
   (sg.quiet=true→bj E p s.h w w'∧mU E p s.h E' q s'.h w.heap.size)):=by
 unfold D6 at hd
 split at hd
 ·exact hd.elim
 ·rename_i cs ps hf
  split at hd
  ·rename_i b hb
   exact .inl (ia R hd)
  ·rename_i hb
   split at hd
   ·exact hd.elim
   ·rename_i m hm
    split at hd
    ·rename_i hcond
     simp only [Bool.and_eq_true,Bool.not_eq_true'] at hcond
     obtain ⟨⟨c1,c2⟩,c3,c4⟩:=hcond
     obtain ⟨hn,hd⟩:=cC R.known hd
     obtain ⟨ct,k1,k2,k3⟩:=hd
     obtain ⟨ct',k4,k5,k6⟩:=hC f sg hsg
     rw [k1] at k4
     cases k4
     subst k5
     have hl : ∀ a∈m.G4,a ∉ di m.own:=fun a ha=>by
      obtain ⟨i,hi⟩:=List.getElem?_of_mem ha
      exact tf.1 (tZ (f:=fun a=>rI a (di m.own)) c2 ((aW _ _).trans hi))
     obtain ⟨Ec,pc,gc,S⟩:=FP R.mem hf hv hm hn c1 hl c3
     simp only [St.fine,Bool.and_eq_true] at c4
     obtain ⟨u1,u2,u3,u4⟩:=c4
     have hfz : ct.sig.nM=true→m.G4=[]:=fun hz=>by
      rw [if_pos hz] at hb
      exact qh hm hb
     right
     refine ⟨k6.1,Calls.mono (k6.2 w gc pc Ec vals S.mem S.args (by rw [S.ec];exact S.oks) (by rw [S.ec];exact k2)) fun e w' he=>?_⟩
     obtain ⟨outs,p1,g1,v,rfl,o1,o2,o3,o4,o5⟩:=he
     rw [S.ec] at o2
     obtain ⟨q,g',e1,e2,e3,e4,e5⟩:=D5 R.mem S c3 hfz u3 o1 o3 o4
     have hag : E.bW s.nx (E.put s.nx outs):=Env.m7 _ _ _
     refine ⟨v,rfl,_,E.put s.nx outs,q,g',hag,Nat.le_add_right s.nx ct.sig.outs.length,e1,e2,k3 outs o1 o2,⟨e3,?_,?_,fun b hb=>?_,fun i x h=>e1.reg i x (R.fa i x h)⟩,?_,e5⟩
     ·exact ((R.frame.le e1 e2).jF hag u1).put (e4 v o5)
     ·exact (R.stk.mono fun _ _ h=>h.le e1 e2).wq hag u2
     ·rw [← X.dM hag (dZ u4 b hb)];exact R.known b hb
     ·exact o4.fr.size
    ·exact hd.elim
end
end Go.Sy
