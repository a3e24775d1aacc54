import Derived.Test.YtpmamacjepcdmaaCStory
namespace Go.Proofs.Ytpmamacjepcdmaa
open Go Go.Sy Go.RowKit
set_option linter.unusedSimpArgs false
set_option linter.unusedVariables false
def Hc (w : Wrd) (x : Pik) : Wrd:=if (doW w x).2=0 then (doW w x).1.G4 else w
def Hj (w : Wrd) : Int:=(qw w).2
abbrev Mom:=List cI × Int
def Hl (w : Wrd) : Mom:=((qw w).1,w.m.now)
def Il : List Pik→Wrd→List Mom→List Mom × Int
 | [],_,acc=>(acc,0)
 | x :: l,w,acc=>if Hj (Hc w x)≠0 then ([],Hj (Hc w x)) else Il l (Hc w x) (acc ++ [Hl (Hc w x)])
def Hu (w : Wrd) (l : List Pik) : List Mom × Int:=if Hj w≠0 then ([],Hj w) else Il l w [Hl w]
def KY (m : Mom) : List CD:=[eM m.1,.i m.2]
def Ix (l : List Mom) : CD:=.l (l.map KY)
theorem Ju (l : List Mom) : (Ix l).rows.length=l.length:=by simp [Ix]
theorem Ma (l : List Mom) (f : List cI) (n : Int) : CD.l ((Ix l).rows ++ [[eM f,.i n]])=Ix (l ++ [(f,n)]):=by simp [Ix,KY]
theorem JI (w : Wrd) : w.G4.G4=w.G4:=by
 simp only [Wrd.G4,List.map_map];rfl
theorem KG {w : Wrd} (h : w.G4=w) (x : Pik) : (Hc w x).G4=Hc w x:=by
 unfold Hc
 split
 ·exact JI _
 ·exact h
theorem Lg {m : Mem} {ts : List Tsk} (h : ∀ t∈ts,t.own=false) : (Wrd.mk m ts).G4=⟨m,ts⟩:=by
 simp only [Wrd.G4,E4 h]
def s173 : Sig:=⟨[.agg [.fz kS,.fz kI,.fz kI,.fz kI,.int .i64,.fz kT],.one (.fz kQ)],[.one (.own 180 kM),.one (.int .i64)]⟩
def d173 : DC:=⟨s173,fun _=>True,fun l=>[Ix (Hu (Wrd.of l) (l.getD 6 .u).uN).1,.i (Hu (Wrd.of l) (l.getD 6 .u).uN).2]⟩
def l173 : List (Nat × Ct):=[(134,d134.ct),(140,d140.ct)]
noncomputable def z173 : Cx:={ T:=ttA,C:=sigs l173,F:=[(210,Try.f210)],hints:=[⟨173,7,false,[(29,.lt),(9,.own 180 kM)],[(0,0,.fz kS),(0,1,.fz kI),(0,2,.fz kI),(0,3,.fz kI),(0,4,.lt),(0,5,.fz kT)],[],[],0,0,false⟩],sig:=s173}
def t173 : Tree :=
 (.call 134 [.var 0,.var 1,.var 2,.var 3,.var 4,.var 5] 7
 (.ite (.not (.eq (.var 8) (.int 0)))
 (.ret [.nil,.var 8])
 (.loop 9 [.sl 32 [.sl 32 [.int .i64,.int .i64,.int .i64,.int .i64],.int .i64],.int .i64,.sl 48 [.int .i64,.int .i64,.int .i64,.int .i64,.bool,.int .i64],.sl 8 [.int .i64],.sl 8 [.int .i64],.sl 8 [.int .i64],.int .i64,.sl 160 [.bool,.int .i64,.int .i64,.int .i64,.int .i64,.int .i64,.int .i64,.int .i64,.int .i64,.int .i64,.int .i64,.int .i64,.sl 16 [.int .i64,.int .i64],.bool,.int .i64,.sl 8 [.int .i64]]] [.cons (.var 7) (.cons (.var 4) .row0),.int 0,.var 0,.var 1,.var 2,.var 3,.var 4,.var 5]
 (.ite (.lt (.var 11) (.len (.var 6)))
 (.need (.le (.int 0) (.var 11))
 (.call 140 [.var 12,.var 13,.var 14,.var 15,.var 16,.var 17,.cell (.var 6) (.var 11) 0,.cell (.var 6) (.var 11) 1,.cell (.var 6) (.var 11) 2,.cell (.var 6) (.var 11) 3,.cell (.var 6) (.var 11) 4,.cell (.var 6) (.var 11) 5,.cell (.var 6) (.var 11) 6,.cell (.var 6) (.var 11) 7,.cell (.var 6) (.var 11) 8] 18
 (.ite (.eq (.var 24) (.int 0))
 (.need (.clean (.var 23) 15)
 (.call 134 [.var 18,.var 19,.var 20,.var 21,.var 22,.shuts (.var 23) 15] 25
 (.ite (.not (.eq (.var 26) (.int 0)))
 (.ret [.nil,.var 26])
 (.need (.le (.add (.len (.var 10)) (.int 1)) (.int 4398046511104))
 (.need (.fit (.add (.var 11) (.int 1)))
 (.back 9 [.app (.var 10) (.cons (.var 25) (.cons (.var 22) .row0)),.add (.var 11) (.int 1),.var 18,.var 19,.var 20,.var 21,.var 22,.shuts (.var 23) 15]))))))
 (.call 134 [.var 12,.var 13,.var 14,.var 15,.var 16,.var 17] 25
 (.ite (.not (.eq (.var 26) (.int 0)))
 (.ret [.nil,.var 26])
 (.need (.le (.add (.len (.var 10)) (.int 1)) (.int 4398046511104))
 (.need (.fit (.add (.var 11) (.int 1)))
 (.need (.clean (.var 23) 15)
 (.back 9 [.app (.var 10) (.cons (.var 25) (.cons (.var 16) .row0)),.add (.var 11) (.int 1),.var 12,.var 13,.var 14,.var 15,.var 16,.var 17])))))))))
 (.ret [.var 10,.int 0])))))
theorem run173 : run z173 6000 [.code (Try.f173.body.getD .skip),.fin (bt z173 Try.f173.results.toList 50)] { fn:=173,tmps:=z173.sig.aM ++ List.replicate (Try.f173.ntmps - z173.sig.aM.length) (.v (.one .undef)),stk:=[],h:=z173.sig.h0,nx:=z173.sig.ins.length,known:=[]}=t173:=by kernel_rfl
theorem ok173 : cB Try.prog 173 d173.ct:=by
 refine aD (d:=d173) (Z:=z173) (Γ:=gam l173) (fn:=Try.f173) (c:=Try.f173.body.getD .skip) (bg tok mixed (all_cons ok134 (all_cons ok140 all_nil)) (dX (c:=Try.f210.body.getD .skip) Try.func210 (by kernel_rfl) (by kernel_rfl) bh)) Try.func173 (by kernel_rfl) (by kernel_rfl) rfl run173 fun E hk hp=>?_
 obtain ⟨hk0,hk1,hk2,hk3,hk4,hk5,hk6,_⟩:=hk
 obtain ⟨m,e0,e1,e2,e3,e4,b0,b1,b2,b3⟩:=cv (d0:=E 0) (d1:=E 1) (d2:=E 2) (d3:=E 3) (d4:=E 4) hk0 hk1 hk2 hk3 hk4
 obtain ⟨ts,e5,hts,b5⟩:=hU (d:=E 5) hk5
 have b5 : ts.length * 160≤140737488355328:=b5
 obtain ⟨l,e6,b6⟩:=Dc (d:=E 6) hk6
 have b6 : l.length * 64≤140737488355328:=b6
 have el : aH E d173.sig.ins.length=[au m.slots,af m.heads,af m.free,af m.locks,.i m.now,G2 ts,eD l]:=by
  show [E 0,E 1,E 2,E 3,E 4,E 5,E 6]=_
  rw [e0,e1,e2,e3,e4,e5,e6]
 rw [el] at hp
 rw [el]
 rw [Env.bJ el]
 clear el e0 e1 e2 e3 e4 e5 e6
 have hown : ∀ t∈ts,t.own=false:=fun t ht=>(hts t ht).1
 simp only [d173,kr _ _ _ _ _ hown,aA,List.getD_cons_zero,List.getD_cons_succ,oZ]
 obtain ⟨W,hW⟩ : ∃ W : Wrd,(⟨m,ts⟩ : Wrd)=W:=⟨_,rfl⟩
 have hWl : W.G4=W:=by rw [← hW];exact Lg hown
 unfold Hu
 unfold t173
 refine ai d134 [eM (qw W).1,.i (Hj W)] rfl trivial (by simp only [nrm,xdn,reduceIte,Nat.reduceLT,Nat.reduceSub,Nat.reduceAdd,d134,kr _ _ _ _ _ hown,aA,hW];rfl) (G0 (fun h=>aj ?_) (fun h=>?_))
 ·simp only [nrm,xdn,reduceIte,Nat.reduceLT,Nat.reduceSub,Nat.reduceAdd] at h ⊢
  rw [hW,if_pos (by simpa using h)];rfl
 simp only [nrm,xdn,reduceIte,Nat.reduceLT,Nat.reduceSub,Nat.reduceAdd] at h
 rw [hW,if_neg (by simpa using h)]
 refine bO (fun ds=>∃ (i : Nat) (w : Wrd) (acc : List Mom),ds=[Ix acc,.i i,au w.m.slots,af w.m.heads,af w.m.free,af w.m.locks,.i w.m.now,G2 w.ts]∧w.G4=w∧i≤l.length∧acc.length=i + 1∧Il l W [Hl W]=Il (l.drop i) w acc) (fun ds=>l.length - (ds.getD 1 .u).int.toNat) ⟨0,W,[Hl W],?_,hWl,by omega,rfl,rfl⟩ ?_
 ·simp only [nrm,xdn,reduceIte,Nat.reduceLT,Nat.reduceSub,Nat.reduceAdd,CD.row,List.headD_cons]
  subst hW;rfl
 rintro ds - ⟨i,w,acc,rfl,I1,I2,I3,I4⟩
 refine G0 (fun hlt=>?_) (fun hge=>aj ?_)
 rotate_left
 ·simp only [nrm,xdn,reduceIte,Nat.reduceLT,Nat.reduceSub,Nat.reduceAdd,nc] at hge ⊢
  rw [I4,List.drop_eq_nil_of_le (by omega)];rfl
 simp only [nrm,xdn,reduceIte,Nat.reduceLT,Nat.reduceSub,Nat.reduceAdd,nc] at hlt
 obtain ⟨x,hx⟩ : ∃ x,l.getD i default=x:=⟨_,rfl⟩
 have hcell : ∀ o,((eD l).rows.getD i []).getD o .u=x.row.getD o .u:=fun o=>by rw [← hx];exact dh Pik.row l i o (by omega)
 have c0 : ((eD l).rows.getD i []).getD 0 .u=.i x.task:=hcell 0
 have c1 : ((eD l).rows.getD i []).getD 1 .u=.b x.step:=hcell 1
 have c2 : ((eD l).rows.getD i []).getD 2 .u=.b x.tick:=hcell 2
 have c3 : ((eD l).rows.getD i []).getD 3 .u=.i x.c.kind:=hcell 3
 have c4 : ((eD l).rows.getD i []).getD 4 .u=.i x.c.k.a:=hcell 4
 have c5 : ((eD l).rows.getD i []).getD 5 .u=.i x.c.k.b:=hcell 5
 have c6 : ((eD l).rows.getD i []).getD 6 .u=.i x.c.time:=hcell 6
 have c7 : ((eD l).rows.getD i []).getD 7 .u=.i x.c.bucket:=hcell 7
 have c8 : ((eD l).rows.getD i []).getD 8 .u=.i x.c.slot:=hcell 8
 rw [dL (show i < l.length by omega),hx] at I4
 obtain ⟨v,hv⟩ : ∃ v,doW w x=v:=⟨_,rfl⟩
 have I4 : Il l W [Hl W]=if Hj (Hc w x)≠0 then ([],Hj (Hc w x)) else Il (l.drop (i + 1)) (Hc w x) (acc ++ [Hl (Hc w x)]):=I4
 have hn:=KG I1 x
 refine ag (by simp only [nrm,xdn,reduceIte,Nat.reduceLT,Nat.reduceSub,Nat.reduceAdd];omega) (ai d140 [au v.1.m.slots,af v.1.m.heads,af v.1.m.free,af v.1.m.locks,.i v.1.m.now,az v.1.ts,.i v.2] rfl trivial ?_ (G0 (fun h1=>?_) (fun h1=>?_)))
 ·simp only [nrm,xdn,reduceIte,Nat.reduceLT,Nat.reduceSub,Nat.reduceAdd,Int.toNat_natCast,c0,c1,c2,c3,c4,c5,c6,c7,c8,d140,fY,aA,List.drop_succ_cons,List.drop_zero,oe,cz]
  rw [show Wrd.G4 ⟨w.m,w.ts⟩=w from I1,hv];rfl
 ·simp only [nrm,xdn,reduceIte,Nat.reduceLT,Nat.reduceSub,Nat.reduceAdd] at h1
  have h1 : v.2=0:=by simpa using h1
  have hN : Hc w x=v.1.G4:=by unfold Hc;rw [hv,if_pos h1]
  obtain ⟨F,hF⟩ : ∃ F,qw v.1.G4=F:=⟨_,rfl⟩
  have hf1 : qw (Wrd.G4 ⟨v.1.m,v.1.ts⟩)=F:=hF
  have hE : Hj (Hc w x)=F.2:=by rw [hN,← hF];rfl
  have hM : Hl (Hc w x)=(F.1,v.1.m.now):=by rw [hN,← hF];rfl
  refine ag (by simp only [nrm,xdn,reduceIte,Nat.reduceLT,Nat.reduceSub,Nat.reduceAdd];exact aI _) ?_
  refine ai d134 [eM F.1,.i F.2] rfl trivial ?_ (G0 (fun h2=>aj ?_) (fun h2=>?_))
  ·simp only [nrm,xdn,reduceIte,Nat.reduceLT,Nat.reduceSub,Nat.reduceAdd,cg,d134,fY,aA,hf1]
  ·simp only [nrm,xdn,reduceIte,Nat.reduceLT,Nat.reduceSub,Nat.reduceAdd] at h2 ⊢
   have h2 : F.2≠0:=by simpa using h2
   rw [hE,if_pos h2] at I4
   rw [I4];rfl
  simp only [nrm,xdn,reduceIte,Nat.reduceLT,Nat.reduceSub,Nat.reduceAdd] at h2
  have h2 : F.2=0:=by simpa using h2
  rw [hE,if_neg (fun y=>y h2),hM] at I4
  refine ag (by simp only [nrm,xdn,reduceIte,Nat.reduceLT,Nat.reduceSub,Nat.reduceAdd,Ju];omega) (G1 (by simp only [nrm,xdn,reduceIte,Nat.reduceLT,Nat.reduceSub,Nat.reduceAdd];omega) (aV ⟨⟨i + 1,Hc w x,acc ++ [(F.1,v.1.m.now)],?_,hn,by omega,by simp [I3],I4⟩,?_⟩))
  ·simp only [nrm,xdn,reduceIte,Nat.reduceLT,Nat.reduceSub,Nat.reduceAdd,cg,CD.row,List.headD_cons,Ma,hN]
   rw [show G2 v.1.ts=G2 v.1.G4.ts from (ju v.1.ts).trans ((ju v.1.G4.ts).trans (congrArg az (congrArg Wrd.ts (JI v.1)))).symm]
   rfl
  ·simp only [nrm,xdn,reduceIte,Nat.reduceLT,Nat.reduceSub,Nat.reduceAdd];omega
 ·simp only [nrm,xdn,reduceIte,Nat.reduceLT,Nat.reduceSub,Nat.reduceAdd] at h1
  have h1 : ¬ v.2=0:=by simpa using h1
  have hN : Hc w x=w:=by unfold Hc;rw [hv,if_neg h1]
  obtain ⟨F,hF⟩ : ∃ F,qw w=F:=⟨_,rfl⟩
  have hf1 : qw (Wrd.G4 ⟨w.m,w.ts⟩)=F:=by rw [← hF];exact congrArg qw I1
  have hE : Hj (Hc w x)=F.2:=by rw [hN,← hF];rfl
  have hM : Hl (Hc w x)=(F.1,w.m.now):=by rw [hN,← hF];rfl
  refine ai d134 [eM F.1,.i F.2] rfl trivial ?_ (G0 (fun h2=>aj ?_) (fun h2=>?_))
  ·simp only [nrm,xdn,reduceIte,Nat.reduceLT,Nat.reduceSub,Nat.reduceAdd,cg,d134,fY,aA,hf1]
  ·simp only [nrm,xdn,reduceIte,Nat.reduceLT,Nat.reduceSub,Nat.reduceAdd] at h2 ⊢
   have h2 : F.2≠0:=by simpa using h2
   rw [hE,if_pos h2] at I4
   rw [I4];rfl
  simp only [nrm,xdn,reduceIte,Nat.reduceLT,Nat.reduceSub,Nat.reduceAdd] at h2
  have h2 : F.2=0:=by simpa using h2
  rw [hE,if_neg (fun y=>y h2),hM] at I4
  refine ag (by simp only [nrm,xdn,reduceIte,Nat.reduceLT,Nat.reduceSub,Nat.reduceAdd,Ju];omega) (G1 (by simp only [nrm,xdn,reduceIte,Nat.reduceLT,Nat.reduceSub,Nat.reduceAdd];omega) (ag (by simp only [nrm,xdn,reduceIte,Nat.reduceLT,Nat.reduceSub,Nat.reduceAdd];exact aI _) (aV ⟨⟨i + 1,Hc w x,acc ++ [(F.1,w.m.now)],?_,hn,by omega,by simp [I3],I4⟩,?_⟩)))
  ·simp only [nrm,xdn,reduceIte,Nat.reduceLT,Nat.reduceSub,Nat.reduceAdd,CD.row,List.headD_cons,Ma,hN]
   rfl
  ·simp only [nrm,xdn,reduceIte,Nat.reduceLT,Nat.reduceSub,Nat.reduceAdd];omega
end Go.Proofs.Ytpmamacjepcdmaa

namespace Go.Proofs.Ytpmamacjepcdmaa
open Go Go.Sy Go.RowKit
set_option linter.unusedSimpArgs false
set_option linter.unusedVariables false
def JD (p : Pst) (M : List Mom) (j : Nat) : Bool:=HR p (findF (M.getD j default).1 p.c.k) (findF (M.getD (j + 1) default).1 p.c.k) (M.getD j default).2 (M.getD (j + 1) default).2
def Iu (p : Pst) (M : List Mom) : Nat→Nat→Option Nat
 | _,0=>none
 | j,n + 1=>if JD p M j=true then some j else Iu p M (j + 1) n
def LK : Option Nat→Int × Int
 | some j=>(j,0)
 | none=>(0,5)
def MG (w : Wrd) (l : List Pik) (p : Pst) : Int × Int :=
 if (Hu w (l.take (p.to + 1).toNat)).2≠0 then (0,(Hu w (l.take (p.to + 1).toNat)).2) else LK (Iu p (Hu w (l.take (p.to + 1).toNat)).1 p.fr.toNat (p.to + 1 - p.fr).toNat)
def Jh (w : Wrd) (l : List Pik) (p : Pst) : Int × Int :=
 if bL w≠0 then (0,bL w) else if 300 < l.length then (0,2) else if p.fr < 0∨p.to < p.fr∨l.length≤p.to then (0,3) else MG w l p
theorem Kh : ∀ {l : List Pik} {w : Wrd} {acc M : List Mom},Il l w acc=(M,0)→M.length=acc.length + l.length∧∀ j,j < acc.length→M.getD j default=acc.getD j default
 | [],w,acc,M,h=>by
  have h : acc=M:=(Prod.mk.inj h).1
  subst h
  exact ⟨by simp,fun _ _=>rfl⟩
 | x :: l,w,acc,M,h=>by
  have h : (if Hj (Hc w x)≠0 then ([],Hj (Hc w x)) else Il l (Hc w x) (acc ++ [Hl (Hc w x)]))=(M,0):=h
  split at h
  ·rename_i h1;exact absurd (Prod.mk.inj h).2 h1
  ·obtain ⟨k1,k2⟩:=Kh h
   simp only [List.length_append,List.length_cons,List.length_nil] at k1 k2
   refine ⟨by simp only [List.length_cons];omega,fun j hj=>?_⟩
   rw [k2 j (by omega),List.getD_eq_getElem?_getD,List.getElem?_append_left hj,← List.getD_eq_getElem?_getD]
theorem Lj {w : Wrd} {l : List Pik} (h : (Hu w l).2=0) : (Hu w l).1.length=l.length + 1:=by
 unfold Hu at h ⊢
 split at h
 ·rename_i h1;exact absurd h h1
 ·rename_i h1
  rw [if_neg h1]
  have:=(Kh (M:=(Il l w [Hl w]).1) (Prod.ext rfl h)).1
  simp only [List.length_cons,List.length_nil] at this
  omega
theorem Ja (n : Nat) (l : List Pik) : CD.l ((eD l).rows.take n)=eD (l.take n):=by simp [eD,List.map_take]
def s81 : Sig:=⟨[.agg [.fz kS,.fz kI,.fz kI,.fz kI,.int .i64,.fz kT],.one (.fz kQ),.agg [.int .i64,.int .i64,.int .i64,.int .i64,.int .i64,.int .i64,.int .i64,.int .i64,.int .i64,.int .i64,.int .i64,.int .i64,.fz kK]],[.one (.int .i64),.one (.int .i64)]⟩
def d81 : DC:=⟨s81,fun _=>True,fun l=>[.i (Jh (Wrd.of l) (l.getD 6 .u).uN (Pst.of (l.drop 7))).1,.i (Jh (Wrd.of l) (l.getD 6 .u).uN (Pst.of (l.drop 7))).2]⟩
def l81 : List (Nat × Ct):=[(157,d157.ct),(173,d173.ct),(174,d174.ct)]
def z81 : Cx:={ T:=ttA,C:=sigs l81,F:=[],hints:=[⟨81,12,false,[(11,.lt)],[],[],[],0,0,false⟩],sig:=s81}
def t81 : Tree :=
 (.call 157 [.var 0,.var 1,.var 2,.var 3,.var 4,.var 5] 20
 (.ite (.not (.eq (.var 20) (.int 0)))
 (.ret [.int 0,.var 20])
 (.ite (.lt (.int 300) (.len (.var 6)))
 (.ret [.int 0,.int 2])
 (.ite (.lt (.var 14) (.int 0))
 (.ret [.int 0,.int 3])
 (.ite (.lt (.var 15) (.var 14))
 (.ret [.int 0,.int 3])
 (.ite (.le (.len (.var 6)) (.var 15))
 (.ret [.int 0,.int 3])
 (.need (.fit (.add (.var 15) (.int 1)))
 (.need (.le (.int 0) (.add (.var 15) (.int 1)))
 (.need (.le (.add (.var 15) (.int 1)) (.len (.var 6)))
 (.call 173 [.var 0,.var 1,.var 2,.var 3,.var 4,.var 5,.take (.add (.var 15) (.int 1)) (.var 6)] 21
 (.ite (.not (.eq (.var 22) (.int 0)))
 (.ret [.int 0,.var 22])
 (.loop 23 [.int .i64] [.var 14]
 (.ite (.le (.var 24) (.var 15))
 (.need (.le (.int 0) (.var 24))
 (.need (.lt (.var 24) (.len (.var 21)))
 (.need (.fit (.add (.var 24) (.int 1)))
 (.need (.le (.int 0) (.add (.var 24) (.int 1)))
 (.need (.lt (.add (.var 24) (.int 1)) (.len (.var 21)))
 (.call 174 [.var 7,.var 8,.var 9,.var 10,.var 11,.var 12,.var 13,.var 14,.var 15,.var 16,.var 17,.var 18,.var 19,.cell (.var 21) (.var 24) 0,.cell (.var 21) (.var 24) 1,.cell (.var 21) (.add (.var 24) (.int 1)) 0,.cell (.var 21) (.add (.var 24) (.int 1)) 1] 25
 (.ite (.var 25)
 (.ret [.var 24,.int 0])
 (.back 23 [.add (.var 24) (.int 1)]))))))))
 (.ret [.int 0,.int 5]))))))))))))))
theorem run81 : run z81 6000 [.code (Try.f81.body.getD .skip),.fin (bt z81 Try.f81.results.toList 50)] { fn:=81,tmps:=z81.sig.aM ++ List.replicate (Try.f81.ntmps - z81.sig.aM.length) (.v (.one .undef)),stk:=[],h:=z81.sig.h0,nx:=z81.sig.ins.length,known:=[]}=t81:=by kernel_rfl
theorem ok81 : cB Try.prog 81 d81.ct:=by
 refine aD (d:=d81) (Z:=z81) (Γ:=gam l81) (fn:=Try.f81) (c:=Try.f81.body.getD .skip) (bg tok mixed (all_cons ok157 (all_cons ok173 (all_cons ok174 all_nil))) bh) Try.func81 (by kernel_rfl) (by kernel_rfl) rfl run81 fun E hk hp=>?_
 obtain ⟨hk0,hk1,hk2,hk3,hk4,hk5,hk6,hk7,hk8,hk9,hk10,hk11,hk12,hk13,hk14,hk15,hk16,hk17,hk18,hk19,_⟩:=hk
 obtain ⟨m,e0,e1,e2,e3,e4,b0,b1,b2,b3⟩:=cv (d0:=E 0) (d1:=E 1) (d2:=E 2) (d3:=E 3) (d4:=E 4) hk0 hk1 hk2 hk3 hk4
 obtain ⟨ts,e5,hts,b5⟩:=hU (d:=E 5) hk5
 have b5 : ts.length * 160≤140737488355328:=b5
 obtain ⟨l,e6,b6⟩:=Dc (d:=E 6) hk6
 have b6 : l.length * 64≤140737488355328:=b6
 obtain ⟨p,e7,e8,e9,e10,e11,e12,e13,e14,e15,e16,e17,e18,e19,b19⟩:=Jr (d0:=E 7) (d1:=E 8) (d2:=E 9) (d3:=E 10) (d4:=E 11) (d5:=E 12) (d6:=E 13) (d7:=E 14) (d8:=E 15) (d9:=E 16) (d10:=E 17) (d11:=E 18) (d12:=E 19) hk7 hk8 hk9 hk10 hk11 hk12 hk13 hk14 hk15 hk16 hk17 hk18 hk19
 have el : aH E d81.sig.ins.length=[au m.slots,af m.heads,af m.free,af m.locks,.i m.now,G2 ts,eD l,.i p.task,.i p.c.kind,.i p.c.k.a,.i p.c.k.b,.i p.c.time,.i p.c.bucket,.i p.c.slot,.i p.fr,.i p.to,.i p.e,.i p.slot,.i p.n,bS p.keys]:=by
  show [E 0,E 1,E 2,E 3,E 4,E 5,E 6,E 7,E 8,E 9,E 10,E 11,E 12,E 13,E 14,E 15,E 16,E 17,E 18,E 19]=_
  rw [e0,e1,e2,e3,e4,e5,e6,e7,e8,e9,e10,e11,e12,e13,e14,e15,e16,e17,e18,e19]
 rw [el] at hp
 rw [el]
 rw [Env.bJ el]
 clear el e0 e1 e2 e3 e4 e5 e6 e7 e8 e9 e10 e11 e12 e13 e14 e15 e16 e17 e18 e19
 have hown : ∀ t∈ts,t.own=false:=fun t ht=>(hts t ht).1
 simp only [d81,kr _ _ _ _ _ hown,aA,List.getD_cons_zero,List.getD_cons_succ,oZ,List.drop_succ_cons,List.drop_zero,HT]
 obtain ⟨W,hW⟩ : ∃ W : Wrd,(⟨m,ts⟩ : Wrd)=W:=⟨_,rfl⟩
 rw [hW]
 unfold Jh
 unfold t81
 refine ai d157 [.i (bL W)] rfl trivial (by simp only [nrm,xdn,reduceIte,Nat.reduceLT,Nat.reduceSub,Nat.reduceAdd,d157,kr _ _ _ _ _ hown,aA,hW]) (G0 (fun h=>aj ?_) (fun h=>?_))
 ·simp only [nrm,xdn,reduceIte,Nat.reduceLT,Nat.reduceSub,Nat.reduceAdd] at h ⊢
  rw [if_pos (by simpa using h)]
 simp only [nrm,xdn,reduceIte,Nat.reduceLT,Nat.reduceSub,Nat.reduceAdd] at h
 rw [if_neg (by simpa using h)]
 refine G0 (fun h=>aj ?_) (fun h=>?_)
 ·simp only [nrm,xdn,reduceIte,Nat.reduceLT,Nat.reduceSub,Nat.reduceAdd,nc] at h ⊢
  rw [if_pos (by omega)]
 simp only [nrm,xdn,reduceIte,Nat.reduceLT,Nat.reduceSub,Nat.reduceAdd,nc] at h
 rw [if_neg (by omega)]
 refine G0 (fun h1=>aj ?_) (fun h1=>G0 (fun h2=>aj ?_) (fun h2=>G0 (fun h3=>aj ?_) (fun h3=>?_)))
 ·simp only [nrm,xdn,reduceIte,Nat.reduceLT,Nat.reduceSub,Nat.reduceAdd] at h1 ⊢
  rw [if_pos (by omega)]
 ·simp only [nrm,xdn,reduceIte,Nat.reduceLT,Nat.reduceSub,Nat.reduceAdd] at h2 ⊢
  rw [if_pos (by omega)]
 ·simp only [nrm,xdn,reduceIte,Nat.reduceLT,Nat.reduceSub,Nat.reduceAdd,nc] at h3 ⊢
  rw [if_pos (by omega)]
 simp only [nrm,xdn,reduceIte,Nat.reduceLT,Nat.reduceSub,Nat.reduceAdd,nc] at h1 h2 h3
 rw [if_neg (by omega)]
 unfold MG
 obtain ⟨n,hn⟩ : ∃ n : Nat,p.to + 1=n:=⟨(p.to + 1).toNat,by omega⟩
 obtain ⟨fr,hfr⟩ : ∃ fr : Nat,p.fr=fr:=⟨p.fr.toNat,by omega⟩
 obtain ⟨R,hR⟩ : ∃ R,Hu W (l.take n)=R:=⟨_,rfl⟩
 rw [hn,Int.toNat_natCast,hR]
 refine G1 (by simp only [nrm,xdn,reduceIte,Nat.reduceLT,Nat.reduceSub,Nat.reduceAdd];omega) (ag (by simp only [nrm,xdn,reduceIte,Nat.reduceLT,Nat.reduceSub,Nat.reduceAdd];omega) (ag (by simp only [nrm,xdn,reduceIte,Nat.reduceLT,Nat.reduceSub,Nat.reduceAdd,nc];omega) ?_))
 refine ai d173 [Ix R.1,.i R.2] rfl trivial (by simp only [nrm,xdn,reduceIte,Nat.reduceLT,Nat.reduceSub,Nat.reduceAdd,hn,Int.toNat_natCast,Ja,d173,kr _ _ _ _ _ hown,aA,hW,oZ,hR]) (G0 (fun h4=>aj ?_) (fun h4=>?_))
 ·simp only [nrm,xdn,reduceIte,Nat.reduceLT,Nat.reduceSub,Nat.reduceAdd] at h4 ⊢
  rw [if_pos (by simpa using h4)]
 simp only [nrm,xdn,reduceIte,Nat.reduceLT,Nat.reduceSub,Nat.reduceAdd] at h4
 have h4 : R.2=0:=by simpa using h4
 rw [if_neg (fun y=>y h4)]
 have hlen : R.1.length=n + 1:=by
  have:=Lj (w:=W) (l:=l.take n) (by rw [hR];exact h4)
  rw [hR,List.length_take] at this
  omega
 refine bO (fun ds=>∃ i : Nat,ds=[.i i]∧fr≤i∧i≤n∧Iu p R.1 p.fr.toNat (n - p.fr).toNat=Iu p R.1 i (n - i)) (fun ds=>n - (ds.getD 0 .u).int.toNat) ⟨fr,?_,Nat.le_refl _,by omega,?_⟩ ?_
 ·simp only [nrm,xdn,reduceIte,Nat.reduceLT,Nat.reduceSub,Nat.reduceAdd,hfr]
 ·rw [hfr,Int.toNat_natCast,show ((n : Int) - fr).toNat=n - fr by omega]
 rintro ds - ⟨i,rfl,hi0,hi,he⟩
 refine G0 (fun h5=>?_) (fun h5=>aj ?_)
 rotate_left
 ·simp only [nrm,xdn,reduceIte,Nat.reduceLT,Nat.reduceSub,Nat.reduceAdd] at h5 ⊢
  rw [he,show n - i=0 by omega];rfl
 simp only [nrm,xdn,reduceIte,Nat.reduceLT,Nat.reduceSub,Nat.reduceAdd] at h5
 have h5 : i < n:=by omega
 have he : Iu p R.1 p.fr.toNat (n - p.fr).toNat=if JD p R.1 i=true then some i else Iu p R.1 (i + 1) (n - (i + 1)):=by
  rw [he,show n - i=(n - (i + 1)) + 1 by omega];rfl
 have hi1 : ((i : Int) + 1).toNat=i + 1:=by omega
 have g : ∀ j o,j < R.1.length→((Ix R.1).rows.getD j []).getD o .u=(KY (R.1.getD j default)).getD o .u:=fun j o hj=>dh KY R.1 j o hj
 have a0 : ((Ix R.1).rows.getD i []).getD 0 .u=eM (R.1.getD i default).1:=g i 0 (by omega)
 have a1 : ((Ix R.1).rows.getD i []).getD 1 .u=.i (R.1.getD i default).2:=g i 1 (by omega)
 have b0 : ((Ix R.1).rows.getD (i + 1) []).getD 0 .u=eM (R.1.getD (i + 1) default).1:=g (i + 1) 0 (by omega)
 have b1 : ((Ix R.1).rows.getD (i + 1) []).getD 1 .u=.i (R.1.getD (i + 1) default).2:=g (i + 1) 1 (by omega)
 refine ag (by simp only [nrm,xdn,reduceIte,Nat.reduceLT,Nat.reduceSub,Nat.reduceAdd] <;> omega) (ag (by simp only [nrm,xdn,reduceIte,Nat.reduceLT,Nat.reduceSub,Nat.reduceAdd,Ju] <;> omega) (G1 (by simp only [nrm,xdn,reduceIte,Nat.reduceLT,Nat.reduceSub,Nat.reduceAdd] <;> omega) (ag (by simp only [nrm,xdn,reduceIte,Nat.reduceLT,Nat.reduceSub,Nat.reduceAdd] <;> omega) (ag (by simp only [nrm,xdn,reduceIte,Nat.reduceLT,Nat.reduceSub,Nat.reduceAdd,Ju] <;> omega) ?_))))
 refine ai d174 [.b (JD p R.1 i)] rfl trivial (by simp only [nrm,xdn,reduceIte,Nat.reduceLT,Nat.reduceSub,Nat.reduceAdd,Int.toNat_natCast,hi1,a0,a1,b0,b1,d174,HT,G6];rfl) (G0 (fun h6=>aj ?_) (fun h6=>?_))
 ·simp only [nrm,xdn,reduceIte,Nat.reduceLT,Nat.reduceSub,Nat.reduceAdd] at h6 ⊢
  rw [if_pos h6] at he
  rw [he];rfl
 ·simp only [nrm,xdn,reduceIte,Nat.reduceLT,Nat.reduceSub,Nat.reduceAdd] at h6
  rw [if_neg (by rw [h6];exact Bool.false_ne_true)] at he
  refine aV ⟨⟨i + 1,?_,by omega,by omega,he⟩,?_⟩
  ·simp only [nrm,xdn,reduceIte,Nat.reduceLT,Nat.reduceSub,Nat.reduceAdd];rfl
  ·simp only [nrm,xdn,reduceIte,Nat.reduceLT,Nat.reduceSub,Nat.reduceAdd];omega
def JX (p : Pst) : List Pik→Nat→Wrd→Int→Int × Int
 | [],_,_,found=>if found < 0 then (0,5) else (found,0)
 | x :: l,i,w,found=>if Hj (Hc w x)≠0 then (0,Hj (Hc w x))
  else JX p l (i + 1) (Hc w x) (if found < 0∧p.fr≤i∧HR p (findF (Hl w).1 p.c.k) (findF (Hl (Hc w x)).1 p.c.k) w.m.now (Hc w x).m.now=true then i else found)
def MF (w : Wrd) (l : List Pik) (p : Pst) : Int × Int:=if Hj w≠0 then (0,Hj w) else JX p (l.take (p.to + 1).toNat) 0 w (-1)
theorem KF {w : Wrd} (h : bL w=0) (x : Pik) : doW w x=Iv w x:=by
 unfold doW
 rw [if_neg (fun y=>y h)];rfl
theorem Ih {w : Wrd} : Hj w=if bL w≠0 then bL w else bU w.m:=by
 unfold Hj qw
 split
 ·rfl
 ·unfold jM
  split
  ·rfl
  ·rename_i h;exact (Classical.not_not.1 h).symm
theorem Jx {w : Wrd} (h : Hj w=0) : bL w=0∧bU w.m=0:=by
 rw [Ih] at h
 split at h
 ·rename_i h1;exact absurd h h1
 ·rename_i h1;exact ⟨Classical.not_not.1 h1,h⟩
theorem Jt {w : Wrd} (h : Hj w=0) : Hl w=(aq w.m,w.m.now):=by
 obtain ⟨h1,h2⟩:=Jx h
 unfold Hl qw jM
 rw [if_neg (fun y=>y h1),if_neg (fun y=>y h2)]
def s159 : Sig:=⟨[.agg [.fz kS,.fz kI,.fz kI,.fz kI,.int .i64,.fz kT],.one (.fz kQ),.agg [.int .i64,.int .i64,.int .i64,.int .i64,.int .i64,.int .i64,.int .i64,.int .i64,.int .i64,.int .i64,.int .i64,.int .i64,.fz kK]],[.one (.int .i64),.one (.int .i64)]⟩
def d159 : DC:=⟨s159,fun l=>bL (Wrd.of l)=0∧0≤(Pst.of (l.drop 7)).fr∧(Pst.of (l.drop 7)).fr≤(Pst.of (l.drop 7)).to∧(Pst.of (l.drop 7)).to < (l.getD 6 .u).uN.length,fun l=>[.i (MF (Wrd.of l) (l.getD 6 .u).uN (Pst.of (l.drop 7))).1,.i (MF (Wrd.of l) (l.getD 6 .u).uN (Pst.of (l.drop 7))).2]⟩
def l159 : List (Nat × Ct):=[(72,d72.ct),(158,d158.ct),(141,d141.ct),(76,d76.ct),(204,d204.ct)]
def z159 : Cx:={ T:=ttA,C:=sigs l159,F:=[],hints:=[⟨159,6,false,[(29,.lt),(8,.lt)],[(0,0,.fz kS),(0,1,.fz kI),(0,2,.fz kI),(0,3,.fz kI),(0,4,.lt),(0,5,.fz kT)],[],[],0,0,false⟩],sig:=s159}
def t159 : Tree :=
 (.call 72 [.var 0,.var 1,.var 2,.var 3,.var 4] 20
 (.ite (.not (.eq (.var 20) (.int 0)))
 (.ret [.int 0,.var 20])
 (.need (.fit (.add (.var 15) (.int 1)))
 (.need (.le (.int 0) (.add (.var 15) (.int 1)))
 (.need (.le (.add (.var 15) (.int 1)) (.len (.var 6)))
 (.loop 21 [.int .i64,.int .i64,.sl 48 [.int .i64,.int .i64,.int .i64,.int .i64,.bool,.int .i64],.sl 8 [.int .i64],.sl 8 [.int .i64],.sl 8 [.int .i64],.int .i64,.sl 160 [.bool,.int .i64,.int .i64,.int .i64,.int .i64,.int .i64,.int .i64,.int .i64,.int .i64,.int .i64,.int .i64,.int .i64,.sl 16 [.int .i64,.int .i64],.bool,.int .i64,.sl 8 [.int .i64]]] [.int (-1),.int 0,.var 0,.var 1,.var 2,.var 3,.var 4,.var 5]
 (.ite (.lt (.var 23) (.len (.take (.add (.var 15) (.int 1)) (.var 6))))
 (.need (.le (.int 0) (.var 23))
 (.call 158 [.var 24,.var 25,.var 26,.var 27,.var 28,.var 29,.cell (.take (.add (.var 15) (.int 1)) (.var 6)) (.var 23) 0,.cell (.take (.add (.var 15) (.int 1)) (.var 6)) (.var 23) 1,.cell (.take (.add (.var 15) (.int 1)) (.var 6)) (.var 23) 2,.cell (.take (.add (.var 15) (.int 1)) (.var 6)) (.var 23) 3,.cell (.take (.add (.var 15) (.int 1)) (.var 6)) (.var 23) 4,.cell (.take (.add (.var 15) (.int 1)) (.var 6)) (.var 23) 5,.cell (.take (.add (.var 15) (.int 1)) (.var 6)) (.var 23) 6,.cell (.take (.add (.var 15) (.int 1)) (.var 6)) (.var 23) 7,.cell (.take (.add (.var 15) (.int 1)) (.var 6)) (.var 23) 8] 30
 (.ite (.eq (.var 36) (.int 0))
 (.call 141 [.var 30,.var 31,.var 32,.var 33,.var 34,.var 35] 37
 (.ite (.not (.eq (.var 37) (.int 0)))
 (.ret [.int 0,.var 37])
 (.call 72 [.var 30,.var 31,.var 32,.var 33,.var 34] 38
 (.ite (.not (.eq (.var 38) (.int 0)))
 (.ret [.int 0,.var 38])
 (.ite (.lt (.var 22) (.int 0))
 (.ite (.le (.var 14) (.var 23))
 (.call 76 [.var 24,.var 25,.var 26,.var 27,.var 28] 39
 (.call 76 [.var 30,.var 31,.var 32,.var 33,.var 34] 40
 (.call 204 [.var 7,.var 8,.var 9,.var 10,.var 11,.var 12,.var 13,.var 14,.var 15,.var 16,.var 17,.var 18,.var 19,.var 39,.var 28,.var 40,.var 34] 41
 (.ite (.var 41)
 (.need (.fit (.add (.var 23) (.int 1)))
 (.back 21 [.var 23,.add (.var 23) (.int 1),.var 30,.var 31,.var 32,.var 33,.var 34,.var 35]))
 (.need (.fit (.add (.var 23) (.int 1)))
 (.back 21 [.var 22,.add (.var 23) (.int 1),.var 30,.var 31,.var 32,.var 33,.var 34,.var 35]))))))
 (.need (.fit (.add (.var 23) (.int 1)))
 (.back 21 [.var 22,.add (.var 23) (.int 1),.var 30,.var 31,.var 32,.var 33,.var 34,.var 35])))
 (.need (.fit (.add (.var 23) (.int 1)))
 (.back 21 [.var 22,.add (.var 23) (.int 1),.var 30,.var 31,.var 32,.var 33,.var 34,.var 35])))))))
 (.call 141 [.var 24,.var 25,.var 26,.var 27,.var 28,.var 29] 37
 (.ite (.not (.eq (.var 37) (.int 0)))
 (.ret [.int 0,.var 37])
 (.call 72 [.var 24,.var 25,.var 26,.var 27,.var 28] 38
 (.ite (.not (.eq (.var 38) (.int 0)))
 (.ret [.int 0,.var 38])
 (.ite (.lt (.var 22) (.int 0))
 (.ite (.le (.var 14) (.var 23))
 (.call 76 [.var 24,.var 25,.var 26,.var 27,.var 28] 39
 (.call 76 [.var 24,.var 25,.var 26,.var 27,.var 28] 40
 (.call 204 [.var 7,.var 8,.var 9,.var 10,.var 11,.var 12,.var 13,.var 14,.var 15,.var 16,.var 17,.var 18,.var 19,.var 39,.var 28,.var 40,.var 28] 41
 (.ite (.var 41)
 (.need (.fit (.add (.var 23) (.int 1)))
 (.back 21 [.var 23,.add (.var 23) (.int 1),.var 24,.var 25,.var 26,.var 27,.var 28,.var 29]))
 (.need (.fit (.add (.var 23) (.int 1)))
 (.back 21 [.var 22,.add (.var 23) (.int 1),.var 24,.var 25,.var 26,.var 27,.var 28,.var 29]))))))
 (.need (.fit (.add (.var 23) (.int 1)))
 (.back 21 [.var 22,.add (.var 23) (.int 1),.var 24,.var 25,.var 26,.var 27,.var 28,.var 29])))
 (.need (.fit (.add (.var 23) (.int 1)))
 (.back 21 [.var 22,.add (.var 23) (.int 1),.var 24,.var 25,.var 26,.var 27,.var 28,.var 29]))))))))))
 (.ite (.lt (.var 22) (.int 0))
 (.ret [.int 0,.int 5])
 (.ret [.var 22,.int 0])))))))))
theorem run159 : run z159 6000 [.code (Try.f159.body.getD .skip),.fin (bt z159 Try.f159.results.toList 50)] { fn:=159,tmps:=z159.sig.aM ++ List.replicate (Try.f159.ntmps - z159.sig.aM.length) (.v (.one .undef)),stk:=[],h:=z159.sig.h0,nx:=z159.sig.ins.length,known:=[]}=t159:=by kernel_rfl
theorem ok159 : cB Try.prog 159 d159.ct:=by
 refine aD (d:=d159) (Z:=z159) (Γ:=gam l159) (fn:=Try.f159) (c:=Try.f159.body.getD .skip) (bg tok mixed (all_cons ok72 (all_cons ok158 (all_cons ok141 (all_cons ok76 (all_cons ok204 all_nil))))) bh) Try.func159 (by kernel_rfl) (by kernel_rfl) rfl run159 fun E hk hp=>?_
 obtain ⟨hk0,hk1,hk2,hk3,hk4,hk5,hk6,hk7,hk8,hk9,hk10,hk11,hk12,hk13,hk14,hk15,hk16,hk17,hk18,hk19,_⟩:=hk
 obtain ⟨m,e0,e1,e2,e3,e4,b0,b1,b2,b3⟩:=cv (d0:=E 0) (d1:=E 1) (d2:=E 2) (d3:=E 3) (d4:=E 4) hk0 hk1 hk2 hk3 hk4
 obtain ⟨ts,e5,hts,b5⟩:=hU (d:=E 5) hk5
 have b5 : ts.length * 160≤140737488355328:=b5
 obtain ⟨l,e6,b6⟩:=Dc (d:=E 6) hk6
 have b6 : l.length * 64≤140737488355328:=b6
 obtain ⟨p,e7,e8,e9,e10,e11,e12,e13,e14,e15,e16,e17,e18,e19,b19⟩:=Jr (d0:=E 7) (d1:=E 8) (d2:=E 9) (d3:=E 10) (d4:=E 11) (d5:=E 12) (d6:=E 13) (d7:=E 14) (d8:=E 15) (d9:=E 16) (d10:=E 17) (d11:=E 18) (d12:=E 19) hk7 hk8 hk9 hk10 hk11 hk12 hk13 hk14 hk15 hk16 hk17 hk18 hk19
 have el : aH E d159.sig.ins.length=[au m.slots,af m.heads,af m.free,af m.locks,.i m.now,G2 ts,eD l,.i p.task,.i p.c.kind,.i p.c.k.a,.i p.c.k.b,.i p.c.time,.i p.c.bucket,.i p.c.slot,.i p.fr,.i p.to,.i p.e,.i p.slot,.i p.n,bS p.keys]:=by
  show [E 0,E 1,E 2,E 3,E 4,E 5,E 6,E 7,E 8,E 9,E 10,E 11,E 12,E 13,E 14,E 15,E 16,E 17,E 18,E 19]=_
  rw [e0,e1,e2,e3,e4,e5,e6,e7,e8,e9,e10,e11,e12,e13,e14,e15,e16,e17,e18,e19]
 rw [el] at hp
 rw [el]
 rw [Env.bJ el]
 clear el e0 e1 e2 e3 e4 e5 e6 e7 e8 e9 e10 e11 e12 e13 e14 e15 e16 e17 e18 e19
 have hown : ∀ t∈ts,t.own=false:=fun t ht=>(hts t ht).1
 simp only [d159,kr _ _ _ _ _ hown,aA,List.getD_cons_zero,List.getD_cons_succ,oZ,List.drop_succ_cons,List.drop_zero,HT] at hp ⊢
 obtain ⟨p1,p2,p3,p4⟩:=hp
 obtain ⟨W,hW⟩ : ∃ W : Wrd,(⟨m,ts⟩ : Wrd)=W:=⟨_,rfl⟩
 have hWl : W.G4=W:=by rw [← hW];exact Lg hown
 have hWm : W.m=m:=by rw [← hW]
 rw [hW] at p1 ⊢
 have he0 : Hj W=bU m:=by rw [Ih,if_neg (fun y=>y p1),hWm]
 unfold MF
 unfold t159
 refine ai d72 [.i (bU m)] rfl trivial (by simp only [nrm,xdn,reduceIte,Nat.reduceLT,Nat.reduceSub,Nat.reduceAdd,fn72]) (G0 (fun h=>aj ?_) (fun h=>?_))
 ·simp only [nrm,xdn,reduceIte,Nat.reduceLT,Nat.reduceSub,Nat.reduceAdd] at h ⊢
  have h : bU m≠0:=by simpa using h
  rw [he0,if_pos h]
 simp only [nrm,xdn,reduceIte,Nat.reduceLT,Nat.reduceSub,Nat.reduceAdd] at h
 have h : bU m=0:=by simpa using h
 rw [he0,if_neg (fun y=>y h)]
 obtain ⟨n,hn⟩ : ∃ n : Nat,p.to + 1=n:=⟨(p.to + 1).toNat,by omega⟩
 obtain ⟨L,hL⟩ : ∃ L,l.take n=L:=⟨_,rfl⟩
 have hLn : L.length=n:=by rw [← hL,List.length_take];omega
 rw [hn,Int.toNat_natCast,hL]
 refine G1 (by simp only [nrm,xdn,reduceIte,Nat.reduceLT,Nat.reduceSub,Nat.reduceAdd];omega) (ag (by simp only [nrm,xdn,reduceIte,Nat.reduceLT,Nat.reduceSub,Nat.reduceAdd];omega) (ag (by simp only [nrm,xdn,reduceIte,Nat.reduceLT,Nat.reduceSub,Nat.reduceAdd,nc];omega) ?_))
 refine bO (fun ds=>∃ (i : Nat) (w : Wrd) (found : Int),ds=[.i found,.i i,au w.m.slots,af w.m.heads,af w.m.free,af w.m.locks,.i w.m.now,G2 w.ts]∧w.G4=w∧Hj w=0∧i≤n∧JX p L 0 W (-1)=JX p (L.drop i) i w found) (fun ds=>n - (ds.getD 1 .u).int.toNat) ⟨0,W,-1,?_,hWl,he0.trans h,by omega,rfl⟩ ?_
 ·simp only [nrm,xdn,reduceIte,Nat.reduceLT,Nat.reduceSub,Nat.reduceAdd]
  subst hW;rfl
 rintro ds - ⟨i,w,found,rfl,I1,I2,I3,I5⟩
 refine G0 (fun hlt=>?_) (fun hge=>?_)
 rotate_left
 ·simp only [nrm,xdn,reduceIte,Nat.reduceLT,Nat.reduceSub,Nat.reduceAdd,hn,Int.toNat_natCast,Ja,hL,CD.ax,nc] at hge
  rw [List.drop_eq_nil_of_le (by omega)] at I5
  refine G0 (fun h1=>aj ?_) (fun h1=>aj ?_)
  ·simp only [nrm,xdn,reduceIte,Nat.reduceLT,Nat.reduceSub,Nat.reduceAdd] at h1 ⊢
   rw [I5];show _=[CD.i (if found < 0 then ((0 : Int),(5 : Int)) else (found,0)).1,CD.i (if found < 0 then ((0 : Int),(5 : Int)) else (found,0)).2]
   rw [if_pos h1]
  ·simp only [nrm,xdn,reduceIte,Nat.reduceLT,Nat.reduceSub,Nat.reduceAdd] at h1 ⊢
   rw [I5];show _=[CD.i (if found < 0 then ((0 : Int),(5 : Int)) else (found,0)).1,CD.i (if found < 0 then ((0 : Int),(5 : Int)) else (found,0)).2]
   rw [if_neg h1]
 have hpl : (eD l).rows.take n=(eD L).rows:=by rw [← hL];exact congrArg CD.rows (Ja n l)
 simp only [nrm,xdn,reduceIte,Nat.reduceLT,Nat.reduceSub,Nat.reduceAdd,hn,Int.toNat_natCast,hpl,nc] at hlt
 obtain ⟨x,hx⟩ : ∃ x,L.getD i default=x:=⟨_,rfl⟩
 have hcell : ∀ o,((eD L).rows.getD i []).getD o .u=x.row.getD o .u:=fun o=>by rw [← hx];exact dh Pik.row L i o (by omega)
 have c0 : ((eD L).rows.getD i []).getD 0 .u=.i x.task:=hcell 0
 have c1 : ((eD L).rows.getD i []).getD 1 .u=.b x.step:=hcell 1
 have c2 : ((eD L).rows.getD i []).getD 2 .u=.b x.tick:=hcell 2
 have c3 : ((eD L).rows.getD i []).getD 3 .u=.i x.c.kind:=hcell 3
 have c4 : ((eD L).rows.getD i []).getD 4 .u=.i x.c.k.a:=hcell 4
 have c5 : ((eD L).rows.getD i []).getD 5 .u=.i x.c.k.b:=hcell 5
 have c6 : ((eD L).rows.getD i []).getD 6 .u=.i x.c.time:=hcell 6
 have c7 : ((eD L).rows.getD i []).getD 7 .u=.i x.c.bucket:=hcell 7
 have c8 : ((eD L).rows.getD i []).getD 8 .u=.i x.c.slot:=hcell 8
 rw [dL (show i < L.length by omega),hx] at I5
 have I5 : JX p L 0 W (-1)=if Hj (Hc w x)≠0 then (0,Hj (Hc w x)) else JX p (L.drop (i + 1)) (i + 1) (Hc w x) (if found < 0∧p.fr≤i∧HR p (findF (Hl w).1 p.c.k) (findF (Hl (Hc w x)).1 p.c.k) w.m.now (Hc w x).m.now=true then i else found):=I5
 have hn':=KG I1 x
 have hcw:=(Jx I2).1
 obtain ⟨r,hr⟩ : ∃ r,Iv w x=r:=⟨_,rfl⟩
 refine ag (by simp only [nrm,xdn,reduceIte,Nat.reduceLT,Nat.reduceSub,Nat.reduceAdd];omega) (ai d158 [au r.1.m.slots,af r.1.m.heads,af r.1.m.free,af r.1.m.locks,.i r.1.m.now,G2 r.1.ts,.i r.2] rfl ?_ ?_ (G0 (fun h1=>?_) (fun h1=>?_)))
 ·simp only [nrm,xdn,reduceIte,Nat.reduceLT,Nat.reduceSub,Nat.reduceAdd,d158,fY,aA]
  rw [show Wrd.G4 ⟨w.m,w.ts⟩=w from I1]
  exact Is hcw
 ·simp only [nrm,xdn,reduceIte,Nat.reduceLT,Nat.reduceSub,Nat.reduceAdd,hn,Int.toNat_natCast,hpl,c0,c1,c2,c3,c4,c5,c6,c7,c8,d158,fY,aA,List.drop_succ_cons,List.drop_zero,oe,cz]
  rw [show Wrd.G4 ⟨w.m,w.ts⟩=w from I1,hr];rfl
 ·simp only [nrm,xdn,reduceIte,Nat.reduceLT,Nat.reduceSub,Nat.reduceAdd] at h1
  have h1 : r.2=0:=by simpa using h1
  have hN : Hc w x=r.1.G4:=by unfold Hc;rw [KF hcw,hr,if_pos h1]
  rw [hN] at hn' I5
  obtain ⟨v,hv⟩ : ∃ v,r.1.G4=v:=⟨_,rfl⟩
  have hts1 : G2 r.1.ts=G2 v.ts:=by rw [← hv];exact (ju r.1.ts).trans ((ju r.1.G4.ts).trans (congrArg az (congrArg Wrd.ts (JI r.1)))).symm
  have hm1 : r.1.m=v.m:=by rw [← hv];rfl
  rw [hv] at hn' I5
  have hn:=hn'
  rw [hts1,hm1]
  refine ai d141 [.i (bL v)] rfl trivial (by simp only [nrm,xdn,reduceIte,Nat.reduceLT,Nat.reduceSub,Nat.reduceAdd,d141,fY,aA];rw [show Wrd.G4 ⟨v.m,v.ts⟩=v from hn]) (G0 (fun h2=>aj ?_) (fun h2=>?_))
  ·simp only [nrm,xdn,reduceIte,Nat.reduceLT,Nat.reduceSub,Nat.reduceAdd] at h2 ⊢
   have h2 : bL v≠0:=by simpa using h2
   have he : Hj v=bL v:=by rw [Ih,if_pos h2]
   rw [if_pos (by rw [he];exact h2),he] at I5
   rw [I5]
  simp only [nrm,xdn,reduceIte,Nat.reduceLT,Nat.reduceSub,Nat.reduceAdd] at h2
  have h2 : bL v=0:=by simpa using h2
  have he : Hj v=bU v.m:=by rw [Ih,if_neg (fun y=>y h2)]
  refine ai d72 [.i (bU v.m)] rfl trivial (by simp only [nrm,xdn,reduceIte,Nat.reduceLT,Nat.reduceSub,Nat.reduceAdd,fn72]) (G0 (fun h3=>aj ?_) (fun h3=>?_))
  ·simp only [nrm,xdn,reduceIte,Nat.reduceLT,Nat.reduceSub,Nat.reduceAdd] at h3 ⊢
   have h3 : bU v.m≠0:=by simpa using h3
   rw [if_pos (by rw [he];exact h3),he] at I5
   rw [I5]
  simp only [nrm,xdn,reduceIte,Nat.reduceLT,Nat.reduceSub,Nat.reduceAdd] at h3
  have h3 : bU v.m=0:=by simpa using h3
  have hv0 : Hj v=0:=he.trans h3
  rw [if_neg (fun y=>y hv0),Jt hv0,Jt I2] at I5
  refine G0 (fun h4=>?_) (fun h4=>?_)
  rotate_left
  ·simp only [nrm,xdn,reduceIte,Nat.reduceLT,Nat.reduceSub,Nat.reduceAdd] at h4
   have hnF : (if found < 0∧p.fr≤i∧HR p (findF (aq w.m) p.c.k) (findF (aq v.m) p.c.k) w.m.now v.m.now=true then (i : Int) else found)=found:=if_neg (fun y=>h4 y.1)
   rw [hnF] at I5
   refine G1 (by simp only [nrm,xdn,reduceIte,Nat.reduceLT,Nat.reduceSub,Nat.reduceAdd];omega) (aV ⟨⟨i + 1,_,_,?_,hn,hv0,by omega,I5⟩,?_⟩)
   ·simp only [nrm,xdn,reduceIte,Nat.reduceLT,Nat.reduceSub,Nat.reduceAdd];rfl
   ·simp only [nrm,xdn,reduceIte,Nat.reduceLT,Nat.reduceSub,Nat.reduceAdd];omega
  simp only [nrm,xdn,reduceIte,Nat.reduceLT,Nat.reduceSub,Nat.reduceAdd] at h4
  refine G0 (fun h5=>?_) (fun h5=>?_)
  rotate_left
  ·simp only [nrm,xdn,reduceIte,Nat.reduceLT,Nat.reduceSub,Nat.reduceAdd] at h5
   have hnF : (if found < 0∧p.fr≤i∧HR p (findF (aq w.m) p.c.k) (findF (aq v.m) p.c.k) w.m.now v.m.now=true then (i : Int) else found)=found:=if_neg (fun y=>h5 y.2.1)
   rw [hnF] at I5
   refine G1 (by simp only [nrm,xdn,reduceIte,Nat.reduceLT,Nat.reduceSub,Nat.reduceAdd];omega) (aV ⟨⟨i + 1,_,_,?_,hn,hv0,by omega,I5⟩,?_⟩)
   ·simp only [nrm,xdn,reduceIte,Nat.reduceLT,Nat.reduceSub,Nat.reduceAdd];rfl
   ·simp only [nrm,xdn,reduceIte,Nat.reduceLT,Nat.reduceSub,Nat.reduceAdd];omega
  simp only [nrm,xdn,reduceIte,Nat.reduceLT,Nat.reduceSub,Nat.reduceAdd] at h5
  refine ai d76 [eM (aq w.m)] rfl (by simp only [nrm,xdn,reduceIte,Nat.reduceLT,Nat.reduceSub,Nat.reduceAdd,d76,mem_of,aA];exact (Jx I2).2) (by simp only [nrm,xdn,reduceIte,Nat.reduceLT,Nat.reduceSub,Nat.reduceAdd,fn76]) ?_
  refine ai d76 [eM (aq v.m)] rfl (by simp only [nrm,xdn,reduceIte,Nat.reduceLT,Nat.reduceSub,Nat.reduceAdd,d76,mem_of,aA];exact h3) (by simp only [nrm,xdn,reduceIte,Nat.reduceLT,Nat.reduceSub,Nat.reduceAdd,fn76]) ?_
  refine ai d204 [.b (HR p (findF (aq w.m) p.c.k) (findF (aq v.m) p.c.k) w.m.now v.m.now)] rfl trivial (by simp only [nrm,xdn,reduceIte,Nat.reduceLT,Nat.reduceSub,Nat.reduceAdd,d204,HT,G6]) (G0 (fun h6=>?_) (fun h6=>?_))
  ·simp only [nrm,xdn,reduceIte,Nat.reduceLT,Nat.reduceSub,Nat.reduceAdd] at h6
   have hnF : (if found < 0∧p.fr≤i∧HR p (findF (aq w.m) p.c.k) (findF (aq v.m) p.c.k) w.m.now v.m.now=true then (i : Int) else found)=i:=if_pos ⟨h4,h5,h6⟩
   rw [hnF] at I5
   refine G1 (by simp only [nrm,xdn,reduceIte,Nat.reduceLT,Nat.reduceSub,Nat.reduceAdd];omega) (aV ⟨⟨i + 1,_,_,?_,hn,hv0,by omega,I5⟩,?_⟩)
   ·simp only [nrm,xdn,reduceIte,Nat.reduceLT,Nat.reduceSub,Nat.reduceAdd];rfl
   ·simp only [nrm,xdn,reduceIte,Nat.reduceLT,Nat.reduceSub,Nat.reduceAdd];omega
  ·simp only [nrm,xdn,reduceIte,Nat.reduceLT,Nat.reduceSub,Nat.reduceAdd] at h6
   have hnF : (if found < 0∧p.fr≤i∧HR p (findF (aq w.m) p.c.k) (findF (aq v.m) p.c.k) w.m.now v.m.now=true then (i : Int) else found)=found:=if_neg (fun y=>by rw [h6] at y;exact Bool.false_ne_true y.2.2)
   rw [hnF] at I5
   refine G1 (by simp only [nrm,xdn,reduceIte,Nat.reduceLT,Nat.reduceSub,Nat.reduceAdd];omega) (aV ⟨⟨i + 1,_,_,?_,hn,hv0,by omega,I5⟩,?_⟩)
   ·simp only [nrm,xdn,reduceIte,Nat.reduceLT,Nat.reduceSub,Nat.reduceAdd];rfl
   ·simp only [nrm,xdn,reduceIte,Nat.reduceLT,Nat.reduceSub,Nat.reduceAdd];omega
 ·simp only [nrm,xdn,reduceIte,Nat.reduceLT,Nat.reduceSub,Nat.reduceAdd] at h1
  have h1 : ¬ r.2=0:=by simpa using h1
  have hN : Hc w x=w:=by unfold Hc;rw [KF hcw,hr,if_neg h1]
  rw [hN] at hn' I5
  obtain ⟨v,hv⟩ : ∃ v,w=v:=⟨_,rfl⟩
  have hn : w.G4=w:=I1
  have I5 : JX p L 0 W (-1)=if Hj v≠0 then (0,Hj v) else JX p (L.drop (i + 1)) (i + 1) v (if found < 0∧p.fr≤i∧HR p (findF (Hl w).1 p.c.k) (findF (Hl v).1 p.c.k) w.m.now v.m.now=true then i else found):=by rw [← hv];exact I5
  subst hv
  refine ai d141 [.i (bL w)] rfl trivial (by simp only [nrm,xdn,reduceIte,Nat.reduceLT,Nat.reduceSub,Nat.reduceAdd,d141,fY,aA];rw [show Wrd.G4 ⟨w.m,w.ts⟩=w from hn]) (G0 (fun h2=>aj ?_) (fun h2=>?_))
  ·simp only [nrm,xdn,reduceIte,Nat.reduceLT,Nat.reduceSub,Nat.reduceAdd] at h2 ⊢
   have h2 : bL w≠0:=by simpa using h2
   have he : Hj w=bL w:=by rw [Ih,if_pos h2]
   rw [if_pos (by rw [he];exact h2),he] at I5
   rw [I5]
  simp only [nrm,xdn,reduceIte,Nat.reduceLT,Nat.reduceSub,Nat.reduceAdd] at h2
  have h2 : bL w=0:=by simpa using h2
  have he : Hj w=bU w.m:=by rw [Ih,if_neg (fun y=>y h2)]
  refine ai d72 [.i (bU w.m)] rfl trivial (by simp only [nrm,xdn,reduceIte,Nat.reduceLT,Nat.reduceSub,Nat.reduceAdd,fn72]) (G0 (fun h3=>aj ?_) (fun h3=>?_))
  ·simp only [nrm,xdn,reduceIte,Nat.reduceLT,Nat.reduceSub,Nat.reduceAdd] at h3 ⊢
   have h3 : bU w.m≠0:=by simpa using h3
   rw [if_pos (by rw [he];exact h3),he] at I5
   rw [I5]
  simp only [nrm,xdn,reduceIte,Nat.reduceLT,Nat.reduceSub,Nat.reduceAdd] at h3
  have h3 : bU w.m=0:=by simpa using h3
  have hv0 : Hj w=0:=he.trans h3
  rw [if_neg (fun y=>y hv0),Jt hv0] at I5
  refine G0 (fun h4=>?_) (fun h4=>?_)
  rotate_left
  ·simp only [nrm,xdn,reduceIte,Nat.reduceLT,Nat.reduceSub,Nat.reduceAdd] at h4
   have hnF : (if found < 0∧p.fr≤i∧HR p (findF (aq w.m) p.c.k) (findF (aq w.m) p.c.k) w.m.now w.m.now=true then (i : Int) else found)=found:=if_neg (fun y=>h4 y.1)
   rw [hnF] at I5
   refine G1 (by simp only [nrm,xdn,reduceIte,Nat.reduceLT,Nat.reduceSub,Nat.reduceAdd];omega) (aV ⟨⟨i + 1,_,_,?_,hn,hv0,by omega,I5⟩,?_⟩)
   ·simp only [nrm,xdn,reduceIte,Nat.reduceLT,Nat.reduceSub,Nat.reduceAdd];rfl
   ·simp only [nrm,xdn,reduceIte,Nat.reduceLT,Nat.reduceSub,Nat.reduceAdd];omega
  simp only [nrm,xdn,reduceIte,Nat.reduceLT,Nat.reduceSub,Nat.reduceAdd] at h4
  refine G0 (fun h5=>?_) (fun h5=>?_)
  rotate_left
  ·simp only [nrm,xdn,reduceIte,Nat.reduceLT,Nat.reduceSub,Nat.reduceAdd] at h5
   have hnF : (if found < 0∧p.fr≤i∧HR p (findF (aq w.m) p.c.k) (findF (aq w.m) p.c.k) w.m.now w.m.now=true then (i : Int) else found)=found:=if_neg (fun y=>h5 y.2.1)
   rw [hnF] at I5
   refine G1 (by simp only [nrm,xdn,reduceIte,Nat.reduceLT,Nat.reduceSub,Nat.reduceAdd];omega) (aV ⟨⟨i + 1,_,_,?_,hn,hv0,by omega,I5⟩,?_⟩)
   ·simp only [nrm,xdn,reduceIte,Nat.reduceLT,Nat.reduceSub,Nat.reduceAdd];rfl
   ·simp only [nrm,xdn,reduceIte,Nat.reduceLT,Nat.reduceSub,Nat.reduceAdd];omega
  simp only [nrm,xdn,reduceIte,Nat.reduceLT,Nat.reduceSub,Nat.reduceAdd] at h5
  refine ai d76 [eM (aq w.m)] rfl (by simp only [nrm,xdn,reduceIte,Nat.reduceLT,Nat.reduceSub,Nat.reduceAdd,d76,mem_of,aA];exact (Jx I2).2) (by simp only [nrm,xdn,reduceIte,Nat.reduceLT,Nat.reduceSub,Nat.reduceAdd,fn76]) ?_
  refine ai d76 [eM (aq w.m)] rfl (by simp only [nrm,xdn,reduceIte,Nat.reduceLT,Nat.reduceSub,Nat.reduceAdd,d76,mem_of,aA];exact h3) (by simp only [nrm,xdn,reduceIte,Nat.reduceLT,Nat.reduceSub,Nat.reduceAdd,fn76]) ?_
  refine ai d204 [.b (HR p (findF (aq w.m) p.c.k) (findF (aq w.m) p.c.k) w.m.now w.m.now)] rfl trivial (by simp only [nrm,xdn,reduceIte,Nat.reduceLT,Nat.reduceSub,Nat.reduceAdd,d204,HT,G6]) (G0 (fun h6=>?_) (fun h6=>?_))
  ·simp only [nrm,xdn,reduceIte,Nat.reduceLT,Nat.reduceSub,Nat.reduceAdd] at h6
   have hnF : (if found < 0∧p.fr≤i∧HR p (findF (aq w.m) p.c.k) (findF (aq w.m) p.c.k) w.m.now w.m.now=true then (i : Int) else found)=i:=if_pos ⟨h4,h5,h6⟩
   rw [hnF] at I5
   refine G1 (by simp only [nrm,xdn,reduceIte,Nat.reduceLT,Nat.reduceSub,Nat.reduceAdd];omega) (aV ⟨⟨i + 1,_,_,?_,hn,hv0,by omega,I5⟩,?_⟩)
   ·simp only [nrm,xdn,reduceIte,Nat.reduceLT,Nat.reduceSub,Nat.reduceAdd];rfl
   ·simp only [nrm,xdn,reduceIte,Nat.reduceLT,Nat.reduceSub,Nat.reduceAdd];omega
  ·simp only [nrm,xdn,reduceIte,Nat.reduceLT,Nat.reduceSub,Nat.reduceAdd] at h6
   have hnF : (if found < 0∧p.fr≤i∧HR p (findF (aq w.m) p.c.k) (findF (aq w.m) p.c.k) w.m.now w.m.now=true then (i : Int) else found)=found:=if_neg (fun y=>by rw [h6] at y;exact Bool.false_ne_true y.2.2)
   rw [hnF] at I5
   refine G1 (by simp only [nrm,xdn,reduceIte,Nat.reduceLT,Nat.reduceSub,Nat.reduceAdd];omega) (aV ⟨⟨i + 1,_,_,?_,hn,hv0,by omega,I5⟩,?_⟩)
   ·simp only [nrm,xdn,reduceIte,Nat.reduceLT,Nat.reduceSub,Nat.reduceAdd];rfl
   ·simp only [nrm,xdn,reduceIte,Nat.reduceLT,Nat.reduceSub,Nat.reduceAdd];omega
end Go.Proofs.Ytpmamacjepcdmaa
