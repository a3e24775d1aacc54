import Derived.Test.YtpmamacjepcdmaaCStory
namespace Go.Proofs.Ytpmamacjepcdmaa
open Go Go.Sy Go.RowKit
set_option linter.unusedSimpArgs false
set_option linter.unusedVariables false
def me (w : Wrd) (x : Pik) : Wrd:=if (doW w x).2=0 then (doW w x).1.cU else w
def mn (w : Wrd) : Int:=(rf w).2
abbrev Mom:=List iq × Int
def zq (w : Wrd) : Mom:=((rf w).1,w.m.now)
def zI : List Pik→Wrd→List Mom→List Mom × Int
 | [],_,acc=>(acc,0)
 | x :: l,w,acc=>if mn (me w x)≠0 then ([],mn (me w x)) else zI l (me w x) (acc ++ [zq (me w x)])
def zr (w : Wrd) (l : List Pik) : List Mom × Int:=if mn w≠0 then ([],mn w) else zI l w [zq w]
def z7 (m : Mom) : List CD:=[fK m.1,.i m.2]
def zA (l : List Mom) : CD:=.l (l.map z7)
theorem zN (l : List Mom) : (zA l).rows.length=l.length:=by simp [zA]
theorem Af (l : List Mom) (f : List iq) (n : Int) : CD.l ((zA l).rows ++ [[fK f,.i n]])=zA (l ++ [(f,n)]):=by simp [zA,z7]
theorem zQ (w : Wrd) : w.cU.cU=w.cU:=by
 simp only [Wrd.cU,List.map_map];rfl
theorem z6 {w : Wrd} (h : w.cU=w) (x : Pik) : (me w x).cU=me w x:=by
 unfold me
 split
 ·exact zQ _
 ·exact h
theorem Aa {m : Mem} {ts : List Tsk} (h : ∀ t∈ts,t.own=false) : (Wrd.mk m ts).cU=⟨m,ts⟩:=by
 simp only [Wrd.cU,yH h]
def s173 : Sig:=⟨[.agg [.fz kS,.fz kI,.fz kI,.fz kI,.int .i64,.fz kT],.one (.fz kQ)],[.one (.own 180 kM),.one (.int .i64)]⟩
def d173 : DC:=⟨s173,fun _=>True,fun l=>[zA (zr (Wrd.of l) (l.getD 6 .u).qe).1,.i (zr (Wrd.of l) (l.getD 6 .u).qe).2]⟩
def l173 : List (Nat × Ct):=[(134,d134.ct),(140,d140.ct)]
noncomputable def z173 : Cx:={ T:=ttA,C:=sigs l173,F:=[(210,Try.f210)],hints:=[⟨173,7,false,[(29,.lt),(9,.own 180 kM)],[(0,0,.fz kS),(0,1,.fz kI),(0,2,.fz kI),(0,3,.fz kI),(0,4,.lt),(0,5,.fz kT)],[],[],0⟩],sig:=s173}
def t173 : Tree :=
 (.call 134 [.var 0,.var 1,.var 2,.var 3,.var 4,.var 5] 7
 (.ite (.not (.eq (.var 8) (.int 0)))
 (.ret [.nil,.var 8])
 (.loop 9 [.sl 32 [.sl 32 [.int .i64,.int .i64,.int .i64,.int .i64],.int .i64],.int .i64,.sl 48 [.int .i64,.int .i64,.int .i64,.int .i64,.bool,.int .i64],.sl 8 [.int .i64],.sl 8 [.int .i64],.sl 8 [.int .i64],.int .i64,.sl 160 [.bool,.int .i64,.int .i64,.int .i64,.int .i64,.int .i64,.int .i64,.int .i64,.int .i64,.int .i64,.int .i64,.int .i64,.sl 16 [.int .i64,.int .i64],.bool,.int .i64,.sl 8 [.int .i64]]] [.cons (.var 7) (.cons (.var 4) .row0),.int 0,.var 0,.var 1,.var 2,.var 3,.var 4,.var 5]
 (.ite (.lt (.var 11) (.len (.var 6)))
 (.need (.le (.int 0) (.var 11))
 (.call 140 [.var 12,.var 13,.var 14,.var 15,.var 16,.var 17,.cell (.var 6) (.var 11) 0,.cell (.var 6) (.var 11) 1,.cell (.var 6) (.var 11) 2,.cell (.var 6) (.var 11) 3,.cell (.var 6) (.var 11) 4,.cell (.var 6) (.var 11) 5,.cell (.var 6) (.var 11) 6,.cell (.var 6) (.var 11) 7,.cell (.var 6) (.var 11) 8] 18
 (.ite (.eq (.var 24) (.int 0))
 (.need (.clean (.var 23) 15)
 (.call 134 [.var 18,.var 19,.var 20,.var 21,.var 22,.shuts (.var 23) 15] 25
 (.ite (.not (.eq (.var 26) (.int 0)))
 (.ret [.nil,.var 26])
 (.need (.le (.add (.len (.var 10)) (.int 1)) (.int 4398046511104))
 (.need (.fit (.add (.var 11) (.int 1)))
 (.back 9 [.app (.var 10) (.cons (.var 25) (.cons (.var 22) .row0)),.add (.var 11) (.int 1),.var 18,.var 19,.var 20,.var 21,.var 22,.shuts (.var 23) 15]))))))
 (.call 134 [.var 12,.var 13,.var 14,.var 15,.var 16,.var 17] 25
 (.ite (.not (.eq (.var 26) (.int 0)))
 (.ret [.nil,.var 26])
 (.need (.le (.add (.len (.var 10)) (.int 1)) (.int 4398046511104))
 (.need (.fit (.add (.var 11) (.int 1)))
 (.need (.clean (.var 23) 15)
 (.back 9 [.app (.var 10) (.cons (.var 25) (.cons (.var 16) .row0)),.add (.var 11) (.int 1),.var 12,.var 13,.var 14,.var 15,.var 16,.var 17])))))))))
 (.ret [.var 10,.int 0])))))
theorem run173 : run z173 6000 [.code (Try.f173.body.getD .skip),.fin (aP z173 Try.f173.results.toList 50)] { fn:=173,tmps:=z173.sig.aE ++ List.replicate (Try.f173.ntmps - z173.sig.aE.length) (.v (.one .undef)),stk:=[],h:=z173.sig.h0,nx:=z173.sig.ins.length,known:=[]}=t173:=by kernel_rfl
theorem ok173 : bJ Try.prog 173 d173.ct:=by
 refine ax (d:=d173) (Z:=z173) (Γ:=gam l173) (fn:=Try.f173) (c:=Try.f173.body.getD .skip) (aJ tok mixed (all_cons ok134 (all_cons ok140 all_nil)) (cv (c:=Try.f210.body.getD .skip) Try.func210 (by kernel_rfl) (by kernel_rfl) aK)) Try.func173 (by kernel_rfl) (by kernel_rfl) rfl run173 fun E hk hp=>?_
 obtain ⟨hk0,hk1,hk2,hk3,hk4,hk5,hk6,_⟩:=hk
 obtain ⟨m,e0,e1,e2,e3,e4,b0,b1,b2,b3⟩:=bp (d0:=E 0) (d1:=E 1) (d2:=E 2) (d3:=E 3) (d4:=E 4) hk0 hk1 hk2 hk3 hk4
 obtain ⟨ts,e5,hts,b5⟩:=dB (d:=E 5) hk5
 have b5 : ts.length * 160≤140737488355328:=b5
 obtain ⟨l,e6,b6⟩:=w8 (d:=E 6) hk6
 have b6 : l.length * 64≤140737488355328:=b6
 have el : aG E d173.sig.ins.length=[ai m.slots,aa m.heads,aa m.free,aa m.locks,.i m.now,aA ts,dM l]:=by
  show [E 0,E 1,E 2,E 3,E 4,E 5,E 6]=_
  rw [e0,e1,e2,e3,e4,e5,e6]
 rw [el] at hp
 rw [el]
 rw [Env.aU el]
 clear el e0 e1 e2 e3 e4 e5 e6
 have hown : ∀ t∈ts,t.own=false:=fun t ht=>(hts t ht).1
 simp only [d173,bW _ _ _ _ _ hown,aq,List.getD_cons_zero,List.getD_cons_succ,lN]
 obtain ⟨W,hW⟩ : ∃ W : Wrd,(⟨m,ts⟩ : Wrd)=W:=⟨_,rfl⟩
 have hWl : W.cU=W:=by rw [← hW];exact Aa hown
 unfold zr
 unfold t173
 refine ah d134 [fK (rf W).1,.i (mn W)] rfl trivial (by simp only [nrm,xdn,reduceIte,Nat.reduceLT,Nat.reduceSub,Nat.reduceAdd,d134,bW _ _ _ _ _ hown,aq,hW];rfl) (ae (fun h=>ag ?_) (fun h=>?_))
 ·simp only [nrm,xdn,reduceIte,Nat.reduceLT,Nat.reduceSub,Nat.reduceAdd] at h ⊢
  rw [hW,if_pos (by simpa using h)];rfl
 simp only [nrm,xdn,reduceIte,Nat.reduceLT,Nat.reduceSub,Nat.reduceAdd] at h
 rw [hW,if_neg (by simpa using h)]
 refine bD (fun ds=>∃ (i : Nat) (w : Wrd) (acc : List Mom),ds=[zA acc,.i i,ai w.m.slots,aa w.m.heads,aa w.m.free,aa w.m.locks,.i w.m.now,aA w.ts]∧w.cU=w∧i≤l.length∧acc.length=i + 1∧zI l W [zq W]=zI (l.drop i) w acc) (fun ds=>l.length - (ds.getD 1 .u).int.toNat) ⟨0,W,[zq W],?_,hWl,by omega,rfl,rfl⟩ ?_
 ·simp only [nrm,xdn,reduceIte,Nat.reduceLT,Nat.reduceSub,Nat.reduceAdd,CD.row,List.headD_cons]
  subst hW;rfl
 rintro ds - ⟨i,w,acc,rfl,I1,I2,I3,I4⟩
 refine ae (fun hlt=>?_) (fun hge=>ag ?_)
 rotate_left
 ·simp only [nrm,xdn,reduceIte,Nat.reduceLT,Nat.reduceSub,Nat.reduceAdd,kb] at hge ⊢
  rw [I4,List.drop_eq_nil_of_le (by omega)];rfl
 simp only [nrm,xdn,reduceIte,Nat.reduceLT,Nat.reduceSub,Nat.reduceAdd,kb] at hlt
 obtain ⟨x,hx⟩ : ∃ x,l.getD i default=x:=⟨_,rfl⟩
 have hcell : ∀ o,((dM l).rows.getD i []).getD o .u=x.row.getD o .u:=fun o=>by rw [← hx];exact fy Pik.row l i o (by omega)
 have c0 : ((dM l).rows.getD i []).getD 0 .u=.i x.task:=hcell 0
 have c1 : ((dM l).rows.getD i []).getD 1 .u=.b x.step:=hcell 1
 have c2 : ((dM l).rows.getD i []).getD 2 .u=.b x.tick:=hcell 2
 have c3 : ((dM l).rows.getD i []).getD 3 .u=.i x.c.kind:=hcell 3
 have c4 : ((dM l).rows.getD i []).getD 4 .u=.i x.c.k.a:=hcell 4
 have c5 : ((dM l).rows.getD i []).getD 5 .u=.i x.c.k.b:=hcell 5
 have c6 : ((dM l).rows.getD i []).getD 6 .u=.i x.c.time:=hcell 6
 have c7 : ((dM l).rows.getD i []).getD 7 .u=.i x.c.bucket:=hcell 7
 have c8 : ((dM l).rows.getD i []).getD 8 .u=.i x.c.slot:=hcell 8
 rw [cO (show i < l.length by omega),hx] at I4
 obtain ⟨v,hv⟩ : ∃ v,doW w x=v:=⟨_,rfl⟩
 have I4 : zI l W [zq W]=if mn (me w x)≠0 then ([],mn (me w x)) else zI (l.drop (i + 1)) (me w x) (acc ++ [zq (me w x)]):=I4
 have hn:=z6 I1 x
 refine af (by simp only [nrm,xdn,reduceIte,Nat.reduceLT,Nat.reduceSub,Nat.reduceAdd];omega) (ah d140 [ai v.1.m.slots,aa v.1.m.heads,aa v.1.m.free,aa v.1.m.locks,.i v.1.m.now,ar v.1.ts,.i v.2] rfl trivial ?_ (ae (fun h1=>?_) (fun h1=>?_)))
 ·simp only [nrm,xdn,reduceIte,Nat.reduceLT,Nat.reduceSub,Nat.reduceAdd,Int.toNat_natCast,c0,c1,c2,c3,c4,c5,c6,c7,c8,d140,oe,aq,List.drop_succ_cons,List.drop_zero,eW,bF]
  rw [show Wrd.cU ⟨w.m,w.ts⟩=w from I1,hv];rfl
 ·simp only [nrm,xdn,reduceIte,Nat.reduceLT,Nat.reduceSub,Nat.reduceAdd] at h1
  have h1 : v.2=0:=by simpa using h1
  have hN : me w x=v.1.cU:=by unfold me;rw [hv,if_pos h1]
  obtain ⟨F,hF⟩ : ∃ F,rf v.1.cU=F:=⟨_,rfl⟩
  have hf1 : rf (Wrd.cU ⟨v.1.m,v.1.ts⟩)=F:=hF
  have hE : mn (me w x)=F.2:=by rw [hN,← hF];rfl
  have hM : zq (me w x)=(F.1,v.1.m.now):=by rw [hN,← hF];rfl
  refine af (by simp only [nrm,xdn,reduceIte,Nat.reduceLT,Nat.reduceSub,Nat.reduceAdd];exact az _) ?_
  refine ah d134 [fK F.1,.i F.2] rfl trivial ?_ (ae (fun h2=>ag ?_) (fun h2=>?_))
  ·simp only [nrm,xdn,reduceIte,Nat.reduceLT,Nat.reduceSub,Nat.reduceAdd,aD,d134,oe,aq,hf1]
  ·simp only [nrm,xdn,reduceIte,Nat.reduceLT,Nat.reduceSub,Nat.reduceAdd] at h2 ⊢
   have h2 : F.2≠0:=by simpa using h2
   rw [hE,if_pos h2] at I4
   rw [I4];rfl
  simp only [nrm,xdn,reduceIte,Nat.reduceLT,Nat.reduceSub,Nat.reduceAdd] at h2
  have h2 : F.2=0:=by simpa using h2
  rw [hE,if_neg (fun y=>y h2),hM] at I4
  refine af (by simp only [nrm,xdn,reduceIte,Nat.reduceLT,Nat.reduceSub,Nat.reduceAdd,zN];omega) (aH (by simp only [nrm,xdn,reduceIte,Nat.reduceLT,Nat.reduceSub,Nat.reduceAdd];omega) (bx ⟨⟨i + 1,me w x,acc ++ [(F.1,v.1.m.now)],?_,hn,by omega,by simp [I3],I4⟩,?_⟩))
  ·simp only [nrm,xdn,reduceIte,Nat.reduceLT,Nat.reduceSub,Nat.reduceAdd,aD,CD.row,List.headD_cons,Af,hN]
   rw [show aA v.1.ts=aA v.1.cU.ts from (jn v.1.ts).trans ((jn v.1.cU.ts).trans (congrArg ar (congrArg Wrd.ts (zQ v.1)))).symm]
   rfl
  ·simp only [nrm,xdn,reduceIte,Nat.reduceLT,Nat.reduceSub,Nat.reduceAdd];omega
 ·simp only [nrm,xdn,reduceIte,Nat.reduceLT,Nat.reduceSub,Nat.reduceAdd] at h1
  have h1 : ¬ v.2=0:=by simpa using h1
  have hN : me w x=w:=by unfold me;rw [hv,if_neg h1]
  obtain ⟨F,hF⟩ : ∃ F,rf w=F:=⟨_,rfl⟩
  have hf1 : rf (Wrd.cU ⟨w.m,w.ts⟩)=F:=by rw [← hF];exact congrArg rf I1
  have hE : mn (me w x)=F.2:=by rw [hN,← hF];rfl
  have hM : zq (me w x)=(F.1,w.m.now):=by rw [hN,← hF];rfl
  refine ah d134 [fK F.1,.i F.2] rfl trivial ?_ (ae (fun h2=>ag ?_) (fun h2=>?_))
  ·simp only [nrm,xdn,reduceIte,Nat.reduceLT,Nat.reduceSub,Nat.reduceAdd,aD,d134,oe,aq,hf1]
  ·simp only [nrm,xdn,reduceIte,Nat.reduceLT,Nat.reduceSub,Nat.reduceAdd] at h2 ⊢
   have h2 : F.2≠0:=by simpa using h2
   rw [hE,if_pos h2] at I4
   rw [I4];rfl
  simp only [nrm,xdn,reduceIte,Nat.reduceLT,Nat.reduceSub,Nat.reduceAdd] at h2
  have h2 : F.2=0:=by simpa using h2
  rw [hE,if_neg (fun y=>y h2),hM] at I4
  refine af (by simp only [nrm,xdn,reduceIte,Nat.reduceLT,Nat.reduceSub,Nat.reduceAdd,zN];omega) (aH (by simp only [nrm,xdn,reduceIte,Nat.reduceLT,Nat.reduceSub,Nat.reduceAdd];omega) (af (by simp only [nrm,xdn,reduceIte,Nat.reduceLT,Nat.reduceSub,Nat.reduceAdd];exact az _) (bx ⟨⟨i + 1,me w x,acc ++ [(F.1,w.m.now)],?_,hn,by omega,by simp [I3],I4⟩,?_⟩)))
  ·simp only [nrm,xdn,reduceIte,Nat.reduceLT,Nat.reduceSub,Nat.reduceAdd,CD.row,List.headD_cons,Af,hN]
   rfl
  ·simp only [nrm,xdn,reduceIte,Nat.reduceLT,Nat.reduceSub,Nat.reduceAdd];omega
end Go.Proofs.Ytpmamacjepcdmaa

namespace Go.Proofs.Ytpmamacjepcdmaa
open Go Go.Sy Go.RowKit
set_option linter.unusedSimpArgs false
set_option linter.unusedVariables false
def z4 (p : Pst) (M : List Mom) (j : Nat) : Bool:=zw p (findF (M.getD j default).1 p.c.k) (findF (M.getD (j + 1) default).1 p.c.k) (M.getD j default).2 (M.getD (j + 1) default).2
def zH (p : Pst) (M : List Mom) : Nat→Nat→Option Nat
 | _,0=>none
 | j,n + 1=>if z4 p M j=true then some j else zH p M (j + 1) n
def Ac : Option Nat→Int × Int
 | some j=>(j,0)
 | none=>(0,5)
def Aj (w : Wrd) (l : List Pik) (p : Pst) : Int × Int :=
 if (zr w (l.take (p.to + 1).toNat)).2≠0 then (0,(zr w (l.take (p.to + 1).toNat)).2) else Ac (zH p (zr w (l.take (p.to + 1).toNat)).1 p.fr.toNat (p.to + 1 - p.fr).toNat)
def z9 (w : Wrd) (l : List Pik) (p : Pst) : Int × Int :=
 if bE w≠0 then (0,bE w) else if 300 < l.length then (0,2) else if p.fr < 0∨p.to < p.fr∨l.length≤p.to then (0,3) else Aj w l p
theorem zY : ∀ {l : List Pik} {w : Wrd} {acc M : List Mom},zI l w acc=(M,0)→M.length=acc.length + l.length∧∀ j,j < acc.length→M.getD j default=acc.getD j default
 | [],w,acc,M,h=>by
  have h : acc=M:=(Prod.mk.inj h).1
  subst h
  exact ⟨by simp,fun _ _=>rfl⟩
 | x :: l,w,acc,M,h=>by
  have h : (if mn (me w x)≠0 then ([],mn (me w x)) else zI l (me w x) (acc ++ [zq (me w x)]))=(M,0):=h
  split at h
  ·rename_i h1;exact absurd (Prod.mk.inj h).2 h1
  ·obtain ⟨k1,k2⟩:=zY h
   simp only [List.length_append,List.length_cons,List.length_nil] at k1 k2
   refine ⟨by simp only [List.length_cons];omega,fun j hj=>?_⟩
   rw [k2 j (by omega),List.getD_eq_getElem?_getD,List.getElem?_append_left hj,← List.getD_eq_getElem?_getD]
theorem Ab {w : Wrd} {l : List Pik} (h : (zr w l).2=0) : (zr w l).1.length=l.length + 1:=by
 unfold zr at h ⊢
 split at h
 ·rename_i h1;exact absurd h h1
 ·rename_i h1
  rw [if_neg h1]
  have:=(zY (M:=(zI l w [zq w]).1) (Prod.ext rfl h)).1
  simp only [List.length_cons,List.length_nil] at this
  omega
theorem zL (n : Nat) (l : List Pik) : CD.l ((dM l).rows.take n)=dM (l.take n):=by simp [dM,List.map_take]
def s81 : Sig:=⟨[.agg [.fz kS,.fz kI,.fz kI,.fz kI,.int .i64,.fz kT],.one (.fz kQ),.agg [.int .i64,.int .i64,.int .i64,.int .i64,.int .i64,.int .i64,.int .i64,.int .i64,.int .i64,.int .i64,.int .i64,.int .i64,.fz kK]],[.one (.int .i64),.one (.int .i64)]⟩
def d81 : DC:=⟨s81,fun _=>True,fun l=>[.i (z9 (Wrd.of l) (l.getD 6 .u).qe (Pst.of (l.drop 7))).1,.i (z9 (Wrd.of l) (l.getD 6 .u).qe (Pst.of (l.drop 7))).2]⟩
def l81 : List (Nat × Ct):=[(157,d157.ct),(173,d173.ct),(174,d174.ct)]
def z81 : Cx:={ T:=ttA,C:=sigs l81,F:=[],hints:=[⟨81,12,false,[(11,.lt)],[],[],[],0⟩],sig:=s81}
def t81 : Tree :=
 (.call 157 [.var 0,.var 1,.var 2,.var 3,.var 4,.var 5] 20
 (.ite (.not (.eq (.var 20) (.int 0)))
 (.ret [.int 0,.var 20])
 (.ite (.lt (.int 300) (.len (.var 6)))
 (.ret [.int 0,.int 2])
 (.ite (.lt (.var 14) (.int 0))
 (.ret [.int 0,.int 3])
 (.ite (.lt (.var 15) (.var 14))
 (.ret [.int 0,.int 3])
 (.ite (.le (.len (.var 6)) (.var 15))
 (.ret [.int 0,.int 3])
 (.need (.fit (.add (.var 15) (.int 1)))
 (.need (.le (.int 0) (.add (.var 15) (.int 1)))
 (.need (.le (.add (.var 15) (.int 1)) (.len (.var 6)))
 (.call 173 [.var 0,.var 1,.var 2,.var 3,.var 4,.var 5,.take (.add (.var 15) (.int 1)) (.var 6)] 21
 (.ite (.not (.eq (.var 22) (.int 0)))
 (.ret [.int 0,.var 22])
 (.loop 23 [.int .i64] [.var 14]
 (.ite (.le (.var 24) (.var 15))
 (.need (.le (.int 0) (.var 24))
 (.need (.lt (.var 24) (.len (.var 21)))
 (.need (.fit (.add (.var 24) (.int 1)))
 (.need (.le (.int 0) (.add (.var 24) (.int 1)))
 (.need (.lt (.add (.var 24) (.int 1)) (.len (.var 21)))
 (.call 174 [.var 7,.var 8,.var 9,.var 10,.var 11,.var 12,.var 13,.var 14,.var 15,.var 16,.var 17,.var 18,.var 19,.cell (.var 21) (.var 24) 0,.cell (.var 21) (.var 24) 1,.cell (.var 21) (.add (.var 24) (.int 1)) 0,.cell (.var 21) (.add (.var 24) (.int 1)) 1] 25
 (.ite (.var 25)
 (.ret [.var 24,.int 0])
 (.back 23 [.add (.var 24) (.int 1)]))))))))
 (.ret [.int 0,.int 5]))))))))))))))
theorem run81 : run z81 6000 [.code (Try.f81.body.getD .skip),.fin (aP z81 Try.f81.results.toList 50)] { fn:=81,tmps:=z81.sig.aE ++ List.replicate (Try.f81.ntmps - z81.sig.aE.length) (.v (.one .undef)),stk:=[],h:=z81.sig.h0,nx:=z81.sig.ins.length,known:=[]}=t81:=by kernel_rfl
theorem ok81 : bJ Try.prog 81 d81.ct:=by
 refine ax (d:=d81) (Z:=z81) (Γ:=gam l81) (fn:=Try.f81) (c:=Try.f81.body.getD .skip) (aJ tok mixed (all_cons ok157 (all_cons ok173 (all_cons ok174 all_nil))) aK) Try.func81 (by kernel_rfl) (by kernel_rfl) rfl run81 fun E hk hp=>?_
 obtain ⟨hk0,hk1,hk2,hk3,hk4,hk5,hk6,hk7,hk8,hk9,hk10,hk11,hk12,hk13,hk14,hk15,hk16,hk17,hk18,hk19,_⟩:=hk
 obtain ⟨m,e0,e1,e2,e3,e4,b0,b1,b2,b3⟩:=bp (d0:=E 0) (d1:=E 1) (d2:=E 2) (d3:=E 3) (d4:=E 4) hk0 hk1 hk2 hk3 hk4
 obtain ⟨ts,e5,hts,b5⟩:=dB (d:=E 5) hk5
 have b5 : ts.length * 160≤140737488355328:=b5
 obtain ⟨l,e6,b6⟩:=w8 (d:=E 6) hk6
 have b6 : l.length * 64≤140737488355328:=b6
 obtain ⟨p,e7,e8,e9,e10,e11,e12,e13,e14,e15,e16,e17,e18,e19,b19⟩:=zM (d0:=E 7) (d1:=E 8) (d2:=E 9) (d3:=E 10) (d4:=E 11) (d5:=E 12) (d6:=E 13) (d7:=E 14) (d8:=E 15) (d9:=E 16) (d10:=E 17) (d11:=E 18) (d12:=E 19) hk7 hk8 hk9 hk10 hk11 hk12 hk13 hk14 hk15 hk16 hk17 hk18 hk19
 have el : aG E d81.sig.ins.length=[ai m.slots,aa m.heads,aa m.free,aa m.locks,.i m.now,aA ts,dM l,.i p.task,.i p.c.kind,.i p.c.k.a,.i p.c.k.b,.i p.c.time,.i p.c.bucket,.i p.c.slot,.i p.fr,.i p.to,.i p.e,.i p.slot,.i p.n,ba p.keys]:=by
  show [E 0,E 1,E 2,E 3,E 4,E 5,E 6,E 7,E 8,E 9,E 10,E 11,E 12,E 13,E 14,E 15,E 16,E 17,E 18,E 19]=_
  rw [e0,e1,e2,e3,e4,e5,e6,e7,e8,e9,e10,e11,e12,e13,e14,e15,e16,e17,e18,e19]
 rw [el] at hp
 rw [el]
 rw [Env.aU el]
 clear el e0 e1 e2 e3 e4 e5 e6 e7 e8 e9 e10 e11 e12 e13 e14 e15 e16 e17 e18 e19
 have hown : ∀ t∈ts,t.own=false:=fun t ht=>(hts t ht).1
 simp only [d81,bW _ _ _ _ _ hown,aq,List.getD_cons_zero,List.getD_cons_succ,lN,List.drop_succ_cons,List.drop_zero,zv]
 obtain ⟨W,hW⟩ : ∃ W : Wrd,(⟨m,ts⟩ : Wrd)=W:=⟨_,rfl⟩
 rw [hW]
 unfold z9
 unfold t81
 refine ah d157 [.i (bE W)] rfl trivial (by simp only [nrm,xdn,reduceIte,Nat.reduceLT,Nat.reduceSub,Nat.reduceAdd,d157,bW _ _ _ _ _ hown,aq,hW]) (ae (fun h=>ag ?_) (fun h=>?_))
 ·simp only [nrm,xdn,reduceIte,Nat.reduceLT,Nat.reduceSub,Nat.reduceAdd] at h ⊢
  rw [if_pos (by simpa using h)]
 simp only [nrm,xdn,reduceIte,Nat.reduceLT,Nat.reduceSub,Nat.reduceAdd] at h
 rw [if_neg (by simpa using h)]
 refine ae (fun h=>ag ?_) (fun h=>?_)
 ·simp only [nrm,xdn,reduceIte,Nat.reduceLT,Nat.reduceSub,Nat.reduceAdd,kb] at h ⊢
  rw [if_pos (by omega)]
 simp only [nrm,xdn,reduceIte,Nat.reduceLT,Nat.reduceSub,Nat.reduceAdd,kb] at h
 rw [if_neg (by omega)]
 refine ae (fun h1=>ag ?_) (fun h1=>ae (fun h2=>ag ?_) (fun h2=>ae (fun h3=>ag ?_) (fun h3=>?_)))
 ·simp only [nrm,xdn,reduceIte,Nat.reduceLT,Nat.reduceSub,Nat.reduceAdd] at h1 ⊢
  rw [if_pos (by omega)]
 ·simp only [nrm,xdn,reduceIte,Nat.reduceLT,Nat.reduceSub,Nat.reduceAdd] at h2 ⊢
  rw [if_pos (by omega)]
 ·simp only [nrm,xdn,reduceIte,Nat.reduceLT,Nat.reduceSub,Nat.reduceAdd,kb] at h3 ⊢
  rw [if_pos (by omega)]
 simp only [nrm,xdn,reduceIte,Nat.reduceLT,Nat.reduceSub,Nat.reduceAdd,kb] at h1 h2 h3
 rw [if_neg (by omega)]
 unfold Aj
 obtain ⟨n,hn⟩ : ∃ n : Nat,p.to + 1=n:=⟨(p.to + 1).toNat,by omega⟩
 obtain ⟨fr,hfr⟩ : ∃ fr : Nat,p.fr=fr:=⟨p.fr.toNat,by omega⟩
 obtain ⟨R,hR⟩ : ∃ R,zr W (l.take n)=R:=⟨_,rfl⟩
 rw [hn,Int.toNat_natCast,hR]
 refine aH (by simp only [nrm,xdn,reduceIte,Nat.reduceLT,Nat.reduceSub,Nat.reduceAdd];omega) (af (by simp only [nrm,xdn,reduceIte,Nat.reduceLT,Nat.reduceSub,Nat.reduceAdd];omega) (af (by simp only [nrm,xdn,reduceIte,Nat.reduceLT,Nat.reduceSub,Nat.reduceAdd,kb];omega) ?_))
 refine ah d173 [zA R.1,.i R.2] rfl trivial (by simp only [nrm,xdn,reduceIte,Nat.reduceLT,Nat.reduceSub,Nat.reduceAdd,hn,Int.toNat_natCast,zL,d173,bW _ _ _ _ _ hown,aq,hW,lN,hR]) (ae (fun h4=>ag ?_) (fun h4=>?_))
 ·simp only [nrm,xdn,reduceIte,Nat.reduceLT,Nat.reduceSub,Nat.reduceAdd] at h4 ⊢
  rw [if_pos (by simpa using h4)]
 simp only [nrm,xdn,reduceIte,Nat.reduceLT,Nat.reduceSub,Nat.reduceAdd] at h4
 have h4 : R.2=0:=by simpa using h4
 rw [if_neg (fun y=>y h4)]
 have hlen : R.1.length=n + 1:=by
  have:=Ab (w:=W) (l:=l.take n) (by rw [hR];exact h4)
  rw [hR,List.length_take] at this
  omega
 refine bD (fun ds=>∃ i : Nat,ds=[.i i]∧fr≤i∧i≤n∧zH p R.1 p.fr.toNat (n - p.fr).toNat=zH p R.1 i (n - i)) (fun ds=>n - (ds.getD 0 .u).int.toNat) ⟨fr,?_,Nat.le_refl _,by omega,?_⟩ ?_
 ·simp only [nrm,xdn,reduceIte,Nat.reduceLT,Nat.reduceSub,Nat.reduceAdd,hfr]
 ·rw [hfr,Int.toNat_natCast,show ((n : Int) - fr).toNat=n - fr by omega]
 rintro ds - ⟨i,rfl,hi0,hi,he⟩
 refine ae (fun h5=>?_) (fun h5=>ag ?_)
 rotate_left
 ·simp only [nrm,xdn,reduceIte,Nat.reduceLT,Nat.reduceSub,Nat.reduceAdd] at h5 ⊢
  rw [he,show n - i=0 by omega];rfl
 simp only [nrm,xdn,reduceIte,Nat.reduceLT,Nat.reduceSub,Nat.reduceAdd] at h5
 have h5 : i < n:=by omega
 have he : zH p R.1 p.fr.toNat (n - p.fr).toNat=if z4 p R.1 i=true then some i else zH p R.1 (i + 1) (n - (i + 1)):=by
  rw [he,show n - i=(n - (i + 1)) + 1 by omega];rfl
 have hi1 : ((i : Int) + 1).toNat=i + 1:=by omega
 have g : ∀ j o,j < R.1.length→((zA R.1).rows.getD j []).getD o .u=(z7 (R.1.getD j default)).getD o .u:=fun j o hj=>fy z7 R.1 j o hj
 have a0 : ((zA R.1).rows.getD i []).getD 0 .u=fK (R.1.getD i default).1:=g i 0 (by omega)
 have a1 : ((zA R.1).rows.getD i []).getD 1 .u=.i (R.1.getD i default).2:=g i 1 (by omega)
 have b0 : ((zA R.1).rows.getD (i + 1) []).getD 0 .u=fK (R.1.getD (i + 1) default).1:=g (i + 1) 0 (by omega)
 have b1 : ((zA R.1).rows.getD (i + 1) []).getD 1 .u=.i (R.1.getD (i + 1) default).2:=g (i + 1) 1 (by omega)
 refine af (by simp only [nrm,xdn,reduceIte,Nat.reduceLT,Nat.reduceSub,Nat.reduceAdd] <;> omega) (af (by simp only [nrm,xdn,reduceIte,Nat.reduceLT,Nat.reduceSub,Nat.reduceAdd,zN] <;> omega) (aH (by simp only [nrm,xdn,reduceIte,Nat.reduceLT,Nat.reduceSub,Nat.reduceAdd] <;> omega) (af (by simp only [nrm,xdn,reduceIte,Nat.reduceLT,Nat.reduceSub,Nat.reduceAdd] <;> omega) (af (by simp only [nrm,xdn,reduceIte,Nat.reduceLT,Nat.reduceSub,Nat.reduceAdd,zN] <;> omega) ?_))))
 refine ah d174 [.b (z4 p R.1 i)] rfl trivial (by simp only [nrm,xdn,reduceIte,Nat.reduceLT,Nat.reduceSub,Nat.reduceAdd,Int.toNat_natCast,hi1,a0,a1,b0,b1,d174,zv,zt];rfl) (ae (fun h6=>ag ?_) (fun h6=>?_))
 ·simp only [nrm,xdn,reduceIte,Nat.reduceLT,Nat.reduceSub,Nat.reduceAdd] at h6 ⊢
  rw [if_pos h6] at he
  rw [he];rfl
 ·simp only [nrm,xdn,reduceIte,Nat.reduceLT,Nat.reduceSub,Nat.reduceAdd] at h6
  rw [if_neg (by rw [h6];exact Bool.false_ne_true)] at he
  refine bx ⟨⟨i + 1,?_,by omega,by omega,he⟩,?_⟩
  ·simp only [nrm,xdn,reduceIte,Nat.reduceLT,Nat.reduceSub,Nat.reduceAdd];rfl
  ·simp only [nrm,xdn,reduceIte,Nat.reduceLT,Nat.reduceSub,Nat.reduceAdd];omega
def zV (p : Pst) : List Pik→Nat→Wrd→Int→Int × Int
 | [],_,_,found=>if found < 0 then (0,5) else (found,0)
 | x :: l,i,w,found=>if mn (me w x)≠0 then (0,mn (me w x))
  else zV p l (i + 1) (me w x) (if found < 0∧p.fr≤i∧zw p (findF (zq w).1 p.c.k) (findF (zq (me w x)).1 p.c.k) w.m.now (me w x).m.now=true then i else found)
def Ah (w : Wrd) (l : List Pik) (p : Pst) : Int × Int:=if mn w≠0 then (0,mn w) else zV p (l.take (p.to + 1).toNat) 0 w (-1)
theorem z5 {w : Wrd} (h : bE w=0) (x : Pik) : doW w x=uJ w x:=by
 unfold doW
 rw [if_neg (fun y=>y h)];rfl
theorem zB {w : Wrd} : mn w=if bE w≠0 then bE w else cp w.m:=by
 unfold mn rf
 split
 ·rfl
 ·unfold iV
  split
  ·rfl
  ·rename_i h;exact (Classical.not_not.1 h).symm
theorem zO {w : Wrd} (h : mn w=0) : bE w=0∧cp w.m=0:=by
 rw [zB] at h
 split at h
 ·rename_i h1;exact absurd h h1
 ·rename_i h1;exact ⟨Classical.not_not.1 h1,h⟩
theorem zX {w : Wrd} (h : mn w=0) : zq w=(u7 w.m,w.m.now):=by
 obtain ⟨h1,h2⟩:=zO h
 unfold zq rf iV
 rw [if_neg (fun y=>y h1),if_neg (fun y=>y h2)]
def s159 : Sig:=⟨[.agg [.fz kS,.fz kI,.fz kI,.fz kI,.int .i64,.fz kT],.one (.fz kQ),.agg [.int .i64,.int .i64,.int .i64,.int .i64,.int .i64,.int .i64,.int .i64,.int .i64,.int .i64,.int .i64,.int .i64,.int .i64,.fz kK]],[.one (.int .i64),.one (.int .i64)]⟩
def d159 : DC:=⟨s159,fun l=>bE (Wrd.of l)=0∧0≤(Pst.of (l.drop 7)).fr∧(Pst.of (l.drop 7)).fr≤(Pst.of (l.drop 7)).to∧(Pst.of (l.drop 7)).to < (l.getD 6 .u).qe.length,fun l=>[.i (Ah (Wrd.of l) (l.getD 6 .u).qe (Pst.of (l.drop 7))).1,.i (Ah (Wrd.of l) (l.getD 6 .u).qe (Pst.of (l.drop 7))).2]⟩
def l159 : List (Nat × Ct):=[(72,d72.ct),(158,d158.ct),(141,d141.ct),(76,d76.ct),(204,d204.ct)]
def z159 : Cx:={ T:=ttA,C:=sigs l159,F:=[],hints:=[⟨159,6,false,[(29,.lt),(8,.lt)],[(0,0,.fz kS),(0,1,.fz kI),(0,2,.fz kI),(0,3,.fz kI),(0,4,.lt),(0,5,.fz kT)],[],[],0⟩],sig:=s159}
def t159 : Tree :=
 (.call 72 [.var 0,.var 1,.var 2,.var 3,.var 4] 20
 (.ite (.not (.eq (.var 20) (.int 0)))
 (.ret [.int 0,.var 20])
 (.need (.fit (.add (.var 15) (.int 1)))
 (.need (.le (.int 0) (.add (.var 15) (.int 1)))
 (.need (.le (.add (.var 15) (.int 1)) (.len (.var 6)))
 (.loop 21 [.int .i64,.int .i64,.sl 48 [.int .i64,.int .i64,.int .i64,.int .i64,.bool,.int .i64],.sl 8 [.int .i64],.sl 8 [.int .i64],.sl 8 [.int .i64],.int .i64,.sl 160 [.bool,.int .i64,.int .i64,.int .i64,.int .i64,.int .i64,.int .i64,.int .i64,.int .i64,.int .i64,.int .i64,.int .i64,.sl 16 [.int .i64,.int .i64],.bool,.int .i64,.sl 8 [.int .i64]]] [.int (-1),.int 0,.var 0,.var 1,.var 2,.var 3,.var 4,.var 5]
 (.ite (.lt (.var 23) (.len (.take (.add (.var 15) (.int 1)) (.var 6))))
 (.need (.le (.int 0) (.var 23))
 (.call 158 [.var 24,.var 25,.var 26,.var 27,.var 28,.var 29,.cell (.take (.add (.var 15) (.int 1)) (.var 6)) (.var 23) 0,.cell (.take (.add (.var 15) (.int 1)) (.var 6)) (.var 23) 1,.cell (.take (.add (.var 15) (.int 1)) (.var 6)) (.var 23) 2,.cell (.take (.add (.var 15) (.int 1)) (.var 6)) (.var 23) 3,.cell (.take (.add (.var 15) (.int 1)) (.var 6)) (.var 23) 4,.cell (.take (.add (.var 15) (.int 1)) (.var 6)) (.var 23) 5,.cell (.take (.add (.var 15) (.int 1)) (.var 6)) (.var 23) 6,.cell (.take (.add (.var 15) (.int 1)) (.var 6)) (.var 23) 7,.cell (.take (.add (.var 15) (.int 1)) (.var 6)) (.var 23) 8] 30
 (.ite (.eq (.var 36) (.int 0))
 (.call 141 [.var 30,.var 31,.var 32,.var 33,.var 34,.var 35] 37
 (.ite (.not (.eq (.var 37) (.int 0)))
 (.ret [.int 0,.var 37])
 (.call 72 [.var 30,.var 31,.var 32,.var 33,.var 34] 38
 (.ite (.not (.eq (.var 38) (.int 0)))
 (.ret [.int 0,.var 38])
 (.ite (.lt (.var 22) (.int 0))
 (.ite (.le (.var 14) (.var 23))
 (.call 76 [.var 24,.var 25,.var 26,.var 27,.var 28] 39
 (.call 76 [.var 30,.var 31,.var 32,.var 33,.var 34] 40
 (.call 204 [.var 7,.var 8,.var 9,.var 10,.var 11,.var 12,.var 13,.var 14,.var 15,.var 16,.var 17,.var 18,.var 19,.var 39,.var 28,.var 40,.var 34] 41
 (.ite (.var 41)
 (.need (.fit (.add (.var 23) (.int 1)))
 (.back 21 [.var 23,.add (.var 23) (.int 1),.var 30,.var 31,.var 32,.var 33,.var 34,.var 35]))
 (.need (.fit (.add (.var 23) (.int 1)))
 (.back 21 [.var 22,.add (.var 23) (.int 1),.var 30,.var 31,.var 32,.var 33,.var 34,.var 35]))))))
 (.need (.fit (.add (.var 23) (.int 1)))
 (.back 21 [.var 22,.add (.var 23) (.int 1),.var 30,.var 31,.var 32,.var 33,.var 34,.var 35])))
 (.need (.fit (.add (.var 23) (.int 1)))
 (.back 21 [.var 22,.add (.var 23) (.int 1),.var 30,.var 31,.var 32,.var 33,.var 34,.var 35])))))))
 (.call 141 [.var 24,.var 25,.var 26,.var 27,.var 28,.var 29] 37
 (.ite (.not (.eq (.var 37) (.int 0)))
 (.ret [.int 0,.var 37])
 (.call 72 [.var 24,.var 25,.var 26,.var 27,.var 28] 38
 (.ite (.not (.eq (.var 38) (.int 0)))
 (.ret [.int 0,.var 38])
 (.ite (.lt (.var 22) (.int 0))
 (.ite (.le (.var 14) (.var 23))
 (.call 76 [.var 24,.var 25,.var 26,.var 27,.var 28] 39
 (.call 76 [.var 24,.var 25,.var 26,.var 27,.var 28] 40
 (.call 204 [.var 7,.var 8,.var 9,.var 10,.var 11,.var 12,.var 13,.var 14,.var 15,.var 16,.var 17,.var 18,.var 19,.var 39,.var 28,.var 40,.var 28] 41
 (.ite (.var 41)
 (.need (.fit (.add (.var 23) (.int 1)))
 (.back 21 [.var 23,.add (.var 23) (.int 1),.var 24,.var 25,.var 26,.var 27,.var 28,.var 29]))
 (.need (.fit (.add (.var 23) (.int 1)))
 (.back 21 [.var 22,.add (.var 23) (.int 1),.var 24,.var 25,.var 26,.var 27,.var 28,.var 29]))))))
 (.need (.fit (.add (.var 23) (.int 1)))
 (.back 21 [.var 22,.add (.var 23) (.int 1),.var 24,.var 25,.var 26,.var 27,.var 28,.var 29])))
 (.need (.fit (.add (.var 23) (.int 1)))
 (.back 21 [.var 22,.add (.var 23) (.int 1),.var 24,.var 25,.var 26,.var 27,.var 28,.var 29]))))))))))
 (.ite (.lt (.var 22) (.int 0))
 (.ret [.int 0,.int 5])
 (.ret [.var 22,.int 0])))))))))
theorem run159 : run z159 6000 [.code (Try.f159.body.getD .skip),.fin (aP z159 Try.f159.results.toList 50)] { fn:=159,tmps:=z159.sig.aE ++ List.replicate (Try.f159.ntmps - z159.sig.aE.length) (.v (.one .undef)),stk:=[],h:=z159.sig.h0,nx:=z159.sig.ins.length,known:=[]}=t159:=by kernel_rfl
theorem ok159 : bJ Try.prog 159 d159.ct:=by
 refine ax (d:=d159) (Z:=z159) (Γ:=gam l159) (fn:=Try.f159) (c:=Try.f159.body.getD .skip) (aJ tok mixed (all_cons ok72 (all_cons ok158 (all_cons ok141 (all_cons ok76 (all_cons ok204 all_nil))))) aK) Try.func159 (by kernel_rfl) (by kernel_rfl) rfl run159 fun E hk hp=>?_
 obtain ⟨hk0,hk1,hk2,hk3,hk4,hk5,hk6,hk7,hk8,hk9,hk10,hk11,hk12,hk13,hk14,hk15,hk16,hk17,hk18,hk19,_⟩:=hk
 obtain ⟨m,e0,e1,e2,e3,e4,b0,b1,b2,b3⟩:=bp (d0:=E 0) (d1:=E 1) (d2:=E 2) (d3:=E 3) (d4:=E 4) hk0 hk1 hk2 hk3 hk4
 obtain ⟨ts,e5,hts,b5⟩:=dB (d:=E 5) hk5
 have b5 : ts.length * 160≤140737488355328:=b5
 obtain ⟨l,e6,b6⟩:=w8 (d:=E 6) hk6
 have b6 : l.length * 64≤140737488355328:=b6
 obtain ⟨p,e7,e8,e9,e10,e11,e12,e13,e14,e15,e16,e17,e18,e19,b19⟩:=zM (d0:=E 7) (d1:=E 8) (d2:=E 9) (d3:=E 10) (d4:=E 11) (d5:=E 12) (d6:=E 13) (d7:=E 14) (d8:=E 15) (d9:=E 16) (d10:=E 17) (d11:=E 18) (d12:=E 19) hk7 hk8 hk9 hk10 hk11 hk12 hk13 hk14 hk15 hk16 hk17 hk18 hk19
 have el : aG E d159.sig.ins.length=[ai m.slots,aa m.heads,aa m.free,aa m.locks,.i m.now,aA ts,dM l,.i p.task,.i p.c.kind,.i p.c.k.a,.i p.c.k.b,.i p.c.time,.i p.c.bucket,.i p.c.slot,.i p.fr,.i p.to,.i p.e,.i p.slot,.i p.n,ba p.keys]:=by
  show [E 0,E 1,E 2,E 3,E 4,E 5,E 6,E 7,E 8,E 9,E 10,E 11,E 12,E 13,E 14,E 15,E 16,E 17,E 18,E 19]=_
  rw [e0,e1,e2,e3,e4,e5,e6,e7,e8,e9,e10,e11,e12,e13,e14,e15,e16,e17,e18,e19]
 rw [el] at hp
 rw [el]
 rw [Env.aU el]
 clear el e0 e1 e2 e3 e4 e5 e6 e7 e8 e9 e10 e11 e12 e13 e14 e15 e16 e17 e18 e19
 have hown : ∀ t∈ts,t.own=false:=fun t ht=>(hts t ht).1
 simp only [d159,bW _ _ _ _ _ hown,aq,List.getD_cons_zero,List.getD_cons_succ,lN,List.drop_succ_cons,List.drop_zero,zv] at hp ⊢
 obtain ⟨p1,p2,p3,p4⟩:=hp
 obtain ⟨W,hW⟩ : ∃ W : Wrd,(⟨m,ts⟩ : Wrd)=W:=⟨_,rfl⟩
 have hWl : W.cU=W:=by rw [← hW];exact Aa hown
 have hWm : W.m=m:=by rw [← hW]
 rw [hW] at p1 ⊢
 have he0 : mn W=cp m:=by rw [zB,if_neg (fun y=>y p1),hWm]
 unfold Ah
 unfold t159
 refine ah d72 [.i (cp m)] rfl trivial (by simp only [nrm,xdn,reduceIte,Nat.reduceLT,Nat.reduceSub,Nat.reduceAdd,fn72]) (ae (fun h=>ag ?_) (fun h=>?_))
 ·simp only [nrm,xdn,reduceIte,Nat.reduceLT,Nat.reduceSub,Nat.reduceAdd] at h ⊢
  have h : cp m≠0:=by simpa using h
  rw [he0,if_pos h]
 simp only [nrm,xdn,reduceIte,Nat.reduceLT,Nat.reduceSub,Nat.reduceAdd] at h
 have h : cp m=0:=by simpa using h
 rw [he0,if_neg (fun y=>y h)]
 obtain ⟨n,hn⟩ : ∃ n : Nat,p.to + 1=n:=⟨(p.to + 1).toNat,by omega⟩
 obtain ⟨L,hL⟩ : ∃ L,l.take n=L:=⟨_,rfl⟩
 have hLn : L.length=n:=by rw [← hL,List.length_take];omega
 rw [hn,Int.toNat_natCast,hL]
 refine aH (by simp only [nrm,xdn,reduceIte,Nat.reduceLT,Nat.reduceSub,Nat.reduceAdd];omega) (af (by simp only [nrm,xdn,reduceIte,Nat.reduceLT,Nat.reduceSub,Nat.reduceAdd];omega) (af (by simp only [nrm,xdn,reduceIte,Nat.reduceLT,Nat.reduceSub,Nat.reduceAdd,kb];omega) ?_))
 refine bD (fun ds=>∃ (i : Nat) (w : Wrd) (found : Int),ds=[.i found,.i i,ai w.m.slots,aa w.m.heads,aa w.m.free,aa w.m.locks,.i w.m.now,aA w.ts]∧w.cU=w∧mn w=0∧i≤n∧zV p L 0 W (-1)=zV p (L.drop i) i w found) (fun ds=>n - (ds.getD 1 .u).int.toNat) ⟨0,W,-1,?_,hWl,he0.trans h,by omega,rfl⟩ ?_
 ·simp only [nrm,xdn,reduceIte,Nat.reduceLT,Nat.reduceSub,Nat.reduceAdd]
  subst hW;rfl
 rintro ds - ⟨i,w,found,rfl,I1,I2,I3,I5⟩
 refine ae (fun hlt=>?_) (fun hge=>?_)
 rotate_left
 ·simp only [nrm,xdn,reduceIte,Nat.reduceLT,Nat.reduceSub,Nat.reduceAdd,hn,Int.toNat_natCast,zL,hL,CD.aC,kb] at hge
  rw [List.drop_eq_nil_of_le (by omega)] at I5
  refine ae (fun h1=>ag ?_) (fun h1=>ag ?_)
  ·simp only [nrm,xdn,reduceIte,Nat.reduceLT,Nat.reduceSub,Nat.reduceAdd] at h1 ⊢
   rw [I5];show _=[CD.i (if found < 0 then ((0 : Int),(5 : Int)) else (found,0)).1,CD.i (if found < 0 then ((0 : Int),(5 : Int)) else (found,0)).2]
   rw [if_pos h1]
  ·simp only [nrm,xdn,reduceIte,Nat.reduceLT,Nat.reduceSub,Nat.reduceAdd] at h1 ⊢
   rw [I5];show _=[CD.i (if found < 0 then ((0 : Int),(5 : Int)) else (found,0)).1,CD.i (if found < 0 then ((0 : Int),(5 : Int)) else (found,0)).2]
   rw [if_neg h1]
 have hpl : (dM l).rows.take n=(dM L).rows:=by rw [← hL];exact congrArg CD.rows (zL n l)
 simp only [nrm,xdn,reduceIte,Nat.reduceLT,Nat.reduceSub,Nat.reduceAdd,hn,Int.toNat_natCast,hpl,kb] at hlt
 obtain ⟨x,hx⟩ : ∃ x,L.getD i default=x:=⟨_,rfl⟩
 have hcell : ∀ o,((dM L).rows.getD i []).getD o .u=x.row.getD o .u:=fun o=>by rw [← hx];exact fy Pik.row L i o (by omega)
 have c0 : ((dM L).rows.getD i []).getD 0 .u=.i x.task:=hcell 0
 have c1 : ((dM L).rows.getD i []).getD 1 .u=.b x.step:=hcell 1
 have c2 : ((dM L).rows.getD i []).getD 2 .u=.b x.tick:=hcell 2
 have c3 : ((dM L).rows.getD i []).getD 3 .u=.i x.c.kind:=hcell 3
 have c4 : ((dM L).rows.getD i []).getD 4 .u=.i x.c.k.a:=hcell 4
 have c5 : ((dM L).rows.getD i []).getD 5 .u=.i x.c.k.b:=hcell 5
 have c6 : ((dM L).rows.getD i []).getD 6 .u=.i x.c.time:=hcell 6
 have c7 : ((dM L).rows.getD i []).getD 7 .u=.i x.c.bucket:=hcell 7
 have c8 : ((dM L).rows.getD i []).getD 8 .u=.i x.c.slot:=hcell 8
 rw [cO (show i < L.length by omega),hx] at I5
 have I5 : zV p L 0 W (-1)=if mn (me w x)≠0 then (0,mn (me w x)) else zV p (L.drop (i + 1)) (i + 1) (me w x) (if found < 0∧p.fr≤i∧zw p (findF (zq w).1 p.c.k) (findF (zq (me w x)).1 p.c.k) w.m.now (me w x).m.now=true then i else found):=I5
 have hn':=z6 I1 x
 have hcw:=(zO I2).1
 obtain ⟨r,hr⟩ : ∃ r,uJ w x=r:=⟨_,rfl⟩
 refine af (by simp only [nrm,xdn,reduceIte,Nat.reduceLT,Nat.reduceSub,Nat.reduceAdd];omega) (ah d158 [ai r.1.m.slots,aa r.1.m.heads,aa r.1.m.free,aa r.1.m.locks,.i r.1.m.now,aA r.1.ts,.i r.2] rfl ?_ ?_ (ae (fun h1=>?_) (fun h1=>?_)))
 ·simp only [nrm,xdn,reduceIte,Nat.reduceLT,Nat.reduceSub,Nat.reduceAdd,d158,oe,aq]
  rw [show Wrd.cU ⟨w.m,w.ts⟩=w from I1]
  exact iu hcw
 ·simp only [nrm,xdn,reduceIte,Nat.reduceLT,Nat.reduceSub,Nat.reduceAdd,hn,Int.toNat_natCast,hpl,c0,c1,c2,c3,c4,c5,c6,c7,c8,d158,oe,aq,List.drop_succ_cons,List.drop_zero,eW,bF]
  rw [show Wrd.cU ⟨w.m,w.ts⟩=w from I1,hr];rfl
 ·simp only [nrm,xdn,reduceIte,Nat.reduceLT,Nat.reduceSub,Nat.reduceAdd] at h1
  have h1 : r.2=0:=by simpa using h1
  have hN : me w x=r.1.cU:=by unfold me;rw [z5 hcw,hr,if_pos h1]
  rw [hN] at hn' I5
  obtain ⟨v,hv⟩ : ∃ v,r.1.cU=v:=⟨_,rfl⟩
  have hts1 : aA r.1.ts=aA v.ts:=by rw [← hv];exact (jn r.1.ts).trans ((jn r.1.cU.ts).trans (congrArg ar (congrArg Wrd.ts (zQ r.1)))).symm
  have hm1 : r.1.m=v.m:=by rw [← hv];rfl
  rw [hv] at hn' I5
  have hn:=hn'
  rw [hts1,hm1]
  refine ah d141 [.i (bE v)] rfl trivial (by simp only [nrm,xdn,reduceIte,Nat.reduceLT,Nat.reduceSub,Nat.reduceAdd,d141,oe,aq];rw [show Wrd.cU ⟨v.m,v.ts⟩=v from hn]) (ae (fun h2=>ag ?_) (fun h2=>?_))
  ·simp only [nrm,xdn,reduceIte,Nat.reduceLT,Nat.reduceSub,Nat.reduceAdd] at h2 ⊢
   have h2 : bE v≠0:=by simpa using h2
   have he : mn v=bE v:=by rw [zB,if_pos h2]
   rw [if_pos (by rw [he];exact h2),he] at I5
   rw [I5]
  simp only [nrm,xdn,reduceIte,Nat.reduceLT,Nat.reduceSub,Nat.reduceAdd] at h2
  have h2 : bE v=0:=by simpa using h2
  have he : mn v=cp v.m:=by rw [zB,if_neg (fun y=>y h2)]
  refine ah d72 [.i (cp v.m)] rfl trivial (by simp only [nrm,xdn,reduceIte,Nat.reduceLT,Nat.reduceSub,Nat.reduceAdd,fn72]) (ae (fun h3=>ag ?_) (fun h3=>?_))
  ·simp only [nrm,xdn,reduceIte,Nat.reduceLT,Nat.reduceSub,Nat.reduceAdd] at h3 ⊢
   have h3 : cp v.m≠0:=by simpa using h3
   rw [if_pos (by rw [he];exact h3),he] at I5
   rw [I5]
  simp only [nrm,xdn,reduceIte,Nat.reduceLT,Nat.reduceSub,Nat.reduceAdd] at h3
  have h3 : cp v.m=0:=by simpa using h3
  have hv0 : mn v=0:=he.trans h3
  rw [if_neg (fun y=>y hv0),zX hv0,zX I2] at I5
  refine ae (fun h4=>?_) (fun h4=>?_)
  rotate_left
  ·simp only [nrm,xdn,reduceIte,Nat.reduceLT,Nat.reduceSub,Nat.reduceAdd] at h4
   have hnF : (if found < 0∧p.fr≤i∧zw p (findF (u7 w.m) p.c.k) (findF (u7 v.m) p.c.k) w.m.now v.m.now=true then (i : Int) else found)=found:=if_neg (fun y=>h4 y.1)
   rw [hnF] at I5
   refine aH (by simp only [nrm,xdn,reduceIte,Nat.reduceLT,Nat.reduceSub,Nat.reduceAdd];omega) (bx ⟨⟨i + 1,_,_,?_,hn,hv0,by omega,I5⟩,?_⟩)
   ·simp only [nrm,xdn,reduceIte,Nat.reduceLT,Nat.reduceSub,Nat.reduceAdd];rfl
   ·simp only [nrm,xdn,reduceIte,Nat.reduceLT,Nat.reduceSub,Nat.reduceAdd];omega
  simp only [nrm,xdn,reduceIte,Nat.reduceLT,Nat.reduceSub,Nat.reduceAdd] at h4
  refine ae (fun h5=>?_) (fun h5=>?_)
  rotate_left
  ·simp only [nrm,xdn,reduceIte,Nat.reduceLT,Nat.reduceSub,Nat.reduceAdd] at h5
   have hnF : (if found < 0∧p.fr≤i∧zw p (findF (u7 w.m) p.c.k) (findF (u7 v.m) p.c.k) w.m.now v.m.now=true then (i : Int) else found)=found:=if_neg (fun y=>h5 y.2.1)
   rw [hnF] at I5
   refine aH (by simp only [nrm,xdn,reduceIte,Nat.reduceLT,Nat.reduceSub,Nat.reduceAdd];omega) (bx ⟨⟨i + 1,_,_,?_,hn,hv0,by omega,I5⟩,?_⟩)
   ·simp only [nrm,xdn,reduceIte,Nat.reduceLT,Nat.reduceSub,Nat.reduceAdd];rfl
   ·simp only [nrm,xdn,reduceIte,Nat.reduceLT,Nat.reduceSub,Nat.reduceAdd];omega
  simp only [nrm,xdn,reduceIte,Nat.reduceLT,Nat.reduceSub,Nat.reduceAdd] at h5
  refine ah d76 [fK (u7 w.m)] rfl (by simp only [nrm,xdn,reduceIte,Nat.reduceLT,Nat.reduceSub,Nat.reduceAdd,d76,mem_of,aq];exact (zO I2).2) (by simp only [nrm,xdn,reduceIte,Nat.reduceLT,Nat.reduceSub,Nat.reduceAdd,fn76]) ?_
  refine ah d76 [fK (u7 v.m)] rfl (by simp only [nrm,xdn,reduceIte,Nat.reduceLT,Nat.reduceSub,Nat.reduceAdd,d76,mem_of,aq];exact h3) (by simp only [nrm,xdn,reduceIte,Nat.reduceLT,Nat.reduceSub,Nat.reduceAdd,fn76]) ?_
  refine ah d204 [.b (zw p (findF (u7 w.m) p.c.k) (findF (u7 v.m) p.c.k) w.m.now v.m.now)] rfl trivial (by simp only [nrm,xdn,reduceIte,Nat.reduceLT,Nat.reduceSub,Nat.reduceAdd,d204,zv,zt]) (ae (fun h6=>?_) (fun h6=>?_))
  ·simp only [nrm,xdn,reduceIte,Nat.reduceLT,Nat.reduceSub,Nat.reduceAdd] at h6
   have hnF : (if found < 0∧p.fr≤i∧zw p (findF (u7 w.m) p.c.k) (findF (u7 v.m) p.c.k) w.m.now v.m.now=true then (i : Int) else found)=i:=if_pos ⟨h4,h5,h6⟩
   rw [hnF] at I5
   refine aH (by simp only [nrm,xdn,reduceIte,Nat.reduceLT,Nat.reduceSub,Nat.reduceAdd];omega) (bx ⟨⟨i + 1,_,_,?_,hn,hv0,by omega,I5⟩,?_⟩)
   ·simp only [nrm,xdn,reduceIte,Nat.reduceLT,Nat.reduceSub,Nat.reduceAdd];rfl
   ·simp only [nrm,xdn,reduceIte,Nat.reduceLT,Nat.reduceSub,Nat.reduceAdd];omega
  ·simp only [nrm,xdn,reduceIte,Nat.reduceLT,Nat.reduceSub,Nat.reduceAdd] at h6
   have hnF : (if found < 0∧p.fr≤i∧zw p (findF (u7 w.m) p.c.k) (findF (u7 v.m) p.c.k) w.m.now v.m.now=true then (i : Int) else found)=found:=if_neg (fun y=>by rw [h6] at y;exact Bool.false_ne_true y.2.2)
   rw [hnF] at I5
   refine aH (by simp only [nrm,xdn,reduceIte,Nat.reduceLT,Nat.reduceSub,Nat.reduceAdd];omega) (bx ⟨⟨i + 1,_,_,?_,hn,hv0,by omega,I5⟩,?_⟩)
   ·simp only [nrm,xdn,reduceIte,Nat.reduceLT,Nat.reduceSub,Nat.reduceAdd];rfl
   ·simp only [nrm,xdn,reduceIte,Nat.reduceLT,Nat.reduceSub,Nat.reduceAdd];omega
 ·simp only [nrm,xdn,reduceIte,Nat.reduceLT,Nat.reduceSub,Nat.reduceAdd] at h1
  have h1 : ¬ r.2=0:=by simpa using h1
  have hN : me w x=w:=by unfold me;rw [z5 hcw,hr,if_neg h1]
  rw [hN] at hn' I5
  obtain ⟨v,hv⟩ : ∃ v,w=v:=⟨_,rfl⟩
  have hn : w.cU=w:=I1
  have I5 : zV p L 0 W (-1)=if mn v≠0 then (0,mn v) else zV p (L.drop (i + 1)) (i + 1) v (if found < 0∧p.fr≤i∧zw p (findF (zq w).1 p.c.k) (findF (zq v).1 p.c.k) w.m.now v.m.now=true then i else found):=by rw [← hv];exact I5
  subst hv
  refine ah d141 [.i (bE w)] rfl trivial (by simp only [nrm,xdn,reduceIte,Nat.reduceLT,Nat.reduceSub,Nat.reduceAdd,d141,oe,aq];rw [show Wrd.cU ⟨w.m,w.ts⟩=w from hn]) (ae (fun h2=>ag ?_) (fun h2=>?_))
  ·simp only [nrm,xdn,reduceIte,Nat.reduceLT,Nat.reduceSub,Nat.reduceAdd] at h2 ⊢
   have h2 : bE w≠0:=by simpa using h2
   have he : mn w=bE w:=by rw [zB,if_pos h2]
   rw [if_pos (by rw [he];exact h2),he] at I5
   rw [I5]
  simp only [nrm,xdn,reduceIte,Nat.reduceLT,Nat.reduceSub,Nat.reduceAdd] at h2
  have h2 : bE w=0:=by simpa using h2
  have he : mn w=cp w.m:=by rw [zB,if_neg (fun y=>y h2)]
  refine ah d72 [.i (cp w.m)] rfl trivial (by simp only [nrm,xdn,reduceIte,Nat.reduceLT,Nat.reduceSub,Nat.reduceAdd,fn72]) (ae (fun h3=>ag ?_) (fun h3=>?_))
  ·simp only [nrm,xdn,reduceIte,Nat.reduceLT,Nat.reduceSub,Nat.reduceAdd] at h3 ⊢
   have h3 : cp w.m≠0:=by simpa using h3
   rw [if_pos (by rw [he];exact h3),he] at I5
   rw [I5]
  simp only [nrm,xdn,reduceIte,Nat.reduceLT,Nat.reduceSub,Nat.reduceAdd] at h3
  have h3 : cp w.m=0:=by simpa using h3
  have hv0 : mn w=0:=he.trans h3
  rw [if_neg (fun y=>y hv0),zX hv0] at I5
  refine ae (fun h4=>?_) (fun h4=>?_)
  rotate_left
  ·simp only [nrm,xdn,reduceIte,Nat.reduceLT,Nat.reduceSub,Nat.reduceAdd] at h4
   have hnF : (if found < 0∧p.fr≤i∧zw p (findF (u7 w.m) p.c.k) (findF (u7 w.m) p.c.k) w.m.now w.m.now=true then (i : Int) else found)=found:=if_neg (fun y=>h4 y.1)
   rw [hnF] at I5
   refine aH (by simp only [nrm,xdn,reduceIte,Nat.reduceLT,Nat.reduceSub,Nat.reduceAdd];omega) (bx ⟨⟨i + 1,_,_,?_,hn,hv0,by omega,I5⟩,?_⟩)
   ·simp only [nrm,xdn,reduceIte,Nat.reduceLT,Nat.reduceSub,Nat.reduceAdd];rfl
   ·simp only [nrm,xdn,reduceIte,Nat.reduceLT,Nat.reduceSub,Nat.reduceAdd];omega
  simp only [nrm,xdn,reduceIte,Nat.reduceLT,Nat.reduceSub,Nat.reduceAdd] at h4
  refine ae (fun h5=>?_) (fun h5=>?_)
  rotate_left
  ·simp only [nrm,xdn,reduceIte,Nat.reduceLT,Nat.reduceSub,Nat.reduceAdd] at h5
   have hnF : (if found < 0∧p.fr≤i∧zw p (findF (u7 w.m) p.c.k) (findF (u7 w.m) p.c.k) w.m.now w.m.now=true then (i : Int) else found)=found:=if_neg (fun y=>h5 y.2.1)
   rw [hnF] at I5
   refine aH (by simp only [nrm,xdn,reduceIte,Nat.reduceLT,Nat.reduceSub,Nat.reduceAdd];omega) (bx ⟨⟨i + 1,_,_,?_,hn,hv0,by omega,I5⟩,?_⟩)
   ·simp only [nrm,xdn,reduceIte,Nat.reduceLT,Nat.reduceSub,Nat.reduceAdd];rfl
   ·simp only [nrm,xdn,reduceIte,Nat.reduceLT,Nat.reduceSub,Nat.reduceAdd];omega
  simp only [nrm,xdn,reduceIte,Nat.reduceLT,Nat.reduceSub,Nat.reduceAdd] at h5
  refine ah d76 [fK (u7 w.m)] rfl (by simp only [nrm,xdn,reduceIte,Nat.reduceLT,Nat.reduceSub,Nat.reduceAdd,d76,mem_of,aq];exact (zO I2).2) (by simp only [nrm,xdn,reduceIte,Nat.reduceLT,Nat.reduceSub,Nat.reduceAdd,fn76]) ?_
  refine ah d76 [fK (u7 w.m)] rfl (by simp only [nrm,xdn,reduceIte,Nat.reduceLT,Nat.reduceSub,Nat.reduceAdd,d76,mem_of,aq];exact h3) (by simp only [nrm,xdn,reduceIte,Nat.reduceLT,Nat.reduceSub,Nat.reduceAdd,fn76]) ?_
  refine ah d204 [.b (zw p (findF (u7 w.m) p.c.k) (findF (u7 w.m) p.c.k) w.m.now w.m.now)] rfl trivial (by simp only [nrm,xdn,reduceIte,Nat.reduceLT,Nat.reduceSub,Nat.reduceAdd,d204,zv,zt]) (ae (fun h6=>?_) (fun h6=>?_))
  ·simp only [nrm,xdn,reduceIte,Nat.reduceLT,Nat.reduceSub,Nat.reduceAdd] at h6
   have hnF : (if found < 0∧p.fr≤i∧zw p (findF (u7 w.m) p.c.k) (findF (u7 w.m) p.c.k) w.m.now w.m.now=true then (i : Int) else found)=i:=if_pos ⟨h4,h5,h6⟩
   rw [hnF] at I5
   refine aH (by simp only [nrm,xdn,reduceIte,Nat.reduceLT,Nat.reduceSub,Nat.reduceAdd];omega) (bx ⟨⟨i + 1,_,_,?_,hn,hv0,by omega,I5⟩,?_⟩)
   ·simp only [nrm,xdn,reduceIte,Nat.reduceLT,Nat.reduceSub,Nat.reduceAdd];rfl
   ·simp only [nrm,xdn,reduceIte,Nat.reduceLT,Nat.reduceSub,Nat.reduceAdd];omega
  ·simp only [nrm,xdn,reduceIte,Nat.reduceLT,Nat.reduceSub,Nat.reduceAdd] at h6
   have hnF : (if found < 0∧p.fr≤i∧zw p (findF (u7 w.m) p.c.k) (findF (u7 w.m) p.c.k) w.m.now w.m.now=true then (i : Int) else found)=found:=if_neg (fun y=>by rw [h6] at y;exact Bool.false_ne_true y.2.2)
   rw [hnF] at I5
   refine aH (by simp only [nrm,xdn,reduceIte,Nat.reduceLT,Nat.reduceSub,Nat.reduceAdd];omega) (bx ⟨⟨i + 1,_,_,?_,hn,hv0,by omega,I5⟩,?_⟩)
   ·simp only [nrm,xdn,reduceIte,Nat.reduceLT,Nat.reduceSub,Nat.reduceAdd];rfl
   ·simp only [nrm,xdn,reduceIte,Nat.reduceLT,Nat.reduceSub,Nat.reduceAdd];omega
end Go.Proofs.Ytpmamacjepcdmaa
