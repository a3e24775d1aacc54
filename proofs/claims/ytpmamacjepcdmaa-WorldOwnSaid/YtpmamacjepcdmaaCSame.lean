import Derived.Test.YtpmamacjepcdmaaCRun
namespace Go.Proofs.Ytpmamacjepcdmaa
open Go Go.Sy Go.RowKit
set_option linter.unusedSimpArgs false
set_option linter.unusedVariables false
set_option maxRecDepth 20000
instance : Inhabited Pst:=⟨⟨0,⟨0,⟨0,0⟩,0,0,0⟩,0,0,0,0,0,[]⟩⟩
def qL : List Pik:=[⟨0,false,false,⟨2,⟨3,0⟩,5,0,0⟩⟩,⟨1,false,false,⟨1,⟨3,0⟩,0,0,0⟩⟩,⟨1,true,false,⟨0,⟨0,0⟩,0,0,0⟩⟩,⟨0,true,false,⟨0,⟨0,0⟩,0,0,0⟩⟩,⟨0,true,false,⟨0,⟨0,0⟩,0,0,0⟩⟩,⟨0,true,false,⟨0,⟨0,0⟩,0,0,0⟩⟩,⟨0,true,false,⟨0,⟨0,0⟩,0,0,0⟩⟩,⟨0,true,false,⟨0,⟨0,0⟩,0,0,0⟩⟩,⟨0,true,false,⟨0,⟨0,0⟩,0,0,0⟩⟩,⟨1,true,false,⟨0,⟨0,0⟩,0,0,0⟩⟩,⟨1,true,false,⟨0,⟨0,0⟩,0,0,0⟩⟩,⟨0,false,true,⟨0,⟨0,0⟩,0,0,0⟩⟩]
def pN : Wrd × Int:=iw 2 1 2
def Wrd.G4 (w : Wrd) : Wrd:=⟨w.m,w.ts.map Tsk.G4⟩
def pR : qE × Int:=BK pN.1.G4 qL
def pF : List cI × Int:=qw pR.1.w.G4
theorem pN_ok : pN.2=0:=by decide +kernel
theorem pR_ok : pR.2=0∧pR.1.said=[0,0,0,0,0,0,0,0,0,0,8,0]∧pR.1.past.length=2∧(pR.1.past.getD 0 default).e=0∧(pR.1.past.getD 0 default).task=0∧(pR.1.past.getD 1 default).e=5∧(pR.1.past.getD 1 default).to=9∧pR.1.w.m.now=1:=by decide +kernel
theorem pF_ok : pF.2=0∧pF.1.length=1:=by decide +kernel
theorem fY (a : List bp) (b c d : List Int) (n : Int) (ts : List Tsk) (l : List CD) : Wrd.of (au a :: af b :: af c :: af d :: .i n :: G2 ts :: l)=Wrd.G4 ⟨⟨a,b,c,d,n⟩,ts⟩:=by
 rw [ju];exact fX a b c d n _ l
theorem AB {l : List Pst} {i : Nat} (o : Nat) (h : i < l.length) : ((gl l).rows.getD i []).getD o .u=(l.getD i default).row.getD o .u:=dh Pst.row l i o h
def s79 : Sig:=⟨[],[.one (.bool)]⟩
def d79 : DC:=⟨s79,fun _=>True,fun _=>[.b true]⟩
def l79 : List (Nat × Ct):=[(78,d78.ct),(80,d80.ct),(134,d134.ct)]
def z79 : Cx:={ T:=ttA,C:=sigs l79,F:=[],hints:=[⟨79,5,true,[],[],[],[],0,0,false⟩],sig:=s79}
def t79 : Tree :=
 (.call 78 [.int 2,.int 1,.int 2] 0
 (.need (.clean (.var 5) 15)
 (.call 80 [.var 0,.var 1,.var 2,.var 3,.var 4,.shuts (.var 5) 15,.app (.app (.app (.app (.app (.app (.app (.app (.cons (.int 0) (.cons (.bool false) (.cons (.bool false) (.cons (.int 2) (.cons (.int 3) (.cons (.int 0) (.cons (.int 5) (.cons (.int 0) (.cons (.int 0) .row0))))))))) (.app (.cons (.int 1) (.cons (.bool false) (.cons (.bool false) (.cons (.int 1) (.cons (.int 3) (.cons (.int 0) (.cons (.int 0) (.cons (.int 0) (.cons (.int 0) .row0))))))))) (.cons (.int 1) (.cons (.bool true) (.cons (.bool false) (.cons (.int 0) (.cons (.int 0) (.cons (.int 0) (.cons (.int 0) (.cons (.int 0) (.cons (.int 0) .row0))))))))))) (.cons (.int 0) (.cons (.bool true) (.cons (.bool false) (.cons (.int 0) (.cons (.int 0) (.cons (.int 0) (.cons (.int 0) (.cons (.int 0) (.cons (.int 0) .row0)))))))))) (.cons (.int 0) (.cons (.bool true) (.cons (.bool false) (.cons (.int 0) (.cons (.int 0) (.cons (.int 0) (.cons (.int 0) (.cons (.int 0) (.cons (.int 0) .row0)))))))))) (.cons (.int 0) (.cons (.bool true) (.cons (.bool false) (.cons (.int 0) (.cons (.int 0) (.cons (.int 0) (.cons (.int 0) (.cons (.int 0) (.cons (.int 0) .row0)))))))))) (.cons (.int 0) (.cons (.bool true) (.cons (.bool false) (.cons (.int 0) (.cons (.int 0) (.cons (.int 0) (.cons (.int 0) (.cons (.int 0) (.cons (.int 0) .row0)))))))))) (.cons (.int 0) (.cons (.bool true) (.cons (.bool false) (.cons (.int 0) (.cons (.int 0) (.cons (.int 0) (.cons (.int 0) (.cons (.int 0) (.cons (.int 0) .row0)))))))))) (.cons (.int 0) (.cons (.bool true) (.cons (.bool false) (.cons (.int 0) (.cons (.int 0) (.cons (.int 0) (.cons (.int 0) (.cons (.int 0) (.cons (.int 0) .row0)))))))))) (.app (.cons (.int 1) (.cons (.bool true) (.cons (.bool false) (.cons (.int 0) (.cons (.int 0) (.cons (.int 0) (.cons (.int 0) (.cons (.int 0) (.cons (.int 0) .row0))))))))) (.app (.cons (.int 1) (.cons (.bool true) (.cons (.bool false) (.cons (.int 0) (.cons (.int 0) (.cons (.int 0) (.cons (.int 0) (.cons (.int 0) (.cons (.int 0) .row0))))))))) (.cons (.int 0) (.cons (.bool false) (.cons (.bool true) (.cons (.int 0) (.cons (.int 0) (.cons (.int 0) (.cons (.int 0) (.cons (.int 0) (.cons (.int 0) .row0)))))))))))] 7
 (.call 134 [.var 7,.var 8,.var 9,.var 10,.var 11,.var 12] 16
 (.ite (.eq (.var 6) (.int 0))
 (.ite (.eq (.var 15) (.int 0))
 (.ite (.eq (.var 17) (.int 0))
 (.ite (.eq (.len (.var 13)) (.int 12))
 (.need (.lt (.int 10) (.len (.var 13)))
 (.ite (.eq (.cell (.var 13) (.int 10) 0) (.int 8))
 (.ite (.eq (.len (.var 14)) (.int 2))
 (.need (.lt (.int 0) (.len (.var 14)))
 (.ite (.eq (.cell (.var 14) (.int 0) 9) (.int 0))
 (.ite (.eq (.cell (.var 14) (.int 0) 0) (.int 0))
 (.need (.lt (.int 1) (.len (.var 14)))
 (.ite (.eq (.cell (.var 14) (.int 1) 9) (.int 5))
 (.ite (.eq (.cell (.var 14) (.int 1) 8) (.int 9))
 (.ite (.eq (.len (.var 16)) (.int 1))
 (.ret [.eq (.var 11) (.int 1)])
 (.ret [.bool false]))
 (.ret [.bool false]))
 (.ret [.bool false])))
 (.ret [.bool false]))
 (.ret [.bool false])))
 (.ret [.bool false]))
 (.ret [.bool false])))
 (.ret [.bool false]))
 (.ret [.bool false]))
 (.ret [.bool false]))
 (.ret [.bool false]))))))
theorem run79 : run z79 6000 [.code (Try.f79.body.getD .skip),.fin (bt z79 Try.f79.results.toList 50)] { fn:=79,tmps:=z79.sig.aM ++ List.replicate (Try.f79.ntmps - z79.sig.aM.length) (.v (.one .undef)),stk:=[],h:=z79.sig.h0,nx:=z79.sig.ins.length,known:=[]}=t79:=by kernel_rfl
theorem ok79 : cB Try.prog 79 d79.ct:=by
 refine aD (d:=d79) (Z:=z79) (Γ:=gam l79) (fn:=Try.f79) (c:=Try.f79.body.getD .skip) (bg tok mixed (all_cons ok78 (all_cons ok80 (all_cons ok134 all_nil))) bh) Try.func79 (by kernel_rfl) (by kernel_rfl) rfl run79 fun E hk hp=>?_
 clear hk
 have el : aH E d79.sig.ins.length=[]:=rfl
 rw [el] at hp
 rw [el]
 rw [Env.bJ el]
 clear el
 simp only [d79]
 unfold t79
 refine ai d78 (pN.1.cds ++ [.i pN.2]) rfl trivial (by simp only [nrm,xdn,reduceIte,Nat.reduceLT,Nat.reduceSub,Nat.reduceAdd,d78];rfl) ?_
 refine ag (by simp only [nrm,xdn,reduceIte,Nat.reduceLT,Nat.reduceSub,Nat.reduceAdd,Wrd.cds,Mem.cds,lca];exact aI _) (ai d80 (pR.1.w.tM ++ [af pR.1.said,gl pR.1.past,.i pR.2]) rfl trivial ?_ ?_)
 ·simp only [nrm,xdn,reduceIte,Nat.reduceLT,Nat.reduceSub,Nat.reduceAdd,Wrd.cds,Mem.cds,lca,cg,CD.row,List.headD_cons,CD.ax]
  show d80.fn [au pN.1.m.slots,af pN.1.m.heads,af pN.1.m.free,af pN.1.m.locks,.i pN.1.m.now,G2 pN.1.ts,eD qL]=_
  simp only [d80,fY,List.getD_cons_zero,List.getD_cons_succ,oZ]
  rfl
 obtain ⟨k1,k2,k3,k4,k5,k6,k7,k8⟩:=pR_ok
 obtain ⟨j1,j2⟩:=pF_ok
 refine ai d134 [eM pF.1,.i pF.2] rfl trivial ?_ ?_
 ·simp only [nrm,xdn,reduceIte,Nat.reduceLT,Nat.reduceSub,Nat.reduceAdd,Wrd.cds,Wrd.tM,Mem.cds,lca,d134,fY]
  rfl
 have n0:=pN_ok
 have q0 : ((gl pR.1.past).rows.getD 0 []).getD 9 .u=.i (pR.1.past.getD 0 default).e:=by rw [AB 9 (by omega)];rfl
 have q1 : ((gl pR.1.past).rows.getD 0 []).getD 0 .u=.i (pR.1.past.getD 0 default).task:=by rw [AB 0 (by omega)];rfl
 have q2 : ((gl pR.1.past).rows.getD 1 []).getD 9 .u=.i (pR.1.past.getD 1 default).e:=by rw [AB 9 (by omega)];rfl
 have q3 : ((gl pR.1.past).rows.getD 1 []).getD 8 .u=.i (pR.1.past.getD 1 default).to:=by rw [AB 8 (by omega)];rfl
 have sl : ((af pR.1.said).rows.getD 10 []).getD 0 .u=.i 8:=by rw [k2];rfl
 have sn : pR.1.said.length=12:=by rw [k2];rfl
 generalize pN=N at *
 generalize pR=R at *
 generalize pF=F at *
 have t1 : (1 : Int).toNat=1:=rfl
 have t10 : (10 : Int).toNat=10:=rfl
 repeat' first
  | refine Bf (by simp only [nrm,xdn,reduceIte,Nat.reduceLT,Nat.reduceSub,Nat.reduceAdd,Wrd.cds,Wrd.tM,Mem.cds,lca,aw,qm,iT,Int.toNat_zero,t1,t10,q0,q1,q2,q3,sl,sn,n0,k1,k3,k4,k5,k6,k7,k8,j1,j2] <;> rfl) ?_
  | refine ag (by simp only [nrm,xdn,reduceIte,Nat.reduceLT,Nat.reduceSub,Nat.reduceAdd,Wrd.cds,Wrd.tM,Mem.cds,lca,aw,qm,iT,sn,k3] <;> omega) ?_
 refine aj ?_
 simp only [nrm,xdn,reduceIte,Nat.reduceLT,Nat.reduceSub,Nat.reduceAdd,Wrd.cds,Wrd.tM,Mem.cds,lca,k8] <;> rfl
end Go.Proofs.Ytpmamacjepcdmaa

namespace Go.Proofs.Ytpmamacjepcdmaa
open Go Go.Sy Go.RowKit
set_option linter.unusedSimpArgs false
set_option linter.unusedVariables false
theorem iQ (w : Wrd) : w.G4.bm=w.bm:=by
 simp only [Wrd.G4,Wrd.bm,List.map_map];rfl
end Go.Proofs.Ytpmamacjepcdmaa
