import Derived.Test.YtpmamacjepcdmaaCSlices
import Derived.Test.YtpmamacjepcdmaaSyLaw
namespace Go.Proofs.Ytpmamacjepcdmaa
open Go Go.Sy Go.RowKit
set_option linter.unusedSimpArgs false
set_option linter.unusedVariables false
def s3 : Sig:=⟨[],[.one (.bool)]⟩
def d3 : DC:=⟨s3,fun _=>True,fun _=>[.b true]⟩
def l3 : List (Nat × Ct):=[(39,d39.ct)]
def z3 : Cx:={ T:=ttA,C:=sigs l3,F:=[],hints:=[⟨3,3,true,[],[],[],[],0,0,false⟩],sig:=s3}
def t3 : Tree :=
 (.call 39 [.app (.cons (.int 15) .row0) (.app (.cons (.int 12) .row0) (.app (.cons (.int 4) .row0) (.app (.cons (.int 5) .row0) (.app (.cons (.int 1000000) .row0) (.app (.cons (.int 300) .row0) (.app (.cons (.int 1000) .row0) (.cons (.int 100) .row0))))))),.app (.cons (.int 15) .row0) (.app (.cons (.int 12) .row0) (.app (.cons (.int 4) .row0) (.app (.cons (.int 5) .row0) (.app (.cons (.int 1000000) .row0) (.app (.cons (.int 300) .row0) (.app (.cons (.int 1000) .row0) (.cons (.int 100) .row0)))))))] 0
 (.ite (.var 0)
 (.call 39 [.app (.cons (.int 1) .row0) (.app (.cons (.int 2) .row0) (.app (.cons (.int 3) .row0) (.app (.cons (.int 4) .row0) (.app (.cons (.int 5) .row0) (.cons (.int 6) .row0))))),.app (.cons (.int 1) .row0) (.app (.cons (.int 2) .row0) (.app (.cons (.int 3) .row0) (.app (.cons (.int 4) .row0) (.app (.cons (.int 5) .row0) (.cons (.int 6) .row0)))))] 1
 (.ret [.var 1]))
 (.ret [.bool false])))
theorem run3 : run z3 6000 [.code (Try.f3.body.getD .skip),.fin (bt z3 Try.f3.results.toList 50)] { fn:=3,tmps:=z3.sig.aM ++ List.replicate (Try.f3.ntmps - z3.sig.aM.length) (.v (.one .undef)),stk:=[],h:=z3.sig.h0,nx:=z3.sig.ins.length,known:=[]}=t3:=by kernel_rfl
theorem ok3 : cB Try.prog 3 d3.ct:=by
 refine aD (d:=d3) (Z:=z3) (Γ:=gam l3) (fn:=Try.f3) (c:=Try.f3.body.getD .skip) (bg tok mixed (all_cons ok39 all_nil) bh) Try.func3 (by kernel_rfl) (by kernel_rfl) rfl run3 fun E hk hp=>?_
 clear hk
 have el : aH E d3.sig.ins.length=[]:=rfl
 rw [el] at hp
 rw [el]
 unfold t3
 refine ai d39 [.b true] rfl trivial (by simp [d39]) (G0 (fun _=>ai d39 [.b true] rfl trivial (by simp [d39]) (aj ?_)) (fun h=>?_))
 ·simp only [nrm,xdn,reduceIte,Nat.reduceLT,Nat.reduceSub,Nat.reduceAdd];rfl
 ·simp only [nrm,xdn,reduceIte,Nat.reduceLT,Nat.reduceSub,Nat.reduceAdd,Bool.true_eq_false] at h
end Go.Proofs.Ytpmamacjepcdmaa
