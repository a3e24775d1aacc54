/- The law Names: each constant has its value. -/
import Derived.Test.YtpmamacjepcdmaaCSlices
import Derived.Test.YtpmamacjepcdmaaSyLaw
namespace Go.Proofs.Ytpmamacjepcdmaa
open Go Go.Sy Go.RowKit
set_option linter.unusedSimpArgs false
def s3 : Sig := ⟨[], [.one (.bool)]⟩
def d3 : DC := ⟨s3, fun _ => True, fun _ => [.b true]⟩
def l3 : List (Nat × Ct) := [(39, d39.ct)]
def z3 : Cx := { T := ttA, C := sigs l3, F := [], hints := [⟨3, 3, true, [], [], []⟩], sig := s3 }
def t3 : Tree :=
 (.call 39 [.app (.cons (.int 15) .row0) (.app (.cons (.int 12) .row0) (.app (.cons (.int 4) .row0) (.app (.cons (.int 5) .row0) (.app (.cons (.int 1000000) .row0) (.app (.cons (.int 300) .row0) (.app (.cons (.int 1000) .row0) (.cons (.int 100) .row0))))))), .app (.cons (.int 15) .row0) (.app (.cons (.int 12) .row0) (.app (.cons (.int 4) .row0) (.app (.cons (.int 5) .row0) (.app (.cons (.int 1000000) .row0) (.app (.cons (.int 300) .row0) (.app (.cons (.int 1000) .row0) (.cons (.int 100) .row0)))))))] 0
 (.ite (.var 0)
  (.call 39 [.app (.cons (.int 1) .row0) (.app (.cons (.int 2) .row0) (.app (.cons (.int 3) .row0) (.app (.cons (.int 4) .row0) (.app (.cons (.int 5) .row0) (.cons (.int 6) .row0))))), .app (.cons (.int 1) .row0) (.app (.cons (.int 2) .row0) (.app (.cons (.int 3) .row0) (.app (.cons (.int 4) .row0) (.app (.cons (.int 5) .row0) (.cons (.int 6) .row0)))))] 1
  (.ret [.var 1]))
  (.ret [.bool false])))
theorem run3 : run z3 6000 [.code (Try.f3.body.getD .skip), .fin (topRet z3 Try.f3.results.toList 50)] { fn := 3, tmps := z3.sig.args0 ++ List.replicate (Try.f3.ntmps - z3.sig.args0.length) (.v (.one .undef)), stk := [], h := z3.sig.h0, nx := z3.sig.ins.length, known := [] } = t3 := by kernel_rfl
theorem ok3 : CtOk Try.prog 3 d3.ct := by
  refine dc_of_tree (d := d3) (Z := z3) (Γ := gam l3) (fn := Try.f3) (c := Try.f3.body.getD .skip) (told_of tok mixed (all_cons ok39 all_nil) fok_nil) Try.func3 (by kernel_rfl) (by kernel_rfl) rfl run3 fun E hk hp => ?_
  clear hk
  have el : letters E d3.sig.ins.length = [] := rfl
  rw [el] at hp
  rw [el]
  unfold t3
  refine den_calle d39 [.b true] rfl trivial (by simp [d39]) (den_ite (fun _ => den_calle d39 [.b true] rfl trivial (by simp [d39]) (den_ret ?_)) (fun h => ?_))
  · simp only [List.map_cons, List.map_nil, X.den, Env.put, CD.int_i, CD.bool_b, CD.rows_l, decide_eq_true_eq, decide_eq_false_iff_not, beq_iff_eq, beq_eq_false_iff_ne, List.getD_cons_zero, List.getD_cons_succ, reduceIte, Nat.reduceLT, Nat.reduceSub, Nat.reduceAdd]; rfl
  · simp only [List.map_cons, List.map_nil, X.den, Env.put, CD.int_i, CD.bool_b, CD.rows_l, decide_eq_true_eq, decide_eq_false_iff_not, beq_iff_eq, beq_eq_false_iff_ne, List.getD_cons_zero, List.getD_cons_succ, reduceIte, Nat.reduceLT, Nat.reduceSub, Nat.reduceAdd, Nat.lt_irrefl, Bool.true_eq_false] at h
end Go.Proofs.Ytpmamacjepcdmaa
