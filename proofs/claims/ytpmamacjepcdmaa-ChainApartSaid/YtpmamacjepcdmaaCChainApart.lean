import Derived.Test.YtpmamacjepcdmaaCChain4
import Derived.Test.YtpmamacjepcdmaaCChainLaws3
/- ChainTells. -/
namespace Go.Proofs.Ytpmamacjepcdmaa
open Go Go.Sy Go.RowKit
set_option linter.unusedSimpArgs false
set_option linter.unusedVariables false

theorem same_flows (l : List Flow) : d75.fn [flowsD l, flowsD l] = [.b true] := by
  simp only [d75, List.getD_cons_zero, List.getD_cons_succ, flows_flowsD, decide_true]
theorem same_ints (l : List Int) : d39.fn [intsD l, intsD l] = [.b true] := by
  simp only [d39, List.getD_cons_zero, List.getD_cons_succ, ints_intsD, decide_true]
def s11 : Sig := ⟨[.agg [.fz kS, .fz kI, .fz kI, .fz kI, .int .i64], .one (.int .i64)], [.one (.bool)]⟩
def d11 : DC := ⟨s11, fun _ => True, fun _ => [.b true]⟩
def l11 : List (Nat × Ct) := [(70, d70.ct), (71, d71.ct), (72, d72.ct), (73, d73.ct), (74, d74.ct), (58, d58.ct), (77, d77.ct), (39, d39.ct), (76, d76.ct), (75, d75.ct)]
def z11 : Cx := { T := ttA, C := sigs l11, F := [], hints := [], sig := s11 }
def t11 : Tree :=
 (.call 70 [.var 0, .var 1, .var 2, .var 3, .var 4, .var 5] 6
 (.call 71 [.var 0, .var 1, .var 2, .var 3, .var 4] 8
 (.call 72 [.var 0, .var 1, .var 2, .var 3, .var 4] 10
 (.call 73 [] 11
 (.ite (.not (.var 11))
  (.ret [.bool false])
  (.call 74 [.var 0, .var 1, .var 2, .var 3, .var 4] 12
  (.ite (.not (.eq (.var 12) (.var 10)))
   (.ret [.bool false])
   (.ite (.not (.eq (.var 9) (.var 10)))
    (.ret [.bool false])
    (.ite (.not (.eq (.var 10) (.int 0)))
     (.ite (.not (.eq (.len (.var 8)) (.int 0)))
      (.ret [.bool false])
      (.call 58 [.var 0, .var 1, .var 2, .var 3, .var 4] 13
      (.ite (.eq (.var 13) (.int 0))
       (.ite (.lt (.var 5) (.int 0))
        (.ite (.eq (.var 7) (.int 5))
         (.ret [.eq (.len (.var 6)) (.int 0)])
         (.ret [.bool false]))
        (.ite (.le (.len (.var 1)) (.var 5))
         (.ite (.eq (.var 7) (.int 5))
          (.ret [.eq (.len (.var 6)) (.int 0)])
          (.ret [.bool false]))
         (.call 77 [.var 0, .var 1, .var 2, .var 3, .var 4, .var 5] 14
         (.ite (.not (.var 15))
          (.ite (.eq (.var 7) (.int 4))
           (.ret [.eq (.len (.var 6)) (.int 0)])
           (.ret [.bool false]))
          (.ite (.eq (.var 7) (.int 0))
           (.call 39 [.var 6, .var 14] 16
           (.ret [.var 16]))
           (.ret [.bool false]))))))
       (.ite (.eq (.var 7) (.var 13))
        (.ret [.eq (.len (.var 6)) (.int 0)])
        (.ret [.bool false])))))
     (.call 76 [.var 0, .var 1, .var 2, .var 3, .var 4] 13
     (.call 75 [.var 8, .var 13] 14
     (.ite (.not (.var 14))
      (.ret [.bool false])
      (.call 58 [.var 0, .var 1, .var 2, .var 3, .var 4] 15
      (.ite (.eq (.var 15) (.int 0))
       (.ite (.lt (.var 5) (.int 0))
        (.ite (.eq (.var 7) (.int 5))
         (.ret [.eq (.len (.var 6)) (.int 0)])
         (.ret [.bool false]))
        (.ite (.le (.len (.var 1)) (.var 5))
         (.ite (.eq (.var 7) (.int 5))
          (.ret [.eq (.len (.var 6)) (.int 0)])
          (.ret [.bool false]))
         (.call 77 [.var 0, .var 1, .var 2, .var 3, .var 4, .var 5] 16
         (.ite (.not (.var 17))
          (.ite (.eq (.var 7) (.int 4))
           (.ret [.eq (.len (.var 6)) (.int 0)])
           (.ret [.bool false]))
          (.ite (.eq (.var 7) (.int 0))
           (.call 39 [.var 6, .var 16] 18
           (.ret [.var 18]))
           (.ret [.bool false]))))))
       (.ite (.eq (.var 7) (.var 15))
        (.ret [.eq (.len (.var 6)) (.int 0)])
        (.ret [.bool false]))))))))))))))))
theorem run11 : run z11 6000 [.code (Try.f11.body.getD .skip), .fin (topRet z11 Try.f11.results.toList 50)] { fn := 11, tmps := z11.sig.args0 ++ List.replicate (Try.f11.ntmps - z11.sig.args0.length) (.v (.one .undef)), stk := [], h := z11.sig.h0, nx := z11.sig.ins.length, known := [] } = t11 := by kernel_rfl
theorem ok11 : CtOk Try.prog 11 d11.ct := by
  refine dc_of_tree (d := d11) (Z := z11) (Γ := gam l11) (fn := Try.f11) (c := Try.f11.body.getD .skip) (told_of tok mixed (all_cons ok70 (all_cons ok71 (all_cons ok72 (all_cons ok73 (all_cons ok74 (all_cons ok58 (all_cons ok77 (all_cons ok39 (all_cons ok76 (all_cons ok75 all_nil)))))))))) fok_nil) Try.func11 (by kernel_rfl) (by kernel_rfl) rfl run11 fun E hk hp => ?_
  obtain ⟨hk0, hk1, hk2, hk3, hk4, hk5, _⟩ := hk
  obtain ⟨m, e0, e1, e2, e3, e4, b0, b1, b2, b3⟩ := ok_mem (d0 := E 0) (d1 := E 1) (d2 := E 2) (d3 := E 3) (d4 := E 4) hk0 hk1 hk2 hk3 hk4
  obtain ⟨x, e5⟩ := ok_int (d := E 5) hk5
  have el : letters E d11.sig.ins.length = [slotsD m.slots, intsD m.heads, intsD m.free, intsD m.locks, .i m.now, .i x] := by
    show [E 0, E 1, E 2, E 3, E 4, E 5] = _
    rw [e0, e1, e2, e3, e4, e5]
  rw [el] at hp
  rw [el]
  rw [Env.pre_eq el]
  clear el e0 e1 e2 e3 e4 e5
  simp only [d11]
  unfold t11
  refine den_calle d70 [intsD (slotsOf m x).1, .i (slotsOf m x).2] rfl trivial (by simp only [List.map_cons, List.map_nil, X.den, Env.put, Env.pre, List.length_cons, List.length_nil, Nat.zero_add, CD.int_i, CD.bool_b, CD.rows_l, decide_eq_true_eq, decide_eq_false_iff_not, beq_iff_eq, beq_eq_false_iff_ne, List.getD_cons_zero, List.getD_cons_succ, reduceIte, Nat.reduceLT, Nat.reduceSub, Nat.reduceAdd, Nat.lt_irrefl, Nat.sub_self, fn70]) ?_
  refine den_calle d71 [flowsD (flowsR m).1, .i (flowsR m).2] rfl trivial (by simp only [List.map_cons, List.map_nil, X.den, Env.put, Env.pre, List.length_cons, List.length_nil, Nat.zero_add, CD.int_i, CD.bool_b, CD.rows_l, decide_eq_true_eq, decide_eq_false_iff_not, beq_iff_eq, beq_eq_false_iff_ne, List.getD_cons_zero, List.getD_cons_succ, reduceIte, Nat.reduceLT, Nat.reduceSub, Nat.reduceAdd, Nat.lt_irrefl, Nat.sub_self, fn71]) ?_
  refine den_calle d72 [.i (checkChains m)] rfl trivial (by simp only [List.map_cons, List.map_nil, X.den, Env.put, Env.pre, List.length_cons, List.length_nil, Nat.zero_add, CD.int_i, CD.bool_b, CD.rows_l, decide_eq_true_eq, decide_eq_false_iff_not, beq_iff_eq, beq_eq_false_iff_ne, List.getD_cons_zero, List.getD_cons_succ, reduceIte, Nat.reduceLT, Nat.reduceSub, Nat.reduceAdd, Nat.lt_irrefl, Nat.sub_self, fn72]) ?_
  refine den_calle d73 [.b true] rfl trivial rfl ?_
  refine den_iff (by simp only [List.map_cons, List.map_nil, X.den, Env.put, Env.pre, List.length_cons, List.length_nil, Nat.zero_add, CD.int_i, CD.bool_b, CD.rows_l, decide_eq_true_eq, decide_eq_false_iff_not, beq_iff_eq, beq_eq_false_iff_ne, List.getD_cons_zero, List.getD_cons_succ, reduceIte, Nat.reduceLT, Nat.reduceSub, Nat.reduceAdd, Nat.lt_irrefl, Nat.sub_self, decide_true, Bool.not_true, not_true_eq_false, decide_false, beq_self_eq_true]) ?_
  refine den_calle d74 [.i (checkChains m)] rfl trivial (by simp only [List.map_cons, List.map_nil, X.den, Env.put, Env.pre, List.length_cons, List.length_nil, Nat.zero_add, CD.int_i, CD.bool_b, CD.rows_l, decide_eq_true_eq, decide_eq_false_iff_not, beq_iff_eq, beq_eq_false_iff_ne, List.getD_cons_zero, List.getD_cons_succ, reduceIte, Nat.reduceLT, Nat.reduceSub, Nat.reduceAdd, Nat.lt_irrefl, Nat.sub_self, fn74]) ?_
  refine den_iff (by simp only [List.map_cons, List.map_nil, X.den, Env.put, Env.pre, List.length_cons, List.length_nil, Nat.zero_add, CD.int_i, CD.bool_b, CD.rows_l, decide_eq_true_eq, decide_eq_false_iff_not, beq_iff_eq, beq_eq_false_iff_ne, List.getD_cons_zero, List.getD_cons_succ, reduceIte, Nat.reduceLT, Nat.reduceSub, Nat.reduceAdd, Nat.lt_irrefl, Nat.sub_self, decide_true, Bool.not_true, not_true_eq_false, decide_false, beq_self_eq_true]) ?_
  have hf : (flowsR m).2 = checkChains m := by
    unfold flowsR
    split
    · rfl
    · rename_i h; exact (Classical.not_not.1 h).symm
  rw [hf]
  refine den_iff (by simp only [List.map_cons, List.map_nil, X.den, Env.put, Env.pre, List.length_cons, List.length_nil, Nat.zero_add, CD.int_i, CD.bool_b, CD.rows_l, decide_eq_true_eq, decide_eq_false_iff_not, beq_iff_eq, beq_eq_false_iff_ne, List.getD_cons_zero, List.getD_cons_succ, reduceIte, Nat.reduceLT, Nat.reduceSub, Nat.reduceAdd, Nat.lt_irrefl, Nat.sub_self, decide_true, Bool.not_true, not_true_eq_false, decide_false, beq_self_eq_true]) ?_
  refine den_ite (fun h => ?_) (fun h => ?_)
  · simp only [List.map_cons, List.map_nil, X.den, Env.put, Env.pre, List.length_cons, List.length_nil, Nat.zero_add, CD.int_i, CD.bool_b, CD.rows_l, decide_eq_true_eq, decide_eq_false_iff_not, beq_iff_eq, beq_eq_false_iff_ne, List.getD_cons_zero, List.getD_cons_succ, reduceIte, Nat.reduceLT, Nat.reduceSub, Nat.reduceAdd, Nat.lt_irrefl, Nat.sub_self, Bool.not_eq_true'] at h
    have hf1 : (flowsR m).1 = [] := by unfold flowsR; rw [if_pos h]
    rw [hf1]
    refine den_iff (by simp only [List.map_cons, List.map_nil, X.den, Env.put, Env.pre, List.length_cons, List.length_nil, Nat.zero_add, CD.int_i, CD.bool_b, CD.rows_l, decide_eq_true_eq, decide_eq_false_iff_not, beq_iff_eq, beq_eq_false_iff_ne, List.getD_cons_zero, List.getD_cons_succ, reduceIte, Nat.reduceLT, Nat.reduceSub, Nat.reduceAdd, Nat.lt_irrefl, Nat.sub_self, len_flows, List.length_nil]; rfl) ?_
    refine den_calle d58 [.i (checkMem m)] rfl trivial (by simp only [List.map_cons, List.map_nil, X.den, Env.put, Env.pre, List.length_cons, List.length_nil, Nat.zero_add, CD.int_i, CD.bool_b, CD.rows_l, decide_eq_true_eq, decide_eq_false_iff_not, beq_iff_eq, beq_eq_false_iff_ne, List.getD_cons_zero, List.getD_cons_succ, reduceIte, Nat.reduceLT, Nat.reduceSub, Nat.reduceAdd, Nat.lt_irrefl, Nat.sub_self, fn58]) (den_ite (fun c => ?_) (fun c => ?_))
    · simp only [List.map_cons, List.map_nil, X.den, Env.put, Env.pre, List.length_cons, List.length_nil, Nat.zero_add, CD.int_i, CD.bool_b, CD.rows_l, decide_eq_true_eq, decide_eq_false_iff_not, beq_iff_eq, beq_eq_false_iff_ne, List.getD_cons_zero, List.getD_cons_succ, reduceIte, Nat.reduceLT, Nat.reduceSub, Nat.reduceAdd, Nat.lt_irrefl, Nat.sub_self] at c
      have hm := (checkMem_iff m).1 c
      refine den_ite (fun a1 => ?_) (fun a1 => den_ite (fun a1 => ?_) (fun a2 => ?_))
      · simp only [List.map_cons, List.map_nil, X.den, Env.put, Env.pre, List.length_cons, List.length_nil, Nat.zero_add, CD.int_i, CD.bool_b, CD.rows_l, decide_eq_true_eq, decide_eq_false_iff_not, beq_iff_eq, beq_eq_false_iff_ne, List.getD_cons_zero, List.getD_cons_succ, reduceIte, Nat.reduceLT, Nat.reduceSub, Nat.reduceAdd, Nat.lt_irrefl, Nat.sub_self] at a1
        have hs : slotsOf m x = ([], 5) := by unfold slotsOf; rw [if_neg (by omega), if_pos (.inl a1)]
        rw [hs]
        refine den_ift (by simp only [List.map_cons, List.map_nil, X.den, Env.put, Env.pre, List.length_cons, List.length_nil, Nat.zero_add, CD.int_i, CD.bool_b, CD.rows_l, decide_eq_true_eq, decide_eq_false_iff_not, beq_iff_eq, beq_eq_false_iff_ne, List.getD_cons_zero, List.getD_cons_succ, reduceIte, Nat.reduceLT, Nat.reduceSub, Nat.reduceAdd, Nat.lt_irrefl, Nat.sub_self]) ?_
        refine den_ret ?_
        simp only [List.map_cons, List.map_nil, X.den, Env.put, Env.pre, List.length_cons, List.length_nil, Nat.zero_add, CD.int_i, CD.bool_b, CD.rows_l, decide_eq_true_eq, decide_eq_false_iff_not, beq_iff_eq, beq_eq_false_iff_ne, List.getD_cons_zero, List.getD_cons_succ, reduceIte, Nat.reduceLT, Nat.reduceSub, Nat.reduceAdd, Nat.lt_irrefl, Nat.sub_self, len_ints, List.length_nil]
        rfl
      · simp only [List.map_cons, List.map_nil, X.den, Env.put, Env.pre, List.length_cons, List.length_nil, Nat.zero_add, CD.int_i, CD.bool_b, CD.rows_l, decide_eq_true_eq, decide_eq_false_iff_not, beq_iff_eq, beq_eq_false_iff_ne, List.getD_cons_zero, List.getD_cons_succ, reduceIte, Nat.reduceLT, Nat.reduceSub, Nat.reduceAdd, Nat.lt_irrefl, Nat.sub_self, len_ints] at a1
        have hs : slotsOf m x = ([], 5) := by unfold slotsOf; rw [if_neg (by omega), if_pos (.inr a1)]
        rw [hs]
        refine den_ift (by simp only [List.map_cons, List.map_nil, X.den, Env.put, Env.pre, List.length_cons, List.length_nil, Nat.zero_add, CD.int_i, CD.bool_b, CD.rows_l, decide_eq_true_eq, decide_eq_false_iff_not, beq_iff_eq, beq_eq_false_iff_ne, List.getD_cons_zero, List.getD_cons_succ, reduceIte, Nat.reduceLT, Nat.reduceSub, Nat.reduceAdd, Nat.lt_irrefl, Nat.sub_self]) ?_
        refine den_ret ?_
        simp only [List.map_cons, List.map_nil, X.den, Env.put, Env.pre, List.length_cons, List.length_nil, Nat.zero_add, CD.int_i, CD.bool_b, CD.rows_l, decide_eq_true_eq, decide_eq_false_iff_not, beq_iff_eq, beq_eq_false_iff_ne, List.getD_cons_zero, List.getD_cons_succ, reduceIte, Nat.reduceLT, Nat.reduceSub, Nat.reduceAdd, Nat.lt_irrefl, Nat.sub_self, len_ints, List.length_nil]
        rfl
      simp only [List.map_cons, List.map_nil, X.den, Env.put, Env.pre, List.length_cons, List.length_nil, Nat.zero_add, CD.int_i, CD.bool_b, CD.rows_l, decide_eq_true_eq, decide_eq_false_iff_not, beq_iff_eq, beq_eq_false_iff_ne, List.getD_cons_zero, List.getD_cons_succ, reduceIte, Nat.reduceLT, Nat.reduceSub, Nat.reduceAdd, Nat.lt_irrefl, Nat.sub_self, len_ints] at a1 a2
      have hs : slotsOf m x = chainR m x := by unfold slotsOf; rw [if_neg (by omega), if_neg (by omega)]
      rw [hs]
      refine den_calle d77 [intsD (chain77 m x).1, .b (chain77 m x).2] rfl ?_ (by simp only [List.map_cons, List.map_nil, X.den, Env.put, Env.pre, List.length_cons, List.length_nil, Nat.zero_add, CD.int_i, CD.bool_b, CD.rows_l, decide_eq_true_eq, decide_eq_false_iff_not, beq_iff_eq, beq_eq_false_iff_ne, List.getD_cons_zero, List.getD_cons_succ, reduceIte, Nat.reduceLT, Nat.reduceSub, Nat.reduceAdd, Nat.lt_irrefl, Nat.sub_self, fn77]) ?_
      · simp only [List.map_cons, List.map_nil, X.den, Env.put, Env.pre, List.length_cons, List.length_nil, Nat.zero_add, CD.int_i, CD.bool_b, CD.rows_l, decide_eq_true_eq, decide_eq_false_iff_not, beq_iff_eq, beq_eq_false_iff_ne, List.getD_cons_zero, List.getD_cons_succ, reduceIte, Nat.reduceLT, Nat.reduceSub, Nat.reduceAdd, Nat.lt_irrefl, Nat.sub_self]
        exact pre77 hm (by omega) (by omega)
      have hq := chain77_eq m x
      cases hc : (chain77 m x).2 with
      | false =>
        rw [hc] at hq
        have hr : chainR m x = ([], 4) := by unfold chainR; rw [hq]; rfl
        rw [hr]
        refine den_ift (by simp only [List.map_cons, List.map_nil, X.den, Env.put, Env.pre, List.length_cons, List.length_nil, Nat.zero_add, CD.int_i, CD.bool_b, CD.rows_l, decide_eq_true_eq, decide_eq_false_iff_not, beq_iff_eq, beq_eq_false_iff_ne, List.getD_cons_zero, List.getD_cons_succ, reduceIte, Nat.reduceLT, Nat.reduceSub, Nat.reduceAdd, Nat.lt_irrefl, Nat.sub_self, Bool.not_false]) ?_
        refine den_ift (by simp only [List.map_cons, List.map_nil, X.den, Env.put, Env.pre, List.length_cons, List.length_nil, Nat.zero_add, CD.int_i, CD.bool_b, CD.rows_l, decide_eq_true_eq, decide_eq_false_iff_not, beq_iff_eq, beq_eq_false_iff_ne, List.getD_cons_zero, List.getD_cons_succ, reduceIte, Nat.reduceLT, Nat.reduceSub, Nat.reduceAdd, Nat.lt_irrefl, Nat.sub_self]) ?_
        refine den_ret ?_
        simp only [List.map_cons, List.map_nil, X.den, Env.put, Env.pre, List.length_cons, List.length_nil, Nat.zero_add, CD.int_i, CD.bool_b, CD.rows_l, decide_eq_true_eq, decide_eq_false_iff_not, beq_iff_eq, beq_eq_false_iff_ne, List.getD_cons_zero, List.getD_cons_succ, reduceIte, Nat.reduceLT, Nat.reduceSub, Nat.reduceAdd, Nat.lt_irrefl, Nat.sub_self, len_ints, List.length_nil]
        rfl
      | true =>
        rw [hc, if_pos rfl] at hq
        have hr : chainR m x = ((chain77 m x).1, 0) := by unfold chainR; rw [hq]
        rw [hr]
        refine den_iff (by simp only [List.map_cons, List.map_nil, X.den, Env.put, Env.pre, List.length_cons, List.length_nil, Nat.zero_add, CD.int_i, CD.bool_b, CD.rows_l, decide_eq_true_eq, decide_eq_false_iff_not, beq_iff_eq, beq_eq_false_iff_ne, List.getD_cons_zero, List.getD_cons_succ, reduceIte, Nat.reduceLT, Nat.reduceSub, Nat.reduceAdd, Nat.lt_irrefl, Nat.sub_self, decide_true, Bool.not_true, not_true_eq_false, decide_false, beq_self_eq_true]) ?_
        refine den_ift (by simp only [List.map_cons, List.map_nil, X.den, Env.put, Env.pre, List.length_cons, List.length_nil, Nat.zero_add, CD.int_i, CD.bool_b, CD.rows_l, decide_eq_true_eq, decide_eq_false_iff_not, beq_iff_eq, beq_eq_false_iff_ne, List.getD_cons_zero, List.getD_cons_succ, reduceIte, Nat.reduceLT, Nat.reduceSub, Nat.reduceAdd, Nat.lt_irrefl, Nat.sub_self]) ?_
        refine den_calle d39 [.b true] rfl trivial (by simp only [List.map_cons, List.map_nil, X.den, Env.put, Env.pre, List.length_cons, List.length_nil, Nat.zero_add, CD.int_i, CD.bool_b, CD.rows_l, decide_eq_true_eq, decide_eq_false_iff_not, beq_iff_eq, beq_eq_false_iff_ne, List.getD_cons_zero, List.getD_cons_succ, reduceIte, Nat.reduceLT, Nat.reduceSub, Nat.reduceAdd, Nat.lt_irrefl, Nat.sub_self, same_ints]) (den_ret ?_)
        simp only [List.map_cons, List.map_nil, X.den, Env.put, Env.pre, List.length_cons, List.length_nil, Nat.zero_add, CD.int_i, CD.bool_b, CD.rows_l, decide_eq_true_eq, decide_eq_false_iff_not, beq_iff_eq, beq_eq_false_iff_ne, List.getD_cons_zero, List.getD_cons_succ, reduceIte, Nat.reduceLT, Nat.reduceSub, Nat.reduceAdd, Nat.lt_irrefl, Nat.sub_self]
    · simp only [List.map_cons, List.map_nil, X.den, Env.put, Env.pre, List.length_cons, List.length_nil, Nat.zero_add, CD.int_i, CD.bool_b, CD.rows_l, decide_eq_true_eq, decide_eq_false_iff_not, beq_iff_eq, beq_eq_false_iff_ne, List.getD_cons_zero, List.getD_cons_succ, reduceIte, Nat.reduceLT, Nat.reduceSub, Nat.reduceAdd, Nat.lt_irrefl, Nat.sub_self] at c
      have hs : slotsOf m x = ([], checkMem m) := by unfold slotsOf; rw [if_pos (by omega)]
      rw [hs]
      refine den_ift (by simp only [List.map_cons, List.map_nil, X.den, Env.put, Env.pre, List.length_cons, List.length_nil, Nat.zero_add, CD.int_i, CD.bool_b, CD.rows_l, decide_eq_true_eq, decide_eq_false_iff_not, beq_iff_eq, beq_eq_false_iff_ne, List.getD_cons_zero, List.getD_cons_succ, reduceIte, Nat.reduceLT, Nat.reduceSub, Nat.reduceAdd, Nat.lt_irrefl, Nat.sub_self]) ?_
      refine den_ret ?_
      simp only [List.map_cons, List.map_nil, X.den, Env.put, Env.pre, List.length_cons, List.length_nil, Nat.zero_add, CD.int_i, CD.bool_b, CD.rows_l, decide_eq_true_eq, decide_eq_false_iff_not, beq_iff_eq, beq_eq_false_iff_ne, List.getD_cons_zero, List.getD_cons_succ, reduceIte, Nat.reduceLT, Nat.reduceSub, Nat.reduceAdd, Nat.lt_irrefl, Nat.sub_self, len_ints, List.length_nil]
      rfl
  · simp only [List.map_cons, List.map_nil, X.den, Env.put, Env.pre, List.length_cons, List.length_nil, Nat.zero_add, CD.int_i, CD.bool_b, CD.rows_l, decide_eq_true_eq, decide_eq_false_iff_not, beq_iff_eq, beq_eq_false_iff_ne, List.getD_cons_zero, List.getD_cons_succ, reduceIte, Nat.reduceLT, Nat.reduceSub, Nat.reduceAdd, Nat.lt_irrefl, Nat.sub_self, Bool.not_eq_false'] at h
    have hf1 : (flowsR m).1 = flowsOf m := by unfold flowsR; rw [if_neg (by omega)]
    rw [hf1]
    refine den_calle d76 [flowsD (flowsOf m)] rfl ?_ (by simp only [List.map_cons, List.map_nil, X.den, Env.put, Env.pre, List.length_cons, List.length_nil, Nat.zero_add, CD.int_i, CD.bool_b, CD.rows_l, decide_eq_true_eq, decide_eq_false_iff_not, beq_iff_eq, beq_eq_false_iff_ne, List.getD_cons_zero, List.getD_cons_succ, reduceIte, Nat.reduceLT, Nat.reduceSub, Nat.reduceAdd, Nat.lt_irrefl, Nat.sub_self, fn76]) ?_
    · simp only [List.map_cons, List.map_nil, X.den, Env.put, Env.pre, List.length_cons, List.length_nil, Nat.zero_add, CD.int_i, CD.bool_b, CD.rows_l, decide_eq_true_eq, decide_eq_false_iff_not, beq_iff_eq, beq_eq_false_iff_ne, List.getD_cons_zero, List.getD_cons_succ, reduceIte, Nat.reduceLT, Nat.reduceSub, Nat.reduceAdd, Nat.lt_irrefl, Nat.sub_self, d76, mem_of, mem_eta]
      exact h
    refine den_calle d75 [.b true] rfl trivial (by simp only [List.map_cons, List.map_nil, X.den, Env.put, Env.pre, List.length_cons, List.length_nil, Nat.zero_add, CD.int_i, CD.bool_b, CD.rows_l, decide_eq_true_eq, decide_eq_false_iff_not, beq_iff_eq, beq_eq_false_iff_ne, List.getD_cons_zero, List.getD_cons_succ, reduceIte, Nat.reduceLT, Nat.reduceSub, Nat.reduceAdd, Nat.lt_irrefl, Nat.sub_self, same_flows]) ?_
    refine den_iff (by simp only [List.map_cons, List.map_nil, X.den, Env.put, Env.pre, List.length_cons, List.length_nil, Nat.zero_add, CD.int_i, CD.bool_b, CD.rows_l, decide_eq_true_eq, decide_eq_false_iff_not, beq_iff_eq, beq_eq_false_iff_ne, List.getD_cons_zero, List.getD_cons_succ, reduceIte, Nat.reduceLT, Nat.reduceSub, Nat.reduceAdd, Nat.lt_irrefl, Nat.sub_self, decide_true, Bool.not_true, not_true_eq_false, decide_false, beq_self_eq_true]) ?_
    refine den_calle d58 [.i (checkMem m)] rfl trivial (by simp only [List.map_cons, List.map_nil, X.den, Env.put, Env.pre, List.length_cons, List.length_nil, Nat.zero_add, CD.int_i, CD.bool_b, CD.rows_l, decide_eq_true_eq, decide_eq_false_iff_not, beq_iff_eq, beq_eq_false_iff_ne, List.getD_cons_zero, List.getD_cons_succ, reduceIte, Nat.reduceLT, Nat.reduceSub, Nat.reduceAdd, Nat.lt_irrefl, Nat.sub_self, fn58]) (den_ite (fun c => ?_) (fun c => ?_))
    · simp only [List.map_cons, List.map_nil, X.den, Env.put, Env.pre, List.length_cons, List.length_nil, Nat.zero_add, CD.int_i, CD.bool_b, CD.rows_l, decide_eq_true_eq, decide_eq_false_iff_not, beq_iff_eq, beq_eq_false_iff_ne, List.getD_cons_zero, List.getD_cons_succ, reduceIte, Nat.reduceLT, Nat.reduceSub, Nat.reduceAdd, Nat.lt_irrefl, Nat.sub_self] at c
      have hm := (checkMem_iff m).1 c
      refine den_ite (fun a1 => ?_) (fun a1 => den_ite (fun a1 => ?_) (fun a2 => ?_))
      · simp only [List.map_cons, List.map_nil, X.den, Env.put, Env.pre, List.length_cons, List.length_nil, Nat.zero_add, CD.int_i, CD.bool_b, CD.rows_l, decide_eq_true_eq, decide_eq_false_iff_not, beq_iff_eq, beq_eq_false_iff_ne, List.getD_cons_zero, List.getD_cons_succ, reduceIte, Nat.reduceLT, Nat.reduceSub, Nat.reduceAdd, Nat.lt_irrefl, Nat.sub_self] at a1
        have hs : slotsOf m x = ([], 5) := by unfold slotsOf; rw [if_neg (by omega), if_pos (.inl a1)]
        rw [hs]
        refine den_ift (by simp only [List.map_cons, List.map_nil, X.den, Env.put, Env.pre, List.length_cons, List.length_nil, Nat.zero_add, CD.int_i, CD.bool_b, CD.rows_l, decide_eq_true_eq, decide_eq_false_iff_not, beq_iff_eq, beq_eq_false_iff_ne, List.getD_cons_zero, List.getD_cons_succ, reduceIte, Nat.reduceLT, Nat.reduceSub, Nat.reduceAdd, Nat.lt_irrefl, Nat.sub_self]) ?_
        refine den_ret ?_
        simp only [List.map_cons, List.map_nil, X.den, Env.put, Env.pre, List.length_cons, List.length_nil, Nat.zero_add, CD.int_i, CD.bool_b, CD.rows_l, decide_eq_true_eq, decide_eq_false_iff_not, beq_iff_eq, beq_eq_false_iff_ne, List.getD_cons_zero, List.getD_cons_succ, reduceIte, Nat.reduceLT, Nat.reduceSub, Nat.reduceAdd, Nat.lt_irrefl, Nat.sub_self, len_ints, List.length_nil]
        rfl
      · simp only [List.map_cons, List.map_nil, X.den, Env.put, Env.pre, List.length_cons, List.length_nil, Nat.zero_add, CD.int_i, CD.bool_b, CD.rows_l, decide_eq_true_eq, decide_eq_false_iff_not, beq_iff_eq, beq_eq_false_iff_ne, List.getD_cons_zero, List.getD_cons_succ, reduceIte, Nat.reduceLT, Nat.reduceSub, Nat.reduceAdd, Nat.lt_irrefl, Nat.sub_self, len_ints] at a1
        have hs : slotsOf m x = ([], 5) := by unfold slotsOf; rw [if_neg (by omega), if_pos (.inr a1)]
        rw [hs]
        refine den_ift (by simp only [List.map_cons, List.map_nil, X.den, Env.put, Env.pre, List.length_cons, List.length_nil, Nat.zero_add, CD.int_i, CD.bool_b, CD.rows_l, decide_eq_true_eq, decide_eq_false_iff_not, beq_iff_eq, beq_eq_false_iff_ne, List.getD_cons_zero, List.getD_cons_succ, reduceIte, Nat.reduceLT, Nat.reduceSub, Nat.reduceAdd, Nat.lt_irrefl, Nat.sub_self]) ?_
        refine den_ret ?_
        simp only [List.map_cons, List.map_nil, X.den, Env.put, Env.pre, List.length_cons, List.length_nil, Nat.zero_add, CD.int_i, CD.bool_b, CD.rows_l, decide_eq_true_eq, decide_eq_false_iff_not, beq_iff_eq, beq_eq_false_iff_ne, List.getD_cons_zero, List.getD_cons_succ, reduceIte, Nat.reduceLT, Nat.reduceSub, Nat.reduceAdd, Nat.lt_irrefl, Nat.sub_self, len_ints, List.length_nil]
        rfl
      simp only [List.map_cons, List.map_nil, X.den, Env.put, Env.pre, List.length_cons, List.length_nil, Nat.zero_add, CD.int_i, CD.bool_b, CD.rows_l, decide_eq_true_eq, decide_eq_false_iff_not, beq_iff_eq, beq_eq_false_iff_ne, List.getD_cons_zero, List.getD_cons_succ, reduceIte, Nat.reduceLT, Nat.reduceSub, Nat.reduceAdd, Nat.lt_irrefl, Nat.sub_self, len_ints] at a1 a2
      have hs : slotsOf m x = chainR m x := by unfold slotsOf; rw [if_neg (by omega), if_neg (by omega)]
      rw [hs]
      refine den_calle d77 [intsD (chain77 m x).1, .b (chain77 m x).2] rfl ?_ (by simp only [List.map_cons, List.map_nil, X.den, Env.put, Env.pre, List.length_cons, List.length_nil, Nat.zero_add, CD.int_i, CD.bool_b, CD.rows_l, decide_eq_true_eq, decide_eq_false_iff_not, beq_iff_eq, beq_eq_false_iff_ne, List.getD_cons_zero, List.getD_cons_succ, reduceIte, Nat.reduceLT, Nat.reduceSub, Nat.reduceAdd, Nat.lt_irrefl, Nat.sub_self, fn77]) ?_
      · simp only [List.map_cons, List.map_nil, X.den, Env.put, Env.pre, List.length_cons, List.length_nil, Nat.zero_add, CD.int_i, CD.bool_b, CD.rows_l, decide_eq_true_eq, decide_eq_false_iff_not, beq_iff_eq, beq_eq_false_iff_ne, List.getD_cons_zero, List.getD_cons_succ, reduceIte, Nat.reduceLT, Nat.reduceSub, Nat.reduceAdd, Nat.lt_irrefl, Nat.sub_self]
        exact pre77 hm (by omega) (by omega)
      have hq := chain77_eq m x
      cases hc : (chain77 m x).2 with
      | false =>
        rw [hc] at hq
        have hr : chainR m x = ([], 4) := by unfold chainR; rw [hq]; rfl
        rw [hr]
        refine den_ift (by simp only [List.map_cons, List.map_nil, X.den, Env.put, Env.pre, List.length_cons, List.length_nil, Nat.zero_add, CD.int_i, CD.bool_b, CD.rows_l, decide_eq_true_eq, decide_eq_false_iff_not, beq_iff_eq, beq_eq_false_iff_ne, List.getD_cons_zero, List.getD_cons_succ, reduceIte, Nat.reduceLT, Nat.reduceSub, Nat.reduceAdd, Nat.lt_irrefl, Nat.sub_self, Bool.not_false]) ?_
        refine den_ift (by simp only [List.map_cons, List.map_nil, X.den, Env.put, Env.pre, List.length_cons, List.length_nil, Nat.zero_add, CD.int_i, CD.bool_b, CD.rows_l, decide_eq_true_eq, decide_eq_false_iff_not, beq_iff_eq, beq_eq_false_iff_ne, List.getD_cons_zero, List.getD_cons_succ, reduceIte, Nat.reduceLT, Nat.reduceSub, Nat.reduceAdd, Nat.lt_irrefl, Nat.sub_self]) ?_
        refine den_ret ?_
        simp only [List.map_cons, List.map_nil, X.den, Env.put, Env.pre, List.length_cons, List.length_nil, Nat.zero_add, CD.int_i, CD.bool_b, CD.rows_l, decide_eq_true_eq, decide_eq_false_iff_not, beq_iff_eq, beq_eq_false_iff_ne, List.getD_cons_zero, List.getD_cons_succ, reduceIte, Nat.reduceLT, Nat.reduceSub, Nat.reduceAdd, Nat.lt_irrefl, Nat.sub_self, len_ints, List.length_nil]
        rfl
      | true =>
        rw [hc, if_pos rfl] at hq
        have hr : chainR m x = ((chain77 m x).1, 0) := by unfold chainR; rw [hq]
        rw [hr]
        refine den_iff (by simp only [List.map_cons, List.map_nil, X.den, Env.put, Env.pre, List.length_cons, List.length_nil, Nat.zero_add, CD.int_i, CD.bool_b, CD.rows_l, decide_eq_true_eq, decide_eq_false_iff_not, beq_iff_eq, beq_eq_false_iff_ne, List.getD_cons_zero, List.getD_cons_succ, reduceIte, Nat.reduceLT, Nat.reduceSub, Nat.reduceAdd, Nat.lt_irrefl, Nat.sub_self, decide_true, Bool.not_true, not_true_eq_false, decide_false, beq_self_eq_true]) ?_
        refine den_ift (by simp only [List.map_cons, List.map_nil, X.den, Env.put, Env.pre, List.length_cons, List.length_nil, Nat.zero_add, CD.int_i, CD.bool_b, CD.rows_l, decide_eq_true_eq, decide_eq_false_iff_not, beq_iff_eq, beq_eq_false_iff_ne, List.getD_cons_zero, List.getD_cons_succ, reduceIte, Nat.reduceLT, Nat.reduceSub, Nat.reduceAdd, Nat.lt_irrefl, Nat.sub_self]) ?_
        refine den_calle d39 [.b true] rfl trivial (by simp only [List.map_cons, List.map_nil, X.den, Env.put, Env.pre, List.length_cons, List.length_nil, Nat.zero_add, CD.int_i, CD.bool_b, CD.rows_l, decide_eq_true_eq, decide_eq_false_iff_not, beq_iff_eq, beq_eq_false_iff_ne, List.getD_cons_zero, List.getD_cons_succ, reduceIte, Nat.reduceLT, Nat.reduceSub, Nat.reduceAdd, Nat.lt_irrefl, Nat.sub_self, same_ints]) (den_ret ?_)
        simp only [List.map_cons, List.map_nil, X.den, Env.put, Env.pre, List.length_cons, List.length_nil, Nat.zero_add, CD.int_i, CD.bool_b, CD.rows_l, decide_eq_true_eq, decide_eq_false_iff_not, beq_iff_eq, beq_eq_false_iff_ne, List.getD_cons_zero, List.getD_cons_succ, reduceIte, Nat.reduceLT, Nat.reduceSub, Nat.reduceAdd, Nat.lt_irrefl, Nat.sub_self]
    · simp only [List.map_cons, List.map_nil, X.den, Env.put, Env.pre, List.length_cons, List.length_nil, Nat.zero_add, CD.int_i, CD.bool_b, CD.rows_l, decide_eq_true_eq, decide_eq_false_iff_not, beq_iff_eq, beq_eq_false_iff_ne, List.getD_cons_zero, List.getD_cons_succ, reduceIte, Nat.reduceLT, Nat.reduceSub, Nat.reduceAdd, Nat.lt_irrefl, Nat.sub_self] at c
      have hs : slotsOf m x = ([], checkMem m) := by unfold slotsOf; rw [if_pos (by omega)]
      rw [hs]
      refine den_ift (by simp only [List.map_cons, List.map_nil, X.den, Env.put, Env.pre, List.length_cons, List.length_nil, Nat.zero_add, CD.int_i, CD.bool_b, CD.rows_l, decide_eq_true_eq, decide_eq_false_iff_not, beq_iff_eq, beq_eq_false_iff_ne, List.getD_cons_zero, List.getD_cons_succ, reduceIte, Nat.reduceLT, Nat.reduceSub, Nat.reduceAdd, Nat.lt_irrefl, Nat.sub_self]) ?_
      refine den_ret ?_
      simp only [List.map_cons, List.map_nil, X.den, Env.put, Env.pre, List.length_cons, List.length_nil, Nat.zero_add, CD.int_i, CD.bool_b, CD.rows_l, decide_eq_true_eq, decide_eq_false_iff_not, beq_iff_eq, beq_eq_false_iff_ne, List.getD_cons_zero, List.getD_cons_succ, reduceIte, Nat.reduceLT, Nat.reduceSub, Nat.reduceAdd, Nat.lt_irrefl, Nat.sub_self, len_ints, List.length_nil]
      rfl
end Go.Proofs.Ytpmamacjepcdmaa

/- ChainApart. -/
namespace Go.Proofs.Ytpmamacjepcdmaa
open Go Go.Sy Go.RowKit
set_option linter.unusedSimpArgs false
set_option linter.unusedVariables false

theorem slots_ok {m : Mem} (hC : ChainsOk m) {b : Int} (h1 : 0 ≤ b) (h2 : b < m.heads.length) : slotsOf m b = (chL m b.toNat, 0) := by
  have hc := (hC.ch (b := b.toNat) (by omega)).of
  rw [show ((b.toNat : Nat) : Int) = b from by omega] at hc
  unfold slotsOf
  rw [if_neg (fun h => h ((checkMem_iff m).2 hC.mem)), if_neg (by omega)]
  unfold chainR
  rw [hc]
theorem take_not_mem {l : List Int} {j : Nat} (hd : l.Nodup) (hj : j < l.length) : l.getD j 0 ∉ l.take j := by
  have h := hd
  rw [← List.take_append_drop (j + 1) l, take_getD hj] at h
  have h2 := (List.nodup_append.1 h).1
  intro hm
  have h3 := (List.nodup_append.1 h2).2.2
  exact h3 _ hm _ (by simp) rfl
theorem map_getD {m : Mem} {l : List Int} {i : Nat} (h : i < l.length) : (l.map (flowAt m)).getD i default = flowAt m (l.getD i 0) := by
  simp only [List.getD_eq_getElem?_getD, List.getElem?_map, List.getElem?_eq_getElem h, Option.map_some, Option.getD_some]
def s15 : Sig := ⟨[.agg [.fz kS, .fz kI, .fz kI, .fz kI, .int .i64], .one (.int .i64)], [.one (.bool)]⟩
def d15 : DC := ⟨s15, fun _ => True, fun _ => [.b true]⟩
def l15 : List (Nat × Ct) := [(73, d73.ct), (74, d74.ct), (71, d71.ct), (70, d70.ct), (97, d97.ct), (98, d98.ct), (82, d82.ct), (39, d39.ct)]
def z15 : Cx := { T := ttA, C := sigs l15, F := [], hints := [⟨15, 8, false, [(41, .lt), (7, .own 3 kI)], [], [], []⟩, ⟨15, 14, false, [(54, .lt), (7, .own 3 kI)], [], [], []⟩, ⟨15, 23, false, [(91, .lt)], [], [], []⟩], sig := s15 }
def t15 : Tree :=
 (.call 73 [] 6
 (.ite (.not (.var 6))
  (.call 73 [] 7
  (.ret [.var 7]))
  (.call 74 [.var 0, .var 1, .var 2, .var 3, .var 4] 7
  (.ite (.not (.eq (.var 7) (.int 0)))
   (.call 73 [] 8
   (.ret [.var 8]))
   (.call 71 [.var 0, .var 1, .var 2, .var 3, .var 4] 8
   (.ite (.not (.eq (.var 9) (.int 0)))
    (.ret [.bool false])
    (.loop 10 [.sl 8 [.int .i64], .int .i64] [.nil, .int 0]
    (.ite (.lt (.var 12) (.len (.var 1)))
     (.call 70 [.var 0, .var 1, .var 2, .var 3, .var 4, .var 12] 13
     (.ite (.not (.eq (.var 14) (.int 0)))
      (.ret [.bool false])
      (.loop 15 [.sl 8 [.int .i64], .int .i64] [.var 11, .int 0]
      (.ite (.lt (.var 17) (.len (.var 13)))
       (.need (.le (.int 0) (.var 17))
       (.need (.le (.int 0) (.cell (.var 13) (.var 17) 0))
       (.need (.lt (.cell (.var 13) (.var 17) 0) (.len (.var 0)))
       (.call 97 [.cell (.var 0) (.cell (.var 13) (.var 17) 0) 1, .cell (.var 0) (.cell (.var 13) (.var 17) 0) 2, .len (.var 1)] 18
       (.ite (.not (.eq (.var 19) (.int 0)))
        (.ret [.bool false])
        (.ite (.not (.eq (.var 18) (.var 12)))
         (.ret [.bool false])
         (.call 98 [.var 16, .cell (.var 13) (.var 17) 0] 20
         (.ite (.var 20)
          (.ret [.bool false])
          (.need (.le (.add (.len (.var 16)) (.int 1)) (.int 17592186044416))
          (.need (.fit (.add (.var 17) (.int 1)))
          (.back 15 [.app (.var 16) (.cons (.cell (.var 13) (.var 17) 0) .row0), .add (.var 17) (.int 1)])))))))))))
       (.need (.fit (.add (.var 12) (.int 1)))
       (.back 10 [.var 16, .add (.var 12) (.int 1)]))))))
     (.loop 13 [.int .i64] [.int 0]
     (.ite (.lt (.var 14) (.len (.var 8)))
      (.need (.le (.int 0) (.var 14))
      (.ite (.le (.len (.var 11)) (.var 14))
       (.ret [.bool false])
       (.need (.lt (.var 14) (.len (.var 11)))
       (.ite (.not (.eq (.cell (.var 8) (.var 14) 2) (.cell (.var 11) (.var 14) 0)))
        (.ret [.bool false])
        (.need (.le (.int 0) (.cell (.var 8) (.var 14) 2))
        (.need (.lt (.cell (.var 8) (.var 14) 2) (.len (.var 0)))
        (.ite (.not (.and (.eq (.cell (.var 8) (.var 14) 0) (.cell (.var 0) (.cell (.var 8) (.var 14) 2) 1)) (.and (.eq (.cell (.var 8) (.var 14) 1) (.cell (.var 0) (.cell (.var 8) (.var 14) 2) 2)) (.bool true))))
         (.ret [.bool false])
         (.ite (.not (.eq (.cell (.var 8) (.var 14) 3) (.cell (.var 0) (.cell (.var 8) (.var 14) 2) 3)))
          (.ret [.bool false])
          (.need (.fit (.add (.var 14) (.int 1)))
          (.back 13 [.add (.var 14) (.int 1)]))))))))))
      (.ite (.not (.eq (.len (.var 8)) (.len (.var 11))))
       (.ret [.bool false])
       (.call 82 [.var 0, .var 1, .var 2, .var 3, .var 4, .var 5] 15
       (.ite (.not (.eq (.var 20) (.int 0)))
        (.ret [.bool true])
        (.need (.le (.int 0) (.var 5))
        (.need (.lt (.var 5) (.len (.var 0)))
        (.call 97 [.cell (.var 0) (.var 5) 1, .cell (.var 0) (.var 5) 2, .len (.var 1)] 21
        (.call 70 [.var 15, .var 16, .var 17, .var 18, .var 19, .var 21] 23
        (.call 70 [.var 0, .var 1, .var 2, .var 3, .var 4, .var 21] 25
        (.ite (.eq (.var 22) (.int 0))
         (.ite (.eq (.var 24) (.int 0))
          (.ite (.eq (.var 26) (.int 0))
           (.need (.le (.add (.int 1) (.len (.var 25))) (.int 17592186044416))
           (.call 39 [.var 23, .app (.cons (.var 5) .row0) (.var 25)] 27
           (.ret [.var 27])))
           (.ret [.bool false]))
          (.ret [.bool false]))
         (.ret [.bool false]))))))))))))))))))))
theorem run15 : run z15 6000 [.code (Try.f15.body.getD .skip), .fin (topRet z15 Try.f15.results.toList 50)] { fn := 15, tmps := z15.sig.args0 ++ List.replicate (Try.f15.ntmps - z15.sig.args0.length) (.v (.one .undef)), stk := [], h := z15.sig.h0, nx := z15.sig.ins.length, known := [] } = t15 := by kernel_rfl
set_option maxHeartbeats 1000000 in
theorem ok15 : CtOk Try.prog 15 d15.ct := by
  refine dc_of_tree (d := d15) (Z := z15) (Γ := gam l15) (fn := Try.f15) (c := Try.f15.body.getD .skip) (told_of tok mixed (all_cons ok73 (all_cons ok74 (all_cons ok71 (all_cons ok70 (all_cons ok97 (all_cons ok98 (all_cons ok82 (all_cons ok39 all_nil)))))))) fok_nil) Try.func15 (by kernel_rfl) (by kernel_rfl) rfl run15 fun E hk hp => ?_
  obtain ⟨hk0, hk1, hk2, hk3, hk4, hk5, _⟩ := hk
  obtain ⟨m, e0, e1, e2, e3, e4, b0, b1, b2, b3⟩ := ok_mem (d0 := E 0) (d1 := E 1) (d2 := E 2) (d3 := E 3) (d4 := E 4) hk0 hk1 hk2 hk3 hk4
  obtain ⟨x, e5⟩ := ok_int (d := E 5) hk5
  have el : letters E d15.sig.ins.length = [slotsD m.slots, intsD m.heads, intsD m.free, intsD m.locks, .i m.now, .i x] := by
    show [E 0, E 1, E 2, E 3, E 4, E 5] = _
    rw [e0, e1, e2, e3, e4, e5]
  rw [el] at hp
  rw [el]
  rw [Env.pre_eq el]
  clear el e0 e1 e2 e3 e4 e5
  simp only [d15]
  unfold t15
  refine den_calle d73 [.b true] rfl trivial rfl ?_
  refine den_iff (by simp only [List.map_cons, List.map_nil, X.den, Env.put, Env.pre, List.length_cons, List.length_nil, Nat.zero_add, CD.int_i, CD.bool_b, CD.rows_l, decide_eq_true_eq, decide_eq_false_iff_not, beq_iff_eq, beq_eq_false_iff_ne, List.getD_cons_zero, List.getD_cons_succ, reduceIte, Nat.reduceLT, Nat.reduceSub, Nat.reduceAdd, Nat.lt_irrefl, Nat.sub_self, Mem.cds, List.cons_append, List.nil_append, decide_true, Bool.not_true, not_true_eq_false, decide_false, beq_self_eq_true]) ?_
  refine den_calle d74 [.i (checkChains m)] rfl trivial (by simp only [List.map_cons, List.map_nil, X.den, Env.put, Env.pre, List.length_cons, List.length_nil, Nat.zero_add, CD.int_i, CD.bool_b, CD.rows_l, decide_eq_true_eq, decide_eq_false_iff_not, beq_iff_eq, beq_eq_false_iff_ne, List.getD_cons_zero, List.getD_cons_succ, reduceIte, Nat.reduceLT, Nat.reduceSub, Nat.reduceAdd, Nat.lt_irrefl, Nat.sub_self, fn74]) (den_ite (fun h => ?_) (fun h => ?_))
  · refine den_calle d73 [.b true] rfl trivial rfl (den_ret ?_)
    simp only [List.map_cons, List.map_nil, X.den, Env.put, Env.pre, List.length_cons, List.length_nil, Nat.zero_add, CD.int_i, CD.bool_b, CD.rows_l, decide_eq_true_eq, decide_eq_false_iff_not, beq_iff_eq, beq_eq_false_iff_ne, List.getD_cons_zero, List.getD_cons_succ, reduceIte, Nat.reduceLT, Nat.reduceSub, Nat.reduceAdd, Nat.lt_irrefl, Nat.sub_self]
  simp only [List.map_cons, List.map_nil, X.den, Env.put, Env.pre, List.length_cons, List.length_nil, Nat.zero_add, CD.int_i, CD.bool_b, CD.rows_l, decide_eq_true_eq, decide_eq_false_iff_not, beq_iff_eq, beq_eq_false_iff_ne, List.getD_cons_zero, List.getD_cons_succ, reduceIte, Nat.reduceLT, Nat.reduceSub, Nat.reduceAdd, Nat.lt_irrefl, Nat.sub_self, Bool.not_eq_false'] at h
  have hC := (checkChains_iff m).1 h
  have hm := hC.mem
  have hns := hm.ns
  have hnh := hm.nh4
  have hnh1 := hm.nh1
  have hfr : flowsR m = (flowsOf m, 0) := by unfold flowsR; rw [if_neg (by omega)]
  refine den_calle d71 [flowsD (flowsOf m), .i 0] rfl trivial (by simp only [List.map_cons, List.map_nil, X.den, Env.put, Env.pre, List.length_cons, List.length_nil, Nat.zero_add, CD.int_i, CD.bool_b, CD.rows_l, decide_eq_true_eq, decide_eq_false_iff_not, beq_iff_eq, beq_eq_false_iff_ne, List.getD_cons_zero, List.getD_cons_succ, reduceIte, Nat.reduceLT, Nat.reduceSub, Nat.reduceAdd, Nat.lt_irrefl, Nat.sub_self, fn71, hfr]) ?_
  refine den_iff (by simp only [List.map_cons, List.map_nil, X.den, Env.put, Env.pre, List.length_cons, List.length_nil, Nat.zero_add, CD.int_i, CD.bool_b, CD.rows_l, decide_eq_true_eq, decide_eq_false_iff_not, beq_iff_eq, beq_eq_false_iff_ne, List.getD_cons_zero, List.getD_cons_succ, reduceIte, Nat.reduceLT, Nat.reduceSub, Nat.reduceAdd, Nat.lt_irrefl, Nat.sub_self, Mem.cds, List.cons_append, List.nil_append, decide_true, Bool.not_true, not_true_eq_false, decide_false, beq_self_eq_true]) ?_
  refine den_loop (fun ds => ∃ (b : Nat) (acc : List Int), ds = [intsD acc, .i b] ∧ b ≤ m.heads.length ∧ acc.length ≤ b * 12 ∧ (∀ c ∈ acc, 0 ≤ c ∧ c < m.slots.length ∧ bk m (kys m c) < b) ∧ flowsOf m = flowsFrom m (m.heads.length - b) b (acc.map (flowAt m))) (fun ds => m.heads.length - (ds.getD 1 .u).int.toNat) ⟨0, [], rfl, by omega, by simp, by simp, rfl⟩ ?_
  rintro ds - ⟨b, acc, rfl, hb, hkl, hacc, ht⟩
  refine den_ite (fun hlt => ?_) (fun hge => ?_)
  · simp only [List.map_cons, List.map_nil, X.den, Env.put, Env.pre, List.length_cons, List.length_nil, Nat.zero_add, CD.int_i, CD.bool_b, CD.rows_l, decide_eq_true_eq, decide_eq_false_iff_not, beq_iff_eq, beq_eq_false_iff_ne, List.getD_cons_zero, List.getD_cons_succ, reduceIte, Nat.reduceLT, Nat.reduceSub, Nat.reduceAdd, Nat.lt_irrefl, len_ints] at hlt
    have e1 : m.heads.length - b = m.heads.length - (b + 1) + 1 := by omega
    rw [e1, flowsFrom] at ht
    have hs := slots_ok hC (b := b) (by omega) (by omega)
    have hCh := hC.ch (b := b) (by omega)
    have hll : (chL m b).length ≤ m.slots.length := (chainR_mem hm _).1
    have hlm : ∀ a ∈ chL m b, 0 ≤ a ∧ a < m.slots.length := fun a ha => chL_mem hC ha
    have hok := hCh.ok
    have hnd := hCh.ndl
    rw [show ((b : Int)).toNat = b from by omega] at hs
    refine den_calle d70 [intsD (chL m b), .i 0] rfl trivial (by simp only [List.map_cons, List.map_nil, X.den, Env.put, Env.pre, List.length_cons, List.length_nil, Nat.zero_add, CD.int_i, CD.bool_b, CD.rows_l, decide_eq_true_eq, decide_eq_false_iff_not, beq_iff_eq, beq_eq_false_iff_ne, List.getD_cons_zero, List.getD_cons_succ, reduceIte, Nat.reduceLT, Nat.reduceSub, Nat.reduceAdd, Nat.lt_irrefl, Nat.sub_self, fn70, hs]) ?_
    refine den_iff (by simp only [List.map_cons, List.map_nil, X.den, Env.put, Env.pre, List.length_cons, List.length_nil, Nat.zero_add, CD.int_i, CD.bool_b, CD.rows_l, decide_eq_true_eq, decide_eq_false_iff_not, beq_iff_eq, beq_eq_false_iff_ne, List.getD_cons_zero, List.getD_cons_succ, reduceIte, Nat.reduceLT, Nat.reduceSub, Nat.reduceAdd, Nat.lt_irrefl, Nat.sub_self, Mem.cds, List.cons_append, List.nil_append, decide_true, Bool.not_true, not_true_eq_false, decide_false, beq_self_eq_true]) ?_
    have ht : flowsOf m = flowsFrom m (m.heads.length - (b + 1)) (b + 1) (acc.map (flowAt m) ++ (chL m b).map (flowAt m)) := ht
    generalize chL m b = l at *
    refine den_loop (fun ds => ∃ (j : Nat) (acc' : List Int), ds = [intsD acc', .i j] ∧ j ≤ l.length ∧ acc' = acc ++ l.take j) (fun ds => l.length - (ds.getD 1 .u).int.toNat) ⟨0, acc, ?_, by omega, by simp⟩ ?_
    · simp only [List.map_cons, List.map_nil, X.den, Env.put, Env.pre, List.length_cons, List.length_nil, Nat.zero_add, CD.int_i, CD.bool_b, CD.rows_l, decide_eq_true_eq, decide_eq_false_iff_not, beq_iff_eq, beq_eq_false_iff_ne, List.getD_cons_zero, List.getD_cons_succ, reduceIte, Nat.reduceLT, Nat.reduceSub, Nat.reduceAdd, Nat.lt_irrefl, Nat.sub_self]; rfl
    rintro ds - ⟨j, acc', rfl, hj, hs'⟩
    have hal : acc'.length = acc.length + j := by rw [hs']; simp; omega
    refine den_ite (fun hlt' => ?_) (fun hge' => ?_)
    · simp only [List.map_cons, List.map_nil, X.den, Env.put, Env.pre, List.length_cons, List.length_nil, Nat.zero_add, CD.int_i, CD.bool_b, CD.rows_l, decide_eq_true_eq, decide_eq_false_iff_not, beq_iff_eq, beq_eq_false_iff_ne, List.getD_cons_zero, List.getD_cons_succ, reduceIte, Nat.reduceLT, Nat.reduceSub, Nat.reduceAdd, Nat.lt_irrefl, Nat.sub_self, len_ints] at hlt'
      have hmem := getD_mem (l := l) (i := j) (by omega)
      have ha := hlm _ hmem
      have hbk := (hok _ hmem).bk
      have hraw : ((intsD l).rows.getD j []).getD 0 .u = .i (l.getD j 0) := raw_int (by omega)
      have hnot : l.getD j 0 ∉ acc' := by
        rw [hs']
        intro hx
        rcases List.mem_append.1 hx with hx | hx
        · have := (hacc _ hx).2.2
          omega
        · exact take_not_mem hnd (by omega) hx
      have hnx : acc ++ l.take (j + 1) = acc' ++ [l.getD j 0] := by
        rw [take_getD (by omega), hs', ← List.append_assoc]
      generalize hag : l.getD j 0 = a at *
      have hk := (hm.sl (i := a.toNat) (by omega)).k
      have hbr := bk_range hm (k := kys m a) hk
      have k1 : ((slotsD m.slots).rows.getD a.toNat []).getD 1 .u = .i (kys m a).a := raw_s1 (by omega)
      have k2 : ((slotsD m.slots).rows.getD a.toNat []).getD 2 .u = .i (kys m a).b := raw_s2 (by omega)
      have hbo : bucketOf (kys m a) m.heads.length = ((b : Int), 0) := by
        have e1 : (bucketOf (kys m a) m.heads.length).1 = b := hbk
        have e2 := hbr.2.2
        cases hx : bucketOf (kys m a) m.heads.length
        rw [hx] at e1 e2
        simp only at e1 e2
        rw [e1, e2]
      refine den_need (by simp only [List.map_cons, List.map_nil, X.den, Env.put, Env.pre, List.length_cons, List.length_nil, Nat.zero_add, CD.int_i, CD.bool_b, CD.rows_l, decide_eq_true_eq, decide_eq_false_iff_not, beq_iff_eq, beq_eq_false_iff_ne, List.getD_cons_zero, List.getD_cons_succ, reduceIte, Nat.reduceLT, Nat.reduceSub, Nat.reduceAdd, Nat.lt_irrefl, Nat.sub_self]; omega) (den_need (by simp only [List.map_cons, List.map_nil, X.den, Env.put, Env.pre, List.length_cons, List.length_nil, Nat.zero_add, CD.int_i, CD.bool_b, CD.rows_l, decide_eq_true_eq, decide_eq_false_iff_not, beq_iff_eq, beq_eq_false_iff_ne, List.getD_cons_zero, List.getD_cons_succ, reduceIte, Nat.reduceLT, Nat.reduceSub, Nat.reduceAdd, Nat.lt_irrefl, Nat.sub_self, Int.toNat_natCast, hraw]; omega) (den_need (by simp only [List.map_cons, List.map_nil, X.den, Env.put, Env.pre, List.length_cons, List.length_nil, Nat.zero_add, CD.int_i, CD.bool_b, CD.rows_l, decide_eq_true_eq, decide_eq_false_iff_not, beq_iff_eq, beq_eq_false_iff_ne, List.getD_cons_zero, List.getD_cons_succ, reduceIte, Nat.reduceLT, Nat.reduceSub, Nat.reduceAdd, Nat.lt_irrefl, Nat.sub_self, Int.toNat_natCast, hraw, len_slots]; omega) ?_))
      refine den_calle d97 [.i b, .i 0] rfl trivial (by simp only [List.map_cons, List.map_nil, X.den, Env.put, Env.pre, List.length_cons, List.length_nil, Nat.zero_add, CD.int_i, CD.bool_b, CD.rows_l, decide_eq_true_eq, decide_eq_false_iff_not, beq_iff_eq, beq_eq_false_iff_ne, List.getD_cons_zero, List.getD_cons_succ, reduceIte, Nat.reduceLT, Nat.reduceSub, Nat.reduceAdd, Nat.lt_irrefl, Nat.sub_self, Int.toNat_natCast, hraw, k1, k2, len_ints, fn97, hbo]) ?_
      refine den_iff (by simp only [List.map_cons, List.map_nil, X.den, Env.put, Env.pre, List.length_cons, List.length_nil, Nat.zero_add, CD.int_i, CD.bool_b, CD.rows_l, decide_eq_true_eq, decide_eq_false_iff_not, beq_iff_eq, beq_eq_false_iff_ne, List.getD_cons_zero, List.getD_cons_succ, reduceIte, Nat.reduceLT, Nat.reduceSub, Nat.reduceAdd, Nat.lt_irrefl, Nat.sub_self, Mem.cds, List.cons_append, List.nil_append, decide_true, Bool.not_true, not_true_eq_false, decide_false, beq_self_eq_true]) ?_
      refine den_iff (by simp only [List.map_cons, List.map_nil, X.den, Env.put, Env.pre, List.length_cons, List.length_nil, Nat.zero_add, CD.int_i, CD.bool_b, CD.rows_l, decide_eq_true_eq, decide_eq_false_iff_not, beq_iff_eq, beq_eq_false_iff_ne, List.getD_cons_zero, List.getD_cons_succ, reduceIte, Nat.reduceLT, Nat.reduceSub, Nat.reduceAdd, Nat.lt_irrefl, Nat.sub_self, Mem.cds, List.cons_append, List.nil_append, decide_true, Bool.not_true, not_true_eq_false, decide_false, beq_self_eq_true]) ?_
      refine den_calle d98 [.b false] rfl trivial (by simp only [List.map_cons, List.map_nil, X.den, Env.put, Env.pre, List.length_cons, List.length_nil, Nat.zero_add, CD.int_i, CD.bool_b, CD.rows_l, decide_eq_true_eq, decide_eq_false_iff_not, beq_iff_eq, beq_eq_false_iff_ne, List.getD_cons_zero, List.getD_cons_succ, reduceIte, Nat.reduceLT, Nat.reduceSub, Nat.reduceAdd, Nat.lt_irrefl, Nat.sub_self, Int.toNat_natCast, hraw, d98, ints_intsD, hnot, decide_false]) ?_
      refine den_iff (by simp only [List.map_cons, List.map_nil, X.den, Env.put, Env.pre, List.length_cons, List.length_nil, Nat.zero_add, CD.int_i, CD.bool_b, CD.rows_l, decide_eq_true_eq, decide_eq_false_iff_not, beq_iff_eq, beq_eq_false_iff_ne, List.getD_cons_zero, List.getD_cons_succ, reduceIte, Nat.reduceLT, Nat.reduceSub, Nat.reduceAdd, Nat.lt_irrefl, Nat.sub_self, Mem.cds, List.cons_append, List.nil_append, decide_true, Bool.not_true, not_true_eq_false, decide_false, beq_self_eq_true]) ?_
      refine den_le (by simp only [List.map_cons, List.map_nil, X.den, Env.put, Env.pre, List.length_cons, List.length_nil, Nat.zero_add, CD.int_i, CD.bool_b, CD.rows_l, decide_eq_true_eq, decide_eq_false_iff_not, beq_iff_eq, beq_eq_false_iff_ne, List.getD_cons_zero, List.getD_cons_succ, reduceIte, Nat.reduceLT, Nat.reduceSub, Nat.reduceAdd, Nat.lt_irrefl, Nat.sub_self, len_ints]; omega) (den_fit (by simp only [List.map_cons, List.map_nil, X.den, Env.put, Env.pre, List.length_cons, List.length_nil, Nat.zero_add, CD.int_i, CD.bool_b, CD.rows_l, decide_eq_true_eq, decide_eq_false_iff_not, beq_iff_eq, beq_eq_false_iff_ne, List.getD_cons_zero, List.getD_cons_succ, reduceIte, Nat.reduceLT, Nat.reduceSub, Nat.reduceAdd, Nat.lt_irrefl, Nat.sub_self]; omega) (den_back ⟨⟨j + 1, _, ?_, by omega, hnx.symm⟩, ?_⟩))
      · simp only [List.map_cons, List.map_nil, X.den, Env.put, Env.pre, List.length_cons, List.length_nil, Nat.zero_add, CD.int_i, CD.bool_b, CD.rows_l, decide_eq_true_eq, decide_eq_false_iff_not, beq_iff_eq, beq_eq_false_iff_ne, List.getD_cons_zero, List.getD_cons_succ, reduceIte, Nat.reduceLT, Nat.reduceSub, Nat.reduceAdd, Nat.lt_irrefl, Nat.sub_self, Int.toNat_natCast, hraw, CD.row, List.headD_cons, app_int]; rfl
      · simp only [List.map_cons, List.map_nil, X.den, Env.put, Env.pre, List.length_cons, List.length_nil, Nat.zero_add, CD.int_i, CD.bool_b, CD.rows_l, decide_eq_true_eq, decide_eq_false_iff_not, beq_iff_eq, beq_eq_false_iff_ne, List.getD_cons_zero, List.getD_cons_succ, reduceIte, Nat.reduceLT, Nat.reduceSub, Nat.reduceAdd, Nat.lt_irrefl, Nat.sub_self]; omega
    · simp only [List.map_cons, List.map_nil, X.den, Env.put, Env.pre, List.length_cons, List.length_nil, Nat.zero_add, CD.int_i, CD.bool_b, CD.rows_l, decide_eq_true_eq, decide_eq_false_iff_not, beq_iff_eq, beq_eq_false_iff_ne, List.getD_cons_zero, List.getD_cons_succ, reduceIte, Nat.reduceLT, Nat.reduceSub, Nat.reduceAdd, Nat.lt_irrefl, Nat.sub_self, len_ints] at hge'
      have hjl : j = l.length := by omega
      subst hjl
      rw [List.take_length] at hs'
      refine den_fit (by simp only [List.map_cons, List.map_nil, X.den, Env.put, Env.pre, List.length_cons, List.length_nil, Nat.zero_add, CD.int_i, CD.bool_b, CD.rows_l, decide_eq_true_eq, decide_eq_false_iff_not, beq_iff_eq, beq_eq_false_iff_ne, List.getD_cons_zero, List.getD_cons_succ, reduceIte, Nat.reduceLT, Nat.reduceSub, Nat.reduceAdd, Nat.lt_irrefl, Nat.sub_self]; omega) (den_back2 (by decide) ⟨⟨b + 1, acc', ?_, by omega, by omega, fun c hc => ?_, ?_⟩, ?_⟩)
      · simp only [List.map_cons, List.map_nil, X.den, Env.put, Env.pre, List.length_cons, List.length_nil, Nat.zero_add, CD.int_i, CD.bool_b, CD.rows_l, decide_eq_true_eq, decide_eq_false_iff_not, beq_iff_eq, beq_eq_false_iff_ne, List.getD_cons_zero, List.getD_cons_succ, reduceIte, Nat.reduceLT, Nat.reduceSub, Nat.reduceAdd, Nat.lt_irrefl, Nat.sub_self]; rfl
      · rw [hs'] at hc
        rcases List.mem_append.1 hc with hc | hc
        · have := hacc c hc
          exact ⟨this.1, this.2.1, by omega⟩
        · have := hlm c hc
          have h2 := (hok c hc).bk
          exact ⟨this.1, this.2, by omega⟩
      · rw [ht, hs', List.map_append]
      · simp only [List.map_cons, List.map_nil, X.den, Env.put, Env.pre, List.length_cons, List.length_nil, Nat.zero_add, CD.int_i, CD.bool_b, CD.rows_l, decide_eq_true_eq, decide_eq_false_iff_not, beq_iff_eq, beq_eq_false_iff_ne, List.getD_cons_zero, List.getD_cons_succ, reduceIte, Nat.reduceLT, Nat.reduceSub, Nat.reduceAdd, Nat.lt_irrefl, Nat.sub_self]; omega
  simp only [List.map_cons, List.map_nil, X.den, Env.put, Env.pre, List.length_cons, List.length_nil, Nat.zero_add, CD.int_i, CD.bool_b, CD.rows_l, decide_eq_true_eq, decide_eq_false_iff_not, beq_iff_eq, beq_eq_false_iff_ne, List.getD_cons_zero, List.getD_cons_succ, reduceIte, Nat.reduceLT, Nat.reduceSub, Nat.reduceAdd, Nat.lt_irrefl, Nat.sub_self, len_ints] at hge
  rw [show m.heads.length - b = 0 from by omega] at ht
  have ht : flowsOf m = acc.map (flowAt m) := ht
  have hal : acc.length ≤ 48 := by omega
  rw [ht]
  have hfl : ((flowsD (acc.map (flowAt m))).rows.length : Int) = acc.length := by rw [len_flows, List.length_map]
  refine den_loop (fun ds => ∃ i : Nat, ds = [.i i] ∧ i ≤ acc.length) (fun ds => acc.length - (ds.getD 0 .u).int.toNat) ⟨0, rfl, by omega⟩ ?_
  rintro ds - ⟨i, rfl, hi⟩
  refine den_ite (fun hlt => ?_) (fun hge' => ?_)
  · simp only [List.map_cons, List.map_nil, X.den, Env.put, Env.pre, List.length_cons, List.length_nil, Nat.zero_add, CD.int_i, CD.bool_b, CD.rows_l, decide_eq_true_eq, decide_eq_false_iff_not, beq_iff_eq, beq_eq_false_iff_ne, List.getD_cons_zero, List.getD_cons_succ, reduceIte, Nat.reduceLT, Nat.reduceSub, Nat.reduceAdd, Nat.lt_irrefl, Nat.sub_self, hfl] at hlt
    have ha := hacc _ (getD_mem (l := acc) (i := i) (by omega))
    have hg := map_getD (m := m) (l := acc) (i := i) (by omega)
    generalize hag : acc.getD i 0 = a at *
    have hm0 : m.slots.getD a.toNat default = msl m a.toNat := rfl
    have f0 : (flowAt m a).k = (msl m a.toNat).k := rfl
    have f1 : (flowAt m a).slot = a := rfl
    have f2 : (flowAt m a).till = (msl m a.toNat).till := rfl
    refine den_need (by simp only [List.map_cons, List.map_nil, X.den, Env.put, Env.pre, List.length_cons, List.length_nil, Nat.zero_add, CD.int_i, CD.bool_b, CD.rows_l, decide_eq_true_eq, decide_eq_false_iff_not, beq_iff_eq, beq_eq_false_iff_ne, List.getD_cons_zero, List.getD_cons_succ, reduceIte, Nat.reduceLT, Nat.reduceSub, Nat.reduceAdd, Nat.lt_irrefl, Nat.sub_self]; omega) (den_iff (by simp only [List.map_cons, List.map_nil, X.den, Env.put, Env.pre, List.length_cons, List.length_nil, Nat.zero_add, CD.int_i, CD.bool_b, CD.rows_l, decide_eq_true_eq, decide_eq_false_iff_not, beq_iff_eq, beq_eq_false_iff_ne, List.getD_cons_zero, List.getD_cons_succ, reduceIte, Nat.reduceLT, Nat.reduceSub, Nat.reduceAdd, Nat.lt_irrefl, Nat.sub_self, len_ints]; omega) (den_need (by simp only [List.map_cons, List.map_nil, X.den, Env.put, Env.pre, List.length_cons, List.length_nil, Nat.zero_add, CD.int_i, CD.bool_b, CD.rows_l, decide_eq_true_eq, decide_eq_false_iff_not, beq_iff_eq, beq_eq_false_iff_ne, List.getD_cons_zero, List.getD_cons_succ, reduceIte, Nat.reduceLT, Nat.reduceSub, Nat.reduceAdd, Nat.lt_irrefl, Nat.sub_self, len_ints]; omega) ?_))
    refine den_iff (by simp only [List.map_cons, List.map_nil, X.den, Env.put, Env.pre, List.length_cons, List.length_nil, Nat.zero_add, CD.int_i, CD.bool_b, CD.rows_l, decide_eq_true_eq, decide_eq_false_iff_not, beq_iff_eq, beq_eq_false_iff_ne, List.getD_cons_zero, List.getD_cons_succ, reduceIte, Nat.reduceLT, Nat.reduceSub, Nat.reduceAdd, Nat.lt_irrefl, Nat.sub_self, Int.toNat_natCast, cell_f2, cell_int, hg, hag, f1, beq_self_eq_true, Bool.not_true, decide_true]) ?_
    refine den_need (by simp only [List.map_cons, List.map_nil, X.den, Env.put, Env.pre, List.length_cons, List.length_nil, Nat.zero_add, CD.int_i, CD.bool_b, CD.rows_l, decide_eq_true_eq, decide_eq_false_iff_not, beq_iff_eq, beq_eq_false_iff_ne, List.getD_cons_zero, List.getD_cons_succ, reduceIte, Nat.reduceLT, Nat.reduceSub, Nat.reduceAdd, Nat.lt_irrefl, Nat.sub_self, Int.toNat_natCast, cell_f2, hg, f1]; omega) (den_need (by simp only [List.map_cons, List.map_nil, X.den, Env.put, Env.pre, List.length_cons, List.length_nil, Nat.zero_add, CD.int_i, CD.bool_b, CD.rows_l, decide_eq_true_eq, decide_eq_false_iff_not, beq_iff_eq, beq_eq_false_iff_ne, List.getD_cons_zero, List.getD_cons_succ, reduceIte, Nat.reduceLT, Nat.reduceSub, Nat.reduceAdd, Nat.lt_irrefl, Nat.sub_self, Int.toNat_natCast, cell_f2, hg, f1, len_slots]; omega) ?_)
    refine den_iff (by simp only [List.map_cons, List.map_nil, X.den, Env.put, Env.pre, List.length_cons, List.length_nil, Nat.zero_add, CD.int_i, CD.bool_b, CD.rows_l, decide_eq_true_eq, decide_eq_false_iff_not, beq_iff_eq, beq_eq_false_iff_ne, List.getD_cons_zero, List.getD_cons_succ, reduceIte, Nat.reduceLT, Nat.reduceSub, Nat.reduceAdd, Nat.lt_irrefl, Nat.sub_self, Int.toNat_natCast, cell_f0, cell_f1, cell_f2, cell_s1, cell_s2, hg, f0, f1, hm0, beq_self_eq_true, Bool.not_true, decide_true, Bool.and_self]) ?_
    refine den_iff (by simp only [List.map_cons, List.map_nil, X.den, Env.put, Env.pre, List.length_cons, List.length_nil, Nat.zero_add, CD.int_i, CD.bool_b, CD.rows_l, decide_eq_true_eq, decide_eq_false_iff_not, beq_iff_eq, beq_eq_false_iff_ne, List.getD_cons_zero, List.getD_cons_succ, reduceIte, Nat.reduceLT, Nat.reduceSub, Nat.reduceAdd, Nat.lt_irrefl, Nat.sub_self, Int.toNat_natCast, cell_f3, cell_f2, cell_s3, hg, f2, f1, hm0, beq_self_eq_true, Bool.not_true, decide_true]) ?_
    refine den_fit (by simp only [List.map_cons, List.map_nil, X.den, Env.put, Env.pre, List.length_cons, List.length_nil, Nat.zero_add, CD.int_i, CD.bool_b, CD.rows_l, decide_eq_true_eq, decide_eq_false_iff_not, beq_iff_eq, beq_eq_false_iff_ne, List.getD_cons_zero, List.getD_cons_succ, reduceIte, Nat.reduceLT, Nat.reduceSub, Nat.reduceAdd, Nat.lt_irrefl, Nat.sub_self]; omega) (den_back ⟨⟨i + 1, ?_, by omega⟩, ?_⟩)
    · simp only [List.map_cons, List.map_nil, X.den, Env.put, Env.pre, List.length_cons, List.length_nil, Nat.zero_add, CD.int_i, CD.bool_b, CD.rows_l, decide_eq_true_eq, decide_eq_false_iff_not, beq_iff_eq, beq_eq_false_iff_ne, List.getD_cons_zero, List.getD_cons_succ, reduceIte, Nat.reduceLT, Nat.reduceSub, Nat.reduceAdd, Nat.lt_irrefl, Nat.sub_self]; rfl
    · simp only [List.map_cons, List.map_nil, X.den, Env.put, Env.pre, List.length_cons, List.length_nil, Nat.zero_add, CD.int_i, CD.bool_b, CD.rows_l, decide_eq_true_eq, decide_eq_false_iff_not, beq_iff_eq, beq_eq_false_iff_ne, List.getD_cons_zero, List.getD_cons_succ, reduceIte, Nat.reduceLT, Nat.reduceSub, Nat.reduceAdd, Nat.lt_irrefl, Nat.sub_self]; omega
  refine den_iff (by simp only [List.map_cons, List.map_nil, X.den, Env.put, Env.pre, List.length_cons, List.length_nil, Nat.zero_add, CD.int_i, CD.bool_b, CD.rows_l, decide_eq_true_eq, decide_eq_false_iff_not, beq_iff_eq, beq_eq_false_iff_ne, List.getD_cons_zero, List.getD_cons_succ, reduceIte, Nat.reduceLT, Nat.reduceSub, Nat.reduceAdd, Nat.lt_irrefl, Nat.sub_self, hfl, len_ints, beq_self_eq_true, Bool.not_true, decide_true]) ?_
  refine den_calle d82 ((linked m x).1.cds ++ [.i (linked m x).2]) rfl trivial (by simp only [List.map_cons, List.map_nil, X.den, Env.put, Env.pre, List.length_cons, List.length_nil, Nat.zero_add, CD.int_i, CD.bool_b, CD.rows_l, decide_eq_true_eq, decide_eq_false_iff_not, beq_iff_eq, beq_eq_false_iff_ne, List.getD_cons_zero, List.getD_cons_succ, reduceIte, Nat.reduceLT, Nat.reduceSub, Nat.reduceAdd, Nat.lt_irrefl, Nat.sub_self, fn82]) (den_ite (fun c => ?_) (fun c => ?_))
  · refine den_ret ?_
    simp only [List.map_cons, List.map_nil, X.den, Env.put, Env.pre, List.length_cons, List.length_nil, Nat.zero_add, CD.int_i, CD.bool_b, CD.rows_l, decide_eq_true_eq, decide_eq_false_iff_not, beq_iff_eq, beq_eq_false_iff_ne, List.getD_cons_zero, List.getD_cons_succ, reduceIte, Nat.reduceLT, Nat.reduceSub, Nat.reduceAdd]
  simp only [List.map_cons, List.map_nil, X.den, Env.put, Env.pre, List.length_cons, List.length_nil, Nat.zero_add, CD.int_i, CD.bool_b, CD.rows_l, decide_eq_true_eq, decide_eq_false_iff_not, beq_iff_eq, beq_eq_false_iff_ne, List.getD_cons_zero, List.getD_cons_succ, reduceIte, Nat.reduceLT, Nat.reduceSub, Nat.reduceAdd, Nat.lt_irrefl, Nat.sub_self, Mem.cds, List.cons_append, List.nil_append, Bool.not_eq_false'] at c
  obtain ⟨_, x1, x2, x3, x4, x5⟩ := linked_ok c
  rw [x5]
  have hk := (hm.sl (i := x.toNat) (by omega)).k
  obtain ⟨b1, b2, b3⟩ := bk_range hm (k := kys m x) hk
  obtain ⟨g1, g2, _⟩ := link_ok hC x1 x2 x3 x4
  have k1 : ((slotsD m.slots).rows.getD x.toNat []).getD 1 .u = .i (kys m x).a := raw_s1 (by omega)
  have k2 : ((slotsD m.slots).rows.getD x.toNat []).getD 2 .u = .i (kys m x).b := raw_s2 (by omega)
  have s1 := slots_ok g1 (b := bk m (kys m x)) b1 (by simp only [link, List.length_set]; exact b2)
  have s2 := slots_ok hC b1 b2
  rw [g2 _ (by omega), show (((bk m (kys m x)).toNat : Nat) : Int) = bk m (kys m x) from by omega, if_pos rfl] at s1
  refine den_need (by simp only [List.map_cons, List.map_nil, X.den, Env.put, Env.pre, List.length_cons, List.length_nil, Nat.zero_add, CD.int_i, CD.bool_b, CD.rows_l, decide_eq_true_eq, decide_eq_false_iff_not, beq_iff_eq, beq_eq_false_iff_ne, List.getD_cons_zero, List.getD_cons_succ, reduceIte, Nat.reduceLT, Nat.reduceSub, Nat.reduceAdd, Nat.lt_irrefl, Nat.sub_self]; omega) (den_need (by simp only [List.map_cons, List.map_nil, X.den, Env.put, Env.pre, List.length_cons, List.length_nil, Nat.zero_add, CD.int_i, CD.bool_b, CD.rows_l, decide_eq_true_eq, decide_eq_false_iff_not, beq_iff_eq, beq_eq_false_iff_ne, List.getD_cons_zero, List.getD_cons_succ, reduceIte, Nat.reduceLT, Nat.reduceSub, Nat.reduceAdd, Nat.lt_irrefl, Nat.sub_self, len_slots]; omega) ?_)
  refine den_calle d97 [.i (bk m (kys m x)), .i (bucketOf (kys m x) m.heads.length).2] rfl trivial (by simp only [List.map_cons, List.map_nil, X.den, Env.put, Env.pre, List.length_cons, List.length_nil, Nat.zero_add, CD.int_i, CD.bool_b, CD.rows_l, decide_eq_true_eq, decide_eq_false_iff_not, beq_iff_eq, beq_eq_false_iff_ne, List.getD_cons_zero, List.getD_cons_succ, reduceIte, Nat.reduceLT, Nat.reduceSub, Nat.reduceAdd, Nat.lt_irrefl, Nat.sub_self, k1, k2, len_ints, fn97]; rfl) ?_
  have hll : (chL m (bk m (kys m x)).toNat).length ≤ m.slots.length := (chainR_mem hm _).1
  generalize chL m (bk m (kys m x)).toNat = l at *
  generalize hq : link m x (bk m (kys m x)) = q at *
  refine den_calle d70 [intsD (x :: l), .i 0] rfl trivial (by simp only [List.map_cons, List.map_nil, X.den, Env.put, Env.pre, List.length_cons, List.length_nil, Nat.zero_add, CD.int_i, CD.bool_b, CD.rows_l, decide_eq_true_eq, decide_eq_false_iff_not, beq_iff_eq, beq_eq_false_iff_ne, List.getD_cons_zero, List.getD_cons_succ, reduceIte, Nat.reduceLT, Nat.reduceSub, Nat.reduceAdd, Nat.lt_irrefl, Nat.sub_self, Mem.cds, List.cons_append, List.nil_append, fn70, s1]) ?_
  refine den_calle d70 [intsD l, .i 0] rfl trivial (by simp only [List.map_cons, List.map_nil, X.den, Env.put, Env.pre, List.length_cons, List.length_nil, Nat.zero_add, CD.int_i, CD.bool_b, CD.rows_l, decide_eq_true_eq, decide_eq_false_iff_not, beq_iff_eq, beq_eq_false_iff_ne, List.getD_cons_zero, List.getD_cons_succ, reduceIte, Nat.reduceLT, Nat.reduceSub, Nat.reduceAdd, Nat.lt_irrefl, Nat.sub_self, Mem.cds, List.cons_append, List.nil_append, fn70, s2]) ?_
  rw [b3]
  refine den_ift (by simp only [List.map_cons, List.map_nil, X.den, Env.put, Env.pre, List.length_cons, List.length_nil, Nat.zero_add, CD.int_i, CD.bool_b, CD.rows_l, decide_eq_true_eq, decide_eq_false_iff_not, beq_iff_eq, beq_eq_false_iff_ne, List.getD_cons_zero, List.getD_cons_succ, reduceIte, Nat.reduceLT, Nat.reduceSub, Nat.reduceAdd, Nat.lt_irrefl, Nat.sub_self, Mem.cds, List.cons_append, List.nil_append]) ?_
  refine den_ift (by simp only [List.map_cons, List.map_nil, X.den, Env.put, Env.pre, List.length_cons, List.length_nil, Nat.zero_add, CD.int_i, CD.bool_b, CD.rows_l, decide_eq_true_eq, decide_eq_false_iff_not, beq_iff_eq, beq_eq_false_iff_ne, List.getD_cons_zero, List.getD_cons_succ, reduceIte, Nat.reduceLT, Nat.reduceSub, Nat.reduceAdd, Nat.lt_irrefl, Nat.sub_self, Mem.cds, List.cons_append, List.nil_append]) ?_
  refine den_ift (by simp only [List.map_cons, List.map_nil, X.den, Env.put, Env.pre, List.length_cons, List.length_nil, Nat.zero_add, CD.int_i, CD.bool_b, CD.rows_l, decide_eq_true_eq, decide_eq_false_iff_not, beq_iff_eq, beq_eq_false_iff_ne, List.getD_cons_zero, List.getD_cons_succ, reduceIte, Nat.reduceLT, Nat.reduceSub, Nat.reduceAdd, Nat.lt_irrefl, Nat.sub_self, Mem.cds, List.cons_append, List.nil_append]) ?_
  refine den_le (by simp only [List.map_cons, List.map_nil, X.den, Env.put, Env.pre, List.length_cons, List.length_nil, Nat.zero_add, CD.int_i, CD.bool_b, CD.rows_l, decide_eq_true_eq, decide_eq_false_iff_not, beq_iff_eq, beq_eq_false_iff_ne, List.getD_cons_zero, List.getD_cons_succ, reduceIte, Nat.reduceLT, Nat.reduceSub, Nat.reduceAdd, Nat.lt_irrefl, Nat.sub_self, len_ints]; omega) (den_calle d39 [.b true] rfl trivial ?_ (den_ret ?_))
  · simp only [List.map_cons, List.map_nil, X.den, Env.put, Env.pre, List.length_cons, List.length_nil, Nat.zero_add, CD.int_i, CD.bool_b, CD.rows_l, decide_eq_true_eq, decide_eq_false_iff_not, beq_iff_eq, beq_eq_false_iff_ne, List.getD_cons_zero, List.getD_cons_succ, reduceIte, Nat.reduceLT, Nat.reduceSub, Nat.reduceAdd, Nat.lt_irrefl, Nat.sub_self, CD.row, List.headD_cons, Mem.cds, List.cons_append, List.nil_append]
    exact same_ints (x :: l)
  · simp only [List.map_cons, List.map_nil, X.den, Env.put, Env.pre, List.length_cons, List.length_nil, Nat.zero_add, CD.int_i, CD.bool_b, CD.rows_l, decide_eq_true_eq, decide_eq_false_iff_not, beq_iff_eq, beq_eq_false_iff_ne, List.getD_cons_zero, List.getD_cons_succ, reduceIte, Nat.reduceLT, Nat.reduceSub, Nat.reduceAdd, Nat.lt_irrefl, Nat.sub_self]
end Go.Proofs.Ytpmamacjepcdmaa
