/- ChainTells. -/
import Derived.Test.YtpmamacjepcdmaaCChain4
namespace Go.Proofs.Ytpmamacjepcdmaa
open Go Go.Sy Go.RowKit
set_option linter.unusedSimpArgs false
set_option linter.unusedVariables false

theorem same_flows (l : List Flow) : d75.fn [flowsD l, flowsD l] = [.b true] := by
  simp only [d75, List.getD_cons_zero, List.getD_cons_succ, flows_flowsD, decide_true]
theorem same_ints (l : List Int) : d39.fn [intsD l, intsD l] = [.b true] := by
  simp only [d39, List.getD_cons_zero, List.getD_cons_succ, ints_intsD, decide_true]
def s11 : Sig := ⟨[.agg [.fz kS, .fz kI, .fz kI, .fz kI, .int .i64], .one (.int .i64)], [.one (.bool)]⟩
def d11 : DC := ⟨s11, fun _ => True, fun _ => [.b true]⟩
def l11 : List (Nat × Ct) := [(70, d70.ct), (71, d71.ct), (72, d72.ct), (73, d73.ct), (74, d74.ct), (58, d58.ct), (77, d77.ct), (39, d39.ct), (76, d76.ct), (75, d75.ct)]
def z11 : Cx := { T := ttA, C := sigs l11, F := [], hints := [], sig := s11 }
def t11 : Tree :=
 (.call 70 [.var 0, .var 1, .var 2, .var 3, .var 4, .var 5] 6
 (.call 71 [.var 0, .var 1, .var 2, .var 3, .var 4] 8
 (.call 72 [.var 0, .var 1, .var 2, .var 3, .var 4] 10
 (.call 73 [] 11
 (.ite (.not (.var 11))
  (.ret [.bool false])
  (.call 74 [.var 0, .var 1, .var 2, .var 3, .var 4] 12
  (.ite (.not (.eq (.var 12) (.var 10)))
   (.ret [.bool false])
   (.ite (.not (.eq (.var 9) (.var 10)))
    (.ret [.bool false])
    (.ite (.not (.eq (.var 10) (.int 0)))
     (.ite (.not (.eq (.len (.var 8)) (.int 0)))
      (.ret [.bool false])
      (.call 58 [.var 0, .var 1, .var 2, .var 3, .var 4] 13
      (.ite (.eq (.var 13) (.int 0))
       (.ite (.lt (.var 5) (.int 0))
        (.ite (.eq (.var 7) (.int 5))
         (.ret [.eq (.len (.var 6)) (.int 0)])
         (.ret [.bool false]))
        (.ite (.le (.len (.var 1)) (.var 5))
         (.ite (.eq (.var 7) (.int 5))
          (.ret [.eq (.len (.var 6)) (.int 0)])
          (.ret [.bool false]))
         (.call 77 [.var 0, .var 1, .var 2, .var 3, .var 4, .var 5] 14
         (.ite (.not (.var 15))
          (.ite (.eq (.var 7) (.int 4))
           (.ret [.eq (.len (.var 6)) (.int 0)])
           (.ret [.bool false]))
          (.ite (.eq (.var 7) (.int 0))
           (.call 39 [.var 6, .var 14] 16
           (.ret [.var 16]))
           (.ret [.bool false]))))))
       (.ite (.eq (.var 7) (.var 13))
        (.ret [.eq (.len (.var 6)) (.int 0)])
        (.ret [.bool false])))))
     (.call 76 [.var 0, .var 1, .var 2, .var 3, .var 4] 13
     (.call 75 [.var 8, .var 13] 14
     (.ite (.not (.var 14))
      (.ret [.bool false])
      (.call 58 [.var 0, .var 1, .var 2, .var 3, .var 4] 15
      (.ite (.eq (.var 15) (.int 0))
       (.ite (.lt (.var 5) (.int 0))
        (.ite (.eq (.var 7) (.int 5))
         (.ret [.eq (.len (.var 6)) (.int 0)])
         (.ret [.bool false]))
        (.ite (.le (.len (.var 1)) (.var 5))
         (.ite (.eq (.var 7) (.int 5))
          (.ret [.eq (.len (.var 6)) (.int 0)])
          (.ret [.bool false]))
         (.call 77 [.var 0, .var 1, .var 2, .var 3, .var 4, .var 5] 16
         (.ite (.not (.var 17))
          (.ite (.eq (.var 7) (.int 4))
           (.ret [.eq (.len (.var 6)) (.int 0)])
           (.ret [.bool false]))
          (.ite (.eq (.var 7) (.int 0))
           (.call 39 [.var 6, .var 16] 18
           (.ret [.var 18]))
           (.ret [.bool false]))))))
       (.ite (.eq (.var 7) (.var 15))
        (.ret [.eq (.len (.var 6)) (.int 0)])
        (.ret [.bool false]))))))))))))))))
theorem run11 : run z11 6000 [.code (Try.f11.body.getD .skip), .fin (topRet z11 Try.f11.results.toList 50)] { fn := 11, tmps := z11.sig.args0 ++ List.replicate (Try.f11.ntmps - z11.sig.args0.length) (.v (.one .undef)), stk := [], h := z11.sig.h0, nx := z11.sig.ins.length, known := [] } = t11 := by kernel_rfl
theorem ok11 : CtOk Try.prog 11 d11.ct := by
  refine dc_of_tree (d := d11) (Z := z11) (Γ := gam l11) (fn := Try.f11) (c := Try.f11.body.getD .skip) (told_of tok mixed (all_cons ok70 (all_cons ok71 (all_cons ok72 (all_cons ok73 (all_cons ok74 (all_cons ok58 (all_cons ok77 (all_cons ok39 (all_cons ok76 (all_cons ok75 all_nil)))))))))) fok_nil) Try.func11 (by kernel_rfl) (by kernel_rfl) rfl run11 fun E hk hp => ?_
  obtain ⟨hk0, hk1, hk2, hk3, hk4, hk5, _⟩ := hk
  obtain ⟨m, e0, e1, e2, e3, e4, b0, b1, b2, b3⟩ := ok_mem (d0 := E 0) (d1 := E 1) (d2 := E 2) (d3 := E 3) (d4 := E 4) hk0 hk1 hk2 hk3 hk4
  obtain ⟨x, e5⟩ := ok_int (d := E 5) hk5
  have el : letters E d11.sig.ins.length = [slotsD m.slots, intsD m.heads, intsD m.free, intsD m.locks, .i m.now, .i x] := by
    show [E 0, E 1, E 2, E 3, E 4, E 5] = _
    rw [e0, e1, e2, e3, e4, e5]
  rw [el] at hp
  rw [el]
  rw [Env.pre_eq el]
  clear el e0 e1 e2 e3 e4 e5
  simp only [d11]
  unfold t11
  refine den_calle d70 [intsD (slotsOf m x).1, .i (slotsOf m x).2] rfl trivial (by simp only [List.map_cons, List.map_nil, X.den, Env.put, Env.pre, List.length_cons, List.length_nil, Nat.zero_add, CD.int_i, CD.bool_b, CD.rows_l, decide_eq_true_eq, decide_eq_false_iff_not, beq_iff_eq, beq_eq_false_iff_ne, List.getD_cons_zero, List.getD_cons_succ, reduceIte, Nat.reduceLT, Nat.reduceSub, Nat.reduceAdd, Nat.lt_irrefl, Nat.sub_self, fn70]) ?_
  refine den_calle d71 [flowsD (flowsR m).1, .i (flowsR m).2] rfl trivial (by simp only [List.map_cons, List.map_nil, X.den, Env.put, Env.pre, List.length_cons, List.length_nil, Nat.zero_add, CD.int_i, CD.bool_b, CD.rows_l, decide_eq_true_eq, decide_eq_false_iff_not, beq_iff_eq, beq_eq_false_iff_ne, List.getD_cons_zero, List.getD_cons_succ, reduceIte, Nat.reduceLT, Nat.reduceSub, Nat.reduceAdd, Nat.lt_irrefl, Nat.sub_self, fn71]) ?_
  refine den_calle d72 [.i (checkChains m)] rfl trivial (by simp only [List.map_cons, List.map_nil, X.den, Env.put, Env.pre, List.length_cons, List.length_nil, Nat.zero_add, CD.int_i, CD.bool_b, CD.rows_l, decide_eq_true_eq, decide_eq_false_iff_not, beq_iff_eq, beq_eq_false_iff_ne, List.getD_cons_zero, List.getD_cons_succ, reduceIte, Nat.reduceLT, Nat.reduceSub, Nat.reduceAdd, Nat.lt_irrefl, Nat.sub_self, fn72]) ?_
  refine den_calle d73 [.b true] rfl trivial rfl ?_
  refine den_iff (by simp only [List.map_cons, List.map_nil, X.den, Env.put, Env.pre, List.length_cons, List.length_nil, Nat.zero_add, CD.int_i, CD.bool_b, CD.rows_l, decide_eq_true_eq, decide_eq_false_iff_not, beq_iff_eq, beq_eq_false_iff_ne, List.getD_cons_zero, List.getD_cons_succ, reduceIte, Nat.reduceLT, Nat.reduceSub, Nat.reduceAdd, Nat.lt_irrefl, Nat.sub_self, decide_true, Bool.not_true, not_true_eq_false, decide_false, beq_self_eq_true]) ?_
  refine den_calle d74 [.i (checkChains m)] rfl trivial (by simp only [List.map_cons, List.map_nil, X.den, Env.put, Env.pre, List.length_cons, List.length_nil, Nat.zero_add, CD.int_i, CD.bool_b, CD.rows_l, decide_eq_true_eq, decide_eq_false_iff_not, beq_iff_eq, beq_eq_false_iff_ne, List.getD_cons_zero, List.getD_cons_succ, reduceIte, Nat.reduceLT, Nat.reduceSub, Nat.reduceAdd, Nat.lt_irrefl, Nat.sub_self, fn74]) ?_
  refine den_iff (by simp only [List.map_cons, List.map_nil, X.den, Env.put, Env.pre, List.length_cons, List.length_nil, Nat.zero_add, CD.int_i, CD.bool_b, CD.rows_l, decide_eq_true_eq, decide_eq_false_iff_not, beq_iff_eq, beq_eq_false_iff_ne, List.getD_cons_zero, List.getD_cons_succ, reduceIte, Nat.reduceLT, Nat.reduceSub, Nat.reduceAdd, Nat.lt_irrefl, Nat.sub_self, decide_true, Bool.not_true, not_true_eq_false, decide_false, beq_self_eq_true]) ?_
  have hf : (flowsR m).2 = checkChains m := by
    unfold flowsR
    split
    · rfl
    · rename_i h; exact (Classical.not_not.1 h).symm
  rw [hf]
  refine den_iff (by simp only [List.map_cons, List.map_nil, X.den, Env.put, Env.pre, List.length_cons, List.length_nil, Nat.zero_add, CD.int_i, CD.bool_b, CD.rows_l, decide_eq_true_eq, decide_eq_false_iff_not, beq_iff_eq, beq_eq_false_iff_ne, List.getD_cons_zero, List.getD_cons_succ, reduceIte, Nat.reduceLT, Nat.reduceSub, Nat.reduceAdd, Nat.lt_irrefl, Nat.sub_self, decide_true, Bool.not_true, not_true_eq_false, decide_false, beq_self_eq_true]) ?_
  refine den_ite (fun h => ?_) (fun h => ?_)
  · simp only [List.map_cons, List.map_nil, X.den, Env.put, Env.pre, List.length_cons, List.length_nil, Nat.zero_add, CD.int_i, CD.bool_b, CD.rows_l, decide_eq_true_eq, decide_eq_false_iff_not, beq_iff_eq, beq_eq_false_iff_ne, List.getD_cons_zero, List.getD_cons_succ, reduceIte, Nat.reduceLT, Nat.reduceSub, Nat.reduceAdd, Nat.lt_irrefl, Nat.sub_self, Bool.not_eq_true'] at h
    have hf1 : (flowsR m).1 = [] := by unfold flowsR; rw [if_pos h]
    rw [hf1]
    refine den_iff (by simp only [List.map_cons, List.map_nil, X.den, Env.put, Env.pre, List.length_cons, List.length_nil, Nat.zero_add, CD.int_i, CD.bool_b, CD.rows_l, decide_eq_true_eq, decide_eq_false_iff_not, beq_iff_eq, beq_eq_false_iff_ne, List.getD_cons_zero, List.getD_cons_succ, reduceIte, Nat.reduceLT, Nat.reduceSub, Nat.reduceAdd, Nat.lt_irrefl, Nat.sub_self, len_flows, List.length_nil]; rfl) ?_
    refine den_calle d58 [.i (checkMem m)] rfl trivial (by simp only [List.map_cons, List.map_nil, X.den, Env.put, Env.pre, List.length_cons, List.length_nil, Nat.zero_add, CD.int_i, CD.bool_b, CD.rows_l, decide_eq_true_eq, decide_eq_false_iff_not, beq_iff_eq, beq_eq_false_iff_ne, List.getD_cons_zero, List.getD_cons_succ, reduceIte, Nat.reduceLT, Nat.reduceSub, Nat.reduceAdd, Nat.lt_irrefl, Nat.sub_self, fn58]) (den_ite (fun c => ?_) (fun c => ?_))
    · simp only [List.map_cons, List.map_nil, X.den, Env.put, Env.pre, List.length_cons, List.length_nil, Nat.zero_add, CD.int_i, CD.bool_b, CD.rows_l, decide_eq_true_eq, decide_eq_false_iff_not, beq_iff_eq, beq_eq_false_iff_ne, List.getD_cons_zero, List.getD_cons_succ, reduceIte, Nat.reduceLT, Nat.reduceSub, Nat.reduceAdd, Nat.lt_irrefl, Nat.sub_self] at c
      have hm := (checkMem_iff m).1 c
      refine den_ite (fun a1 => ?_) (fun a1 => den_ite (fun a1 => ?_) (fun a2 => ?_))
      · simp only [List.map_cons, List.map_nil, X.den, Env.put, Env.pre, List.length_cons, List.length_nil, Nat.zero_add, CD.int_i, CD.bool_b, CD.rows_l, decide_eq_true_eq, decide_eq_false_iff_not, beq_iff_eq, beq_eq_false_iff_ne, List.getD_cons_zero, List.getD_cons_succ, reduceIte, Nat.reduceLT, Nat.reduceSub, Nat.reduceAdd, Nat.lt_irrefl, Nat.sub_self] at a1
        have hs : slotsOf m x = ([], 5) := by unfold slotsOf; rw [if_neg (by omega), if_pos (.inl a1)]
        rw [hs]
        refine den_ift (by simp only [List.map_cons, List.map_nil, X.den, Env.put, Env.pre, List.length_cons, List.length_nil, Nat.zero_add, CD.int_i, CD.bool_b, CD.rows_l, decide_eq_true_eq, decide_eq_false_iff_not, beq_iff_eq, beq_eq_false_iff_ne, List.getD_cons_zero, List.getD_cons_succ, reduceIte, Nat.reduceLT, Nat.reduceSub, Nat.reduceAdd, Nat.lt_irrefl, Nat.sub_self]) ?_
        refine den_ret ?_
        simp only [List.map_cons, List.map_nil, X.den, Env.put, Env.pre, List.length_cons, List.length_nil, Nat.zero_add, CD.int_i, CD.bool_b, CD.rows_l, decide_eq_true_eq, decide_eq_false_iff_not, beq_iff_eq, beq_eq_false_iff_ne, List.getD_cons_zero, List.getD_cons_succ, reduceIte, Nat.reduceLT, Nat.reduceSub, Nat.reduceAdd, Nat.lt_irrefl, Nat.sub_self, len_ints, List.length_nil]
        rfl
      · simp only [List.map_cons, List.map_nil, X.den, Env.put, Env.pre, List.length_cons, List.length_nil, Nat.zero_add, CD.int_i, CD.bool_b, CD.rows_l, decide_eq_true_eq, decide_eq_false_iff_not, beq_iff_eq, beq_eq_false_iff_ne, List.getD_cons_zero, List.getD_cons_succ, reduceIte, Nat.reduceLT, Nat.reduceSub, Nat.reduceAdd, Nat.lt_irrefl, Nat.sub_self, len_ints] at a1
        have hs : slotsOf m x = ([], 5) := by unfold slotsOf; rw [if_neg (by omega), if_pos (.inr a1)]
        rw [hs]
        refine den_ift (by simp only [List.map_cons, List.map_nil, X.den, Env.put, Env.pre, List.length_cons, List.length_nil, Nat.zero_add, CD.int_i, CD.bool_b, CD.rows_l, decide_eq_true_eq, decide_eq_false_iff_not, beq_iff_eq, beq_eq_false_iff_ne, List.getD_cons_zero, List.getD_cons_succ, reduceIte, Nat.reduceLT, Nat.reduceSub, Nat.reduceAdd, Nat.lt_irrefl, Nat.sub_self]) ?_
        refine den_ret ?_
        simp only [List.map_cons, List.map_nil, X.den, Env.put, Env.pre, List.length_cons, List.length_nil, Nat.zero_add, CD.int_i, CD.bool_b, CD.rows_l, decide_eq_true_eq, decide_eq_false_iff_not, beq_iff_eq, beq_eq_false_iff_ne, List.getD_cons_zero, List.getD_cons_succ, reduceIte, Nat.reduceLT, Nat.reduceSub, Nat.reduceAdd, Nat.lt_irrefl, Nat.sub_self, len_ints, List.length_nil]
        rfl
      simp only [List.map_cons, List.map_nil, X.den, Env.put, Env.pre, List.length_cons, List.length_nil, Nat.zero_add, CD.int_i, CD.bool_b, CD.rows_l, decide_eq_true_eq, decide_eq_false_iff_not, beq_iff_eq, beq_eq_false_iff_ne, List.getD_cons_zero, List.getD_cons_succ, reduceIte, Nat.reduceLT, Nat.reduceSub, Nat.reduceAdd, Nat.lt_irrefl, Nat.sub_self, len_ints] at a1 a2
      have hs : slotsOf m x = chainR m x := by unfold slotsOf; rw [if_neg (by omega), if_neg (by omega)]
      rw [hs]
      refine den_calle d77 [intsD (chain77 m x).1, .b (chain77 m x).2] rfl ?_ (by simp only [List.map_cons, List.map_nil, X.den, Env.put, Env.pre, List.length_cons, List.length_nil, Nat.zero_add, CD.int_i, CD.bool_b, CD.rows_l, decide_eq_true_eq, decide_eq_false_iff_not, beq_iff_eq, beq_eq_false_iff_ne, List.getD_cons_zero, List.getD_cons_succ, reduceIte, Nat.reduceLT, Nat.reduceSub, Nat.reduceAdd, Nat.lt_irrefl, Nat.sub_self, fn77]) ?_
      · simp only [List.map_cons, List.map_nil, X.den, Env.put, Env.pre, List.length_cons, List.length_nil, Nat.zero_add, CD.int_i, CD.bool_b, CD.rows_l, decide_eq_true_eq, decide_eq_false_iff_not, beq_iff_eq, beq_eq_false_iff_ne, List.getD_cons_zero, List.getD_cons_succ, reduceIte, Nat.reduceLT, Nat.reduceSub, Nat.reduceAdd, Nat.lt_irrefl, Nat.sub_self]
        exact pre77 hm (by omega) (by omega)
      have hq := chain77_eq m x
      cases hc : (chain77 m x).2 with
      | false =>
        rw [hc] at hq
        have hr : chainR m x = ([], 4) := by unfold chainR; rw [hq]; rfl
        rw [hr]
        refine den_ift (by simp only [List.map_cons, List.map_nil, X.den, Env.put, Env.pre, List.length_cons, List.length_nil, Nat.zero_add, CD.int_i, CD.bool_b, CD.rows_l, decide_eq_true_eq, decide_eq_false_iff_not, beq_iff_eq, beq_eq_false_iff_ne, List.getD_cons_zero, List.getD_cons_succ, reduceIte, Nat.reduceLT, Nat.reduceSub, Nat.reduceAdd, Nat.lt_irrefl, Nat.sub_self, Bool.not_false]) ?_
        refine den_ift (by simp only [List.map_cons, List.map_nil, X.den, Env.put, Env.pre, List.length_cons, List.length_nil, Nat.zero_add, CD.int_i, CD.bool_b, CD.rows_l, decide_eq_true_eq, decide_eq_false_iff_not, beq_iff_eq, beq_eq_false_iff_ne, List.getD_cons_zero, List.getD_cons_succ, reduceIte, Nat.reduceLT, Nat.reduceSub, Nat.reduceAdd, Nat.lt_irrefl, Nat.sub_self]) ?_
        refine den_ret ?_
        simp only [List.map_cons, List.map_nil, X.den, Env.put, Env.pre, List.length_cons, List.length_nil, Nat.zero_add, CD.int_i, CD.bool_b, CD.rows_l, decide_eq_true_eq, decide_eq_false_iff_not, beq_iff_eq, beq_eq_false_iff_ne, List.getD_cons_zero, List.getD_cons_succ, reduceIte, Nat.reduceLT, Nat.reduceSub, Nat.reduceAdd, Nat.lt_irrefl, Nat.sub_self, len_ints, List.length_nil]
        rfl
      | true =>
        rw [hc, if_pos rfl] at hq
        have hr : chainR m x = ((chain77 m x).1, 0) := by unfold chainR; rw [hq]
        rw [hr]
        refine den_iff (by simp only [List.map_cons, List.map_nil, X.den, Env.put, Env.pre, List.length_cons, List.length_nil, Nat.zero_add, CD.int_i, CD.bool_b, CD.rows_l, decide_eq_true_eq, decide_eq_false_iff_not, beq_iff_eq, beq_eq_false_iff_ne, List.getD_cons_zero, List.getD_cons_succ, reduceIte, Nat.reduceLT, Nat.reduceSub, Nat.reduceAdd, Nat.lt_irrefl, Nat.sub_self, decide_true, Bool.not_true, not_true_eq_false, decide_false, beq_self_eq_true]) ?_
        refine den_ift (by simp only [List.map_cons, List.map_nil, X.den, Env.put, Env.pre, List.length_cons, List.length_nil, Nat.zero_add, CD.int_i, CD.bool_b, CD.rows_l, decide_eq_true_eq, decide_eq_false_iff_not, beq_iff_eq, beq_eq_false_iff_ne, List.getD_cons_zero, List.getD_cons_succ, reduceIte, Nat.reduceLT, Nat.reduceSub, Nat.reduceAdd, Nat.lt_irrefl, Nat.sub_self]) ?_
        refine den_calle d39 [.b true] rfl trivial (by simp only [List.map_cons, List.map_nil, X.den, Env.put, Env.pre, List.length_cons, List.length_nil, Nat.zero_add, CD.int_i, CD.bool_b, CD.rows_l, decide_eq_true_eq, decide_eq_false_iff_not, beq_iff_eq, beq_eq_false_iff_ne, List.getD_cons_zero, List.getD_cons_succ, reduceIte, Nat.reduceLT, Nat.reduceSub, Nat.reduceAdd, Nat.lt_irrefl, Nat.sub_self, same_ints]) (den_ret ?_)
        simp only [List.map_cons, List.map_nil, X.den, Env.put, Env.pre, List.length_cons, List.length_nil, Nat.zero_add, CD.int_i, CD.bool_b, CD.rows_l, decide_eq_true_eq, decide_eq_false_iff_not, beq_iff_eq, beq_eq_false_iff_ne, List.getD_cons_zero, List.getD_cons_succ, reduceIte, Nat.reduceLT, Nat.reduceSub, Nat.reduceAdd, Nat.lt_irrefl, Nat.sub_self]
    · simp only [List.map_cons, List.map_nil, X.den, Env.put, Env.pre, List.length_cons, List.length_nil, Nat.zero_add, CD.int_i, CD.bool_b, CD.rows_l, decide_eq_true_eq, decide_eq_false_iff_not, beq_iff_eq, beq_eq_false_iff_ne, List.getD_cons_zero, List.getD_cons_succ, reduceIte, Nat.reduceLT, Nat.reduceSub, Nat.reduceAdd, Nat.lt_irrefl, Nat.sub_self] at c
      have hs : slotsOf m x = ([], checkMem m) := by unfold slotsOf; rw [if_pos (by omega)]
      rw [hs]
      refine den_ift (by simp only [List.map_cons, List.map_nil, X.den, Env.put, Env.pre, List.length_cons, List.length_nil, Nat.zero_add, CD.int_i, CD.bool_b, CD.rows_l, decide_eq_true_eq, decide_eq_false_iff_not, beq_iff_eq, beq_eq_false_iff_ne, List.getD_cons_zero, List.getD_cons_succ, reduceIte, Nat.reduceLT, Nat.reduceSub, Nat.reduceAdd, Nat.lt_irrefl, Nat.sub_self]) ?_
      refine den_ret ?_
      simp only [List.map_cons, List.map_nil, X.den, Env.put, Env.pre, List.length_cons, List.length_nil, Nat.zero_add, CD.int_i, CD.bool_b, CD.rows_l, decide_eq_true_eq, decide_eq_false_iff_not, beq_iff_eq, beq_eq_false_iff_ne, List.getD_cons_zero, List.getD_cons_succ, reduceIte, Nat.reduceLT, Nat.reduceSub, Nat.reduceAdd, Nat.lt_irrefl, Nat.sub_self, len_ints, List.length_nil]
      rfl
  · simp only [List.map_cons, List.map_nil, X.den, Env.put, Env.pre, List.length_cons, List.length_nil, Nat.zero_add, CD.int_i, CD.bool_b, CD.rows_l, decide_eq_true_eq, decide_eq_false_iff_not, beq_iff_eq, beq_eq_false_iff_ne, List.getD_cons_zero, List.getD_cons_succ, reduceIte, Nat.reduceLT, Nat.reduceSub, Nat.reduceAdd, Nat.lt_irrefl, Nat.sub_self, Bool.not_eq_false'] at h
    have hf1 : (flowsR m).1 = flowsOf m := by unfold flowsR; rw [if_neg (by omega)]
    rw [hf1]
    refine den_calle d76 [flowsD (flowsOf m)] rfl ?_ (by simp only [List.map_cons, List.map_nil, X.den, Env.put, Env.pre, List.length_cons, List.length_nil, Nat.zero_add, CD.int_i, CD.bool_b, CD.rows_l, decide_eq_true_eq, decide_eq_false_iff_not, beq_iff_eq, beq_eq_false_iff_ne, List.getD_cons_zero, List.getD_cons_succ, reduceIte, Nat.reduceLT, Nat.reduceSub, Nat.reduceAdd, Nat.lt_irrefl, Nat.sub_self, fn76]) ?_
    · simp only [List.map_cons, List.map_nil, X.den, Env.put, Env.pre, List.length_cons, List.length_nil, Nat.zero_add, CD.int_i, CD.bool_b, CD.rows_l, decide_eq_true_eq, decide_eq_false_iff_not, beq_iff_eq, beq_eq_false_iff_ne, List.getD_cons_zero, List.getD_cons_succ, reduceIte, Nat.reduceLT, Nat.reduceSub, Nat.reduceAdd, Nat.lt_irrefl, Nat.sub_self, d76, mem_of, mem_eta]
      exact h
    refine den_calle d75 [.b true] rfl trivial (by simp only [List.map_cons, List.map_nil, X.den, Env.put, Env.pre, List.length_cons, List.length_nil, Nat.zero_add, CD.int_i, CD.bool_b, CD.rows_l, decide_eq_true_eq, decide_eq_false_iff_not, beq_iff_eq, beq_eq_false_iff_ne, List.getD_cons_zero, List.getD_cons_succ, reduceIte, Nat.reduceLT, Nat.reduceSub, Nat.reduceAdd, Nat.lt_irrefl, Nat.sub_self, same_flows]) ?_
    refine den_iff (by simp only [List.map_cons, List.map_nil, X.den, Env.put, Env.pre, List.length_cons, List.length_nil, Nat.zero_add, CD.int_i, CD.bool_b, CD.rows_l, decide_eq_true_eq, decide_eq_false_iff_not, beq_iff_eq, beq_eq_false_iff_ne, List.getD_cons_zero, List.getD_cons_succ, reduceIte, Nat.reduceLT, Nat.reduceSub, Nat.reduceAdd, Nat.lt_irrefl, Nat.sub_self, decide_true, Bool.not_true, not_true_eq_false, decide_false, beq_self_eq_true]) ?_
    refine den_calle d58 [.i (checkMem m)] rfl trivial (by simp only [List.map_cons, List.map_nil, X.den, Env.put, Env.pre, List.length_cons, List.length_nil, Nat.zero_add, CD.int_i, CD.bool_b, CD.rows_l, decide_eq_true_eq, decide_eq_false_iff_not, beq_iff_eq, beq_eq_false_iff_ne, List.getD_cons_zero, List.getD_cons_succ, reduceIte, Nat.reduceLT, Nat.reduceSub, Nat.reduceAdd, Nat.lt_irrefl, Nat.sub_self, fn58]) (den_ite (fun c => ?_) (fun c => ?_))
    · simp only [List.map_cons, List.map_nil, X.den, Env.put, Env.pre, List.length_cons, List.length_nil, Nat.zero_add, CD.int_i, CD.bool_b, CD.rows_l, decide_eq_true_eq, decide_eq_false_iff_not, beq_iff_eq, beq_eq_false_iff_ne, List.getD_cons_zero, List.getD_cons_succ, reduceIte, Nat.reduceLT, Nat.reduceSub, Nat.reduceAdd, Nat.lt_irrefl, Nat.sub_self] at c
      have hm := (checkMem_iff m).1 c
      refine den_ite (fun a1 => ?_) (fun a1 => den_ite (fun a1 => ?_) (fun a2 => ?_))
      · simp only [List.map_cons, List.map_nil, X.den, Env.put, Env.pre, List.length_cons, List.length_nil, Nat.zero_add, CD.int_i, CD.bool_b, CD.rows_l, decide_eq_true_eq, decide_eq_false_iff_not, beq_iff_eq, beq_eq_false_iff_ne, List.getD_cons_zero, List.getD_cons_succ, reduceIte, Nat.reduceLT, Nat.reduceSub, Nat.reduceAdd, Nat.lt_irrefl, Nat.sub_self] at a1
        have hs : slotsOf m x = ([], 5) := by unfold slotsOf; rw [if_neg (by omega), if_pos (.inl a1)]
        rw [hs]
        refine den_ift (by simp only [List.map_cons, List.map_nil, X.den, Env.put, Env.pre, List.length_cons, List.length_nil, Nat.zero_add, CD.int_i, CD.bool_b, CD.rows_l, decide_eq_true_eq, decide_eq_false_iff_not, beq_iff_eq, beq_eq_false_iff_ne, List.getD_cons_zero, List.getD_cons_succ, reduceIte, Nat.reduceLT, Nat.reduceSub, Nat.reduceAdd, Nat.lt_irrefl, Nat.sub_self]) ?_
        refine den_ret ?_
        simp only [List.map_cons, List.map_nil, X.den, Env.put, Env.pre, List.length_cons, List.length_nil, Nat.zero_add, CD.int_i, CD.bool_b, CD.rows_l, decide_eq_true_eq, decide_eq_false_iff_not, beq_iff_eq, beq_eq_false_iff_ne, List.getD_cons_zero, List.getD_cons_succ, reduceIte, Nat.reduceLT, Nat.reduceSub, Nat.reduceAdd, Nat.lt_irrefl, Nat.sub_self, len_ints, List.length_nil]
        rfl
      · simp only [List.map_cons, List.map_nil, X.den, Env.put, Env.pre, List.length_cons, List.length_nil, Nat.zero_add, CD.int_i, CD.bool_b, CD.rows_l, decide_eq_true_eq, decide_eq_false_iff_not, beq_iff_eq, beq_eq_false_iff_ne, List.getD_cons_zero, List.getD_cons_succ, reduceIte, Nat.reduceLT, Nat.reduceSub, Nat.reduceAdd, Nat.lt_irrefl, Nat.sub_self, len_ints] at a1
        have hs : slotsOf m x = ([], 5) := by unfold slotsOf; rw [if_neg (by omega), if_pos (.inr a1)]
        rw [hs]
        refine den_ift (by simp only [List.map_cons, List.map_nil, X.den, Env.put, Env.pre, List.length_cons, List.length_nil, Nat.zero_add, CD.int_i, CD.bool_b, CD.rows_l, decide_eq_true_eq, decide_eq_false_iff_not, beq_iff_eq, beq_eq_false_iff_ne, List.getD_cons_zero, List.getD_cons_succ, reduceIte, Nat.reduceLT, Nat.reduceSub, Nat.reduceAdd, Nat.lt_irrefl, Nat.sub_self]) ?_
        refine den_ret ?_
        simp only [List.map_cons, List.map_nil, X.den, Env.put, Env.pre, List.length_cons, List.length_nil, Nat.zero_add, CD.int_i, CD.bool_b, CD.rows_l, decide_eq_true_eq, decide_eq_false_iff_not, beq_iff_eq, beq_eq_false_iff_ne, List.getD_cons_zero, List.getD_cons_succ, reduceIte, Nat.reduceLT, Nat.reduceSub, Nat.reduceAdd, Nat.lt_irrefl, Nat.sub_self, len_ints, List.length_nil]
        rfl
      simp only [List.map_cons, List.map_nil, X.den, Env.put, Env.pre, List.length_cons, List.length_nil, Nat.zero_add, CD.int_i, CD.bool_b, CD.rows_l, decide_eq_true_eq, decide_eq_false_iff_not, beq_iff_eq, beq_eq_false_iff_ne, List.getD_cons_zero, List.getD_cons_succ, reduceIte, Nat.reduceLT, Nat.reduceSub, Nat.reduceAdd, Nat.lt_irrefl, Nat.sub_self, len_ints] at a1 a2
      have hs : slotsOf m x = chainR m x := by unfold slotsOf; rw [if_neg (by omega), if_neg (by omega)]
      rw [hs]
      refine den_calle d77 [intsD (chain77 m x).1, .b (chain77 m x).2] rfl ?_ (by simp only [List.map_cons, List.map_nil, X.den, Env.put, Env.pre, List.length_cons, List.length_nil, Nat.zero_add, CD.int_i, CD.bool_b, CD.rows_l, decide_eq_true_eq, decide_eq_false_iff_not, beq_iff_eq, beq_eq_false_iff_ne, List.getD_cons_zero, List.getD_cons_succ, reduceIte, Nat.reduceLT, Nat.reduceSub, Nat.reduceAdd, Nat.lt_irrefl, Nat.sub_self, fn77]) ?_
      · simp only [List.map_cons, List.map_nil, X.den, Env.put, Env.pre, List.length_cons, List.length_nil, Nat.zero_add, CD.int_i, CD.bool_b, CD.rows_l, decide_eq_true_eq, decide_eq_false_iff_not, beq_iff_eq, beq_eq_false_iff_ne, List.getD_cons_zero, List.getD_cons_succ, reduceIte, Nat.reduceLT, Nat.reduceSub, Nat.reduceAdd, Nat.lt_irrefl, Nat.sub_self]
        exact pre77 hm (by omega) (by omega)
      have hq := chain77_eq m x
      cases hc : (chain77 m x).2 with
      | false =>
        rw [hc] at hq
        have hr : chainR m x = ([], 4) := by unfold chainR; rw [hq]; rfl
        rw [hr]
        refine den_ift (by simp only [List.map_cons, List.map_nil, X.den, Env.put, Env.pre, List.length_cons, List.length_nil, Nat.zero_add, CD.int_i, CD.bool_b, CD.rows_l, decide_eq_true_eq, decide_eq_false_iff_not, beq_iff_eq, beq_eq_false_iff_ne, List.getD_cons_zero, List.getD_cons_succ, reduceIte, Nat.reduceLT, Nat.reduceSub, Nat.reduceAdd, Nat.lt_irrefl, Nat.sub_self, Bool.not_false]) ?_
        refine den_ift (by simp only [List.map_cons, List.map_nil, X.den, Env.put, Env.pre, List.length_cons, List.length_nil, Nat.zero_add, CD.int_i, CD.bool_b, CD.rows_l, decide_eq_true_eq, decide_eq_false_iff_not, beq_iff_eq, beq_eq_false_iff_ne, List.getD_cons_zero, List.getD_cons_succ, reduceIte, Nat.reduceLT, Nat.reduceSub, Nat.reduceAdd, Nat.lt_irrefl, Nat.sub_self]) ?_
        refine den_ret ?_
        simp only [List.map_cons, List.map_nil, X.den, Env.put, Env.pre, List.length_cons, List.length_nil, Nat.zero_add, CD.int_i, CD.bool_b, CD.rows_l, decide_eq_true_eq, decide_eq_false_iff_not, beq_iff_eq, beq_eq_false_iff_ne, List.getD_cons_zero, List.getD_cons_succ, reduceIte, Nat.reduceLT, Nat.reduceSub, Nat.reduceAdd, Nat.lt_irrefl, Nat.sub_self, len_ints, List.length_nil]
        rfl
      | true =>
        rw [hc, if_pos rfl] at hq
        have hr : chainR m x = ((chain77 m x).1, 0) := by unfold chainR; rw [hq]
        rw [hr]
        refine den_iff (by simp only [List.map_cons, List.map_nil, X.den, Env.put, Env.pre, List.length_cons, List.length_nil, Nat.zero_add, CD.int_i, CD.bool_b, CD.rows_l, decide_eq_true_eq, decide_eq_false_iff_not, beq_iff_eq, beq_eq_false_iff_ne, List.getD_cons_zero, List.getD_cons_succ, reduceIte, Nat.reduceLT, Nat.reduceSub, Nat.reduceAdd, Nat.lt_irrefl, Nat.sub_self, decide_true, Bool.not_true, not_true_eq_false, decide_false, beq_self_eq_true]) ?_
        refine den_ift (by simp only [List.map_cons, List.map_nil, X.den, Env.put, Env.pre, List.length_cons, List.length_nil, Nat.zero_add, CD.int_i, CD.bool_b, CD.rows_l, decide_eq_true_eq, decide_eq_false_iff_not, beq_iff_eq, beq_eq_false_iff_ne, List.getD_cons_zero, List.getD_cons_succ, reduceIte, Nat.reduceLT, Nat.reduceSub, Nat.reduceAdd, Nat.lt_irrefl, Nat.sub_self]) ?_
        refine den_calle d39 [.b true] rfl trivial (by simp only [List.map_cons, List.map_nil, X.den, Env.put, Env.pre, List.length_cons, List.length_nil, Nat.zero_add, CD.int_i, CD.bool_b, CD.rows_l, decide_eq_true_eq, decide_eq_false_iff_not, beq_iff_eq, beq_eq_false_iff_ne, List.getD_cons_zero, List.getD_cons_succ, reduceIte, Nat.reduceLT, Nat.reduceSub, Nat.reduceAdd, Nat.lt_irrefl, Nat.sub_self, same_ints]) (den_ret ?_)
        simp only [List.map_cons, List.map_nil, X.den, Env.put, Env.pre, List.length_cons, List.length_nil, Nat.zero_add, CD.int_i, CD.bool_b, CD.rows_l, decide_eq_true_eq, decide_eq_false_iff_not, beq_iff_eq, beq_eq_false_iff_ne, List.getD_cons_zero, List.getD_cons_succ, reduceIte, Nat.reduceLT, Nat.reduceSub, Nat.reduceAdd, Nat.lt_irrefl, Nat.sub_self]
    · simp only [List.map_cons, List.map_nil, X.den, Env.put, Env.pre, List.length_cons, List.length_nil, Nat.zero_add, CD.int_i, CD.bool_b, CD.rows_l, decide_eq_true_eq, decide_eq_false_iff_not, beq_iff_eq, beq_eq_false_iff_ne, List.getD_cons_zero, List.getD_cons_succ, reduceIte, Nat.reduceLT, Nat.reduceSub, Nat.reduceAdd, Nat.lt_irrefl, Nat.sub_self] at c
      have hs : slotsOf m x = ([], checkMem m) := by unfold slotsOf; rw [if_pos (by omega)]
      rw [hs]
      refine den_ift (by simp only [List.map_cons, List.map_nil, X.den, Env.put, Env.pre, List.length_cons, List.length_nil, Nat.zero_add, CD.int_i, CD.bool_b, CD.rows_l, decide_eq_true_eq, decide_eq_false_iff_not, beq_iff_eq, beq_eq_false_iff_ne, List.getD_cons_zero, List.getD_cons_succ, reduceIte, Nat.reduceLT, Nat.reduceSub, Nat.reduceAdd, Nat.lt_irrefl, Nat.sub_self]) ?_
      refine den_ret ?_
      simp only [List.map_cons, List.map_nil, X.den, Env.put, Env.pre, List.length_cons, List.length_nil, Nat.zero_add, CD.int_i, CD.bool_b, CD.rows_l, decide_eq_true_eq, decide_eq_false_iff_not, beq_iff_eq, beq_eq_false_iff_ne, List.getD_cons_zero, List.getD_cons_succ, reduceIte, Nat.reduceLT, Nat.reduceSub, Nat.reduceAdd, Nat.lt_irrefl, Nat.sub_self, len_ints, List.length_nil]
      rfl
end Go.Proofs.Ytpmamacjepcdmaa
