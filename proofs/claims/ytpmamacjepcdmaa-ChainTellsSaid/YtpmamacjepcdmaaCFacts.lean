/- Closed facts: filled, framed. -/
import Derived.Test.YtpmamacjepcdmaaCMem3
namespace Go.Proofs.Ytpmamacjepcdmaa
open Go Go.Sy Go.RowKit
set_option linter.unusedSimpArgs false
set_option linter.unusedVariables false

def fM0 : Mem := ⟨[default, default], [-1], [1, 0], [-1], 0⟩
def fM1 : Mem := ⟨[⟨1, ⟨1, 0⟩, 5, false, 0⟩, default], [-1], [1], [-1], 0⟩
def fM2 : Mem := ⟨[⟨1, ⟨1, 0⟩, 5, false, 0⟩, ⟨1, ⟨2, 0⟩, 5, false, 0⟩], [-1], [], [-1], 0⟩
def fM3 : Mem := ⟨[⟨1, ⟨1, 0⟩, 5, false, 0⟩, ⟨0, ⟨2, 0⟩, 5, false, 0⟩], [-1], [1], [-1], 0⟩
def fM4 : Mem := ⟨[⟨1, ⟨1, 0⟩, 5, false, 0⟩, ⟨1, ⟨4, 0⟩, 6, false, 0⟩], [-1], [], [-1], 0⟩
theorem f0 : newMem 2 1 = (fM0, 0) := by decide +kernel
theorem f1 : taken fM0 ⟨1, 0⟩ 5 = (fM1, 0, 0) := by decide +kernel
theorem f2 : taken fM1 ⟨2, 0⟩ 5 = (fM2, 1, 0) := by decide +kernel
theorem f3 : taken fM2 ⟨3, 0⟩ 5 = (Mem.none, 0, 7) := by decide +kernel
theorem f4 : letGo fM2 1 = (fM3, 0) := by decide +kernel
theorem f5 : taken fM3 ⟨4, 0⟩ 6 = (fM4, 1, 0) := by decide +kernel
theorem fn57 (a b : Int) : d57.fn [.i a, .i b] = (newMem a b).1.cds ++ [.i (newMem a b).2] := rfl
def s50 : Sig := ⟨[], [.one (.bool)]⟩
def d50 : DC := ⟨s50, fun _ => True, fun _ => [.b true]⟩
def l50 : List (Nat × Ct) := [(57, d57.ct), (54, d54.ct), (64, d64.ct)]
def z50 : Cx := { T := ttA, C := sigs l50, F := [], hints := [], sig := s50 }
def t50 : Tree :=
 (.call 57 [.int 2, .int 1] 0
 (.call 54 [.var 0, .var 1, .var 2, .var 3, .var 4, .int 1, .int 0, .int 5] 6
 (.call 54 [.var 6, .var 7, .var 8, .var 9, .var 10, .int 2, .int 0, .int 5] 13
 (.call 54 [.var 13, .var 14, .var 15, .var 16, .var 17, .int 3, .int 0, .int 5] 20
 (.call 64 [.var 13, .var 14, .var 15, .var 16, .var 17, .var 18] 27
 (.call 54 [.var 27, .var 28, .var 29, .var 30, .var 31, .int 4, .int 0, .int 6] 33
 (.ite (.eq (.var 5) (.int 0))
  (.ite (.eq (.var 12) (.int 0))
   (.ite (.eq (.var 19) (.int 0))
    (.ite (.eq (.var 26) (.int 7))
     (.ite (.eq (.var 32) (.int 0))
      (.ite (.eq (.var 39) (.int 0))
       (.ite (.eq (.var 11) (.int 0))
        (.ite (.eq (.var 18) (.int 1))
         (.ite (.eq (.var 38) (.int 1))
          (.ite (.eq (.len (.var 33)) (.int 2))
           (.need (.lt (.int 1) (.len (.var 33)))
           (.ret [.and (.eq (.cell (.var 33) (.int 1) 1) (.int 4)) (.and (.eq (.cell (.var 33) (.int 1) 2) (.int 0)) (.bool true))]))
           (.ret [.bool false]))
          (.ret [.bool false]))
         (.ret [.bool false]))
        (.ret [.bool false]))
       (.ret [.bool false]))
      (.ret [.bool false]))
     (.ret [.bool false]))
    (.ret [.bool false]))
   (.ret [.bool false]))
  (.ret [.bool false]))))))))
theorem run50 : run z50 6000 [.code (Try.f50.body.getD .skip), .fin (topRet z50 Try.f50.results.toList 50)] { fn := 50, tmps := z50.sig.args0 ++ List.replicate (Try.f50.ntmps - z50.sig.args0.length) (.v (.one .undef)), stk := [], h := z50.sig.h0, nx := z50.sig.ins.length, known := [] } = t50 := by kernel_rfl
theorem ok50 : CtOk Try.prog 50 d50.ct := by
  refine dc_of_tree (d := d50) (Z := z50) (Γ := gam l50) (fn := Try.f50) (c := Try.f50.body.getD .skip) (told_of tok mixed (all_cons ok57 (all_cons ok54 (all_cons ok64 all_nil))) fok_nil) Try.func50 (by kernel_rfl) (by kernel_rfl) rfl run50 fun E hk hp => ?_
  clear hk
  have el : letters E d50.sig.ins.length = [] := rfl
  rw [el] at hp
  rw [el]
  rw [Env.pre_eq el]
  clear el
  simp only [d50]
  unfold t50
  refine den_calle d57 (fM0.cds ++ [.i 0]) rfl trivial (by simp only [List.map_cons, List.map_nil, X.den, Env.put, Env.pre, List.length_cons, List.length_nil, Nat.zero_add, CD.int_i, CD.bool_b, CD.rows_l, decide_eq_true_eq, decide_eq_false_iff_not, beq_iff_eq, beq_eq_false_iff_ne, List.getD_cons_zero, List.getD_cons_succ, reduceIte, Nat.reduceLT, Nat.reduceSub, Nat.reduceAdd, fn57, f0]) ?_
  refine den_calle d54 (fM1.cds ++ [.i 0, .i 0]) rfl trivial (by simp only [List.map_cons, List.map_nil, X.den, Env.put, Env.pre, List.length_cons, List.length_nil, Nat.zero_add, CD.int_i, CD.bool_b, CD.rows_l, decide_eq_true_eq, decide_eq_false_iff_not, beq_iff_eq, beq_eq_false_iff_ne, List.getD_cons_zero, List.getD_cons_succ, reduceIte, Nat.reduceLT, Nat.reduceSub, Nat.reduceAdd, Nat.lt_irrefl, Nat.sub_self, Mem.cds, List.cons_append, List.nil_append, fn54, f1]) ?_
  refine den_calle d54 (fM2.cds ++ [.i 1, .i 0]) rfl trivial (by simp only [List.map_cons, List.map_nil, X.den, Env.put, Env.pre, List.length_cons, List.length_nil, Nat.zero_add, CD.int_i, CD.bool_b, CD.rows_l, decide_eq_true_eq, decide_eq_false_iff_not, beq_iff_eq, beq_eq_false_iff_ne, List.getD_cons_zero, List.getD_cons_succ, reduceIte, Nat.reduceLT, Nat.reduceSub, Nat.reduceAdd, Nat.lt_irrefl, Nat.sub_self, Mem.cds, List.cons_append, List.nil_append, fn54, f2]) ?_
  refine den_calle d54 (Mem.none.cds ++ [.i 0, .i 7]) rfl trivial (by simp only [List.map_cons, List.map_nil, X.den, Env.put, Env.pre, List.length_cons, List.length_nil, Nat.zero_add, CD.int_i, CD.bool_b, CD.rows_l, decide_eq_true_eq, decide_eq_false_iff_not, beq_iff_eq, beq_eq_false_iff_ne, List.getD_cons_zero, List.getD_cons_succ, reduceIte, Nat.reduceLT, Nat.reduceSub, Nat.reduceAdd, Nat.lt_irrefl, Nat.sub_self, Mem.cds, List.cons_append, List.nil_append, fn54, f3]) ?_
  refine den_calle d64 (fM3.cds ++ [.i 0]) rfl trivial (by simp only [List.map_cons, List.map_nil, X.den, Env.put, Env.pre, List.length_cons, List.length_nil, Nat.zero_add, CD.int_i, CD.bool_b, CD.rows_l, decide_eq_true_eq, decide_eq_false_iff_not, beq_iff_eq, beq_eq_false_iff_ne, List.getD_cons_zero, List.getD_cons_succ, reduceIte, Nat.reduceLT, Nat.reduceSub, Nat.reduceAdd, Nat.lt_irrefl, Nat.sub_self, Mem.cds, List.cons_append, List.nil_append, fn64, f4]) ?_
  refine den_calle d54 (fM4.cds ++ [.i 1, .i 0]) rfl trivial (by simp only [List.map_cons, List.map_nil, X.den, Env.put, Env.pre, List.length_cons, List.length_nil, Nat.zero_add, CD.int_i, CD.bool_b, CD.rows_l, decide_eq_true_eq, decide_eq_false_iff_not, beq_iff_eq, beq_eq_false_iff_ne, List.getD_cons_zero, List.getD_cons_succ, reduceIte, Nat.reduceLT, Nat.reduceSub, Nat.reduceAdd, Nat.lt_irrefl, Nat.sub_self, Mem.cds, List.cons_append, List.nil_append, fn54, f5]) ?_
  repeat (first
    | refine den_lt ?_ (den_ret ?_)
    | refine den_ite (fun _ => ?_) (fun h => absurd h ?_))
  all_goals simp only [List.map_cons, List.map_nil, X.den, Env.put, Env.pre, List.length_cons, List.length_nil, Nat.zero_add, CD.int_i, CD.bool_b, CD.rows_l, decide_eq_true_eq, decide_eq_false_iff_not, beq_iff_eq, beq_eq_false_iff_ne, List.getD_cons_zero, List.getD_cons_succ, reduceIte, Nat.reduceLT, Nat.reduceSub, Nat.reduceAdd, Nat.lt_irrefl, Nat.sub_self, Mem.cds, List.cons_append, List.nil_append, len_slots]
  all_goals first
    | rfl
    | decide
def s42 : Sig := ⟨[], [.one (.bool)]⟩
def d42 : DC := ⟨s42, fun _ => True, fun _ => [.b true]⟩
def gM0 : Mem := ⟨[default], [-1], [0], [-1], 0⟩
theorem g0 : newMem 1 1 = (gM0, 0) := by decide +kernel
theorem g1 : checkFrame gM0 (newFrame ⟨1, ⟨0, 0⟩, 0, 0, 0⟩) = 0 := by decide +kernel
theorem g2 : checkFrame gM0 (endFrame (newFrame ⟨1, ⟨0, 0⟩, 0, 0, 0⟩) 7) = 3 := by decide +kernel
theorem fn41 (a b c d e f : Int) : d41.fn [.i a, .i b, .i c, .i d, .i e, .i f] = (newFrame ⟨a, ⟨b, c⟩, d, e, f⟩).cds := rfl
theorem fn44 (f : Frm) (e : Int) : d44.fn [.i f.c.kind, .i f.c.k.a, .i f.c.k.b, .i f.c.time, .i f.c.bucket, .i f.c.slot, .i f.pc, .i f.cur, .i f.prev, .i f.slot, .i f.n, keysD f.keys, .b f.done, .i f.e, .i e] = (endFrame f e).cds := by
  simp only [d44, frm_of, List.getD_cons_zero, List.getD_cons_succ, CD.int_i]
theorem fn43 (m : Mem) (f : Frm) : d43.fn [slotsD m.slots, intsD m.heads, intsD m.free, intsD m.locks, .i m.now, .i f.c.kind, .i f.c.k.a, .i f.c.k.b, .i f.c.time, .i f.c.bucket, .i f.c.slot, .i f.pc, .i f.cur, .i f.prev, .i f.slot, .i f.n, keysD f.keys, .b f.done, .i f.e] = [.i (checkFrame m f)] := by
  simp only [d43, mem_of, mem_eta, List.drop_succ_cons, List.drop_zero, frm_of]
theorem fn40 (m : Mem) (c : Cal) : d40.fn [slotsD m.slots, intsD m.heads, intsD m.free, intsD m.locks, .i m.now, .i c.kind, .i c.k.a, .i c.k.b, .i c.time, .i c.bucket, .i c.slot] = [.i (checkCall m c)] := by
  simp only [d40, mem_of, mem_eta, List.drop_succ_cons, List.drop_zero, call_of, call_eta]
def l42 : List (Nat × Ct) := [(57, d57.ct), (41, d41.ct), (44, d44.ct), (43, d43.ct)]
def z42 : Cx := { T := ttA, C := sigs l42, F := [], hints := [], sig := s42 }
def t42 : Tree :=
 (.call 57 [.int 1, .int 1] 0
 (.call 41 [.int 1, .int 0, .int 0, .int 0, .int 0, .int 0] 6
 (.call 44 [.var 6, .var 7, .var 8, .var 9, .var 10, .var 11, .var 12, .var 13, .var 14, .var 15, .var 16, .var 17, .var 18, .var 19, .int 7] 20
 (.ite (.eq (.var 5) (.int 0))
  (.call 43 [.var 0, .var 1, .var 2, .var 3, .var 4, .var 6, .var 7, .var 8, .var 9, .var 10, .var 11, .var 12, .var 13, .var 14, .var 15, .var 16, .var 17, .var 18, .var 19] 34
  (.ite (.eq (.var 34) (.int 0))
   (.ite (.eq (.var 15) (.int (-1)))
    (.ite (.var 32)
     (.ite (.eq (.var 33) (.int 7))
      (.call 43 [.var 0, .var 1, .var 2, .var 3, .var 4, .var 20, .var 21, .var 22, .var 23, .var 24, .var 25, .var 26, .var 27, .var 28, .var 29, .var 30, .var 31, .var 32, .var 33] 35
      (.ret [.eq (.var 35) (.int 3)]))
      (.ret [.bool false]))
     (.ret [.bool false]))
    (.ret [.bool false]))
   (.ret [.bool false])))
  (.ret [.bool false])))))
theorem run42 : run z42 6000 [.code (Try.f42.body.getD .skip), .fin (topRet z42 Try.f42.results.toList 50)] { fn := 42, tmps := z42.sig.args0 ++ List.replicate (Try.f42.ntmps - z42.sig.args0.length) (.v (.one .undef)), stk := [], h := z42.sig.h0, nx := z42.sig.ins.length, known := [] } = t42 := by kernel_rfl
theorem ok42 : CtOk Try.prog 42 d42.ct := by
  refine dc_of_tree (d := d42) (Z := z42) (Γ := gam l42) (fn := Try.f42) (c := Try.f42.body.getD .skip) (told_of tok mixed (all_cons ok57 (all_cons ok41 (all_cons ok44 (all_cons ok43 all_nil)))) fok_nil) Try.func42 (by kernel_rfl) (by kernel_rfl) rfl run42 fun E hk hp => ?_
  clear hk
  have el : letters E d42.sig.ins.length = [] := rfl
  rw [el] at hp
  rw [el]
  rw [Env.pre_eq el]
  clear el
  simp only [d42]
  unfold t42
  refine den_calle d57 (gM0.cds ++ [.i 0]) rfl trivial (by simp only [List.map_cons, List.map_nil, X.den, Env.put, Env.pre, List.length_cons, List.length_nil, Nat.zero_add, CD.int_i, CD.bool_b, CD.rows_l, decide_eq_true_eq, decide_eq_false_iff_not, beq_iff_eq, beq_eq_false_iff_ne, List.getD_cons_zero, List.getD_cons_succ, reduceIte, Nat.reduceLT, Nat.reduceSub, Nat.reduceAdd, fn57, g0]) ?_
  refine den_calle d41 (newFrame ⟨1, ⟨0, 0⟩, 0, 0, 0⟩).cds rfl trivial (by simp only [List.map_cons, List.map_nil, X.den, Env.put, Env.pre, List.length_cons, List.length_nil, Nat.zero_add, CD.int_i, CD.bool_b, CD.rows_l, decide_eq_true_eq, decide_eq_false_iff_not, beq_iff_eq, beq_eq_false_iff_ne, List.getD_cons_zero, List.getD_cons_succ, reduceIte, Nat.reduceLT, Nat.reduceSub, Nat.reduceAdd, fn41]) ?_
  refine den_calle d44 (endFrame (newFrame ⟨1, ⟨0, 0⟩, 0, 0, 0⟩) 7).cds rfl trivial (by simp only [List.map_cons, List.map_nil, X.den, Env.put, Env.pre, List.length_cons, List.length_nil, Nat.zero_add, CD.int_i, CD.bool_b, CD.rows_l, decide_eq_true_eq, decide_eq_false_iff_not, beq_iff_eq, beq_eq_false_iff_ne, List.getD_cons_zero, List.getD_cons_succ, reduceIte, Nat.reduceLT, Nat.reduceSub, Nat.reduceAdd, Nat.lt_irrefl, Nat.sub_self, Frm.cds, fn44]) ?_
  refine den_ite (fun _ => ?_) (fun h => absurd h (by simp only [List.map_cons, List.map_nil, X.den, Env.put, Env.pre, List.length_cons, List.length_nil, Nat.zero_add, CD.int_i, CD.bool_b, CD.rows_l, decide_eq_true_eq, decide_eq_false_iff_not, beq_iff_eq, beq_eq_false_iff_ne, List.getD_cons_zero, List.getD_cons_succ, reduceIte, Nat.reduceLT, Nat.reduceSub, Nat.reduceAdd, Nat.lt_irrefl, Nat.sub_self, Mem.cds, List.cons_append, List.nil_append]; decide))
  refine den_calle d43 [.i 0] rfl trivial (by simp only [List.map_cons, List.map_nil, X.den, Env.put, Env.pre, List.length_cons, List.length_nil, Nat.zero_add, CD.int_i, CD.bool_b, CD.rows_l, decide_eq_true_eq, decide_eq_false_iff_not, beq_iff_eq, beq_eq_false_iff_ne, List.getD_cons_zero, List.getD_cons_succ, reduceIte, Nat.reduceLT, Nat.reduceSub, Nat.reduceAdd, Nat.lt_irrefl, Nat.sub_self, Mem.cds, Frm.cds, List.cons_append, List.nil_append, fn43, g1]) ?_
  refine den_ite (fun _ => ?_) (fun h => absurd h (by simp only [List.map_cons, List.map_nil, X.den, Env.put, Env.pre, List.length_cons, List.length_nil, Nat.zero_add, CD.int_i, CD.bool_b, CD.rows_l, decide_eq_true_eq, decide_eq_false_iff_not, beq_iff_eq, beq_eq_false_iff_ne, List.getD_cons_zero, List.getD_cons_succ, reduceIte, Nat.reduceLT, Nat.reduceSub, Nat.reduceAdd, Nat.lt_irrefl, Nat.sub_self]; decide))
  refine den_ite (fun _ => ?_) (fun h => absurd h (by simp only [List.map_cons, List.map_nil, X.den, Env.put, Env.pre, List.length_cons, List.length_nil, Nat.zero_add, CD.int_i, CD.bool_b, CD.rows_l, decide_eq_true_eq, decide_eq_false_iff_not, beq_iff_eq, beq_eq_false_iff_ne, List.getD_cons_zero, List.getD_cons_succ, reduceIte, Nat.reduceLT, Nat.reduceSub, Nat.reduceAdd, Nat.lt_irrefl, Nat.sub_self, Frm.cds, newFrame]; decide))
  refine den_ite (fun _ => ?_) (fun h => absurd h (by simp only [List.map_cons, List.map_nil, X.den, Env.put, Env.pre, List.length_cons, List.length_nil, Nat.zero_add, CD.int_i, CD.bool_b, CD.rows_l, decide_eq_true_eq, decide_eq_false_iff_not, beq_iff_eq, beq_eq_false_iff_ne, List.getD_cons_zero, List.getD_cons_succ, reduceIte, Nat.reduceLT, Nat.reduceSub, Nat.reduceAdd, Nat.lt_irrefl, Nat.sub_self, Frm.cds, endFrame]; decide))
  refine den_ite (fun _ => ?_) (fun h => absurd h (by simp only [List.map_cons, List.map_nil, X.den, Env.put, Env.pre, List.length_cons, List.length_nil, Nat.zero_add, CD.int_i, CD.bool_b, CD.rows_l, decide_eq_true_eq, decide_eq_false_iff_not, beq_iff_eq, beq_eq_false_iff_ne, List.getD_cons_zero, List.getD_cons_succ, reduceIte, Nat.reduceLT, Nat.reduceSub, Nat.reduceAdd, Nat.lt_irrefl, Nat.sub_self, Frm.cds, endFrame]; decide))
  refine den_calle d43 [.i 3] rfl trivial (by simp only [List.map_cons, List.map_nil, X.den, Env.put, Env.pre, List.length_cons, List.length_nil, Nat.zero_add, CD.int_i, CD.bool_b, CD.rows_l, decide_eq_true_eq, decide_eq_false_iff_not, beq_iff_eq, beq_eq_false_iff_ne, List.getD_cons_zero, List.getD_cons_succ, reduceIte, Nat.reduceLT, Nat.reduceSub, Nat.reduceAdd, Nat.lt_irrefl, Nat.sub_self, Mem.cds, Frm.cds, List.cons_append, List.nil_append, fn43, g2]) (den_ret ?_)
  simp only [List.map_cons, List.map_nil, X.den, Env.put, Env.pre, List.length_cons, List.length_nil, Nat.zero_add, CD.int_i, CD.bool_b, CD.rows_l, decide_eq_true_eq, decide_eq_false_iff_not, beq_iff_eq, beq_eq_false_iff_ne, List.getD_cons_zero, List.getD_cons_succ, reduceIte, Nat.reduceLT, Nat.reduceSub, Nat.reduceAdd, Nat.lt_irrefl, Nat.sub_self]
  rfl
def s4 : Sig := ⟨[.agg [.fz kS, .fz kI, .fz kI, .fz kI, .int .i64], .agg [.int .i64, .int .i64, .int .i64, .int .i64, .int .i64, .int .i64]], [.one (.bool)]⟩
def d4 : DC := ⟨s4, fun _ => True, fun _ => [.b true]⟩
/-- What a call begins with is a frame, where the call is one. -/
theorem begins (m : Mem) (c : Cal) : checkFrame m (newFrame c) = checkCall m c := by
  unfold checkFrame
  have e : (newFrame c).c = c := rfl
  rw [e]
  by_cases h : checkCall m c = 0
  · rw [if_neg (fun h' => h' h), if_neg (by simp only [newFrame]; omega), if_neg (by simp [newFrame]), if_neg (by simp only [newFrame]; omega), if_neg (by simp [newFrame]), h]
  · rw [if_pos h]
def l4 : List (Nat × Ct) := [(40, d40.ct), (41, d41.ct), (42, d42.ct), (43, d43.ct), (44, d44.ct)]
def z4 : Cx := { T := ttA, C := sigs l4, F := [], hints := [], sig := s4 }
def t4 : Tree :=
 (.call 40 [.var 0, .var 1, .var 2, .var 3, .var 4, .var 5, .var 6, .var 7, .var 8, .var 9, .var 10] 11
 (.call 41 [.var 5, .var 6, .var 7, .var 8, .var 9, .var 10] 12
 (.call 42 [] 26
 (.ite (.var 26)
  (.call 43 [.var 0, .var 1, .var 2, .var 3, .var 4, .var 12, .var 13, .var 14, .var 15, .var 16, .var 17, .var 18, .var 19, .var 20, .var 21, .var 22, .var 23, .var 24, .var 25] 27
  (.ite (.eq (.var 27) (.var 11))
   (.ite (.not (.var 24))
    (.ite (.eq (.var 18) (.int 0))
     (.ite (.eq (.var 21) (.int (-1)))
      (.call 44 [.var 12, .var 13, .var 14, .var 15, .var 16, .var 17, .var 18, .var 19, .var 20, .var 21, .var 22, .var 23, .var 24, .var 25, .var 11] 28
      (.ret [.var 40]))
      (.ret [.bool false]))
     (.ret [.bool false]))
    (.ret [.bool false]))
   (.ret [.bool false])))
  (.ret [.bool false])))))
theorem run4 : run z4 6000 [.code (Try.f4.body.getD .skip), .fin (topRet z4 Try.f4.results.toList 50)] { fn := 4, tmps := z4.sig.args0 ++ List.replicate (Try.f4.ntmps - z4.sig.args0.length) (.v (.one .undef)), stk := [], h := z4.sig.h0, nx := z4.sig.ins.length, known := [] } = t4 := by kernel_rfl
theorem ok4 : CtOk Try.prog 4 d4.ct := by
  refine dc_of_tree (d := d4) (Z := z4) (Γ := gam l4) (fn := Try.f4) (c := Try.f4.body.getD .skip) (told_of tok mixed (all_cons ok40 (all_cons ok41 (all_cons ok42 (all_cons ok43 (all_cons ok44 all_nil))))) fok_nil) Try.func4 (by kernel_rfl) (by kernel_rfl) rfl run4 fun E hk hp => ?_
  obtain ⟨hk0, hk1, hk2, hk3, hk4, hk5, hk6, hk7, hk8, hk9, hk10, _⟩ := hk
  obtain ⟨m, e0, e1, e2, e3, e4, b0, b1, b2, b3⟩ := ok_mem (d0 := E 0) (d1 := E 1) (d2 := E 2) (d3 := E 3) (d4 := E 4) hk0 hk1 hk2 hk3 hk4
  obtain ⟨c, e5, e6, e7, e8, e9, e10⟩ := ok_call (d0 := E 5) (d1 := E 6) (d2 := E 7) (d3 := E 8) (d4 := E 9) (d5 := E 10) hk5 hk6 hk7 hk8 hk9 hk10
  have el : letters E d4.sig.ins.length = [slotsD m.slots, intsD m.heads, intsD m.free, intsD m.locks, .i m.now, .i c.kind, .i c.k.a, .i c.k.b, .i c.time, .i c.bucket, .i c.slot] := by
    show [E 0, E 1, E 2, E 3, E 4, E 5, E 6, E 7, E 8, E 9, E 10] = _
    rw [e0, e1, e2, e3, e4, e5, e6, e7, e8, e9, e10]
  rw [el] at hp
  rw [el]
  rw [Env.pre_eq el]
  clear el e0 e1 e2 e3 e4 e5 e6 e7 e8 e9 e10
  simp only [d4]
  unfold t4
  refine den_calle d40 [.i (checkCall m c)] rfl trivial (by simp only [List.map_cons, List.map_nil, X.den, Env.put, Env.pre, List.length_cons, List.length_nil, Nat.zero_add, CD.int_i, CD.bool_b, CD.rows_l, decide_eq_true_eq, decide_eq_false_iff_not, beq_iff_eq, beq_eq_false_iff_ne, List.getD_cons_zero, List.getD_cons_succ, reduceIte, Nat.reduceLT, Nat.reduceSub, Nat.reduceAdd, fn40]) ?_
  refine den_calle d41 (newFrame c).cds rfl trivial (by simp only [List.map_cons, List.map_nil, X.den, Env.put, Env.pre, List.length_cons, List.length_nil, Nat.zero_add, CD.int_i, CD.bool_b, CD.rows_l, decide_eq_true_eq, decide_eq_false_iff_not, beq_iff_eq, beq_eq_false_iff_ne, List.getD_cons_zero, List.getD_cons_succ, reduceIte, Nat.reduceLT, Nat.reduceSub, Nat.reduceAdd, Nat.lt_irrefl, fn41, call_eta]) ?_
  refine den_calle d42 [.b true] rfl trivial rfl ?_
  refine den_ite (fun _ => ?_) (fun h => absurd h (by simp only [List.map_cons, List.map_nil, X.den, Env.put, Env.pre, List.length_cons, List.length_nil, Nat.zero_add, CD.int_i, CD.bool_b, CD.rows_l, decide_eq_true_eq, decide_eq_false_iff_not, beq_iff_eq, beq_eq_false_iff_ne, List.getD_cons_zero, List.getD_cons_succ, reduceIte, Nat.reduceLT, Nat.reduceSub, Nat.reduceAdd, Nat.lt_irrefl, Nat.sub_self]; decide))
  refine den_calle d43 [.i (checkFrame m (newFrame c))] rfl trivial (by simp only [List.map_cons, List.map_nil, X.den, Env.put, Env.pre, List.length_cons, List.length_nil, Nat.zero_add, CD.int_i, CD.bool_b, CD.rows_l, decide_eq_true_eq, decide_eq_false_iff_not, beq_iff_eq, beq_eq_false_iff_ne, List.getD_cons_zero, List.getD_cons_succ, reduceIte, Nat.reduceLT, Nat.reduceSub, Nat.reduceAdd, Nat.lt_irrefl, Nat.sub_self, Frm.cds, fn43]) ?_
  refine den_ite (fun _ => ?_) (fun h => absurd h (by simp only [List.map_cons, List.map_nil, X.den, Env.put, Env.pre, List.length_cons, List.length_nil, Nat.zero_add, CD.int_i, CD.bool_b, CD.rows_l, decide_eq_true_eq, decide_eq_false_iff_not, beq_iff_eq, beq_eq_false_iff_ne, List.getD_cons_zero, List.getD_cons_succ, reduceIte, Nat.reduceLT, Nat.reduceSub, Nat.reduceAdd, Nat.lt_irrefl, Nat.sub_self, begins]; simp))
  refine den_ite (fun _ => ?_) (fun h => absurd h (by simp only [List.map_cons, List.map_nil, X.den, Env.put, Env.pre, List.length_cons, List.length_nil, Nat.zero_add, CD.int_i, CD.bool_b, CD.rows_l, decide_eq_true_eq, decide_eq_false_iff_not, beq_iff_eq, beq_eq_false_iff_ne, List.getD_cons_zero, List.getD_cons_succ, reduceIte, Nat.reduceLT, Nat.reduceSub, Nat.reduceAdd, Nat.lt_irrefl, Nat.sub_self, Frm.cds, newFrame]; decide))
  refine den_ite (fun _ => ?_) (fun h => absurd h (by simp only [List.map_cons, List.map_nil, X.den, Env.put, Env.pre, List.length_cons, List.length_nil, Nat.zero_add, CD.int_i, CD.bool_b, CD.rows_l, decide_eq_true_eq, decide_eq_false_iff_not, beq_iff_eq, beq_eq_false_iff_ne, List.getD_cons_zero, List.getD_cons_succ, reduceIte, Nat.reduceLT, Nat.reduceSub, Nat.reduceAdd, Nat.lt_irrefl, Nat.sub_self, Frm.cds, newFrame]; decide))
  refine den_ite (fun _ => ?_) (fun h => absurd h (by simp only [List.map_cons, List.map_nil, X.den, Env.put, Env.pre, List.length_cons, List.length_nil, Nat.zero_add, CD.int_i, CD.bool_b, CD.rows_l, decide_eq_true_eq, decide_eq_false_iff_not, beq_iff_eq, beq_eq_false_iff_ne, List.getD_cons_zero, List.getD_cons_succ, reduceIte, Nat.reduceLT, Nat.reduceSub, Nat.reduceAdd, Nat.lt_irrefl, Nat.sub_self, Frm.cds, newFrame]; decide))
  refine den_calle d44 (endFrame (newFrame c) (checkCall m c)).cds rfl trivial (by simp only [List.map_cons, List.map_nil, X.den, Env.put, Env.pre, List.length_cons, List.length_nil, Nat.zero_add, CD.int_i, CD.bool_b, CD.rows_l, decide_eq_true_eq, decide_eq_false_iff_not, beq_iff_eq, beq_eq_false_iff_ne, List.getD_cons_zero, List.getD_cons_succ, reduceIte, Nat.reduceLT, Nat.reduceSub, Nat.reduceAdd, Nat.lt_irrefl, Nat.sub_self, Frm.cds, fn44]) (den_ret ?_)
  simp only [List.map_cons, List.map_nil, X.den, Env.put, Env.pre, List.length_cons, List.length_nil, Nat.zero_add, CD.int_i, CD.bool_b, CD.rows_l, decide_eq_true_eq, decide_eq_false_iff_not, beq_iff_eq, beq_eq_false_iff_ne, List.getD_cons_zero, List.getD_cons_succ, reduceIte, Nat.reduceLT, Nat.reduceSub, Nat.reduceAdd, Nat.lt_irrefl, Nat.sub_self, Frm.cds, endFrame]
end Go.Proofs.Ytpmamacjepcdmaa
