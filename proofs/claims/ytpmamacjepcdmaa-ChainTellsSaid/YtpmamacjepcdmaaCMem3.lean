/- Contracts: memory behind Take, Hold, Put; whether two memories are alike; closed facts. -/
import Derived.Test.YtpmamacjepcdmaaCMem2
namespace Go.Proofs.Ytpmamacjepcdmaa
open Go Go.Sy Go.RowKit
set_option linter.unusedSimpArgs false
set_option linter.unusedVariables false

theorem lastFree_mem {m : Mem} (h : m.free.length ≠ 0) : lastFree m ∈ m.free := getD_mem (by omega)
theorem MemOk.last {m : Mem} (h : MemOk m) : m.free.length = 0 ∨ (0 ≤ lastFree m ∧ lastFree m < m.slots.length) := by
  rcases Nat.eq_zero_or_pos m.free.length with h0 | h0
  · exact .inl h0
  · right
    have := h.free _ (lastFree_mem (m := m) (by omega))
    exact ⟨this.1, this.2.1⟩
theorem nodup_length {l : List Int} {n : Nat} (hd : l.Nodup) (h : ∀ a ∈ l, 0 ≤ a ∧ a < n) : l.length ≤ n := by
  have h1 : (l.map Int.toNat).Nodup := by
    refine List.pairwise_map.2 (List.Pairwise.imp_of_mem ?_ hd)
    intro a b ha hb hab e
    have := h a ha
    have := h b hb
    exact hab (by omega)
  have h2 : (l.map Int.toNat) ⊆ List.range n := fun x hx => by
    obtain ⟨a, ha, rfl⟩ := List.mem_map.1 hx
    have := h a ha
    exact List.mem_range.2 (by omega)
  have := h1.length_le_of_subset h2
  simpa using this
theorem MemOk.nf {m : Mem} (h : MemOk m) : m.free.length ≤ 12 := by
  have h1 := nodup_length h.nodup fun a ha => ⟨(h.free a ha).1, (h.free a ha).2.1⟩
  have := h.ns
  omega
theorem MemOk.refs {m : Mem} (h : MemOk m) {a : Int} (h1 : 0 ≤ a) (h2 : a < m.slots.length) : 0 ≤ (msl m a.toNat).refs ∧ (msl m a.toNat).refs ≤ 1000 := by
  have := h.sl (i := a.toNat) (by omega)
  exact ⟨this.r0, this.r1⟩

def s54 : Sig := ⟨[.agg [.fz kS, .fz kI, .fz kI, .fz kI, .int .i64], .agg [.int .i64, .int .i64], .one (.int .i64)], [.agg [.own 52 kS, .own 3 kI, .own 3 kI, .own 3 kI, .int .i64], .one (.int .i64), .one (.int .i64)]⟩
def d54 : DC := ⟨s54, fun _ => True, fun l => (taken (Mem.of l) (Key.of (l.drop 5)) (l.getD 7 .u).int).1.cds ++ [.i (taken (Mem.of l) (Key.of (l.drop 5)) (l.getD 7 .u).int).2.1, .i (taken (Mem.of l) (Key.of (l.drop 5)) (l.getD 7 .u).int).2.2]⟩
theorem fn54 (m : Mem) (a b x : Int) : d54.fn [slotsD m.slots, intsD m.heads, intsD m.free, intsD m.locks, .i m.now, .i a, .i b, .i x] = (taken m ⟨a, b⟩ x).1.cds ++ [.i (taken m ⟨a, b⟩ x).2.1, .i (taken m ⟨a, b⟩ x).2.2] := by
  simp only [d54, mem_of, mem_eta, List.drop_succ_cons, List.drop_zero, key_of, List.getD_cons_zero, List.getD_cons_succ, CD.int_i]
def l54 : List (Nat × Ct) := [(51, d51.ct), (52, d52.ct), (161, d161.ct), (162, d162.ct)]
def z54 : Cx := { T := ttA, C := sigs l54, F := [], hints := [], sig := s54 }
def t54 : Tree :=
 (.call 51 [.var 0, .var 1, .var 2, .var 3, .var 4] 8
 (.ite (.not (.eq (.var 8) (.int 0)))
  (.ret [.nil, .nil, .nil, .nil, .int 0, .int 0, .var 8])
  (.call 52 [.var 5, .var 6] 9
  (.ite (.not (.eq (.var 9) (.int 0)))
   (.ret [.nil, .nil, .nil, .nil, .int 0, .int 0, .var 9])
   (.ite (.lt (.var 7) (.int 0))
    (.ret [.nil, .nil, .nil, .nil, .int 0, .int 0, .int 3])
    (.ite (.lt (.int 2000000) (.var 7))
     (.ret [.nil, .nil, .nil, .nil, .int 0, .int 0, .int 3])
     (.call 161 [.var 0, .var 1, .var 2, .var 3, .var 4] 10
     (.call 162 [.var 10, .var 11, .var 12, .var 13, .var 14, .var 5, .var 6, .var 7] 15
     (.ite (.not (.eq (.var 21) (.int 0)))
      (.ret [.nil, .nil, .nil, .nil, .int 0, .int 0, .var 21])
      (.ret [.var 15, .var 16, .var 17, .var 18, .var 19, .var 20, .int 0]))))))))))
theorem run54 : run z54 6000 [.code (Try.f54.body.getD .skip), .fin (topRet z54 Try.f54.results.toList 50)] { fn := 54, tmps := z54.sig.args0 ++ List.replicate (Try.f54.ntmps - z54.sig.args0.length) (.v (.one .undef)), stk := [], h := z54.sig.h0, nx := z54.sig.ins.length, known := [] } = t54 := by kernel_rfl
theorem ok54 : CtOk Try.prog 54 d54.ct := by
  refine dc_of_tree (d := d54) (Z := z54) (Γ := gam l54) (fn := Try.f54) (c := Try.f54.body.getD .skip) (told_of tok mixed (all_cons ok51 (all_cons ok52 (all_cons ok161 (all_cons ok162 all_nil)))) fok_nil) Try.func54 (by kernel_rfl) (by kernel_rfl) rfl run54 fun E hk hp => ?_
  obtain ⟨hk0, hk1, hk2, hk3, hk4, hk5, hk6, hk7, _⟩ := hk
  obtain ⟨m, e0, e1, e2, e3, e4, b0, b1, b2, b3⟩ := ok_mem (d0 := E 0) (d1 := E 1) (d2 := E 2) (d3 := E 3) (d4 := E 4) hk0 hk1 hk2 hk3 hk4
  obtain ⟨k, e5, e6⟩ := ok_key (d0 := E 5) (d1 := E 6) hk5 hk6
  obtain ⟨x, e7⟩ := ok_int (d := E 7) hk7
  have el : letters E d54.sig.ins.length = [slotsD m.slots, intsD m.heads, intsD m.free, intsD m.locks, .i m.now, .i k.a, .i k.b, .i x] := by
    show [E 0, E 1, E 2, E 3, E 4, E 5, E 6, E 7] = _
    rw [e0, e1, e2, e3, e4, e5, e6, e7]
  rw [el] at hp
  rw [el]
  rw [Env.pre_eq el]
  clear el e0 e1 e2 e3 e4 e5 e6 e7
  rw [fn54, key_eta]
  unfold taken
  unfold t54
  refine den_calle d51 [.i (checkMem m)] rfl trivial (by simp only [List.map_cons, List.map_nil, X.den, Env.put, Env.pre, List.length_cons, List.length_nil, Nat.zero_add, CD.int_i, CD.bool_b, CD.rows_l, decide_eq_true_eq, decide_eq_false_iff_not, beq_iff_eq, beq_eq_false_iff_ne, List.getD_cons_zero, List.getD_cons_succ, reduceIte, Nat.reduceLT, Nat.reduceSub, Nat.reduceAdd, d51, mem_of, mem_eta]) (den_ite (fun h => den_ret ?_) (fun h => ?_))
  · simp only [List.map_cons, List.map_nil, X.den, Env.put, Env.pre, List.length_cons, List.length_nil, Nat.zero_add, CD.int_i, CD.bool_b, CD.rows_l, decide_eq_true_eq, decide_eq_false_iff_not, beq_iff_eq, beq_eq_false_iff_ne, List.getD_cons_zero, List.getD_cons_succ, reduceIte, Nat.reduceLT, Nat.reduceSub, Nat.reduceAdd, Nat.lt_irrefl, Nat.sub_self, Bool.not_eq_true'] at h ⊢
    rw [if_pos h]; rfl
  simp only [List.map_cons, List.map_nil, X.den, Env.put, Env.pre, List.length_cons, List.length_nil, Nat.zero_add, CD.int_i, CD.bool_b, CD.rows_l, decide_eq_true_eq, decide_eq_false_iff_not, beq_iff_eq, beq_eq_false_iff_ne, List.getD_cons_zero, List.getD_cons_succ, reduceIte, Nat.reduceLT, Nat.reduceSub, Nat.reduceAdd, Nat.lt_irrefl, Nat.sub_self, Bool.not_eq_false'] at h
  rw [if_neg (by omega)]
  have hm := (checkMem_iff m).1 h
  refine den_calle d52 [.i (checkKey k)] rfl trivial (by simp only [List.map_cons, List.map_nil, X.den, Env.put, Env.pre, List.length_cons, List.length_nil, Nat.zero_add, CD.int_i, CD.bool_b, CD.rows_l, decide_eq_true_eq, decide_eq_false_iff_not, beq_iff_eq, beq_eq_false_iff_ne, List.getD_cons_zero, List.getD_cons_succ, reduceIte, Nat.reduceLT, Nat.reduceSub, Nat.reduceAdd, d52, key_of, key_eta]) (den_ite (fun h => den_ret ?_) (fun h => ?_))
  · simp only [List.map_cons, List.map_nil, X.den, Env.put, Env.pre, List.length_cons, List.length_nil, Nat.zero_add, CD.int_i, CD.bool_b, CD.rows_l, decide_eq_true_eq, decide_eq_false_iff_not, beq_iff_eq, beq_eq_false_iff_ne, List.getD_cons_zero, List.getD_cons_succ, reduceIte, Nat.reduceLT, Nat.reduceSub, Nat.reduceAdd, Nat.lt_irrefl, Nat.sub_self, Bool.not_eq_true'] at h ⊢
    rw [if_pos h]; rfl
  simp only [List.map_cons, List.map_nil, X.den, Env.put, Env.pre, List.length_cons, List.length_nil, Nat.zero_add, CD.int_i, CD.bool_b, CD.rows_l, decide_eq_true_eq, decide_eq_false_iff_not, beq_iff_eq, beq_eq_false_iff_ne, List.getD_cons_zero, List.getD_cons_succ, reduceIte, Nat.reduceLT, Nat.reduceSub, Nat.reduceAdd, Nat.lt_irrefl, Nat.sub_self, Bool.not_eq_false'] at h
  rw [if_neg (by omega)]
  refine den_ite (fun h => den_ret ?_) (fun h1 => den_ite (fun h => den_ret ?_) (fun h2 => ?_))
  · simp only [List.map_cons, List.map_nil, X.den, Env.put, Env.pre, List.length_cons, List.length_nil, Nat.zero_add, CD.int_i, CD.bool_b, CD.rows_l, decide_eq_true_eq, decide_eq_false_iff_not, beq_iff_eq, beq_eq_false_iff_ne, List.getD_cons_zero, List.getD_cons_succ, reduceIte, Nat.reduceLT, Nat.reduceSub, Nat.reduceAdd, Nat.lt_irrefl] at h ⊢
    rw [if_pos (by omega)]; rfl
  · simp only [List.map_cons, List.map_nil, X.den, Env.put, Env.pre, List.length_cons, List.length_nil, Nat.zero_add, CD.int_i, CD.bool_b, CD.rows_l, decide_eq_true_eq, decide_eq_false_iff_not, beq_iff_eq, beq_eq_false_iff_ne, List.getD_cons_zero, List.getD_cons_succ, reduceIte, Nat.reduceLT, Nat.reduceSub, Nat.reduceAdd, Nat.lt_irrefl] at h ⊢
    rw [if_pos (by omega)]; rfl
  simp only [List.map_cons, List.map_nil, X.den, Env.put, Env.pre, List.length_cons, List.length_nil, Nat.zero_add, CD.int_i, CD.bool_b, CD.rows_l, decide_eq_true_eq, decide_eq_false_iff_not, beq_iff_eq, beq_eq_false_iff_ne, List.getD_cons_zero, List.getD_cons_succ, reduceIte, Nat.reduceLT, Nat.reduceSub, Nat.reduceAdd, Nat.lt_irrefl] at h1 h2
  rw [if_neg (by omega)]
  refine den_calle d161 m.cds rfl trivial (by simp only [List.map_cons, List.map_nil, X.den, Env.put, Env.pre, List.length_cons, List.length_nil, Nat.zero_add, CD.int_i, CD.bool_b, CD.rows_l, decide_eq_true_eq, decide_eq_false_iff_not, beq_iff_eq, beq_eq_false_iff_ne, List.getD_cons_zero, List.getD_cons_succ, reduceIte, Nat.reduceLT, Nat.reduceSub, Nat.reduceAdd, d161, mem_of, mem_eta]) ?_
  refine den_calle d162 ((take m k x).1.cds ++ [.i (take m k x).2.1, .i (take m k x).2.2]) rfl ?_ ?_ ?_
  · simp only [List.map_cons, List.map_nil, X.den, Env.put, Env.pre, List.length_cons, List.length_nil, Nat.zero_add, CD.int_i, CD.bool_b, CD.rows_l, decide_eq_true_eq, decide_eq_false_iff_not, beq_iff_eq, beq_eq_false_iff_ne, List.getD_cons_zero, List.getD_cons_succ, reduceIte, Nat.reduceLT, Nat.reduceSub, Nat.reduceAdd, Nat.lt_irrefl, Nat.sub_self, Mem.cds, d162, mem_of, mem_eta]
    exact hm.last
  · simp only [List.map_cons, List.map_nil, X.den, Env.put, Env.pre, List.length_cons, List.length_nil, Nat.zero_add, CD.int_i, CD.bool_b, CD.rows_l, decide_eq_true_eq, decide_eq_false_iff_not, beq_iff_eq, beq_eq_false_iff_ne, List.getD_cons_zero, List.getD_cons_succ, reduceIte, Nat.reduceLT, Nat.reduceSub, Nat.reduceAdd, Nat.lt_irrefl, Nat.sub_self, Mem.cds, d162, mem_of, mem_eta, List.drop_succ_cons, List.drop_zero, key_of, key_eta, List.cons_append, List.nil_append]
  refine den_ite (fun h => den_ret ?_) (fun h => den_ret ?_)
  · simp only [List.map_cons, List.map_nil, X.den, Env.put, Env.pre, List.length_cons, List.length_nil, Nat.zero_add, CD.int_i, CD.bool_b, CD.rows_l, decide_eq_true_eq, decide_eq_false_iff_not, beq_iff_eq, beq_eq_false_iff_ne, List.getD_cons_zero, List.getD_cons_succ, reduceIte, Nat.reduceLT, Nat.reduceSub, Nat.reduceAdd, Nat.lt_irrefl, Nat.sub_self, Mem.cds, List.cons_append, List.nil_append, Bool.not_eq_true'] at h ⊢
    rw [if_pos h]; rfl
  · simp only [List.map_cons, List.map_nil, X.den, Env.put, Env.pre, List.length_cons, List.length_nil, Nat.zero_add, CD.int_i, CD.bool_b, CD.rows_l, decide_eq_true_eq, decide_eq_false_iff_not, beq_iff_eq, beq_eq_false_iff_ne, List.getD_cons_zero, List.getD_cons_succ, reduceIte, Nat.reduceLT, Nat.reduceSub, Nat.reduceAdd, Nat.lt_irrefl, Nat.sub_self, Mem.cds, List.cons_append, List.nil_append, Bool.not_eq_false'] at h ⊢
    rw [if_neg (by omega)]
def s63 : Sig := ⟨[.agg [.fz kS, .fz kI, .fz kI, .fz kI, .int .i64], .one (.int .i64)], [.agg [.own 52 kS, .own 3 kI, .own 3 kI, .own 3 kI, .int .i64], .one (.int .i64)]⟩
def d63 : DC := ⟨s63, fun _ => True, fun l => (held (Mem.of l) (l.getD 5 .u).int).1.cds ++ [.i (held (Mem.of l) (l.getD 5 .u).int).2]⟩
theorem fn63 (m : Mem) (x : Int) : d63.fn [slotsD m.slots, intsD m.heads, intsD m.free, intsD m.locks, .i m.now, .i x] = (held m x).1.cds ++ [.i (held m x).2] := by
  simp only [d63, mem_of, mem_eta, List.getD_cons_zero, List.getD_cons_succ, CD.int_i]
def l63 : List (Nat × Ct) := [(51, d51.ct), (165, d165.ct), (161, d161.ct), (166, d166.ct)]
def z63 : Cx := { T := ttA, C := sigs l63, F := [], hints := [], sig := s63 }
def t63 : Tree :=
 (.call 51 [.var 0, .var 1, .var 2, .var 3, .var 4] 6
 (.ite (.not (.eq (.var 6) (.int 0)))
  (.ret [.nil, .nil, .nil, .nil, .int 0, .var 6])
  (.call 165 [.var 0, .var 1, .var 2, .var 3, .var 4, .var 5] 7
  (.ite (.not (.var 7))
   (.ret [.nil, .nil, .nil, .nil, .int 0, .int 5])
   (.call 161 [.var 0, .var 1, .var 2, .var 3, .var 4] 8
   (.call 166 [.var 8, .var 9, .var 10, .var 11, .var 12, .var 5] 13
   (.ite (.not (.var 18))
    (.ret [.nil, .nil, .nil, .nil, .int 0, .int 8])
    (.ret [.var 13, .var 14, .var 15, .var 16, .var 17, .int 0]))))))))
theorem run63 : run z63 6000 [.code (Try.f63.body.getD .skip), .fin (topRet z63 Try.f63.results.toList 50)] { fn := 63, tmps := z63.sig.args0 ++ List.replicate (Try.f63.ntmps - z63.sig.args0.length) (.v (.one .undef)), stk := [], h := z63.sig.h0, nx := z63.sig.ins.length, known := [] } = t63 := by kernel_rfl
theorem ok63 : CtOk Try.prog 63 d63.ct := by
  refine dc_of_tree (d := d63) (Z := z63) (Γ := gam l63) (fn := Try.f63) (c := Try.f63.body.getD .skip) (told_of tok mixed (all_cons ok51 (all_cons ok165 (all_cons ok161 (all_cons ok166 all_nil)))) fok_nil) Try.func63 (by kernel_rfl) (by kernel_rfl) rfl run63 fun E hk hp => ?_
  obtain ⟨hk0, hk1, hk2, hk3, hk4, hk5, _⟩ := hk
  obtain ⟨m, e0, e1, e2, e3, e4, b0, b1, b2, b3⟩ := ok_mem (d0 := E 0) (d1 := E 1) (d2 := E 2) (d3 := E 3) (d4 := E 4) hk0 hk1 hk2 hk3 hk4
  obtain ⟨x, e5⟩ := ok_int (d := E 5) hk5
  have el : letters E d63.sig.ins.length = [slotsD m.slots, intsD m.heads, intsD m.free, intsD m.locks, .i m.now, .i x] := by
    show [E 0, E 1, E 2, E 3, E 4, E 5] = _
    rw [e0, e1, e2, e3, e4, e5]
  rw [el] at hp
  rw [el]
  rw [Env.pre_eq el]
  clear el e0 e1 e2 e3 e4 e5
  rw [fn63]
  unfold held
  unfold t63
  refine den_calle d51 [.i (checkMem m)] rfl trivial (by simp only [List.map_cons, List.map_nil, X.den, Env.put, Env.pre, List.length_cons, List.length_nil, Nat.zero_add, CD.int_i, CD.bool_b, CD.rows_l, decide_eq_true_eq, decide_eq_false_iff_not, beq_iff_eq, beq_eq_false_iff_ne, List.getD_cons_zero, List.getD_cons_succ, reduceIte, Nat.reduceLT, Nat.reduceSub, Nat.reduceAdd, d51, mem_of, mem_eta]) (den_ite (fun h => den_ret ?_) (fun h => ?_))
  · simp only [List.map_cons, List.map_nil, X.den, Env.put, Env.pre, List.length_cons, List.length_nil, Nat.zero_add, CD.int_i, CD.bool_b, CD.rows_l, decide_eq_true_eq, decide_eq_false_iff_not, beq_iff_eq, beq_eq_false_iff_ne, List.getD_cons_zero, List.getD_cons_succ, reduceIte, Nat.reduceLT, Nat.reduceSub, Nat.reduceAdd, Nat.lt_irrefl, Nat.sub_self, Bool.not_eq_true'] at h ⊢
    rw [if_pos h]; rfl
  simp only [List.map_cons, List.map_nil, X.den, Env.put, Env.pre, List.length_cons, List.length_nil, Nat.zero_add, CD.int_i, CD.bool_b, CD.rows_l, decide_eq_true_eq, decide_eq_false_iff_not, beq_iff_eq, beq_eq_false_iff_ne, List.getD_cons_zero, List.getD_cons_succ, reduceIte, Nat.reduceLT, Nat.reduceSub, Nat.reduceAdd, Nat.lt_irrefl, Nat.sub_self, Bool.not_eq_false'] at h
  rw [if_neg (by omega)]
  have hm := (checkMem_iff m).1 h
  refine den_calle d165 [.b (decide (0 ≤ x ∧ x < m.slots.length))] rfl trivial (by simp only [List.map_cons, List.map_nil, X.den, Env.put, Env.pre, List.length_cons, List.length_nil, Nat.zero_add, CD.int_i, CD.bool_b, CD.rows_l, decide_eq_true_eq, decide_eq_false_iff_not, beq_iff_eq, beq_eq_false_iff_ne, List.getD_cons_zero, List.getD_cons_succ, reduceIte, Nat.reduceLT, Nat.reduceSub, Nat.reduceAdd, Nat.lt_irrefl, d165, mem_of, mem_eta]) (den_ite (fun h => den_ret ?_) (fun h => ?_))
  · simp only [List.map_cons, List.map_nil, X.den, Env.put, Env.pre, List.length_cons, List.length_nil, Nat.zero_add, CD.int_i, CD.bool_b, CD.rows_l, decide_eq_true_eq, decide_eq_false_iff_not, beq_iff_eq, beq_eq_false_iff_ne, List.getD_cons_zero, List.getD_cons_succ, reduceIte, Nat.reduceLT, Nat.reduceSub, Nat.reduceAdd, Nat.lt_irrefl, Nat.sub_self, Bool.not_eq_true'] at h ⊢
    rw [if_neg h]; rfl
  simp only [List.map_cons, List.map_nil, X.den, Env.put, Env.pre, List.length_cons, List.length_nil, Nat.zero_add, CD.int_i, CD.bool_b, CD.rows_l, decide_eq_true_eq, decide_eq_false_iff_not, beq_iff_eq, beq_eq_false_iff_ne, List.getD_cons_zero, List.getD_cons_succ, reduceIte, Nat.reduceLT, Nat.reduceSub, Nat.reduceAdd, Nat.lt_irrefl, Nat.sub_self, Bool.not_eq_false'] at h
  rw [if_pos h]
  refine den_calle d161 m.cds rfl trivial (by simp only [List.map_cons, List.map_nil, X.den, Env.put, Env.pre, List.length_cons, List.length_nil, Nat.zero_add, CD.int_i, CD.bool_b, CD.rows_l, decide_eq_true_eq, decide_eq_false_iff_not, beq_iff_eq, beq_eq_false_iff_ne, List.getD_cons_zero, List.getD_cons_succ, reduceIte, Nat.reduceLT, Nat.reduceSub, Nat.reduceAdd, Nat.lt_irrefl, d161, mem_of, mem_eta]) ?_
  refine den_calle d166 ((hold m x).1.cds ++ [.b (hold m x).2]) rfl ?_ ?_ (den_ite (fun h => den_ret ?_) (fun h => den_ret ?_))
  · simp only [List.map_cons, List.map_nil, X.den, Env.put, Env.pre, List.length_cons, List.length_nil, Nat.zero_add, CD.int_i, CD.bool_b, CD.rows_l, decide_eq_true_eq, decide_eq_false_iff_not, beq_iff_eq, beq_eq_false_iff_ne, List.getD_cons_zero, List.getD_cons_succ, reduceIte, Nat.reduceLT, Nat.reduceSub, Nat.reduceAdd, Nat.lt_irrefl, Nat.sub_self, Mem.cds, d166, mem_of, mem_eta]
    exact ⟨h.1, h.2, (hm.refs h.1 h.2).1, (hm.refs h.1 h.2).2⟩
  · simp only [List.map_cons, List.map_nil, X.den, Env.put, Env.pre, List.length_cons, List.length_nil, Nat.zero_add, CD.int_i, CD.bool_b, CD.rows_l, decide_eq_true_eq, decide_eq_false_iff_not, beq_iff_eq, beq_eq_false_iff_ne, List.getD_cons_zero, List.getD_cons_succ, reduceIte, Nat.reduceLT, Nat.reduceSub, Nat.reduceAdd, Nat.lt_irrefl, Nat.sub_self, Mem.cds, d166, mem_of, mem_eta, List.cons_append, List.nil_append]
  · simp only [List.map_cons, List.map_nil, X.den, Env.put, Env.pre, List.length_cons, List.length_nil, Nat.zero_add, CD.int_i, CD.bool_b, CD.rows_l, decide_eq_true_eq, decide_eq_false_iff_not, beq_iff_eq, beq_eq_false_iff_ne, List.getD_cons_zero, List.getD_cons_succ, reduceIte, Nat.reduceLT, Nat.reduceSub, Nat.reduceAdd, Nat.lt_irrefl, Nat.sub_self, Mem.cds, List.cons_append, List.nil_append, Bool.not_eq_true'] at h ⊢
    rw [if_neg (by rw [h]; decide)]; rfl
  · simp only [List.map_cons, List.map_nil, X.den, Env.put, Env.pre, List.length_cons, List.length_nil, Nat.zero_add, CD.int_i, CD.bool_b, CD.rows_l, decide_eq_true_eq, decide_eq_false_iff_not, beq_iff_eq, beq_eq_false_iff_ne, List.getD_cons_zero, List.getD_cons_succ, reduceIte, Nat.reduceLT, Nat.reduceSub, Nat.reduceAdd, Nat.lt_irrefl, Nat.sub_self, Mem.cds, List.cons_append, List.nil_append, Bool.not_eq_false'] at h ⊢
    rw [if_pos h]
def s64 : Sig := ⟨[.agg [.fz kS, .fz kI, .fz kI, .fz kI, .int .i64], .one (.int .i64)], [.agg [.own 52 kS, .own 3 kI, .own 3 kI, .own 3 kI, .int .i64], .one (.int .i64)]⟩
def d64 : DC := ⟨s64, fun _ => True, fun l => (letGo (Mem.of l) (l.getD 5 .u).int).1.cds ++ [.i (letGo (Mem.of l) (l.getD 5 .u).int).2]⟩
theorem fn64 (m : Mem) (x : Int) : d64.fn [slotsD m.slots, intsD m.heads, intsD m.free, intsD m.locks, .i m.now, .i x] = (letGo m x).1.cds ++ [.i (letGo m x).2] := by
  simp only [d64, mem_of, mem_eta, List.getD_cons_zero, List.getD_cons_succ, CD.int_i]
def l64 : List (Nat × Ct) := [(51, d51.ct), (165, d165.ct), (161, d161.ct), (167, d167.ct)]
def z64 : Cx := { T := ttA, C := sigs l64, F := [], hints := [], sig := s64 }
def t64 : Tree :=
 (.call 51 [.var 0, .var 1, .var 2, .var 3, .var 4] 6
 (.ite (.not (.eq (.var 6) (.int 0)))
  (.ret [.nil, .nil, .nil, .nil, .int 0, .var 6])
  (.call 165 [.var 0, .var 1, .var 2, .var 3, .var 4, .var 5] 7
  (.ite (.not (.var 7))
   (.ret [.nil, .nil, .nil, .nil, .int 0, .int 5])
   (.need (.le (.int 0) (.var 5))
   (.need (.lt (.var 5) (.len (.var 0)))
   (.ite (.eq (.cell (.var 0) (.var 5) 0) (.int 0))
    (.ret [.nil, .nil, .nil, .nil, .int 0, .int 8])
    (.call 161 [.var 0, .var 1, .var 2, .var 3, .var 4] 8
    (.call 167 [.var 8, .var 9, .var 10, .var 11, .var 12, .var 5] 13
    (.ret [.var 13, .var 14, .var 15, .var 16, .var 17, .int 0]))))))))))
theorem run64 : run z64 6000 [.code (Try.f64.body.getD .skip), .fin (topRet z64 Try.f64.results.toList 50)] { fn := 64, tmps := z64.sig.args0 ++ List.replicate (Try.f64.ntmps - z64.sig.args0.length) (.v (.one .undef)), stk := [], h := z64.sig.h0, nx := z64.sig.ins.length, known := [] } = t64 := by kernel_rfl
theorem ok64 : CtOk Try.prog 64 d64.ct := by
  refine dc_of_tree (d := d64) (Z := z64) (Γ := gam l64) (fn := Try.f64) (c := Try.f64.body.getD .skip) (told_of tok mixed (all_cons ok51 (all_cons ok165 (all_cons ok161 (all_cons ok167 all_nil)))) fok_nil) Try.func64 (by kernel_rfl) (by kernel_rfl) rfl run64 fun E hk hp => ?_
  obtain ⟨hk0, hk1, hk2, hk3, hk4, hk5, _⟩ := hk
  obtain ⟨m, e0, e1, e2, e3, e4, b0, b1, b2, b3⟩ := ok_mem (d0 := E 0) (d1 := E 1) (d2 := E 2) (d3 := E 3) (d4 := E 4) hk0 hk1 hk2 hk3 hk4
  obtain ⟨x, e5⟩ := ok_int (d := E 5) hk5
  have el : letters E d64.sig.ins.length = [slotsD m.slots, intsD m.heads, intsD m.free, intsD m.locks, .i m.now, .i x] := by
    show [E 0, E 1, E 2, E 3, E 4, E 5] = _
    rw [e0, e1, e2, e3, e4, e5]
  rw [el] at hp
  rw [el]
  rw [Env.pre_eq el]
  clear el e0 e1 e2 e3 e4 e5
  rw [fn64]
  unfold letGo
  unfold t64
  refine den_calle d51 [.i (checkMem m)] rfl trivial (by simp only [List.map_cons, List.map_nil, X.den, Env.put, Env.pre, List.length_cons, List.length_nil, Nat.zero_add, CD.int_i, CD.bool_b, CD.rows_l, decide_eq_true_eq, decide_eq_false_iff_not, beq_iff_eq, beq_eq_false_iff_ne, List.getD_cons_zero, List.getD_cons_succ, reduceIte, Nat.reduceLT, Nat.reduceSub, Nat.reduceAdd, d51, mem_of, mem_eta]) (den_ite (fun h => den_ret ?_) (fun h => ?_))
  · simp only [List.map_cons, List.map_nil, X.den, Env.put, Env.pre, List.length_cons, List.length_nil, Nat.zero_add, CD.int_i, CD.bool_b, CD.rows_l, decide_eq_true_eq, decide_eq_false_iff_not, beq_iff_eq, beq_eq_false_iff_ne, List.getD_cons_zero, List.getD_cons_succ, reduceIte, Nat.reduceLT, Nat.reduceSub, Nat.reduceAdd, Nat.lt_irrefl, Nat.sub_self, Bool.not_eq_true'] at h ⊢
    rw [if_pos h]; rfl
  simp only [List.map_cons, List.map_nil, X.den, Env.put, Env.pre, List.length_cons, List.length_nil, Nat.zero_add, CD.int_i, CD.bool_b, CD.rows_l, decide_eq_true_eq, decide_eq_false_iff_not, beq_iff_eq, beq_eq_false_iff_ne, List.getD_cons_zero, List.getD_cons_succ, reduceIte, Nat.reduceLT, Nat.reduceSub, Nat.reduceAdd, Nat.lt_irrefl, Nat.sub_self, Bool.not_eq_false'] at h
  rw [if_neg (by omega)]
  have hm := (checkMem_iff m).1 h
  refine den_calle d165 [.b (decide (0 ≤ x ∧ x < m.slots.length))] rfl trivial (by simp only [List.map_cons, List.map_nil, X.den, Env.put, Env.pre, List.length_cons, List.length_nil, Nat.zero_add, CD.int_i, CD.bool_b, CD.rows_l, decide_eq_true_eq, decide_eq_false_iff_not, beq_iff_eq, beq_eq_false_iff_ne, List.getD_cons_zero, List.getD_cons_succ, reduceIte, Nat.reduceLT, Nat.reduceSub, Nat.reduceAdd, Nat.lt_irrefl, d165, mem_of, mem_eta]) (den_ite (fun h => den_ret ?_) (fun h => ?_))
  · simp only [List.map_cons, List.map_nil, X.den, Env.put, Env.pre, List.length_cons, List.length_nil, Nat.zero_add, CD.int_i, CD.bool_b, CD.rows_l, decide_eq_true_eq, decide_eq_false_iff_not, beq_iff_eq, beq_eq_false_iff_ne, List.getD_cons_zero, List.getD_cons_succ, reduceIte, Nat.reduceLT, Nat.reduceSub, Nat.reduceAdd, Nat.lt_irrefl, Nat.sub_self, Bool.not_eq_true'] at h ⊢
    rw [if_neg h]; rfl
  simp only [List.map_cons, List.map_nil, X.den, Env.put, Env.pre, List.length_cons, List.length_nil, Nat.zero_add, CD.int_i, CD.bool_b, CD.rows_l, decide_eq_true_eq, decide_eq_false_iff_not, beq_iff_eq, beq_eq_false_iff_ne, List.getD_cons_zero, List.getD_cons_succ, reduceIte, Nat.reduceLT, Nat.reduceSub, Nat.reduceAdd, Nat.lt_irrefl, Nat.sub_self, Bool.not_eq_false'] at h
  rw [if_pos h]
  have hx : m.slots.getD x.toNat default = msl m x.toNat := rfl
  refine den_le (by simp only [List.map_cons, List.map_nil, X.den, Env.put, Env.pre, List.length_cons, List.length_nil, Nat.zero_add, CD.int_i, CD.bool_b, CD.rows_l, decide_eq_true_eq, decide_eq_false_iff_not, beq_iff_eq, beq_eq_false_iff_ne, List.getD_cons_zero, List.getD_cons_succ, reduceIte, Nat.reduceLT, Nat.reduceSub, Nat.reduceAdd, Nat.lt_irrefl]; omega) (den_lt (by simp only [List.map_cons, List.map_nil, X.den, Env.put, Env.pre, List.length_cons, List.length_nil, Nat.zero_add, CD.int_i, CD.bool_b, CD.rows_l, decide_eq_true_eq, decide_eq_false_iff_not, beq_iff_eq, beq_eq_false_iff_ne, List.getD_cons_zero, List.getD_cons_succ, reduceIte, Nat.reduceLT, Nat.reduceSub, Nat.reduceAdd, Nat.lt_irrefl, len_slots]; omega) (den_ite (fun h' => den_ret ?_) (fun h' => ?_)))
  · simp only [List.map_cons, List.map_nil, X.den, Env.put, Env.pre, List.length_cons, List.length_nil, Nat.zero_add, CD.int_i, CD.bool_b, CD.rows_l, decide_eq_true_eq, decide_eq_false_iff_not, beq_iff_eq, beq_eq_false_iff_ne, List.getD_cons_zero, List.getD_cons_succ, reduceIte, Nat.reduceLT, Nat.reduceSub, Nat.reduceAdd, Nat.lt_irrefl, cell_s0, hx] at h' ⊢
    rw [if_pos h']; rfl
  simp only [List.map_cons, List.map_nil, X.den, Env.put, Env.pre, List.length_cons, List.length_nil, Nat.zero_add, CD.int_i, CD.bool_b, CD.rows_l, decide_eq_true_eq, decide_eq_false_iff_not, beq_iff_eq, beq_eq_false_iff_ne, List.getD_cons_zero, List.getD_cons_succ, reduceIte, Nat.reduceLT, Nat.reduceSub, Nat.reduceAdd, Nat.lt_irrefl, cell_s0, hx] at h'
  rw [if_neg h']
  refine den_calle d161 m.cds rfl trivial (by simp only [List.map_cons, List.map_nil, X.den, Env.put, Env.pre, List.length_cons, List.length_nil, Nat.zero_add, CD.int_i, CD.bool_b, CD.rows_l, decide_eq_true_eq, decide_eq_false_iff_not, beq_iff_eq, beq_eq_false_iff_ne, List.getD_cons_zero, List.getD_cons_succ, reduceIte, Nat.reduceLT, Nat.reduceSub, Nat.reduceAdd, Nat.lt_irrefl, d161, mem_of, mem_eta]) ?_
  refine den_calle d167 (put m x).cds rfl ?_ ?_ (den_ret ?_)
  · simp only [List.map_cons, List.map_nil, X.den, Env.put, Env.pre, List.length_cons, List.length_nil, Nat.zero_add, CD.int_i, CD.bool_b, CD.rows_l, decide_eq_true_eq, decide_eq_false_iff_not, beq_iff_eq, beq_eq_false_iff_ne, List.getD_cons_zero, List.getD_cons_succ, reduceIte, Nat.reduceLT, Nat.reduceSub, Nat.reduceAdd, Nat.lt_irrefl, Nat.sub_self, Mem.cds, d167, mem_of, mem_eta]
    have := hm.nf
    exact ⟨h.1, h.2, (hm.refs h.1 h.2).1, (hm.refs h.1 h.2).2, by omega⟩
  · simp only [List.map_cons, List.map_nil, X.den, Env.put, Env.pre, List.length_cons, List.length_nil, Nat.zero_add, CD.int_i, CD.bool_b, CD.rows_l, decide_eq_true_eq, decide_eq_false_iff_not, beq_iff_eq, beq_eq_false_iff_ne, List.getD_cons_zero, List.getD_cons_succ, reduceIte, Nat.reduceLT, Nat.reduceSub, Nat.reduceAdd, Nat.lt_irrefl, Nat.sub_self, Mem.cds, d167, mem_of, mem_eta, List.cons_append, List.nil_append]
  · simp only [List.map_cons, List.map_nil, X.den, Env.put, Env.pre, List.length_cons, List.length_nil, Nat.zero_add, CD.int_i, CD.bool_b, CD.rows_l, decide_eq_true_eq, decide_eq_false_iff_not, beq_iff_eq, beq_eq_false_iff_ne, List.getD_cons_zero, List.getD_cons_succ, reduceIte, Nat.reduceLT, Nat.reduceSub, Nat.reduceAdd, Nat.lt_irrefl, Nat.sub_self, Mem.cds, List.cons_append, List.nil_append]

theorem mem_eq {a b : Mem} (h1 : a.slots = b.slots) (h2 : a.heads = b.heads) (h3 : a.free = b.free) (h4 : a.locks = b.locks) (h5 : a.now = b.now) : a = b := by
  obtain ⟨a1, a2, a3, a4, a5⟩ := a
  obtain ⟨b1, b2, b3, b4, b5⟩ := b
  cases h1; cases h2; cases h3; cases h4; cases h5; rfl

def s59 : Sig := ⟨[.agg [.fz kS, .fz kI, .fz kI, .fz kI, .int .i64], .agg [.fz kS, .fz kI, .fz kI, .fz kI, .int .i64]], [.one (.bool)]⟩
def d59 : DC := ⟨s59, fun _ => True, fun l => [.b (decide (Mem.of l = Mem.of (l.drop 5)))]⟩
theorem fn59 (m o : Mem) : d59.fn [slotsD m.slots, intsD m.heads, intsD m.free, intsD m.locks, .i m.now, slotsD o.slots, intsD o.heads, intsD o.free, intsD o.locks, .i o.now] = [.b (decide (m = o))] := by
  simp only [d59, mem_of, mem_eta, List.drop_succ_cons, List.drop_zero]
def l59 : List (Nat × Ct) := [(164, d164.ct), (39, d39.ct)]
def z59 : Cx := { T := ttA, C := sigs l59, F := [], hints := [], sig := s59 }
def t59 : Tree :=
 (.call 164 [.var 0, .var 5] 10
 (.ite (.var 10)
  (.call 39 [.var 1, .var 6] 11
  (.ite (.var 11)
   (.call 39 [.var 2, .var 7] 12
   (.ite (.var 12)
    (.call 39 [.var 3, .var 8] 13
    (.ite (.var 13)
     (.ret [.eq (.var 4) (.var 9)])
     (.ret [.bool false])))
    (.ret [.bool false])))
   (.ret [.bool false])))
  (.ret [.bool false])))
theorem run59 : run z59 6000 [.code (Try.f59.body.getD .skip), .fin (topRet z59 Try.f59.results.toList 50)] { fn := 59, tmps := z59.sig.args0 ++ List.replicate (Try.f59.ntmps - z59.sig.args0.length) (.v (.one .undef)), stk := [], h := z59.sig.h0, nx := z59.sig.ins.length, known := [] } = t59 := by kernel_rfl
theorem ok59 : CtOk Try.prog 59 d59.ct := by
  refine dc_of_tree (d := d59) (Z := z59) (Γ := gam l59) (fn := Try.f59) (c := Try.f59.body.getD .skip) (told_of tok mixed (all_cons ok164 (all_cons ok39 all_nil)) fok_nil) Try.func59 (by kernel_rfl) (by kernel_rfl) rfl run59 fun E hk hp => ?_
  obtain ⟨hk0, hk1, hk2, hk3, hk4, hk5, hk6, hk7, hk8, hk9, _⟩ := hk
  obtain ⟨m, e0, e1, e2, e3, e4, b0, b1, b2, b3⟩ := ok_mem (d0 := E 0) (d1 := E 1) (d2 := E 2) (d3 := E 3) (d4 := E 4) hk0 hk1 hk2 hk3 hk4
  obtain ⟨m2, e5, e6, e7, e8, e9, b5, b6, b7, b8⟩ := ok_mem (d0 := E 5) (d1 := E 6) (d2 := E 7) (d3 := E 8) (d4 := E 9) hk5 hk6 hk7 hk8 hk9
  have el : letters E d59.sig.ins.length = [slotsD m.slots, intsD m.heads, intsD m.free, intsD m.locks, .i m.now, slotsD m2.slots, intsD m2.heads, intsD m2.free, intsD m2.locks, .i m2.now] := by
    show [E 0, E 1, E 2, E 3, E 4, E 5, E 6, E 7, E 8, E 9] = _
    rw [e0, e1, e2, e3, e4, e5, e6, e7, e8, e9]
  rw [el] at hp
  rw [el]
  rw [Env.pre_eq el]
  clear el e0 e1 e2 e3 e4 e5 e6 e7 e8 e9
  rw [fn59]
  unfold t59
  refine den_calle d164 [.b (decide (m.slots = m2.slots))] rfl trivial (by simp only [List.map_cons, List.map_nil, X.den, Env.put, Env.pre, List.length_cons, List.length_nil, Nat.zero_add, CD.int_i, CD.bool_b, CD.rows_l, decide_eq_true_eq, decide_eq_false_iff_not, beq_iff_eq, beq_eq_false_iff_ne, List.getD_cons_zero, List.getD_cons_succ, reduceIte, Nat.reduceLT, Nat.reduceSub, Nat.reduceAdd, d164, slots_slotsD]) (den_ite (fun h1 => ?_) (fun h => den_ret ?_))
  case refine_2 =>
    simp only [List.map_cons, List.map_nil, X.den, Env.put, Env.pre, List.length_cons, List.length_nil, Nat.zero_add, CD.int_i, CD.bool_b, CD.rows_l, decide_eq_true_eq, decide_eq_false_iff_not, beq_iff_eq, beq_eq_false_iff_ne, List.getD_cons_zero, List.getD_cons_succ, reduceIte, Nat.reduceLT, Nat.reduceSub, Nat.reduceAdd, Nat.lt_irrefl, Nat.sub_self] at h ⊢
    rw [decide_eq_false (fun e => h (by rw [e]))]
  refine den_calle d39 [.b (decide (m.heads = m2.heads))] rfl trivial (by simp only [List.map_cons, List.map_nil, X.den, Env.put, Env.pre, List.length_cons, List.length_nil, Nat.zero_add, CD.int_i, CD.bool_b, CD.rows_l, decide_eq_true_eq, decide_eq_false_iff_not, beq_iff_eq, beq_eq_false_iff_ne, List.getD_cons_zero, List.getD_cons_succ, reduceIte, Nat.reduceLT, Nat.reduceSub, Nat.reduceAdd, Nat.lt_irrefl, d39, ints_intsD]) (den_ite (fun h2 => ?_) (fun h => den_ret ?_))
  case refine_2 =>
    simp only [List.map_cons, List.map_nil, X.den, Env.put, Env.pre, List.length_cons, List.length_nil, Nat.zero_add, CD.int_i, CD.bool_b, CD.rows_l, decide_eq_true_eq, decide_eq_false_iff_not, beq_iff_eq, beq_eq_false_iff_ne, List.getD_cons_zero, List.getD_cons_succ, reduceIte, Nat.reduceLT, Nat.reduceSub, Nat.reduceAdd, Nat.lt_irrefl, Nat.sub_self] at h ⊢
    rw [decide_eq_false (fun e => h (by rw [e]))]
  refine den_calle d39 [.b (decide (m.free = m2.free))] rfl trivial (by simp only [List.map_cons, List.map_nil, X.den, Env.put, Env.pre, List.length_cons, List.length_nil, Nat.zero_add, CD.int_i, CD.bool_b, CD.rows_l, decide_eq_true_eq, decide_eq_false_iff_not, beq_iff_eq, beq_eq_false_iff_ne, List.getD_cons_zero, List.getD_cons_succ, reduceIte, Nat.reduceLT, Nat.reduceSub, Nat.reduceAdd, Nat.lt_irrefl, d39, ints_intsD]) (den_ite (fun h3 => ?_) (fun h => den_ret ?_))
  case refine_2 =>
    simp only [List.map_cons, List.map_nil, X.den, Env.put, Env.pre, List.length_cons, List.length_nil, Nat.zero_add, CD.int_i, CD.bool_b, CD.rows_l, decide_eq_true_eq, decide_eq_false_iff_not, beq_iff_eq, beq_eq_false_iff_ne, List.getD_cons_zero, List.getD_cons_succ, reduceIte, Nat.reduceLT, Nat.reduceSub, Nat.reduceAdd, Nat.lt_irrefl, Nat.sub_self] at h ⊢
    rw [decide_eq_false (fun e => h (by rw [e]))]
  refine den_calle d39 [.b (decide (m.locks = m2.locks))] rfl trivial (by simp only [List.map_cons, List.map_nil, X.den, Env.put, Env.pre, List.length_cons, List.length_nil, Nat.zero_add, CD.int_i, CD.bool_b, CD.rows_l, decide_eq_true_eq, decide_eq_false_iff_not, beq_iff_eq, beq_eq_false_iff_ne, List.getD_cons_zero, List.getD_cons_succ, reduceIte, Nat.reduceLT, Nat.reduceSub, Nat.reduceAdd, Nat.lt_irrefl, d39, ints_intsD]) (den_ite (fun h4 => den_ret ?_) (fun h => den_ret ?_))
  case refine_2 =>
    simp only [List.map_cons, List.map_nil, X.den, Env.put, Env.pre, List.length_cons, List.length_nil, Nat.zero_add, CD.int_i, CD.bool_b, CD.rows_l, decide_eq_true_eq, decide_eq_false_iff_not, beq_iff_eq, beq_eq_false_iff_ne, List.getD_cons_zero, List.getD_cons_succ, reduceIte, Nat.reduceLT, Nat.reduceSub, Nat.reduceAdd, Nat.lt_irrefl, Nat.sub_self] at h ⊢
    rw [decide_eq_false (fun e => h (by rw [e]))]
  simp only [List.map_cons, List.map_nil, X.den, Env.put, Env.pre, List.length_cons, List.length_nil, Nat.zero_add, CD.int_i, CD.bool_b, CD.rows_l, decide_eq_true_eq, decide_eq_false_iff_not, beq_iff_eq, beq_eq_false_iff_ne, List.getD_cons_zero, List.getD_cons_succ, reduceIte, Nat.reduceLT, Nat.reduceSub, Nat.reduceAdd, Nat.lt_irrefl, Nat.sub_self] at h1 h2 h3 h4 ⊢
  congr 2
  by_cases h5 : m.now = m2.now
  · rw [decide_eq_true (mem_eq h1 h2 h3 h4 h5)]
    simp [h5]
  · rw [decide_eq_false (fun e => h5 (by rw [e]))]
    simp [h5]

def s60 : Sig := ⟨[.agg [.fz kS, .fz kI, .fz kI, .fz kI, .int .i64], .agg [.fz kS, .fz kI, .fz kI, .fz kI, .int .i64]], [.one (.bool)]⟩
def d60 : DC := ⟨s60, fun _ => True, fun l => [.b (decide (Mem.of l = Mem.of (l.drop 5)))]⟩
theorem fn60 (m o : Mem) : d60.fn [slotsD m.slots, intsD m.heads, intsD m.free, intsD m.locks, .i m.now, slotsD o.slots, intsD o.heads, intsD o.free, intsD o.locks, .i o.now] = [.b (decide (m = o))] := by
  simp only [d60, mem_of, mem_eta, List.drop_succ_cons, List.drop_zero]
def l60 : List (Nat × Ct) := [(164, d164.ct), (39, d39.ct)]
def z60 : Cx := { T := ttA, C := sigs l60, F := [], hints := [], sig := s60 }
def t60 : Tree :=
 (.call 164 [.var 0, .var 5] 10
 (.ite (.var 10)
  (.call 39 [.var 1, .var 6] 11
  (.ite (.var 11)
   (.call 39 [.var 2, .var 7] 12
   (.ite (.var 12)
    (.call 39 [.var 3, .var 8] 13
    (.ite (.var 13)
     (.ret [.eq (.var 4) (.var 9)])
     (.ret [.bool false])))
    (.ret [.bool false])))
   (.ret [.bool false])))
  (.ret [.bool false])))
theorem run60 : run z60 6000 [.code (Try.f60.body.getD .skip), .fin (topRet z60 Try.f60.results.toList 50)] { fn := 60, tmps := z60.sig.args0 ++ List.replicate (Try.f60.ntmps - z60.sig.args0.length) (.v (.one .undef)), stk := [], h := z60.sig.h0, nx := z60.sig.ins.length, known := [] } = t60 := by kernel_rfl
theorem ok60 : CtOk Try.prog 60 d60.ct := by
  refine dc_of_tree (d := d60) (Z := z60) (Γ := gam l60) (fn := Try.f60) (c := Try.f60.body.getD .skip) (told_of tok mixed (all_cons ok164 (all_cons ok39 all_nil)) fok_nil) Try.func60 (by kernel_rfl) (by kernel_rfl) rfl run60 fun E hk hp => ?_
  obtain ⟨hk0, hk1, hk2, hk3, hk4, hk5, hk6, hk7, hk8, hk9, _⟩ := hk
  obtain ⟨m, e0, e1, e2, e3, e4, b0, b1, b2, b3⟩ := ok_mem (d0 := E 0) (d1 := E 1) (d2 := E 2) (d3 := E 3) (d4 := E 4) hk0 hk1 hk2 hk3 hk4
  obtain ⟨m2, e5, e6, e7, e8, e9, b5, b6, b7, b8⟩ := ok_mem (d0 := E 5) (d1 := E 6) (d2 := E 7) (d3 := E 8) (d4 := E 9) hk5 hk6 hk7 hk8 hk9
  have el : letters E d60.sig.ins.length = [slotsD m.slots, intsD m.heads, intsD m.free, intsD m.locks, .i m.now, slotsD m2.slots, intsD m2.heads, intsD m2.free, intsD m2.locks, .i m2.now] := by
    show [E 0, E 1, E 2, E 3, E 4, E 5, E 6, E 7, E 8, E 9] = _
    rw [e0, e1, e2, e3, e4, e5, e6, e7, e8, e9]
  rw [el] at hp
  rw [el]
  rw [Env.pre_eq el]
  clear el e0 e1 e2 e3 e4 e5 e6 e7 e8 e9
  rw [fn60]
  unfold t60
  refine den_calle d164 [.b (decide (m.slots = m2.slots))] rfl trivial (by simp only [List.map_cons, List.map_nil, X.den, Env.put, Env.pre, List.length_cons, List.length_nil, Nat.zero_add, CD.int_i, CD.bool_b, CD.rows_l, decide_eq_true_eq, decide_eq_false_iff_not, beq_iff_eq, beq_eq_false_iff_ne, List.getD_cons_zero, List.getD_cons_succ, reduceIte, Nat.reduceLT, Nat.reduceSub, Nat.reduceAdd, d164, slots_slotsD]) (den_ite (fun h1 => ?_) (fun h => den_ret ?_))
  case refine_2 =>
    simp only [List.map_cons, List.map_nil, X.den, Env.put, Env.pre, List.length_cons, List.length_nil, Nat.zero_add, CD.int_i, CD.bool_b, CD.rows_l, decide_eq_true_eq, decide_eq_false_iff_not, beq_iff_eq, beq_eq_false_iff_ne, List.getD_cons_zero, List.getD_cons_succ, reduceIte, Nat.reduceLT, Nat.reduceSub, Nat.reduceAdd, Nat.lt_irrefl, Nat.sub_self] at h ⊢
    rw [decide_eq_false (fun e => h (by rw [e]))]
  refine den_calle d39 [.b (decide (m.heads = m2.heads))] rfl trivial (by simp only [List.map_cons, List.map_nil, X.den, Env.put, Env.pre, List.length_cons, List.length_nil, Nat.zero_add, CD.int_i, CD.bool_b, CD.rows_l, decide_eq_true_eq, decide_eq_false_iff_not, beq_iff_eq, beq_eq_false_iff_ne, List.getD_cons_zero, List.getD_cons_succ, reduceIte, Nat.reduceLT, Nat.reduceSub, Nat.reduceAdd, Nat.lt_irrefl, d39, ints_intsD]) (den_ite (fun h2 => ?_) (fun h => den_ret ?_))
  case refine_2 =>
    simp only [List.map_cons, List.map_nil, X.den, Env.put, Env.pre, List.length_cons, List.length_nil, Nat.zero_add, CD.int_i, CD.bool_b, CD.rows_l, decide_eq_true_eq, decide_eq_false_iff_not, beq_iff_eq, beq_eq_false_iff_ne, List.getD_cons_zero, List.getD_cons_succ, reduceIte, Nat.reduceLT, Nat.reduceSub, Nat.reduceAdd, Nat.lt_irrefl, Nat.sub_self] at h ⊢
    rw [decide_eq_false (fun e => h (by rw [e]))]
  refine den_calle d39 [.b (decide (m.free = m2.free))] rfl trivial (by simp only [List.map_cons, List.map_nil, X.den, Env.put, Env.pre, List.length_cons, List.length_nil, Nat.zero_add, CD.int_i, CD.bool_b, CD.rows_l, decide_eq_true_eq, decide_eq_false_iff_not, beq_iff_eq, beq_eq_false_iff_ne, List.getD_cons_zero, List.getD_cons_succ, reduceIte, Nat.reduceLT, Nat.reduceSub, Nat.reduceAdd, Nat.lt_irrefl, d39, ints_intsD]) (den_ite (fun h3 => ?_) (fun h => den_ret ?_))
  case refine_2 =>
    simp only [List.map_cons, List.map_nil, X.den, Env.put, Env.pre, List.length_cons, List.length_nil, Nat.zero_add, CD.int_i, CD.bool_b, CD.rows_l, decide_eq_true_eq, decide_eq_false_iff_not, beq_iff_eq, beq_eq_false_iff_ne, List.getD_cons_zero, List.getD_cons_succ, reduceIte, Nat.reduceLT, Nat.reduceSub, Nat.reduceAdd, Nat.lt_irrefl, Nat.sub_self] at h ⊢
    rw [decide_eq_false (fun e => h (by rw [e]))]
  refine den_calle d39 [.b (decide (m.locks = m2.locks))] rfl trivial (by simp only [List.map_cons, List.map_nil, X.den, Env.put, Env.pre, List.length_cons, List.length_nil, Nat.zero_add, CD.int_i, CD.bool_b, CD.rows_l, decide_eq_true_eq, decide_eq_false_iff_not, beq_iff_eq, beq_eq_false_iff_ne, List.getD_cons_zero, List.getD_cons_succ, reduceIte, Nat.reduceLT, Nat.reduceSub, Nat.reduceAdd, Nat.lt_irrefl, d39, ints_intsD]) (den_ite (fun h4 => den_ret ?_) (fun h => den_ret ?_))
  case refine_2 =>
    simp only [List.map_cons, List.map_nil, X.den, Env.put, Env.pre, List.length_cons, List.length_nil, Nat.zero_add, CD.int_i, CD.bool_b, CD.rows_l, decide_eq_true_eq, decide_eq_false_iff_not, beq_iff_eq, beq_eq_false_iff_ne, List.getD_cons_zero, List.getD_cons_succ, reduceIte, Nat.reduceLT, Nat.reduceSub, Nat.reduceAdd, Nat.lt_irrefl, Nat.sub_self] at h ⊢
    rw [decide_eq_false (fun e => h (by rw [e]))]
  simp only [List.map_cons, List.map_nil, X.den, Env.put, Env.pre, List.length_cons, List.length_nil, Nat.zero_add, CD.int_i, CD.bool_b, CD.rows_l, decide_eq_true_eq, decide_eq_false_iff_not, beq_iff_eq, beq_eq_false_iff_ne, List.getD_cons_zero, List.getD_cons_succ, reduceIte, Nat.reduceLT, Nat.reduceSub, Nat.reduceAdd, Nat.lt_irrefl, Nat.sub_self] at h1 h2 h3 h4 ⊢
  congr 2
  by_cases h5 : m.now = m2.now
  · rw [decide_eq_true (mem_eq h1 h2 h3 h4 h5)]
    simp [h5]
  · rw [decide_eq_false (fun e => h5 (by rw [e]))]
    simp [h5]
end Go.Proofs.Ytpmamacjepcdmaa
