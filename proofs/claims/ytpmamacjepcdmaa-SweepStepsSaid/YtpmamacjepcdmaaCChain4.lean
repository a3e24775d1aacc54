import Derived.Test.YtpmamacjepcdmaaCStep
/- Contracts: a chain locked, unlocked, the program's and the document's. -/
namespace Go.Proofs.Ytpmamacjepcdmaa
open Go Go.Sy Go.RowKit
set_option linter.unusedSimpArgs false
set_option linter.unusedVariables false
theorem set_locks (m : Mem) (b : Nat) (t : Int) : CD.l ((intsD m.locks).rows.modify b fun r => r.set 0 (.i t)) = intsD (m.locks.set b t) := set_int _ _ _
def s186 : Sig := ⟨[.ptr [.own 52 kS, .own 3 kI, .own 3 kI, .own 3 kI, .int .i64], .one (.int .i64), .one (.int .i64)], [.one (.bool)]⟩
def d186 : DC := ⟨s186, fun l => 0 ≤ (l.getD 5 .u).int ∧ (l.getD 5 .u).int < (Mem.of l).locks.length, fun l => (lock (Mem.of l) (l.getD 5 .u).int (l.getD 6 .u).int).1.cds ++ [.b (lock (Mem.of l) (l.getD 5 .u).int (l.getD 6 .u).int).2]⟩
theorem fn186 (m : Mem) (b t : Int) : d186.fn [slotsD m.slots, intsD m.heads, intsD m.free, intsD m.locks, .i m.now, .i b, .i t] = (lock m b t).1.cds ++ [.b (lock m b t).2] := by simp only [d186, mem_of, mem_eta, List.getD_cons_zero, List.getD_cons_succ, CD.int_i]
theorem pi186 {m : Mem} {b t : Int} (hm : MemIn m) (h0 : 0 ≤ b) (h1 : b < m.heads.length) : d186.pre [slotsD m.slots, intsD m.heads, intsD m.free, intsD m.locks, .i m.now, .i b, .i t] := by
  simp only [d186, mem_of, mem_eta, List.getD_cons_zero, List.getD_cons_succ, CD.int_i]
  exact ⟨h0, by rw [hm.nl]; exact h1⟩
def l186 : List (Nat × Ct) := []
def z186 : Cx := { T := ttA, C := sigs l186, F := [], hints := [], sig := s186 }
def t186 : Tree :=
 (.need (.le (.int 0) (.var 5))
 (.need (.lt (.var 5) (.len (.var 3)))
 (.ite (.not (.eq (.cell (.var 3) (.var 5) 0) (.int (-1))))
  (.ret [.var 0, .var 1, .var 2, .var 3, .var 4, .bool false])
  (.ret [.var 0, .var 1, .var 2, .set (.var 3) (.var 5) 0 (.var 6), .var 4, .bool true]))))
theorem run186 : run z186 6000 [.code (Try.f186.body.getD .skip), .fin (topRet z186 Try.f186.results.toList 50)] { fn := 186, tmps := z186.sig.args0 ++ List.replicate (Try.f186.ntmps - z186.sig.args0.length) (.v (.one .undef)), stk := [], h := z186.sig.h0, nx := z186.sig.ins.length, known := [] } = t186 := by kernel_rfl
theorem ok186 : CtOk Try.prog 186 d186.ct := by
  refine dc_of_tree (d := d186) (Z := z186) (Γ := gam l186) (fn := Try.f186) (c := Try.f186.body.getD .skip) (told_of tok mixed all_nil fok_nil) Try.func186 (by kernel_rfl) (by kernel_rfl) rfl run186 fun E hk hp => ?_
  obtain ⟨hk0, hk1, hk2, hk3, hk4, hk5, hk6, _⟩ := hk
  obtain ⟨m, e0, e1, e2, e3, e4, b0, b1, b2, b3⟩ := ok_mem (d0 := E 0) (d1 := E 1) (d2 := E 2) (d3 := E 3) (d4 := E 4) hk0 hk1 hk2 hk3 hk4
  obtain ⟨x, e5⟩ := ok_int (d := E 5) hk5
  obtain ⟨x2, e6⟩ := ok_int (d := E 6) hk6
  have el : letters E d186.sig.ins.length = [slotsD m.slots, intsD m.heads, intsD m.free, intsD m.locks, .i m.now, .i x, .i x2] := by
    show [E 0, E 1, E 2, E 3, E 4, E 5, E 6] = _
    rw [e0, e1, e2, e3, e4, e5, e6]
  rw [el] at hp
  rw [el]
  rw [Env.pre_eq el]
  clear el e0 e1 e2 e3 e4 e5 e6
  rw [fn186]
  simp only [d186, mem_of, mem_eta, List.getD_cons_zero, List.getD_cons_succ, CD.int_i] at hp
  unfold lock
  unfold t186
  refine den_le (by simp only [nrm, X.den, Env.put, Env.pre, reduceIte, Nat.reduceLT, Nat.reduceSub, Nat.reduceAdd]; omega) (den_lt (by simp only [nrm, X.den, Env.put, Env.pre, reduceIte, Nat.reduceLT, Nat.reduceSub, Nat.reduceAdd, len_ints]; omega) (den_ite (fun h => den_ret ?_) (fun h => den_ret ?_)))
  · simp only [nrm, X.den, Env.put, Env.pre, reduceIte, Nat.reduceLT, Nat.reduceSub, Nat.reduceAdd, cell_int, Bool.not_eq_true'] at h ⊢
    first | rw [if_neg h] | rw [if_pos h]
    simp only [Mem.cds, List.cons_append, List.nil_append, set_int, nrm, X.den, Env.put, Env.pre, reduceIte, Nat.reduceLT, Nat.reduceSub, Nat.reduceAdd] <;> first | rw [beq_iff_eq.2 h] | rw [beq_eq_false_iff_ne.2 h]
  · simp only [nrm, X.den, Env.put, Env.pre, reduceIte, Nat.reduceLT, Nat.reduceSub, Nat.reduceAdd, cell_int, Bool.not_eq_false'] at h ⊢
    first | rw [if_pos h] | rw [if_neg h]
    simp only [Mem.cds, List.cons_append, List.nil_append, set_int, nrm, X.den, Env.put, Env.pre, reduceIte, Nat.reduceLT, Nat.reduceSub, Nat.reduceAdd] <;> first | rw [beq_iff_eq.2 h] | rw [beq_eq_false_iff_ne.2 h]
def s189 : Sig := ⟨[.ptr [.own 52 kS, .own 3 kI, .own 3 kI, .own 3 kI, .int .i64], .one (.int .i64), .one (.int .i64)], [.one (.bool)]⟩
def d189 : DC := ⟨s189, fun l => 0 ≤ (l.getD 5 .u).int ∧ (l.getD 5 .u).int < (Mem.of l).locks.length, fun l => (lock (Mem.of l) (l.getD 5 .u).int (l.getD 6 .u).int).1.cds ++ [.b (lock (Mem.of l) (l.getD 5 .u).int (l.getD 6 .u).int).2]⟩
theorem fn189 (m : Mem) (b t : Int) : d189.fn [slotsD m.slots, intsD m.heads, intsD m.free, intsD m.locks, .i m.now, .i b, .i t] = (lock m b t).1.cds ++ [.b (lock m b t).2] := by simp only [d189, mem_of, mem_eta, List.getD_cons_zero, List.getD_cons_succ, CD.int_i]
theorem pi189 {m : Mem} {b t : Int} (hm : MemIn m) (h0 : 0 ≤ b) (h1 : b < m.heads.length) : d189.pre [slotsD m.slots, intsD m.heads, intsD m.free, intsD m.locks, .i m.now, .i b, .i t] := by
  simp only [d189, mem_of, mem_eta, List.getD_cons_zero, List.getD_cons_succ, CD.int_i]
  exact ⟨h0, by rw [hm.nl]; exact h1⟩
def l189 : List (Nat × Ct) := []
def z189 : Cx := { T := ttA, C := sigs l189, F := [], hints := [], sig := s189 }
def t189 : Tree :=
 (.need (.le (.int 0) (.var 5))
 (.need (.lt (.var 5) (.len (.var 3)))
 (.ite (.eq (.cell (.var 3) (.var 5) 0) (.int (-1)))
  (.ret [.var 0, .var 1, .var 2, .set (.var 3) (.var 5) 0 (.var 6), .var 4, .eq (.cell (.var 3) (.var 5) 0) (.int (-1))])
  (.ret [.var 0, .var 1, .var 2, .var 3, .var 4, .eq (.cell (.var 3) (.var 5) 0) (.int (-1))]))))
theorem run189 : run z189 6000 [.code (Try.f189.body.getD .skip), .fin (topRet z189 Try.f189.results.toList 50)] { fn := 189, tmps := z189.sig.args0 ++ List.replicate (Try.f189.ntmps - z189.sig.args0.length) (.v (.one .undef)), stk := [], h := z189.sig.h0, nx := z189.sig.ins.length, known := [] } = t189 := by kernel_rfl
theorem ok189 : CtOk Try.prog 189 d189.ct := by
  refine dc_of_tree (d := d189) (Z := z189) (Γ := gam l189) (fn := Try.f189) (c := Try.f189.body.getD .skip) (told_of tok mixed all_nil fok_nil) Try.func189 (by kernel_rfl) (by kernel_rfl) rfl run189 fun E hk hp => ?_
  obtain ⟨hk0, hk1, hk2, hk3, hk4, hk5, hk6, _⟩ := hk
  obtain ⟨m, e0, e1, e2, e3, e4, b0, b1, b2, b3⟩ := ok_mem (d0 := E 0) (d1 := E 1) (d2 := E 2) (d3 := E 3) (d4 := E 4) hk0 hk1 hk2 hk3 hk4
  obtain ⟨x, e5⟩ := ok_int (d := E 5) hk5
  obtain ⟨x2, e6⟩ := ok_int (d := E 6) hk6
  have el : letters E d189.sig.ins.length = [slotsD m.slots, intsD m.heads, intsD m.free, intsD m.locks, .i m.now, .i x, .i x2] := by
    show [E 0, E 1, E 2, E 3, E 4, E 5, E 6] = _
    rw [e0, e1, e2, e3, e4, e5, e6]
  rw [el] at hp
  rw [el]
  rw [Env.pre_eq el]
  clear el e0 e1 e2 e3 e4 e5 e6
  rw [fn189]
  simp only [d189, mem_of, mem_eta, List.getD_cons_zero, List.getD_cons_succ, CD.int_i] at hp
  unfold lock
  unfold t189
  refine den_le (by simp only [nrm, X.den, Env.put, Env.pre, reduceIte, Nat.reduceLT, Nat.reduceSub, Nat.reduceAdd]; omega) (den_lt (by simp only [nrm, X.den, Env.put, Env.pre, reduceIte, Nat.reduceLT, Nat.reduceSub, Nat.reduceAdd, len_ints]; omega) (den_ite (fun h => den_ret ?_) (fun h => den_ret ?_)))
  · simp only [nrm, X.den, Env.put, Env.pre, reduceIte, Nat.reduceLT, Nat.reduceSub, Nat.reduceAdd, cell_int, Bool.not_eq_true'] at h ⊢
    first | rw [if_neg h] | rw [if_pos h]
    simp only [Mem.cds, List.cons_append, List.nil_append, set_int, nrm, X.den, Env.put, Env.pre, reduceIte, Nat.reduceLT, Nat.reduceSub, Nat.reduceAdd] <;> first | rw [beq_iff_eq.2 h] | rw [beq_eq_false_iff_ne.2 h]
  · simp only [nrm, X.den, Env.put, Env.pre, reduceIte, Nat.reduceLT, Nat.reduceSub, Nat.reduceAdd, cell_int, Bool.not_eq_false'] at h ⊢
    first | rw [if_pos h] | rw [if_neg h]
    simp only [Mem.cds, List.cons_append, List.nil_append, set_int, nrm, X.den, Env.put, Env.pre, reduceIte, Nat.reduceLT, Nat.reduceSub, Nat.reduceAdd] <;> first | rw [beq_iff_eq.2 h] | rw [beq_eq_false_iff_ne.2 h]
def s187 : Sig := ⟨[.ptr [.own 52 kS, .own 3 kI, .own 3 kI, .own 3 kI, .int .i64], .one (.int .i64), .one (.int .i64)], []⟩
def d187 : DC := ⟨s187, fun l => 0 ≤ (l.getD 5 .u).int ∧ (l.getD 5 .u).int < (Mem.of l).locks.length, fun l => (unlock (Mem.of l) (l.getD 5 .u).int (l.getD 6 .u).int).cds⟩
theorem fn187 (m : Mem) (b t : Int) : d187.fn [slotsD m.slots, intsD m.heads, intsD m.free, intsD m.locks, .i m.now, .i b, .i t] = (unlock m b t).cds := by simp only [d187, mem_of, mem_eta, List.getD_cons_zero, List.getD_cons_succ, CD.int_i]
theorem pi187 {m : Mem} {b t : Int} (hm : MemIn m) (h0 : 0 ≤ b) (h1 : b < m.heads.length) : d187.pre [slotsD m.slots, intsD m.heads, intsD m.free, intsD m.locks, .i m.now, .i b, .i t] := by
  simp only [d187, mem_of, mem_eta, List.getD_cons_zero, List.getD_cons_succ, CD.int_i]
  exact ⟨h0, by rw [hm.nl]; exact h1⟩
def l187 : List (Nat × Ct) := []
def z187 : Cx := { T := ttA, C := sigs l187, F := [], hints := [], sig := s187 }
def t187 : Tree :=
 (.need (.le (.int 0) (.var 5))
 (.need (.lt (.var 5) (.len (.var 3)))
 (.ite (.eq (.cell (.var 3) (.var 5) 0) (.var 6))
  (.ret [.var 0, .var 1, .var 2, .set (.var 3) (.var 5) 0 (.int (-1)), .var 4])
  (.ret [.var 0, .var 1, .var 2, .var 3, .var 4]))))
theorem run187 : run z187 6000 [.code (Try.f187.body.getD .skip), .fin (topRet z187 Try.f187.results.toList 50)] { fn := 187, tmps := z187.sig.args0 ++ List.replicate (Try.f187.ntmps - z187.sig.args0.length) (.v (.one .undef)), stk := [], h := z187.sig.h0, nx := z187.sig.ins.length, known := [] } = t187 := by kernel_rfl
theorem ok187 : CtOk Try.prog 187 d187.ct := by
  refine dc_of_tree (d := d187) (Z := z187) (Γ := gam l187) (fn := Try.f187) (c := Try.f187.body.getD .skip) (told_of tok mixed all_nil fok_nil) Try.func187 (by kernel_rfl) (by kernel_rfl) rfl run187 fun E hk hp => ?_
  obtain ⟨hk0, hk1, hk2, hk3, hk4, hk5, hk6, _⟩ := hk
  obtain ⟨m, e0, e1, e2, e3, e4, b0, b1, b2, b3⟩ := ok_mem (d0 := E 0) (d1 := E 1) (d2 := E 2) (d3 := E 3) (d4 := E 4) hk0 hk1 hk2 hk3 hk4
  obtain ⟨x, e5⟩ := ok_int (d := E 5) hk5
  obtain ⟨x2, e6⟩ := ok_int (d := E 6) hk6
  have el : letters E d187.sig.ins.length = [slotsD m.slots, intsD m.heads, intsD m.free, intsD m.locks, .i m.now, .i x, .i x2] := by
    show [E 0, E 1, E 2, E 3, E 4, E 5, E 6] = _
    rw [e0, e1, e2, e3, e4, e5, e6]
  rw [el] at hp
  rw [el]
  rw [Env.pre_eq el]
  clear el e0 e1 e2 e3 e4 e5 e6
  rw [fn187]
  simp only [d187, mem_of, mem_eta, List.getD_cons_zero, List.getD_cons_succ, CD.int_i] at hp
  unfold unlock
  unfold t187
  refine den_le (by simp only [nrm, X.den, Env.put, Env.pre, reduceIte, Nat.reduceLT, Nat.reduceSub, Nat.reduceAdd]; omega) (den_lt (by simp only [nrm, X.den, Env.put, Env.pre, reduceIte, Nat.reduceLT, Nat.reduceSub, Nat.reduceAdd, len_ints]; omega) (den_ite (fun h => den_ret ?_) (fun h => den_ret ?_)))
  · simp only [nrm, X.den, Env.put, Env.pre, reduceIte, Nat.reduceLT, Nat.reduceSub, Nat.reduceAdd, cell_int] at h ⊢
    rw [if_pos h]
    simp only [Mem.cds, set_int]
  · simp only [nrm, X.den, Env.put, Env.pre, reduceIte, Nat.reduceLT, Nat.reduceSub, Nat.reduceAdd, cell_int] at h ⊢
    rw [if_neg h]
    simp only [Mem.cds]
def s190 : Sig := ⟨[.ptr [.own 52 kS, .own 3 kI, .own 3 kI, .own 3 kI, .int .i64], .one (.int .i64), .one (.int .i64)], []⟩
def d190 : DC := ⟨s190, fun l => 0 ≤ (l.getD 5 .u).int ∧ (l.getD 5 .u).int < (Mem.of l).locks.length, fun l => (unlock (Mem.of l) (l.getD 5 .u).int (l.getD 6 .u).int).cds⟩
theorem fn190 (m : Mem) (b t : Int) : d190.fn [slotsD m.slots, intsD m.heads, intsD m.free, intsD m.locks, .i m.now, .i b, .i t] = (unlock m b t).cds := by simp only [d190, mem_of, mem_eta, List.getD_cons_zero, List.getD_cons_succ, CD.int_i]
theorem pi190 {m : Mem} {b t : Int} (hm : MemIn m) (h0 : 0 ≤ b) (h1 : b < m.heads.length) : d190.pre [slotsD m.slots, intsD m.heads, intsD m.free, intsD m.locks, .i m.now, .i b, .i t] := by
  simp only [d190, mem_of, mem_eta, List.getD_cons_zero, List.getD_cons_succ, CD.int_i]
  exact ⟨h0, by rw [hm.nl]; exact h1⟩
def l190 : List (Nat × Ct) := []
def z190 : Cx := { T := ttA, C := sigs l190, F := [], hints := [], sig := s190 }
def t190 : Tree :=
 (.need (.le (.int 0) (.var 5))
 (.need (.lt (.var 5) (.len (.var 3)))
 (.ite (.eq (.cell (.var 3) (.var 5) 0) (.var 6))
  (.ret [.var 0, .var 1, .var 2, .set (.var 3) (.var 5) 0 (.int (-1)), .var 4])
  (.ret [.var 0, .var 1, .var 2, .var 3, .var 4]))))
theorem run190 : run z190 6000 [.code (Try.f190.body.getD .skip), .fin (topRet z190 Try.f190.results.toList 50)] { fn := 190, tmps := z190.sig.args0 ++ List.replicate (Try.f190.ntmps - z190.sig.args0.length) (.v (.one .undef)), stk := [], h := z190.sig.h0, nx := z190.sig.ins.length, known := [] } = t190 := by kernel_rfl
theorem ok190 : CtOk Try.prog 190 d190.ct := by
  refine dc_of_tree (d := d190) (Z := z190) (Γ := gam l190) (fn := Try.f190) (c := Try.f190.body.getD .skip) (told_of tok mixed all_nil fok_nil) Try.func190 (by kernel_rfl) (by kernel_rfl) rfl run190 fun E hk hp => ?_
  obtain ⟨hk0, hk1, hk2, hk3, hk4, hk5, hk6, _⟩ := hk
  obtain ⟨m, e0, e1, e2, e3, e4, b0, b1, b2, b3⟩ := ok_mem (d0 := E 0) (d1 := E 1) (d2 := E 2) (d3 := E 3) (d4 := E 4) hk0 hk1 hk2 hk3 hk4
  obtain ⟨x, e5⟩ := ok_int (d := E 5) hk5
  obtain ⟨x2, e6⟩ := ok_int (d := E 6) hk6
  have el : letters E d190.sig.ins.length = [slotsD m.slots, intsD m.heads, intsD m.free, intsD m.locks, .i m.now, .i x, .i x2] := by
    show [E 0, E 1, E 2, E 3, E 4, E 5, E 6] = _
    rw [e0, e1, e2, e3, e4, e5, e6]
  rw [el] at hp
  rw [el]
  rw [Env.pre_eq el]
  clear el e0 e1 e2 e3 e4 e5 e6
  rw [fn190]
  simp only [d190, mem_of, mem_eta, List.getD_cons_zero, List.getD_cons_succ, CD.int_i] at hp
  unfold unlock
  unfold t190
  refine den_le (by simp only [nrm, X.den, Env.put, Env.pre, reduceIte, Nat.reduceLT, Nat.reduceSub, Nat.reduceAdd]; omega) (den_lt (by simp only [nrm, X.den, Env.put, Env.pre, reduceIte, Nat.reduceLT, Nat.reduceSub, Nat.reduceAdd, len_ints]; omega) (den_ite (fun h => den_ret ?_) (fun h => den_ret ?_)))
  · simp only [nrm, X.den, Env.put, Env.pre, reduceIte, Nat.reduceLT, Nat.reduceSub, Nat.reduceAdd, cell_int] at h ⊢
    rw [if_pos h]
    simp only [Mem.cds, set_int]
  · simp only [nrm, X.den, Env.put, Env.pre, reduceIte, Nat.reduceLT, Nat.reduceSub, Nat.reduceAdd, cell_int] at h ⊢
    rw [if_neg h]
    simp only [Mem.cds]
end Go.Proofs.Ytpmamacjepcdmaa

/- Contracts: flows; a closed fact; ChainTells. -/
namespace Go.Proofs.Ytpmamacjepcdmaa
open Go Go.Sy Go.RowKit
set_option linter.unusedSimpArgs false
set_option linter.unusedVariables false

theorem fn57c (a b : Int) : d57.fn [.i a, .i b] = (newMem a b).1.cds ++ [.i (newMem a b).2] := rfl
theorem none_same : d60.fn [.l [], .l [], .l [], .l [], .i 0, .l [], .l [], .l [], .l [], .i 0] = [.b true] := by
  have := fn60 Mem.none Mem.none
  rw [decide_eq_true rfl] at this
  exact this
theorem self_same (m : Mem) : d60.fn [slotsD m.slots, intsD m.heads, intsD m.free, intsD m.locks, .i m.now, slotsD m.slots, intsD m.heads, intsD m.free, intsD m.locks, .i m.now] = [.b true] := by
  rw [fn60, decide_eq_true rfl]
theorem take_getD {l : List Int} {j : Nat} (h : j < l.length) : l.take (j + 1) = l.take j ++ [l.getD j 0] := by
  rw [List.take_succ_eq_append_getElem h, List.getD_eq_getElem?_getD, List.getElem?_eq_getElem h, Option.getD_some]
def s71 : Sig := ⟨[.agg [.fz kS, .fz kI, .fz kI, .fz kI, .int .i64]], [.one (.own 78 kW), .one (.int .i64)]⟩
def d71 : DC := ⟨s71, fun _ => True, fun l => [flowsD (flowsR (Mem.of l)).1, .i (flowsR (Mem.of l)).2]⟩
theorem fn71 (m : Mem) : d71.fn [slotsD m.slots, intsD m.heads, intsD m.free, intsD m.locks, .i m.now] = [flowsD (flowsR m).1, .i (flowsR m).2] := by simp only [d71, mem_of, mem_eta]
def l71 : List (Nat × Ct) := [(74, d74.ct), (168, d168.ct)]
def z71 : Cx := { T := ttA, C := sigs l71, F := [], hints := [⟨71, 6, false, [(19, .lt), (5, .own 78 kW)], [], [], [], 0⟩, ⟨71, 10, false, [(30, .lt), (5, .own 78 kW)], [], [], [], 0⟩], sig := s71 }
def t71 : Tree :=
 (.call 74 [.var 0, .var 1, .var 2, .var 3, .var 4] 5
 (.ite (.not (.eq (.var 5) (.int 0)))
  (.ret [.nil, .var 5])
  (.loop 6 [.sl 32 [.int .i64, .int .i64, .int .i64, .int .i64], .int .i64] [.nil, .int 0]
  (.ite (.lt (.var 8) (.len (.var 1)))
   (.call 168 [.var 0, .var 1, .var 2, .var 3, .var 4, .var 8] 9
   (.loop 11 [.sl 32 [.int .i64, .int .i64, .int .i64, .int .i64], .int .i64] [.var 7, .int 0]
   (.ite (.lt (.var 13) (.len (.var 9)))
    (.need (.le (.int 0) (.var 13))
    (.need (.le (.int 0) (.cell (.var 9) (.var 13) 0))
    (.need (.lt (.cell (.var 9) (.var 13) 0) (.len (.var 0)))
    (.need (.le (.add (.len (.var 12)) (.int 1)) (.int 4398046511104))
    (.need (.fit (.add (.var 13) (.int 1)))
    (.back 11 [.app (.var 12) (.cons (.cell (.var 0) (.cell (.var 9) (.var 13) 0) 1) (.cons (.cell (.var 0) (.cell (.var 9) (.var 13) 0) 2) (.cons (.cell (.var 9) (.var 13) 0) (.cons (.cell (.var 0) (.cell (.var 9) (.var 13) 0) 3) .row0)))), .add (.var 13) (.int 1)]))))))
    (.need (.fit (.add (.var 8) (.int 1)))
    (.back 6 [.var 12, .add (.var 8) (.int 1)])))))
   (.ret [.var 7, .int 0])))))
theorem run71 : run z71 6000 [.code (Try.f71.body.getD .skip), .fin (topRet z71 Try.f71.results.toList 50)] { fn := 71, tmps := z71.sig.args0 ++ List.replicate (Try.f71.ntmps - z71.sig.args0.length) (.v (.one .undef)), stk := [], h := z71.sig.h0, nx := z71.sig.ins.length, known := [] } = t71 := by kernel_rfl
theorem ok71 : CtOk Try.prog 71 d71.ct := by
  refine dc_of_tree (d := d71) (Z := z71) (Γ := gam l71) (fn := Try.f71) (c := Try.f71.body.getD .skip) (told_of tok mixed (all_cons ok74 (all_cons ok168 all_nil)) fok_nil) Try.func71 (by kernel_rfl) (by kernel_rfl) rfl run71 fun E hk hp => ?_
  obtain ⟨hk0, hk1, hk2, hk3, hk4, _⟩ := hk
  obtain ⟨m, e0, e1, e2, e3, e4, b0, b1, b2, b3⟩ := ok_mem (d0 := E 0) (d1 := E 1) (d2 := E 2) (d3 := E 3) (d4 := E 4) hk0 hk1 hk2 hk3 hk4
  have el : letters E d71.sig.ins.length = [slotsD m.slots, intsD m.heads, intsD m.free, intsD m.locks, .i m.now] := by
    show [E 0, E 1, E 2, E 3, E 4] = _
    rw [e0, e1, e2, e3, e4]
  rw [el] at hp
  rw [el]
  rw [Env.pre_eq el]
  clear el e0 e1 e2 e3 e4
  rw [fn71]
  unfold flowsR
  unfold t71
  refine den_calle d74 [.i (checkChains m)] rfl trivial (by simp only [nrm, X.den, Env.put, Env.pre, reduceIte, Nat.reduceLT, Nat.reduceSub, Nat.reduceAdd, fn74]) (den_ite (fun h => den_ret ?_) (fun h => ?_))
  · simp only [nrm, X.den, Env.put, Env.pre, reduceIte, Nat.reduceLT, Nat.reduceSub, Nat.reduceAdd, Bool.not_eq_true'] at h ⊢
    rw [if_pos h]; rfl
  simp only [nrm, X.den, Env.put, Env.pre, reduceIte, Nat.reduceLT, Nat.reduceSub, Nat.reduceAdd, Bool.not_eq_false'] at h
  rw [if_neg (by omega)]
  have hm := checkChains_mem (by omega : checkChains m = 0)
  have hns := hm.ns
  have hnh := hm.nh4
  refine den_loop (fun ds => ∃ (b : Nat) (acc : List Flow), ds = [flowsD acc, .i b] ∧ b ≤ m.heads.length ∧ acc.length ≤ b * 12 ∧ flowsOf m = flowsFrom m (m.heads.length - b) b acc) (fun ds => m.heads.length - (ds.getD 1 .u).int.toNat) ⟨0, [], rfl, by omega, by simp, rfl⟩ ?_
  rintro ds - ⟨b, acc, rfl, hb, hkl, ht⟩
  refine den_ite (fun hlt => ?_) (fun hge => den_ret ?_)
  · simp only [nrm, X.den, Env.put, Env.pre, reduceIte, Nat.reduceLT, Nat.reduceSub, Nat.reduceAdd, len_ints] at hlt
    have e1 : m.heads.length - b = m.heads.length - (b + 1) + 1 := by omega
    rw [e1] at ht
    refine den_calle d168 [intsD (chainR m b).1, .i (chainR m b).2] rfl ?_ (by simp only [nrm, X.den, Env.put, Env.pre, reduceIte, Nat.reduceLT, Nat.reduceSub, Nat.reduceAdd, fn168]) ?_
    · simp only [nrm, X.den, Env.put, Env.pre, reduceIte, Nat.reduceLT, Nat.reduceSub, Nat.reduceAdd]
      exact pre168 hm (by omega) (by omega)
    obtain ⟨hl, hlm⟩ := chainR_mem hm b
    rw [flowsFrom] at ht
    generalize (chainR m b).1 = l at *
    refine den_loop (fun ds => ∃ (j : Nat) (acc' : List Flow), ds = [flowsD acc', .i j] ∧ j ≤ l.length ∧ acc' = acc ++ (l.take j).map (flowAt m)) (fun ds => l.length - (ds.getD 1 .u).int.toNat) ⟨0, acc, ?_, by omega, by simp⟩ ?_
    · simp only [nrm, X.den, Env.put, Env.pre, reduceIte, Nat.reduceLT, Nat.reduceSub, Nat.reduceAdd]; rfl
    rintro ds - ⟨j, acc', rfl, hj, hs⟩
    have hal : acc'.length = acc.length + j := by rw [hs]; simp; omega
    refine den_ite (fun hlt' => ?_) (fun hge' => ?_)
    · simp only [nrm, X.den, Env.put, Env.pre, reduceIte, Nat.reduceLT, Nat.reduceSub, Nat.reduceAdd, len_ints] at hlt'
      have ha := hlm (l.getD j 0) (getD_mem (by omega))
      have hraw : ((intsD l).rows.getD j []).getD 0 .u = .i (l.getD j 0) := raw_int (by omega)
      have hnx : acc ++ (l.take (j + 1)).map (flowAt m) = acc' ++ [flowAt m (l.getD j 0)] := by
        rw [take_getD (by omega), hs, List.map_append, ← List.append_assoc]; rfl
      generalize hag : l.getD j 0 = a at *
      have hk1 : ((slotsD m.slots).rows.getD a.toNat []).getD 1 .u = .i (msl m a.toNat).k.a := raw_s1 (by omega)
      have hk2 : ((slotsD m.slots).rows.getD a.toNat []).getD 2 .u = .i (msl m a.toNat).k.b := raw_s2 (by omega)
      have hk3 : ((slotsD m.slots).rows.getD a.toNat []).getD 3 .u = .i (msl m a.toNat).till := raw_s3 (by omega)
      refine den_need (by simp only [nrm, X.den, Env.put, Env.pre, reduceIte, Nat.reduceLT, Nat.reduceSub, Nat.reduceAdd]; omega) (den_need (by simp only [nrm, X.den, Env.put, Env.pre, reduceIte, Nat.reduceLT, Nat.reduceSub, Nat.reduceAdd, Int.toNat_natCast, hraw]; omega) (den_need (by simp only [nrm, X.den, Env.put, Env.pre, reduceIte, Nat.reduceLT, Nat.reduceSub, Nat.reduceAdd, Int.toNat_natCast, hraw, len_slots]; omega) (den_le (by simp only [nrm, X.den, Env.put, Env.pre, reduceIte, Nat.reduceLT, Nat.reduceSub, Nat.reduceAdd, len_flows]; omega) (den_fit (by simp only [nrm, X.den, Env.put, Env.pre, reduceIte, Nat.reduceLT, Nat.reduceSub, Nat.reduceAdd]; omega) (den_back ⟨⟨j + 1, _, ?_, by omega, hnx.symm⟩, ?_⟩)))))
      · simp only [nrm, X.den, Env.put, Env.pre, reduceIte, Nat.reduceLT, Nat.reduceSub, Nat.reduceAdd, Int.toNat_natCast, hraw, hk1, hk2, hk3, CD.row, List.headD_cons, app_flow]
        rfl
      · simp only [nrm, X.den, Env.put, Env.pre, reduceIte, Nat.reduceLT, Nat.reduceSub, Nat.reduceAdd]; omega
    · simp only [nrm, X.den, Env.put, Env.pre, reduceIte, Nat.reduceLT, Nat.reduceSub, Nat.reduceAdd, len_ints] at hge'
      have hjl : j = l.length := by omega
      subst hjl
      rw [List.take_length] at hs
      refine den_fit (by simp only [nrm, X.den, Env.put, Env.pre, reduceIte, Nat.reduceLT, Nat.reduceSub, Nat.reduceAdd]; omega) (den_back2 (by decide) ⟨⟨b + 1, acc', ?_, by omega, by omega, ?_⟩, ?_⟩)
      · simp only [nrm, X.den, Env.put, Env.pre, reduceIte, Nat.reduceLT, Nat.reduceSub, Nat.reduceAdd]; rfl
      · rw [ht, hs]
      · simp only [nrm, X.den, Env.put, Env.pre, reduceIte, Nat.reduceLT, Nat.reduceSub, Nat.reduceAdd]; omega
  · simp only [nrm, X.den, Env.put, Env.pre, reduceIte, Nat.reduceLT, Nat.reduceSub, Nat.reduceAdd, len_ints] at hge ⊢
    rw [show m.heads.length - b = 0 from by omega] at ht
    rw [ht]; rfl
def s76 : Sig := ⟨[.agg [.fz kS, .fz kI, .fz kI, .fz kI, .int .i64]], [.one (.own 78 kW)]⟩
def d76 : DC := ⟨s76, fun l => checkChains (Mem.of l) = 0, fun l => [flowsD (flowsOf (Mem.of l))]⟩
theorem fn76 (m : Mem) : d76.fn [slotsD m.slots, intsD m.heads, intsD m.free, intsD m.locks, .i m.now] = [flowsD (flowsOf m)] := by simp only [d76, mem_of, mem_eta]
def l76 : List (Nat × Ct) := [(77, d77.ct)]
def z76 : Cx := { T := ttA, C := sigs l76, F := [], hints := [⟨76, 3, false, [(12, .lt), (3, .own 78 kW)], [], [], [], 0⟩, ⟨76, 7, false, [(23, .lt), (3, .own 78 kW)], [], [], [], 0⟩], sig := s76 }
def t76 : Tree :=
 (.loop 5 [.sl 32 [.int .i64, .int .i64, .int .i64, .int .i64], .int .i64] [.nil, .int 0]
 (.ite (.lt (.var 7) (.len (.var 1)))
  (.call 77 [.var 0, .var 1, .var 2, .var 3, .var 4, .var 7] 8
  (.loop 10 [.sl 32 [.int .i64, .int .i64, .int .i64, .int .i64], .int .i64] [.var 6, .int 0]
  (.ite (.lt (.var 12) (.len (.var 8)))
   (.need (.le (.int 0) (.var 12))
   (.need (.le (.int 0) (.cell (.var 8) (.var 12) 0))
   (.need (.lt (.cell (.var 8) (.var 12) 0) (.len (.var 0)))
   (.need (.le (.add (.len (.var 11)) (.int 1)) (.int 4398046511104))
   (.need (.fit (.add (.var 12) (.int 1)))
   (.back 10 [.app (.var 11) (.cons (.cell (.var 0) (.cell (.var 8) (.var 12) 0) 1) (.cons (.cell (.var 0) (.cell (.var 8) (.var 12) 0) 2) (.cons (.cell (.var 8) (.var 12) 0) (.cons (.cell (.var 0) (.cell (.var 8) (.var 12) 0) 3) .row0)))), .add (.var 12) (.int 1)]))))))
   (.need (.fit (.add (.var 7) (.int 1)))
   (.back 5 [.var 11, .add (.var 7) (.int 1)])))))
  (.ret [.var 6])))
theorem run76 : run z76 6000 [.code (Try.f76.body.getD .skip), .fin (topRet z76 Try.f76.results.toList 50)] { fn := 76, tmps := z76.sig.args0 ++ List.replicate (Try.f76.ntmps - z76.sig.args0.length) (.v (.one .undef)), stk := [], h := z76.sig.h0, nx := z76.sig.ins.length, known := [] } = t76 := by kernel_rfl
theorem ok76 : CtOk Try.prog 76 d76.ct := by
  refine dc_of_tree (d := d76) (Z := z76) (Γ := gam l76) (fn := Try.f76) (c := Try.f76.body.getD .skip) (told_of tok mixed (all_cons ok77 all_nil) fok_nil) Try.func76 (by kernel_rfl) (by kernel_rfl) rfl run76 fun E hk hp => ?_
  obtain ⟨hk0, hk1, hk2, hk3, hk4, _⟩ := hk
  obtain ⟨m, e0, e1, e2, e3, e4, b0, b1, b2, b3⟩ := ok_mem (d0 := E 0) (d1 := E 1) (d2 := E 2) (d3 := E 3) (d4 := E 4) hk0 hk1 hk2 hk3 hk4
  have el : letters E d76.sig.ins.length = [slotsD m.slots, intsD m.heads, intsD m.free, intsD m.locks, .i m.now] := by
    show [E 0, E 1, E 2, E 3, E 4] = _
    rw [e0, e1, e2, e3, e4]
  rw [el] at hp
  rw [el]
  rw [Env.pre_eq el]
  clear el e0 e1 e2 e3 e4
  rw [fn76]
  simp only [d76, mem_of, mem_eta] at hp
  unfold t76
  have hm := checkChains_mem hp
  have hns := hm.ns
  have hnh := hm.nh4
  refine den_loop (fun ds => ∃ (b : Nat) (acc : List Flow), ds = [flowsD acc, .i b] ∧ b ≤ m.heads.length ∧ acc.length ≤ b * 12 ∧ flowsOf m = flowsFrom m (m.heads.length - b) b acc) (fun ds => m.heads.length - (ds.getD 1 .u).int.toNat) ⟨0, [], rfl, by omega, by simp, rfl⟩ ?_
  rintro ds - ⟨b, acc, rfl, hb, hkl, ht⟩
  refine den_ite (fun hlt => ?_) (fun hge => den_ret ?_)
  · simp only [nrm, X.den, Env.put, Env.pre, reduceIte, Nat.reduceLT, Nat.reduceSub, Nat.reduceAdd, len_ints] at hlt
    have e1 : m.heads.length - b = m.heads.length - (b + 1) + 1 := by omega
    rw [e1] at ht
    obtain ⟨l, hc⟩ := checkChains_some hp (b := b) (by omega)
    obtain ⟨q1, q2⟩ := chain77_R hc
    refine den_calle d77 [intsD l, .b true] rfl ?_ (by simp only [nrm, X.den, Env.put, Env.pre, reduceIte, Nat.reduceLT, Nat.reduceSub, Nat.reduceAdd, fn77, q1]) ?_
    · simp only [nrm, X.den, Env.put, Env.pre, reduceIte, Nat.reduceLT, Nat.reduceSub, Nat.reduceAdd]
      exact pre77 hm (by omega) (by omega)
    obtain ⟨hl, hlm⟩ := chainOf_mem hm hc
    rw [flowsFrom, q2] at ht
    dsimp only at ht
    refine den_loop (fun ds => ∃ (j : Nat) (acc' : List Flow), ds = [flowsD acc', .i j] ∧ j ≤ l.length ∧ acc' = acc ++ (l.take j).map (flowAt m)) (fun ds => l.length - (ds.getD 1 .u).int.toNat) ⟨0, acc, ?_, by omega, by simp⟩ ?_
    · simp only [nrm, X.den, Env.put, Env.pre, reduceIte, Nat.reduceLT, Nat.reduceSub, Nat.reduceAdd]; rfl
    rintro ds - ⟨j, acc', rfl, hj, hs⟩
    have hal : acc'.length = acc.length + j := by rw [hs]; simp; omega
    refine den_ite (fun hlt' => ?_) (fun hge' => ?_)
    · simp only [nrm, X.den, Env.put, Env.pre, reduceIte, Nat.reduceLT, Nat.reduceSub, Nat.reduceAdd, len_ints] at hlt'
      have ha := hlm (l.getD j 0) (getD_mem (by omega))
      have hraw : ((intsD l).rows.getD j []).getD 0 .u = .i (l.getD j 0) := raw_int (by omega)
      have hnx : acc ++ (l.take (j + 1)).map (flowAt m) = acc' ++ [flowAt m (l.getD j 0)] := by
        rw [take_getD (by omega), hs, List.map_append, ← List.append_assoc]; rfl
      generalize hag : l.getD j 0 = a at *
      have hk1 : ((slotsD m.slots).rows.getD a.toNat []).getD 1 .u = .i (msl m a.toNat).k.a := raw_s1 (by omega)
      have hk2 : ((slotsD m.slots).rows.getD a.toNat []).getD 2 .u = .i (msl m a.toNat).k.b := raw_s2 (by omega)
      have hk3 : ((slotsD m.slots).rows.getD a.toNat []).getD 3 .u = .i (msl m a.toNat).till := raw_s3 (by omega)
      refine den_need (by simp only [nrm, X.den, Env.put, Env.pre, reduceIte, Nat.reduceLT, Nat.reduceSub, Nat.reduceAdd]; omega) (den_need (by simp only [nrm, X.den, Env.put, Env.pre, reduceIte, Nat.reduceLT, Nat.reduceSub, Nat.reduceAdd, Int.toNat_natCast, hraw]; omega) (den_need (by simp only [nrm, X.den, Env.put, Env.pre, reduceIte, Nat.reduceLT, Nat.reduceSub, Nat.reduceAdd, Int.toNat_natCast, hraw, len_slots]; omega) (den_le (by simp only [nrm, X.den, Env.put, Env.pre, reduceIte, Nat.reduceLT, Nat.reduceSub, Nat.reduceAdd, len_flows]; omega) (den_fit (by simp only [nrm, X.den, Env.put, Env.pre, reduceIte, Nat.reduceLT, Nat.reduceSub, Nat.reduceAdd]; omega) (den_back ⟨⟨j + 1, _, ?_, by omega, hnx.symm⟩, ?_⟩)))))
      · simp only [nrm, X.den, Env.put, Env.pre, reduceIte, Nat.reduceLT, Nat.reduceSub, Nat.reduceAdd, Int.toNat_natCast, hraw, hk1, hk2, hk3, CD.row, List.headD_cons, app_flow]
        rfl
      · simp only [nrm, X.den, Env.put, Env.pre, reduceIte, Nat.reduceLT, Nat.reduceSub, Nat.reduceAdd]; omega
    · simp only [nrm, X.den, Env.put, Env.pre, reduceIte, Nat.reduceLT, Nat.reduceSub, Nat.reduceAdd, len_ints] at hge'
      have hjl : j = l.length := by omega
      subst hjl
      rw [List.take_length] at hs
      refine den_fit (by simp only [nrm, X.den, Env.put, Env.pre, reduceIte, Nat.reduceLT, Nat.reduceSub, Nat.reduceAdd]; omega) (den_back2 (by decide) ⟨⟨b + 1, acc', ?_, by omega, by omega, ?_⟩, ?_⟩)
      · simp only [nrm, X.den, Env.put, Env.pre, reduceIte, Nat.reduceLT, Nat.reduceSub, Nat.reduceAdd]; rfl
      · rw [ht, hs]
      · simp only [nrm, X.den, Env.put, Env.pre, reduceIte, Nat.reduceLT, Nat.reduceSub, Nat.reduceAdd]; omega
  · simp only [nrm, X.den, Env.put, Env.pre, reduceIte, Nat.reduceLT, Nat.reduceSub, Nat.reduceAdd, len_ints] at hge ⊢
    rw [show m.heads.length - b = 0 from by omega] at ht
    rw [ht]; rfl

/-! ### A closed fact -/
def hM0 : Mem := ⟨[default, default], [-1, -2], [1, 0], [-1, -1], 0⟩
def hM1 : Mem := ⟨[⟨1, ⟨1, 2⟩, 5, false, 0⟩, default], [-1, -2], [1], [-1, -1], 0⟩
def hM2 : Mem := ⟨[⟨1, ⟨1, 2⟩, 5, true, -2⟩, default], [-1, 1], [1], [-1, -1], 0⟩
def hM3 : Mem := ⟨[⟨1, ⟨1, 2⟩, 5, true, -2⟩, default], [-1, -2], [1], [-1, -1], 0⟩
theorem h0 : newMem 2 2 = (hM0, 0) := by decide +kernel
theorem h1 : taken hM0 ⟨1, 2⟩ 5 = (hM1, 0, 0) := by decide +kernel
theorem h2 : linked hM1 0 = (hM2, 0) := by decide +kernel
theorem h3 : flowsR hM2 = ([⟨⟨1, 2⟩, 0, 5⟩], 0) := by decide +kernel
theorem h4 : without hM2 ⟨1, 2⟩ = (hM3, 0, 0) := by decide +kernel
theorem h5 : slotsOf hM3 1 = ([], 0) := by decide +kernel
def s73 : Sig := ⟨[], [.one (.bool)]⟩
def d73 : DC := ⟨s73, fun _ => True, fun _ => [.b true]⟩
def l73 : List (Nat × Ct) := [(57, d57.ct), (54, d54.ct), (82, d82.ct), (71, d71.ct), (83, d83.ct), (70, d70.ct), (75, d75.ct)]
def z73 : Cx := { T := ttA, C := sigs l73, F := [], hints := [], sig := s73 }
def t73 : Tree :=
 (.call 57 [.int 2, .int 2] 0
 (.call 54 [.var 0, .var 1, .var 2, .var 3, .var 4, .int 1, .int 2, .int 5] 6
 (.call 82 [.var 6, .var 7, .var 8, .var 9, .var 10, .var 11] 13
 (.call 71 [.var 13, .var 14, .var 15, .var 16, .var 17] 19
 (.call 83 [.var 13, .var 14, .var 15, .var 16, .var 17, .int 1, .int 2] 21
 (.call 70 [.var 21, .var 22, .var 23, .var 24, .var 25, .int 1] 28
 (.ite (.eq (.var 5) (.int 0))
  (.ite (.eq (.var 12) (.int 0))
   (.ite (.eq (.var 18) (.int 0))
    (.ite (.eq (.var 20) (.int 0))
     (.ite (.eq (.var 27) (.int 0))
      (.ite (.eq (.var 29) (.int 0))
       (.call 75 [.var 19, .cons (.int 1) (.cons (.int 2) (.cons (.int 0) (.cons (.int 5) .row0)))] 30
       (.ite (.var 30)
        (.ite (.eq (.var 26) (.int 0))
         (.ite (.eq (.len (.var 28)) (.int 0))
          (.need (.lt (.int 0) (.len (.var 21)))
          (.ite (.cell (.var 21) (.int 0) 4)
           (.ret [.eq (.cell (.var 21) (.int 0) 5) (.int (-2))])
           (.ret [.bool false])))
          (.ret [.bool false]))
         (.ret [.bool false]))
        (.ret [.bool false])))
       (.ret [.bool false]))
      (.ret [.bool false]))
     (.ret [.bool false]))
    (.ret [.bool false]))
   (.ret [.bool false]))
  (.ret [.bool false]))))))))
theorem run73 : run z73 6000 [.code (Try.f73.body.getD .skip), .fin (topRet z73 Try.f73.results.toList 50)] { fn := 73, tmps := z73.sig.args0 ++ List.replicate (Try.f73.ntmps - z73.sig.args0.length) (.v (.one .undef)), stk := [], h := z73.sig.h0, nx := z73.sig.ins.length, known := [] } = t73 := by kernel_rfl
theorem ok73 : CtOk Try.prog 73 d73.ct := by
  refine dc_of_tree (d := d73) (Z := z73) (Γ := gam l73) (fn := Try.f73) (c := Try.f73.body.getD .skip) (told_of tok mixed (all_cons ok57 (all_cons ok54 (all_cons ok82 (all_cons ok71 (all_cons ok83 (all_cons ok70 (all_cons ok75 all_nil))))))) fok_nil) Try.func73 (by kernel_rfl) (by kernel_rfl) rfl run73 fun E hk hp => ?_
  clear hk
  have el : letters E d73.sig.ins.length = [] := rfl
  rw [el] at hp
  rw [el]
  rw [Env.pre_eq el]
  clear el
  simp only [d73]
  unfold t73
  refine den_calle d57 (hM0.cds ++ [.i 0]) rfl trivial (by simp only [nrm, X.den, Env.put, Env.pre, reduceIte, Nat.reduceLT, Nat.reduceSub, Nat.reduceAdd, fn57c, h0]) ?_
  refine den_calle d54 (hM1.cds ++ [.i 0, .i 0]) rfl trivial (by simp only [nrm, X.den, Env.put, Env.pre, reduceIte, Nat.reduceLT, Nat.reduceSub, Nat.reduceAdd, Mem.cds, List.cons_append, List.nil_append, fn54, h1]) ?_
  refine den_calle d82 (hM2.cds ++ [.i 0]) rfl trivial (by simp only [nrm, X.den, Env.put, Env.pre, reduceIte, Nat.reduceLT, Nat.reduceSub, Nat.reduceAdd, Mem.cds, List.cons_append, List.nil_append, fn82, h2]) ?_
  refine den_calle d71 [flowsD [⟨⟨1, 2⟩, 0, 5⟩], .i 0] rfl trivial (by simp only [nrm, X.den, Env.put, Env.pre, reduceIte, Nat.reduceLT, Nat.reduceSub, Nat.reduceAdd, Mem.cds, List.cons_append, List.nil_append, fn71, h3]) ?_
  refine den_calle d83 (hM3.cds ++ [.i 0, .i 0]) rfl trivial (by simp only [nrm, X.den, Env.put, Env.pre, reduceIte, Nat.reduceLT, Nat.reduceSub, Nat.reduceAdd, Mem.cds, List.cons_append, List.nil_append, fn83, h4]) ?_
  refine den_calle d70 [intsD [], .i 0] rfl trivial (by simp only [nrm, X.den, Env.put, Env.pre, reduceIte, Nat.reduceLT, Nat.reduceSub, Nat.reduceAdd, Mem.cds, List.cons_append, List.nil_append, fn70, h5]) ?_
  refine den_ift (by simp only [nrm, X.den, Env.put, Env.pre, reduceIte, Nat.reduceLT, Nat.reduceSub, Nat.reduceAdd, Mem.cds, List.cons_append, List.nil_append]) ?_
  refine den_ift (by simp only [nrm, X.den, Env.put, Env.pre, reduceIte, Nat.reduceLT, Nat.reduceSub, Nat.reduceAdd, Mem.cds, List.cons_append, List.nil_append]) ?_
  refine den_ift (by simp only [nrm, X.den, Env.put, Env.pre, reduceIte, Nat.reduceLT, Nat.reduceSub, Nat.reduceAdd, Mem.cds, List.cons_append, List.nil_append]) ?_
  refine den_ift (by simp only [nrm, X.den, Env.put, Env.pre, reduceIte, Nat.reduceLT, Nat.reduceSub, Nat.reduceAdd, Mem.cds, List.cons_append, List.nil_append]) ?_
  refine den_ift (by simp only [nrm, X.den, Env.put, Env.pre, reduceIte, Nat.reduceLT, Nat.reduceSub, Nat.reduceAdd, Mem.cds, List.cons_append, List.nil_append]) ?_
  refine den_ift (by simp only [nrm, X.den, Env.put, Env.pre, reduceIte, Nat.reduceLT, Nat.reduceSub, Nat.reduceAdd, Mem.cds, List.cons_append, List.nil_append]) ?_
  refine den_calle d75 [.b true] rfl trivial ?_ (den_ift (by simp only [nrm, X.den, Env.put, Env.pre, reduceIte, Nat.reduceLT, Nat.reduceSub, Nat.reduceAdd]) ?_)
  · simp only [nrm, X.den, Env.put, Env.pre, reduceIte, Nat.reduceLT, Nat.reduceSub, Nat.reduceAdd, Mem.cds, List.cons_append, List.nil_append]
    rfl
  refine den_ift (by simp only [nrm, X.den, Env.put, Env.pre, reduceIte, Nat.reduceLT, Nat.reduceSub, Nat.reduceAdd, Mem.cds, List.cons_append, List.nil_append]) ?_
  refine den_ift (by simp only [nrm, X.den, Env.put, Env.pre, reduceIte, Nat.reduceLT, Nat.reduceSub, Nat.reduceAdd, Mem.cds, List.cons_append, List.nil_append, len_ints]; rfl) ?_
  refine den_need (by simp only [nrm, X.den, Env.put, Env.pre, reduceIte, Nat.reduceLT, Nat.reduceSub, Nat.reduceAdd, Mem.cds, List.cons_append, List.nil_append, len_slots]; decide) (den_ift (by simp only [nrm, X.den, Env.put, Env.pre, reduceIte, Nat.reduceLT, Nat.reduceSub, Nat.reduceAdd, Mem.cds, List.cons_append, List.nil_append]; rfl) (den_ret ?_))
  simp only [nrm, X.den, Env.put, Env.pre, reduceIte, Nat.reduceLT, Nat.reduceSub, Nat.reduceAdd, Mem.cds, List.cons_append, List.nil_append]
  rfl
end Go.Proofs.Ytpmamacjepcdmaa
