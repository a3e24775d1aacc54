/- Contracts: slices.Equal, Clone, Index, Contains. -/
import Derived.Test.YtpmamacjepcdmaaCBase
namespace Go.Proofs.Ytpmamacjepcdmaa
open Go Go.Sy Go.RowKit
set_option linter.unusedSimpArgs false

/-! ### Plain -/
theorem take_succ_eq {α : Type} [Inhabited α] {l m : List α} {i : Nat} (hi : i < l.length) (hm : l.length = m.length) : l.take (i + 1) = m.take (i + 1) ↔ l.take i = m.take i ∧ l.getD i default = m.getD i default := by
  have hi' : i < m.length := by omega
  rw [List.take_succ_eq_append_getElem hi, List.take_succ_eq_append_getElem hi']
  simp only [List.getD_eq_getElem?_getD, List.getElem?_eq_getElem hi, List.getElem?_eq_getElem hi', Option.getD_some]
  constructor
  · intro h
    have := List.append_inj' h rfl
    exact ⟨this.1, by simpa using this.2⟩
  · rintro ⟨h1, h2⟩
    rw [h1, h2]
theorem eq_of_takes {α : Type} {l m : List α} {i : Nat} (hi : l.length ≤ i) (hm : l.length = m.length) (h : l.take i = m.take i) : l = m := by
  rwa [List.take_of_length_le hi, List.take_of_length_le (by omega)] at h
theorem ne_of_getD {α : Type} [Inhabited α] {l m : List α} (i : Nat) (h : l.getD i default ≠ m.getD i default) : l ≠ m := fun e => h (by rw [e])

def s39 : Sig := ⟨[.one (.fz kI), .one (.fz kI)], [.one (.bool)]⟩
def d39 : DC := ⟨s39, fun _ => True, fun l => [.b (decide ((l.getD 0 .u).ints = (l.getD 1 .u).ints))]⟩
def l39 : List (Nat × Ct) := []
def z39 : Cx := { T := ttA, C := sigs l39, F := [], hints := [⟨39, 4, false, [(13, .lt)], [], []⟩], sig := s39 }
def t39 : Tree :=
 (.ite (.not (.eq (.len (.var 0)) (.len (.var 1))))
  (.ret [.bool false])
  (.loop 2 [.int .i64] [.int 0]
  (.ite (.lt (.var 3) (.len (.var 0)))
   (.need (.le (.int 0) (.var 3))
   (.need (.lt (.var 3) (.len (.var 1)))
   (.ite (.not (.eq (.cell (.var 0) (.var 3) 0) (.cell (.var 1) (.var 3) 0)))
    (.ret [.bool false])
    (.need (.fit (.add (.var 3) (.int 1)))
    (.back 2 [.add (.var 3) (.int 1)])))))
   (.ret [.bool true]))))
theorem run39 : run z39 6000 [.code (Try.f39.body.getD .skip), .fin (topRet z39 Try.f39.results.toList 50)] { fn := 39, tmps := z39.sig.args0 ++ List.replicate (Try.f39.ntmps - z39.sig.args0.length) (.v (.one .undef)), stk := [], h := z39.sig.h0, nx := z39.sig.ins.length, known := [] } = t39 := by kernel_rfl
theorem ok39 : CtOk Try.prog 39 d39.ct := by
  refine dc_of_tree (d := d39) (Z := z39) (Γ := gam l39) (fn := Try.f39) (c := Try.f39.body.getD .skip) (told_of tok mixed all_nil fok_nil) Try.func39 (by kernel_rfl) (by kernel_rfl) rfl run39 fun E hk hp => ?_
  obtain ⟨hk0, hk1, _⟩ := hk
  obtain ⟨l, e0, b0⟩ := ok_ints (d := E 0) hk0
  have b0 : l.length * 8 ≤ 140737488355328 := b0
  obtain ⟨l2, e1, b1⟩ := ok_ints (d := E 1) hk1
  have b1 : l2.length * 8 ≤ 140737488355328 := b1
  have el : letters E d39.sig.ins.length = [intsD l, intsD l2] := by
    show [E 0, E 1] = _
    rw [e0, e1]
  rw [el] at hp
  rw [el]
  simp only [d39, List.getD_cons_zero, List.getD_cons_succ, ints_intsD]
  unfold t39
  refine den_ite (fun h => ?_) (fun h => ?_)
  · simp only [List.map_cons, List.map_nil, X.den, Env.put, CD.int_i, CD.bool_b, CD.rows_l, decide_eq_true_eq, decide_eq_false_iff_not, beq_iff_eq, beq_eq_false_iff_ne, List.getD_cons_zero, List.getD_cons_succ, reduceIte, Nat.reduceLT, Nat.reduceSub, Nat.reduceAdd, e0, e1, len_ints, Bool.not_eq_true', not_false_eq_true] at h
    refine den_ret ?_
    simp only [List.map_cons, List.map_nil, X.den, Env.put, CD.int_i, CD.bool_b, CD.rows_l, decide_eq_true_eq, decide_eq_false_iff_not, beq_iff_eq, beq_eq_false_iff_ne, List.getD_cons_zero, List.getD_cons_succ, reduceIte, Nat.reduceLT, Nat.reduceSub, Nat.reduceAdd]
    rw [decide_eq_false (fun e => h (by rw [e]))]
  · simp only [List.map_cons, List.map_nil, X.den, Env.put, CD.int_i, CD.bool_b, CD.rows_l, decide_eq_true_eq, decide_eq_false_iff_not, beq_iff_eq, beq_eq_false_iff_ne, List.getD_cons_zero, List.getD_cons_succ, reduceIte, Nat.reduceLT, Nat.reduceSub, Nat.reduceAdd, e0, e1, len_ints, Bool.not_eq_false', Int.natCast_inj] at h
    refine den_loop (fun ds => ∃ i : Nat, ds = [.i i] ∧ i ≤ l.length ∧ l.take i = l2.take i) (fun ds => l.length - (ds.getD 0 .u).int.toNat) ⟨0, rfl, by omega, rfl⟩ ?_
    rintro ds - ⟨i, rfl, hi, ht⟩
    refine den_ite (fun h1 => ?_) (fun h1 => ?_)
    · simp only [List.map_cons, List.map_nil, X.den, Env.put, CD.int_i, CD.bool_b, CD.rows_l, decide_eq_true_eq, decide_eq_false_iff_not, beq_iff_eq, beq_eq_false_iff_ne, List.getD_cons_zero, List.getD_cons_succ, reduceIte, Nat.reduceLT, Nat.reduceSub, Nat.reduceAdd, e0, len_ints] at h1
      refine den_need (by simp only [List.map_cons, List.map_nil, X.den, Env.put, CD.int_i, CD.bool_b, CD.rows_l, decide_eq_true_eq, decide_eq_false_iff_not, beq_iff_eq, beq_eq_false_iff_ne, List.getD_cons_zero, List.getD_cons_succ, reduceIte, Nat.reduceLT, Nat.reduceSub, Nat.reduceAdd]; omega) (den_need (by simp only [List.map_cons, List.map_nil, X.den, Env.put, CD.int_i, CD.bool_b, CD.rows_l, decide_eq_true_eq, decide_eq_false_iff_not, beq_iff_eq, beq_eq_false_iff_ne, List.getD_cons_zero, List.getD_cons_succ, reduceIte, Nat.reduceLT, Nat.reduceSub, Nat.reduceAdd, e1, len_ints]; omega) (den_ite (fun h2 => ?_) (fun h2 => ?_)))
      · simp only [List.map_cons, List.map_nil, X.den, Env.put, CD.int_i, CD.bool_b, CD.rows_l, decide_eq_true_eq, decide_eq_false_iff_not, beq_iff_eq, beq_eq_false_iff_ne, List.getD_cons_zero, List.getD_cons_succ, reduceIte, Nat.reduceLT, Nat.reduceSub, Nat.reduceAdd, e0, e1, Int.toNat_natCast, cell_int, Bool.not_eq_true'] at h2
        refine den_ret ?_
        simp only [List.map_cons, List.map_nil, X.den, Env.put, CD.int_i, CD.bool_b, CD.rows_l, decide_eq_true_eq, decide_eq_false_iff_not, beq_iff_eq, beq_eq_false_iff_ne, List.getD_cons_zero, List.getD_cons_succ, reduceIte, Nat.reduceLT, Nat.reduceSub, Nat.reduceAdd]
        rw [decide_eq_false (ne_of_getD (α := Int) i h2)]
      · simp only [List.map_cons, List.map_nil, X.den, Env.put, CD.int_i, CD.bool_b, CD.rows_l, decide_eq_true_eq, decide_eq_false_iff_not, beq_iff_eq, beq_eq_false_iff_ne, List.getD_cons_zero, List.getD_cons_succ, reduceIte, Nat.reduceLT, Nat.reduceSub, Nat.reduceAdd, e0, e1, Int.toNat_natCast, cell_int, Bool.not_eq_false'] at h2
        refine den_fit (by simp only [List.map_cons, List.map_nil, X.den, Env.put, CD.int_i, CD.bool_b, CD.rows_l, decide_eq_true_eq, decide_eq_false_iff_not, beq_iff_eq, beq_eq_false_iff_ne, List.getD_cons_zero, List.getD_cons_succ, reduceIte, Nat.reduceLT, Nat.reduceSub, Nat.reduceAdd]; omega) (den_back ⟨⟨i + 1, ?_, by omega, (take_succ_eq (by omega) h).2 ⟨ht, h2⟩⟩, ?_⟩)
        · simp only [List.map_cons, List.map_nil, X.den, Env.put, CD.int_i, CD.bool_b, CD.rows_l, decide_eq_true_eq, decide_eq_false_iff_not, beq_iff_eq, beq_eq_false_iff_ne, List.getD_cons_zero, List.getD_cons_succ, reduceIte, Nat.reduceLT, Nat.reduceSub, Nat.reduceAdd]; rfl
        · simp only [List.map_cons, List.map_nil, X.den, Env.put, CD.int_i, CD.bool_b, CD.rows_l, decide_eq_true_eq, decide_eq_false_iff_not, beq_iff_eq, beq_eq_false_iff_ne, List.getD_cons_zero, List.getD_cons_succ, reduceIte, Nat.reduceLT, Nat.reduceSub, Nat.reduceAdd]; omega
    · simp only [List.map_cons, List.map_nil, X.den, Env.put, CD.int_i, CD.bool_b, CD.rows_l, decide_eq_true_eq, decide_eq_false_iff_not, beq_iff_eq, beq_eq_false_iff_ne, List.getD_cons_zero, List.getD_cons_succ, reduceIte, Nat.reduceLT, Nat.reduceSub, Nat.reduceAdd, e0, len_ints] at h1
      refine den_ret ?_
      simp only [List.map_cons, List.map_nil, X.den, Env.put, CD.int_i, CD.bool_b, CD.rows_l, decide_eq_true_eq, decide_eq_false_iff_not, beq_iff_eq, beq_eq_false_iff_ne, List.getD_cons_zero, List.getD_cons_succ, reduceIte, Nat.reduceLT, Nat.reduceSub, Nat.reduceAdd]
      rw [decide_eq_true (eq_of_takes (by omega) h ht)]
end Go.Proofs.Ytpmamacjepcdmaa
