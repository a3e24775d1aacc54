/- Contracts: memory. -/
import Derived.Test.YtpmamacjepcdmaaCFrame
namespace Go.Proofs.Ytpmamacjepcdmaa
open Go Go.Sy Go.RowKit
set_option linter.unusedSimpArgs false
set_option linter.unusedVariables false

/-! ### What Check says -/
abbrev Points (ns nh : Nat) (n : Int) : Prop := n ≤ ns ∧ -(nh : Int) ≤ n
def slotErr (ns nh : Nat) (s : Slot) : Int := if s.refs < 0 ∨ 1000 < s.refs ∨ s.till < 0 ∨ 2000000 < s.till then 3 else if checkKey s.k ≠ 0 then 3 else if Points ns nh s.next then 0 else 5
def slotsErr (ns nh : Nat) : List Slot → Int
  | [] => 0
  | s :: l => if slotErr ns nh s ≠ 0 then slotErr ns nh s else slotsErr ns nh l
def headErr (ns nh : Nat) (h k : Int) : Int := if h = 0 then 5 else if Points ns nh h then (if k < -1 ∨ 5 ≤ k then 3 else 0) else 5
def headsErr (ns nh : Nat) : List Int → List Int → Int
  | h :: l, k :: m => if headErr ns nh h k ≠ 0 then headErr ns nh h k else headsErr ns nh l m
  | _, _ => 0
def freeScan (slots : List Slot) : List Int → List Bool → Int × List Bool
  | [], seen => (0, seen)
  | k :: l, seen => if k < 0 ∨ slots.length ≤ k then (5, seen) else if (slots.getD k.toNat default).refs ≠ 0 then (5, seen) else if seen.getD k.toNat false = true then (6, seen) else freeScan slots l (seen.set k.toNat true)
def leakErr : List Slot → List Bool → Int
  | s :: l, b :: m => if s.refs = 0 ∧ b = false then 4 else leakErr l m
  | _, _ => 0
def checkMem (m : Mem) : Int :=
  if 12 < m.slots.length ∨ m.heads.length < 1 ∨ 4 < m.heads.length then 2
  else if m.locks.length ≠ m.heads.length then 4
  else if m.now < 0 ∨ 1000000 < m.now then 3
  else if slotsErr m.slots.length m.heads.length m.slots ≠ 0 then slotsErr m.slots.length m.heads.length m.slots
  else if headsErr m.slots.length m.heads.length m.heads m.locks ≠ 0 then headsErr m.slots.length m.heads.length m.heads m.locks
  else if (freeScan m.slots m.free (List.replicate m.slots.length false)).1 ≠ 0 then (freeScan m.slots m.free (List.replicate m.slots.length false)).1
  else leakErr m.slots (freeScan m.slots m.free (List.replicate m.slots.length false)).2
theorem freeScan_length (slots : List Slot) : ∀ (l : List Int) (seen : List Bool), (freeScan slots l seen).2.length = seen.length
  | [], _ => rfl
  | k :: l, seen => by
    simp only [freeScan]
    split
    · rfl
    · split
      · rfl
      · split
        · rfl
        · rw [freeScan_length slots l]; simp
theorem slotsErr_step {ns nh : Nat} {l : List Slot} {i : Nat} (h : i < l.length) : slotsErr ns nh (l.drop i) = if slotErr ns nh (l.getD i default) ≠ 0 then slotErr ns nh (l.getD i default) else slotsErr ns nh (l.drop (i + 1)) := by
  rw [drop_getD h]; rfl
theorem headsErr_step {ns nh : Nat} {l m : List Int} {i : Nat} (h : i < l.length) (h' : i < m.length) : headsErr ns nh (l.drop i) (m.drop i) = if headErr ns nh (l.getD i 0) (m.getD i 0) ≠ 0 then headErr ns nh (l.getD i 0) (m.getD i 0) else headsErr ns nh (l.drop (i + 1)) (m.drop (i + 1)) := by
  rw [drop_getD h, drop_getD h']; rfl
theorem freeScan_step {slots : List Slot} {l : List Int} {seen : List Bool} {i : Nat} (h : i < l.length) : freeScan slots (l.drop i) seen = if l.getD i 0 < 0 ∨ slots.length ≤ l.getD i 0 then (5, seen) else if (slots.getD (l.getD i 0).toNat default).refs ≠ 0 then (5, seen) else if seen.getD (l.getD i 0).toNat false = true then (6, seen) else freeScan slots (l.drop (i + 1)) (seen.set (l.getD i 0).toNat true) := by
  rw [drop_getD h]; rfl
theorem leakErr_step {l : List Slot} {m : List Bool} {i : Nat} (h : i < l.length) (h' : i < m.length) : leakErr (l.drop i) (m.drop i) = if (l.getD i default).refs = 0 ∧ m.getD i false = false then 4 else leakErr (l.drop (i + 1)) (m.drop (i + 1)) := by
  rw [drop_getD h, drop_getD h']; rfl
theorem key_of_any (a b : CD) (l : List CD) : Key.of (a :: b :: l) = ⟨a.int, b.int⟩ := rfl

def s51 : Sig := ⟨[.agg [.fz kS, .fz kI, .fz kI, .fz kI, .int .i64]], [.one (.int .i64)]⟩
def d51 : DC := ⟨s51, fun _ => True, fun l => [.i (checkMem (Mem.of l))]⟩
def l51 : List (Nat × Ct) := [(52, d52.ct), (160, d160.ct)]
def z51 : Cx := { T := ttA, C := sigs l51, F := [], hints := [⟨51, 8, false, [(46, .lt)], [], [], []⟩, ⟨51, 16, false, [(83, .lt)], [], [], []⟩, ⟨51, 25, false, [(118, .lt), (7, .own 4 kB)], [], [], []⟩, ⟨51, 34, false, [(151, .lt)], [], [], []⟩], sig := s51 }
def t51 : Tree :=
 (.ite (.lt (.int 12) (.len (.var 0)))
  (.ret [.int 2])
  (.ite (.lt (.len (.var 1)) (.int 1))
   (.ret [.int 2])
   (.ite (.lt (.int 4) (.len (.var 1)))
    (.ret [.int 2])
    (.ite (.not (.eq (.len (.var 3)) (.len (.var 1))))
     (.ret [.int 4])
     (.ite (.lt (.var 4) (.int 0))
      (.ret [.int 3])
      (.ite (.lt (.int 1000000) (.var 4))
       (.ret [.int 3])
       (.loop 5 [.int .i64] [.int 0]
       (.ite (.lt (.var 6) (.len (.var 0)))
        (.need (.le (.int 0) (.var 6))
        (.ite (.lt (.cell (.var 0) (.var 6) 0) (.int 0))
         (.ret [.int 3])
         (.ite (.lt (.int 1000) (.cell (.var 0) (.var 6) 0))
          (.ret [.int 3])
          (.ite (.lt (.cell (.var 0) (.var 6) 3) (.int 0))
           (.ret [.int 3])
           (.ite (.lt (.int 2000000) (.cell (.var 0) (.var 6) 3))
            (.ret [.int 3])
            (.call 52 [.cell (.var 0) (.var 6) 1, .cell (.var 0) (.var 6) 2] 7
            (.ite (.not (.eq (.var 7) (.int 0)))
             (.ret [.int 3])
             (.call 160 [.var 0, .var 1, .var 2, .var 3, .var 4, .cell (.var 0) (.var 6) 5] 8
             (.ite (.not (.var 8))
              (.ret [.int 5])
              (.need (.fit (.add (.var 6) (.int 1)))
              (.back 5 [.add (.var 6) (.int 1)])))))))))))
        (.loop 7 [.int .i64] [.int 0]
        (.ite (.lt (.var 8) (.len (.var 1)))
         (.need (.le (.int 0) (.var 8))
         (.ite (.eq (.cell (.var 1) (.var 8) 0) (.int 0))
          (.ret [.int 5])
          (.call 160 [.var 0, .var 1, .var 2, .var 3, .var 4, .cell (.var 1) (.var 8) 0] 9
          (.ite (.not (.var 9))
           (.ret [.int 5])
           (.need (.lt (.var 8) (.len (.var 3)))
           (.ite (.lt (.cell (.var 3) (.var 8) 0) (.int (-1)))
            (.ret [.int 3])
            (.ite (.le (.int 5) (.cell (.var 3) (.var 8) 0))
             (.ret [.int 3])
             (.need (.fit (.add (.var 8) (.int 1)))
             (.back 7 [.add (.var 8) (.int 1)])))))))))
         (.need (.le (.len (.var 0)) (.int 140737488355328))
         (.loop 9 [.sl 1 [.bool], .int .i64] [.rep (.len (.var 0)) (.cons (.bool false) .row0), .int 0]
         (.ite (.lt (.var 11) (.len (.var 2)))
          (.need (.le (.int 0) (.var 11))
          (.ite (.lt (.cell (.var 2) (.var 11) 0) (.int 0))
           (.ret [.int 5])
           (.ite (.le (.len (.var 0)) (.cell (.var 2) (.var 11) 0))
            (.ret [.int 5])
            (.need (.le (.int 0) (.cell (.var 2) (.var 11) 0))
            (.need (.lt (.cell (.var 2) (.var 11) 0) (.len (.var 0)))
            (.ite (.not (.eq (.cell (.var 0) (.cell (.var 2) (.var 11) 0) 0) (.int 0)))
             (.ret [.int 5])
             (.need (.lt (.cell (.var 2) (.var 11) 0) (.len (.var 10)))
             (.ite (.cell (.var 10) (.cell (.var 2) (.var 11) 0) 0)
              (.ret [.int 6])
              (.need (.fit (.add (.var 11) (.int 1)))
              (.back 9 [.set (.var 10) (.cell (.var 2) (.var 11) 0) 0 (.bool true), .add (.var 11) (.int 1)]))))))))))
          (.loop 12 [.int .i64] [.int 0]
          (.ite (.lt (.var 13) (.len (.var 0)))
           (.need (.le (.int 0) (.var 13))
           (.ite (.eq (.cell (.var 0) (.var 13) 0) (.int 0))
            (.need (.lt (.var 13) (.len (.var 10)))
            (.ite (.not (.cell (.var 10) (.var 13) 0))
             (.ret [.int 4])
             (.need (.fit (.add (.var 13) (.int 1)))
             (.back 12 [.add (.var 13) (.int 1)]))))
            (.need (.fit (.add (.var 13) (.int 1)))
            (.back 12 [.add (.var 13) (.int 1)]))))
           (.ret [.int 0]))))))))))))))))
theorem run51 : run z51 6000 [.code (Try.f51.body.getD .skip), .fin (topRet z51 Try.f51.results.toList 50)] { fn := 51, tmps := z51.sig.args0 ++ List.replicate (Try.f51.ntmps - z51.sig.args0.length) (.v (.one .undef)), stk := [], h := z51.sig.h0, nx := z51.sig.ins.length, known := [] } = t51 := by kernel_rfl
theorem ok51 : CtOk Try.prog 51 d51.ct := by
  refine dc_of_tree (d := d51) (Z := z51) (Γ := gam l51) (fn := Try.f51) (c := Try.f51.body.getD .skip) (told_of tok mixed (all_cons ok52 (all_cons ok160 all_nil)) fok_nil) Try.func51 (by kernel_rfl) (by kernel_rfl) rfl run51 fun E hk hp => ?_
  obtain ⟨hk0, hk1, hk2, hk3, hk4, _⟩ := hk
  obtain ⟨m, e0, e1, e2, e3, e4, b0, b1, b2, b3⟩ := ok_mem (d0 := E 0) (d1 := E 1) (d2 := E 2) (d3 := E 3) (d4 := E 4) hk0 hk1 hk2 hk3 hk4
  have el : letters E d51.sig.ins.length = [slotsD m.slots, intsD m.heads, intsD m.free, intsD m.locks, .i m.now] := by
    show [E 0, E 1, E 2, E 3, E 4] = _
    rw [e0, e1, e2, e3, e4]
  rw [el] at hp
  rw [el]
  rw [Env.pre_eq el]
  clear el e0 e1 e2 e3 e4
  simp only [d51, mem_of, mem_eta]
  unfold t51
  refine den_ite (fun h => ?_) (fun h1 => den_ite (fun h => ?_) (fun h2 => den_ite (fun h => ?_) (fun h3 => den_ite (fun h => ?_) (fun h4 => den_ite (fun h => ?_) (fun h5 => den_ite (fun h => ?_) (fun h6 => ?_))))))
  case refine_1 | refine_2 | refine_3 | refine_4 | refine_5 | refine_6 =>
    refine den_ret ?_
    simp only [List.map_cons, List.map_nil, X.den, Env.put, Env.pre, List.length_cons, List.length_nil, Nat.zero_add, CD.int_i, CD.bool_b, CD.rows_l, decide_eq_true_eq, decide_eq_false_iff_not, beq_iff_eq, beq_eq_false_iff_ne, List.getD_cons_zero, List.getD_cons_succ, reduceIte, Nat.reduceLT, Nat.reduceSub, Nat.reduceAdd, len_slots, len_ints, Bool.not_eq_true', Bool.not_eq_false'] at *
    unfold checkMem
    repeat (first | rw [if_pos (by omega)] | rw [if_neg (by omega)])
  simp only [List.map_cons, List.map_nil, X.den, Env.put, Env.pre, List.length_cons, List.length_nil, Nat.zero_add, CD.int_i, CD.bool_b, CD.rows_l, decide_eq_true_eq, decide_eq_false_iff_not, beq_iff_eq, beq_eq_false_iff_ne, List.getD_cons_zero, List.getD_cons_succ, reduceIte, Nat.reduceLT, Nat.reduceSub, Nat.reduceAdd, len_slots, len_ints, Bool.not_eq_true', Bool.not_eq_false'] at h1 h2 h3 h4 h5 h6
  unfold checkMem
  rw [if_neg (by omega), if_neg (by omega), if_neg (by omega)]
  have hl : m.locks.length = m.heads.length := by omega
  -- the slots
  refine den_loop (fun ds => ∃ i : Nat, ds = [.i i] ∧ i ≤ m.slots.length ∧ slotsErr m.slots.length m.heads.length m.slots = slotsErr m.slots.length m.heads.length (m.slots.drop i)) (fun ds => m.slots.length - (ds.getD 0 .u).int.toNat) ⟨0, rfl, by omega, rfl⟩ ?_
  rintro ds - ⟨i, rfl, hi, ht⟩
  refine den_ite (fun hlt => ?_) (fun hge => ?_)
  · simp only [List.map_cons, List.map_nil, X.den, Env.put, Env.pre, List.length_cons, List.length_nil, Nat.zero_add, CD.int_i, CD.bool_b, CD.rows_l, decide_eq_true_eq, decide_eq_false_iff_not, beq_iff_eq, beq_eq_false_iff_ne, List.getD_cons_zero, List.getD_cons_succ, reduceIte, Nat.reduceLT, Nat.reduceSub, Nat.reduceAdd, Nat.lt_irrefl, len_slots] at hlt
    have hs := slotsErr_step (ns := m.slots.length) (nh := m.heads.length) (l := m.slots) (i := i) (by omega)
    refine den_need (by simp only [List.map_cons, List.map_nil, X.den, Env.put, Env.pre, List.length_cons, List.length_nil, Nat.zero_add, CD.int_i, CD.bool_b, CD.rows_l, decide_eq_true_eq, decide_eq_false_iff_not, beq_iff_eq, beq_eq_false_iff_ne, List.getD_cons_zero, List.getD_cons_succ, reduceIte, Nat.reduceLT, Nat.reduceSub, Nat.reduceAdd, Nat.lt_irrefl]; omega) ?_
    have bad : ∀ e : Int, e ≠ 0 → slotErr m.slots.length m.heads.length (m.slots.getD i default) = e → [CD.i e] = [CD.i (if slotsErr m.slots.length m.heads.length m.slots ≠ 0 then slotsErr m.slots.length m.heads.length m.slots else if headsErr m.slots.length m.heads.length m.heads m.locks ≠ 0 then headsErr m.slots.length m.heads.length m.heads m.locks
        else if (freeScan m.slots m.free (List.replicate m.slots.length false)).1 ≠ 0 then (freeScan m.slots m.free (List.replicate m.slots.length false)).1 else leakErr m.slots (freeScan m.slots m.free (List.replicate m.slots.length false)).2)] := fun e he hx => by
      have : slotsErr m.slots.length m.heads.length m.slots = e := by rw [ht, hs, hx, if_pos he]
      rw [this, if_pos he]
    refine den_ite (fun c1 => den_ret ?_) (fun c1 => den_ite (fun c2 => den_ret ?_) (fun c2 => den_ite (fun c3 => den_ret ?_) (fun c3 => den_ite (fun c4 => den_ret ?_) (fun c4 => ?_))))
    case refine_1 | refine_2 | refine_3 | refine_4 =>
      simp only [List.map_cons, List.map_nil, X.den, Env.put, Env.pre, List.length_cons, List.length_nil, Nat.zero_add, CD.int_i, CD.bool_b, CD.rows_l, decide_eq_true_eq, decide_eq_false_iff_not, beq_iff_eq, beq_eq_false_iff_ne, List.getD_cons_zero, List.getD_cons_succ, reduceIte, Nat.reduceLT, Nat.reduceSub, Nat.reduceAdd, Nat.lt_irrefl, Nat.sub_self, Int.toNat_natCast, cell_s0, cell_s3] at *
      exact bad 3 (by decide) (by unfold slotErr; rw [if_pos (by omega)])
    simp only [List.map_cons, List.map_nil, X.den, Env.put, Env.pre, List.length_cons, List.length_nil, Nat.zero_add, CD.int_i, CD.bool_b, CD.rows_l, decide_eq_true_eq, decide_eq_false_iff_not, beq_iff_eq, beq_eq_false_iff_ne, List.getD_cons_zero, List.getD_cons_succ, reduceIte, Nat.reduceLT, Nat.reduceSub, Nat.reduceAdd, Nat.lt_irrefl, Nat.sub_self, Int.toNat_natCast, cell_s0, cell_s3] at c1 c2 c3 c4
    refine den_calle d52 [.i (checkKey (m.slots.getD i default).k)] rfl trivial (by simp only [List.map_cons, List.map_nil, X.den, Env.put, Env.pre, List.length_cons, List.length_nil, Nat.zero_add, CD.int_i, CD.bool_b, CD.rows_l, decide_eq_true_eq, decide_eq_false_iff_not, beq_iff_eq, beq_eq_false_iff_ne, List.getD_cons_zero, List.getD_cons_succ, reduceIte, Nat.reduceLT, Nat.reduceSub, Nat.reduceAdd, Nat.lt_irrefl, d52, key_of_any, cell_s1, cell_s2, key_eta, Int.toNat_natCast]) (den_ite (fun c5 => den_ret ?_) (fun c5 => ?_))
    · simp only [List.map_cons, List.map_nil, X.den, Env.put, Env.pre, List.length_cons, List.length_nil, Nat.zero_add, CD.int_i, CD.bool_b, CD.rows_l, decide_eq_true_eq, decide_eq_false_iff_not, beq_iff_eq, beq_eq_false_iff_ne, List.getD_cons_zero, List.getD_cons_succ, reduceIte, Nat.reduceLT, Nat.reduceSub, Nat.reduceAdd, Nat.lt_irrefl, Nat.sub_self, Bool.not_eq_true'] at c5
      exact bad 3 (by decide) (by unfold slotErr; rw [if_neg (by omega), if_pos c5])
    simp only [List.map_cons, List.map_nil, X.den, Env.put, Env.pre, List.length_cons, List.length_nil, Nat.zero_add, CD.int_i, CD.bool_b, CD.rows_l, decide_eq_true_eq, decide_eq_false_iff_not, beq_iff_eq, beq_eq_false_iff_ne, List.getD_cons_zero, List.getD_cons_succ, reduceIte, Nat.reduceLT, Nat.reduceSub, Nat.reduceAdd, Nat.lt_irrefl, Nat.sub_self, Bool.not_eq_false'] at c5
    refine den_calle d160 [.b (decide (Points m.slots.length m.heads.length (m.slots.getD i default).next))] rfl trivial (by simp only [List.map_cons, List.map_nil, X.den, Env.put, Env.pre, List.length_cons, List.length_nil, Nat.zero_add, CD.int_i, CD.bool_b, CD.rows_l, decide_eq_true_eq, decide_eq_false_iff_not, beq_iff_eq, beq_eq_false_iff_ne, List.getD_cons_zero, List.getD_cons_succ, reduceIte, Nat.reduceLT, Nat.reduceSub, Nat.reduceAdd, Nat.lt_irrefl, d160, mem_of, cell_s5, Int.toNat_natCast]) (den_ite (fun c6 => den_ret ?_) (fun c6 => ?_))
    · simp only [List.map_cons, List.map_nil, X.den, Env.put, Env.pre, List.length_cons, List.length_nil, Nat.zero_add, CD.int_i, CD.bool_b, CD.rows_l, decide_eq_true_eq, decide_eq_false_iff_not, beq_iff_eq, beq_eq_false_iff_ne, List.getD_cons_zero, List.getD_cons_succ, reduceIte, Nat.reduceLT, Nat.reduceSub, Nat.reduceAdd, Nat.lt_irrefl, Nat.sub_self, Bool.not_eq_true'] at c6
      exact bad 5 (by decide) (by unfold slotErr; rw [if_neg (by omega), if_neg (by omega), if_neg c6])
    simp only [List.map_cons, List.map_nil, X.den, Env.put, Env.pre, List.length_cons, List.length_nil, Nat.zero_add, CD.int_i, CD.bool_b, CD.rows_l, decide_eq_true_eq, decide_eq_false_iff_not, beq_iff_eq, beq_eq_false_iff_ne, List.getD_cons_zero, List.getD_cons_succ, reduceIte, Nat.reduceLT, Nat.reduceSub, Nat.reduceAdd, Nat.lt_irrefl, Nat.sub_self, Bool.not_eq_false'] at c6
    refine den_fit (by simp only [List.map_cons, List.map_nil, X.den, Env.put, Env.pre, List.length_cons, List.length_nil, Nat.zero_add, CD.int_i, CD.bool_b, CD.rows_l, decide_eq_true_eq, decide_eq_false_iff_not, beq_iff_eq, beq_eq_false_iff_ne, List.getD_cons_zero, List.getD_cons_succ, reduceIte, Nat.reduceLT, Nat.reduceSub, Nat.reduceAdd, Nat.lt_irrefl]; omega) (den_back ⟨⟨i + 1, ?_, by omega, ?_⟩, ?_⟩)
    · simp only [List.map_cons, List.map_nil, X.den, Env.put, Env.pre, List.length_cons, List.length_nil, Nat.zero_add, CD.int_i, CD.bool_b, CD.rows_l, decide_eq_true_eq, decide_eq_false_iff_not, beq_iff_eq, beq_eq_false_iff_ne, List.getD_cons_zero, List.getD_cons_succ, reduceIte, Nat.reduceLT, Nat.reduceSub, Nat.reduceAdd, Nat.lt_irrefl, Nat.sub_self]; rfl
    · rw [ht, hs, if_neg (fun hx => hx (by unfold slotErr; rw [if_neg (by omega), if_neg (by omega), if_pos c6]))]
    · simp only [List.map_cons, List.map_nil, X.den, Env.put, Env.pre, List.length_cons, List.length_nil, Nat.zero_add, CD.int_i, CD.bool_b, CD.rows_l, decide_eq_true_eq, decide_eq_false_iff_not, beq_iff_eq, beq_eq_false_iff_ne, List.getD_cons_zero, List.getD_cons_succ, reduceIte, Nat.reduceLT, Nat.reduceSub, Nat.reduceAdd, Nat.lt_irrefl, Nat.sub_self]; omega
  simp only [List.map_cons, List.map_nil, X.den, Env.put, Env.pre, List.length_cons, List.length_nil, Nat.zero_add, CD.int_i, CD.bool_b, CD.rows_l, decide_eq_true_eq, decide_eq_false_iff_not, beq_iff_eq, beq_eq_false_iff_ne, List.getD_cons_zero, List.getD_cons_succ, reduceIte, Nat.reduceLT, Nat.reduceSub, Nat.reduceAdd, Nat.lt_irrefl, len_slots] at hge
  have hS : slotsErr m.slots.length m.heads.length m.slots = 0 := by rw [ht, List.drop_of_length_le (by omega)]; rfl
  rw [hS, if_neg (fun h => h rfl)]
  clear hge ht hi
  -- the heads
  refine den_loop (fun ds => ∃ i : Nat, ds = [.i i] ∧ i ≤ m.heads.length ∧ headsErr m.slots.length m.heads.length m.heads m.locks = headsErr m.slots.length m.heads.length (m.heads.drop i) (m.locks.drop i)) (fun ds => m.heads.length - (ds.getD 0 .u).int.toNat) ⟨0, rfl, by omega, rfl⟩ ?_
  rintro ds - ⟨j, rfl, hj, ht⟩
  refine den_ite (fun hlt => ?_) (fun hge => ?_)
  · simp only [List.map_cons, List.map_nil, X.den, Env.put, Env.pre, List.length_cons, List.length_nil, Nat.zero_add, CD.int_i, CD.bool_b, CD.rows_l, decide_eq_true_eq, decide_eq_false_iff_not, beq_iff_eq, beq_eq_false_iff_ne, List.getD_cons_zero, List.getD_cons_succ, reduceIte, Nat.reduceLT, Nat.reduceSub, Nat.reduceAdd, Nat.lt_irrefl, len_ints] at hlt
    have hs := headsErr_step (ns := m.slots.length) (nh := m.heads.length) (l := m.heads) (m := m.locks) (i := j) (by omega) (by omega)
    refine den_need (by simp only [List.map_cons, List.map_nil, X.den, Env.put, Env.pre, List.length_cons, List.length_nil, Nat.zero_add, CD.int_i, CD.bool_b, CD.rows_l, decide_eq_true_eq, decide_eq_false_iff_not, beq_iff_eq, beq_eq_false_iff_ne, List.getD_cons_zero, List.getD_cons_succ, reduceIte, Nat.reduceLT, Nat.reduceSub, Nat.reduceAdd, Nat.lt_irrefl]; omega) ?_
    have bad : ∀ e : Int, e ≠ 0 → headErr m.slots.length m.heads.length (m.heads.getD j 0) (m.locks.getD j 0) = e → [CD.i e] = [CD.i (if headsErr m.slots.length m.heads.length m.heads m.locks ≠ 0 then headsErr m.slots.length m.heads.length m.heads m.locks
        else if (freeScan m.slots m.free (List.replicate m.slots.length false)).1 ≠ 0 then (freeScan m.slots m.free (List.replicate m.slots.length false)).1 else leakErr m.slots (freeScan m.slots m.free (List.replicate m.slots.length false)).2)] := fun e he hx => by
      have : headsErr m.slots.length m.heads.length m.heads m.locks = e := by rw [ht, hs, hx, if_pos he]
      rw [this, if_pos he]
    refine den_ite (fun c1 => den_ret ?_) (fun c1 => ?_)
    · simp only [List.map_cons, List.map_nil, X.den, Env.put, Env.pre, List.length_cons, List.length_nil, Nat.zero_add, CD.int_i, CD.bool_b, CD.rows_l, decide_eq_true_eq, decide_eq_false_iff_not, beq_iff_eq, beq_eq_false_iff_ne, List.getD_cons_zero, List.getD_cons_succ, reduceIte, Nat.reduceLT, Nat.reduceSub, Nat.reduceAdd, Nat.lt_irrefl, Nat.sub_self, Int.toNat_natCast, cell_int] at c1
      exact bad 5 (by decide) (by unfold headErr; rw [if_pos c1])
    simp only [List.map_cons, List.map_nil, X.den, Env.put, Env.pre, List.length_cons, List.length_nil, Nat.zero_add, CD.int_i, CD.bool_b, CD.rows_l, decide_eq_true_eq, decide_eq_false_iff_not, beq_iff_eq, beq_eq_false_iff_ne, List.getD_cons_zero, List.getD_cons_succ, reduceIte, Nat.reduceLT, Nat.reduceSub, Nat.reduceAdd, Nat.lt_irrefl, Nat.sub_self, Int.toNat_natCast, cell_int] at c1
    refine den_calle d160 [.b (decide (Points m.slots.length m.heads.length (m.heads.getD j 0)))] rfl trivial (by simp only [List.map_cons, List.map_nil, X.den, Env.put, Env.pre, List.length_cons, List.length_nil, Nat.zero_add, CD.int_i, CD.bool_b, CD.rows_l, decide_eq_true_eq, decide_eq_false_iff_not, beq_iff_eq, beq_eq_false_iff_ne, List.getD_cons_zero, List.getD_cons_succ, reduceIte, Nat.reduceLT, Nat.reduceSub, Nat.reduceAdd, Nat.lt_irrefl, d160, mem_of, cell_int, Int.toNat_natCast]) (den_ite (fun c6 => den_ret ?_) (fun c6 => ?_))
    · simp only [List.map_cons, List.map_nil, X.den, Env.put, Env.pre, List.length_cons, List.length_nil, Nat.zero_add, CD.int_i, CD.bool_b, CD.rows_l, decide_eq_true_eq, decide_eq_false_iff_not, beq_iff_eq, beq_eq_false_iff_ne, List.getD_cons_zero, List.getD_cons_succ, reduceIte, Nat.reduceLT, Nat.reduceSub, Nat.reduceAdd, Nat.lt_irrefl, Nat.sub_self, Bool.not_eq_true'] at c6
      exact bad 5 (by decide) (by unfold headErr; rw [if_neg c1, if_neg c6])
    simp only [List.map_cons, List.map_nil, X.den, Env.put, Env.pre, List.length_cons, List.length_nil, Nat.zero_add, CD.int_i, CD.bool_b, CD.rows_l, decide_eq_true_eq, decide_eq_false_iff_not, beq_iff_eq, beq_eq_false_iff_ne, List.getD_cons_zero, List.getD_cons_succ, reduceIte, Nat.reduceLT, Nat.reduceSub, Nat.reduceAdd, Nat.lt_irrefl, Nat.sub_self, Bool.not_eq_false'] at c6
    refine den_need (by simp only [List.map_cons, List.map_nil, X.den, Env.put, Env.pre, List.length_cons, List.length_nil, Nat.zero_add, CD.int_i, CD.bool_b, CD.rows_l, decide_eq_true_eq, decide_eq_false_iff_not, beq_iff_eq, beq_eq_false_iff_ne, List.getD_cons_zero, List.getD_cons_succ, reduceIte, Nat.reduceLT, Nat.reduceSub, Nat.reduceAdd, Nat.lt_irrefl, len_ints]; omega) (den_ite (fun c2 => den_ret ?_) (fun c2 => den_ite (fun c3 => den_ret ?_) (fun c3 => ?_)))
    case refine_1 | refine_2 =>
      simp only [List.map_cons, List.map_nil, X.den, Env.put, Env.pre, List.length_cons, List.length_nil, Nat.zero_add, CD.int_i, CD.bool_b, CD.rows_l, decide_eq_true_eq, decide_eq_false_iff_not, beq_iff_eq, beq_eq_false_iff_ne, List.getD_cons_zero, List.getD_cons_succ, reduceIte, Nat.reduceLT, Nat.reduceSub, Nat.reduceAdd, Nat.lt_irrefl, Nat.sub_self, Int.toNat_natCast, cell_int] at *
      exact bad 3 (by decide) (by unfold headErr; rw [if_neg c1, if_pos c6, if_pos (by omega)])
    simp only [List.map_cons, List.map_nil, X.den, Env.put, Env.pre, List.length_cons, List.length_nil, Nat.zero_add, CD.int_i, CD.bool_b, CD.rows_l, decide_eq_true_eq, decide_eq_false_iff_not, beq_iff_eq, beq_eq_false_iff_ne, List.getD_cons_zero, List.getD_cons_succ, reduceIte, Nat.reduceLT, Nat.reduceSub, Nat.reduceAdd, Nat.lt_irrefl, Nat.sub_self, Int.toNat_natCast, cell_int] at c2 c3
    refine den_fit (by simp only [List.map_cons, List.map_nil, X.den, Env.put, Env.pre, List.length_cons, List.length_nil, Nat.zero_add, CD.int_i, CD.bool_b, CD.rows_l, decide_eq_true_eq, decide_eq_false_iff_not, beq_iff_eq, beq_eq_false_iff_ne, List.getD_cons_zero, List.getD_cons_succ, reduceIte, Nat.reduceLT, Nat.reduceSub, Nat.reduceAdd, Nat.lt_irrefl]; omega) (den_back ⟨⟨j + 1, ?_, by omega, ?_⟩, ?_⟩)
    · simp only [List.map_cons, List.map_nil, X.den, Env.put, Env.pre, List.length_cons, List.length_nil, Nat.zero_add, CD.int_i, CD.bool_b, CD.rows_l, decide_eq_true_eq, decide_eq_false_iff_not, beq_iff_eq, beq_eq_false_iff_ne, List.getD_cons_zero, List.getD_cons_succ, reduceIte, Nat.reduceLT, Nat.reduceSub, Nat.reduceAdd, Nat.lt_irrefl, Nat.sub_self]; rfl
    · rw [ht, hs, if_neg (fun hx => hx (by unfold headErr; rw [if_neg c1, if_pos c6, if_neg (by omega)]))]
    · simp only [List.map_cons, List.map_nil, X.den, Env.put, Env.pre, List.length_cons, List.length_nil, Nat.zero_add, CD.int_i, CD.bool_b, CD.rows_l, decide_eq_true_eq, decide_eq_false_iff_not, beq_iff_eq, beq_eq_false_iff_ne, List.getD_cons_zero, List.getD_cons_succ, reduceIte, Nat.reduceLT, Nat.reduceSub, Nat.reduceAdd, Nat.lt_irrefl, Nat.sub_self]; omega
  simp only [List.map_cons, List.map_nil, X.den, Env.put, Env.pre, List.length_cons, List.length_nil, Nat.zero_add, CD.int_i, CD.bool_b, CD.rows_l, decide_eq_true_eq, decide_eq_false_iff_not, beq_iff_eq, beq_eq_false_iff_ne, List.getD_cons_zero, List.getD_cons_succ, reduceIte, Nat.reduceLT, Nat.reduceSub, Nat.reduceAdd, Nat.lt_irrefl, len_ints] at hge
  have hH : headsErr m.slots.length m.heads.length m.heads m.locks = 0 := by rw [ht, List.drop_of_length_le (by omega), List.drop_of_length_le (by omega)]; rfl
  rw [hH, if_neg (fun h => h rfl)]
  clear hge ht hj
  refine den_need (by simp only [List.map_cons, List.map_nil, X.den, Env.put, Env.pre, List.length_cons, List.length_nil, Nat.zero_add, CD.int_i, CD.bool_b, CD.rows_l, decide_eq_true_eq, decide_eq_false_iff_not, beq_iff_eq, beq_eq_false_iff_ne, List.getD_cons_zero, List.getD_cons_succ, reduceIte, Nat.reduceLT, Nat.reduceSub, Nat.reduceAdd, len_slots]; omega) ?_
  -- what is free
  refine den_loop (fun ds => ∃ (seen : List Bool) (i : Nat), ds = [boolsD seen, .i i] ∧ seen.length = m.slots.length ∧ i ≤ m.free.length ∧ freeScan m.slots m.free (List.replicate m.slots.length false) = freeScan m.slots (m.free.drop i) seen) (fun ds => m.free.length - (ds.getD 1 .u).int.toNat)
    ⟨List.replicate m.slots.length false, 0, ?_, by simp, by omega, rfl⟩ ?_
  · simp only [List.map_cons, List.map_nil, X.den, Env.put, Env.pre, List.length_cons, List.length_nil, Nat.zero_add, CD.int_i, CD.bool_b, CD.rows_l, decide_eq_true_eq, decide_eq_false_iff_not, beq_iff_eq, beq_eq_false_iff_ne, List.getD_cons_zero, List.getD_cons_succ, reduceIte, Nat.reduceLT, Nat.reduceSub, Nat.reduceAdd, len_slots, Int.toNat_natCast, CD.row, List.headD_cons, rep_bools]; rfl
  rintro ds - ⟨seen, n, rfl, hn, hi, ht⟩
  refine den_ite (fun hlt => ?_) (fun hge => ?_)
  · simp only [List.map_cons, List.map_nil, X.den, Env.put, Env.pre, List.length_cons, List.length_nil, Nat.zero_add, CD.int_i, CD.bool_b, CD.rows_l, decide_eq_true_eq, decide_eq_false_iff_not, beq_iff_eq, beq_eq_false_iff_ne, List.getD_cons_zero, List.getD_cons_succ, reduceIte, Nat.reduceLT, Nat.reduceSub, Nat.reduceAdd, Nat.lt_irrefl, len_ints] at hlt
    have hs := freeScan_step (slots := m.slots) (l := m.free) (seen := seen) (i := n) (by omega)
    refine den_need (by simp only [List.map_cons, List.map_nil, X.den, Env.put, Env.pre, List.length_cons, List.length_nil, Nat.zero_add, CD.int_i, CD.bool_b, CD.rows_l, decide_eq_true_eq, decide_eq_false_iff_not, beq_iff_eq, beq_eq_false_iff_ne, List.getD_cons_zero, List.getD_cons_succ, reduceIte, Nat.reduceLT, Nat.reduceSub, Nat.reduceAdd, Nat.lt_irrefl]; omega) ?_
    have bad : ∀ e : Int, e ≠ 0 → freeScan m.slots (m.free.drop n) seen = (e, seen) → [CD.i e] = [CD.i (if (freeScan m.slots m.free (List.replicate m.slots.length false)).1 ≠ 0 then (freeScan m.slots m.free (List.replicate m.slots.length false)).1 else leakErr m.slots (freeScan m.slots m.free (List.replicate m.slots.length false)).2)] := fun e he hx => by
      rw [ht, hx, if_pos he]
    refine den_ite (fun c1 => den_ret ?_) (fun c1 => den_ite (fun c2 => den_ret ?_) (fun c2 => ?_))
    case refine_1 | refine_2 =>
      simp only [List.map_cons, List.map_nil, X.den, Env.put, Env.pre, List.length_cons, List.length_nil, Nat.zero_add, CD.int_i, CD.bool_b, CD.rows_l, decide_eq_true_eq, decide_eq_false_iff_not, beq_iff_eq, beq_eq_false_iff_ne, List.getD_cons_zero, List.getD_cons_succ, reduceIte, Nat.reduceLT, Nat.reduceSub, Nat.reduceAdd, Nat.lt_irrefl, Nat.sub_self, Int.toNat_natCast, cell_int, len_slots] at *
      exact bad 5 (by decide) (by rw [hs, if_pos (by omega)])
    simp only [List.map_cons, List.map_nil, X.den, Env.put, Env.pre, List.length_cons, List.length_nil, Nat.zero_add, CD.int_i, CD.bool_b, CD.rows_l, decide_eq_true_eq, decide_eq_false_iff_not, beq_iff_eq, beq_eq_false_iff_ne, List.getD_cons_zero, List.getD_cons_succ, reduceIte, Nat.reduceLT, Nat.reduceSub, Nat.reduceAdd, Nat.lt_irrefl, Nat.sub_self, Int.toNat_natCast, cell_int, len_slots] at c1 c2
    refine den_need (by simp only [List.map_cons, List.map_nil, X.den, Env.put, Env.pre, List.length_cons, List.length_nil, Nat.zero_add, CD.int_i, CD.bool_b, CD.rows_l, decide_eq_true_eq, decide_eq_false_iff_not, beq_iff_eq, beq_eq_false_iff_ne, List.getD_cons_zero, List.getD_cons_succ, reduceIte, Nat.reduceLT, Nat.reduceSub, Nat.reduceAdd, Nat.lt_irrefl, Int.toNat_natCast, cell_int]; omega) (den_need (by simp only [List.map_cons, List.map_nil, X.den, Env.put, Env.pre, List.length_cons, List.length_nil, Nat.zero_add, CD.int_i, CD.bool_b, CD.rows_l, decide_eq_true_eq, decide_eq_false_iff_not, beq_iff_eq, beq_eq_false_iff_ne, List.getD_cons_zero, List.getD_cons_succ, reduceIte, Nat.reduceLT, Nat.reduceSub, Nat.reduceAdd, Nat.lt_irrefl, Int.toNat_natCast, cell_int, len_slots]; omega) (den_ite (fun c3 => den_ret ?_) (fun c3 => ?_)))
    · simp only [List.map_cons, List.map_nil, X.den, Env.put, Env.pre, List.length_cons, List.length_nil, Nat.zero_add, CD.int_i, CD.bool_b, CD.rows_l, decide_eq_true_eq, decide_eq_false_iff_not, beq_iff_eq, beq_eq_false_iff_ne, List.getD_cons_zero, List.getD_cons_succ, reduceIte, Nat.reduceLT, Nat.reduceSub, Nat.reduceAdd, Nat.lt_irrefl, Nat.sub_self, Int.toNat_natCast, cell_int, cell_s0, Bool.not_eq_true'] at c3
      exact bad 5 (by decide) (by rw [hs, if_neg (by omega), if_pos c3])
    simp only [List.map_cons, List.map_nil, X.den, Env.put, Env.pre, List.length_cons, List.length_nil, Nat.zero_add, CD.int_i, CD.bool_b, CD.rows_l, decide_eq_true_eq, decide_eq_false_iff_not, beq_iff_eq, beq_eq_false_iff_ne, List.getD_cons_zero, List.getD_cons_succ, reduceIte, Nat.reduceLT, Nat.reduceSub, Nat.reduceAdd, Nat.lt_irrefl, Nat.sub_self, Int.toNat_natCast, cell_int, cell_s0, Bool.not_eq_false'] at c3
    refine den_need (by simp only [List.map_cons, List.map_nil, X.den, Env.put, Env.pre, List.length_cons, List.length_nil, Nat.zero_add, CD.int_i, CD.bool_b, CD.rows_l, decide_eq_true_eq, decide_eq_false_iff_not, beq_iff_eq, beq_eq_false_iff_ne, List.getD_cons_zero, List.getD_cons_succ, reduceIte, Nat.reduceLT, Nat.reduceSub, Nat.reduceAdd, Nat.lt_irrefl, Int.toNat_natCast, cell_int, len_bools]; omega) (den_ite (fun c4 => den_ret ?_) (fun c4 => ?_))
    · simp only [List.map_cons, List.map_nil, X.den, Env.put, Env.pre, List.length_cons, List.length_nil, Nat.zero_add, CD.int_i, CD.bool_b, CD.rows_l, decide_eq_true_eq, decide_eq_false_iff_not, beq_iff_eq, beq_eq_false_iff_ne, List.getD_cons_zero, List.getD_cons_succ, reduceIte, Nat.reduceLT, Nat.reduceSub, Nat.reduceAdd, Nat.lt_irrefl, Nat.sub_self, Int.toNat_natCast, cell_int, cell_bool] at c4
      exact bad 6 (by decide) (by rw [hs, if_neg (by omega), if_neg (fun h => h c3), if_pos c4])
    simp only [List.map_cons, List.map_nil, X.den, Env.put, Env.pre, List.length_cons, List.length_nil, Nat.zero_add, CD.int_i, CD.bool_b, CD.rows_l, decide_eq_true_eq, decide_eq_false_iff_not, beq_iff_eq, beq_eq_false_iff_ne, List.getD_cons_zero, List.getD_cons_succ, reduceIte, Nat.reduceLT, Nat.reduceSub, Nat.reduceAdd, Nat.lt_irrefl, Nat.sub_self, Int.toNat_natCast, cell_int, cell_bool] at c4
    refine den_fit (by simp only [List.map_cons, List.map_nil, X.den, Env.put, Env.pre, List.length_cons, List.length_nil, Nat.zero_add, CD.int_i, CD.bool_b, CD.rows_l, decide_eq_true_eq, decide_eq_false_iff_not, beq_iff_eq, beq_eq_false_iff_ne, List.getD_cons_zero, List.getD_cons_succ, reduceIte, Nat.reduceLT, Nat.reduceSub, Nat.reduceAdd, Nat.lt_irrefl]; omega) (den_back ⟨⟨seen.set (m.free.getD n 0).toNat true, n + 1, ?_, by simp [hn], by omega, ?_⟩, ?_⟩)
    · simp only [List.map_cons, List.map_nil, X.den, Env.put, Env.pre, List.length_cons, List.length_nil, Nat.zero_add, CD.int_i, CD.bool_b, CD.rows_l, decide_eq_true_eq, decide_eq_false_iff_not, beq_iff_eq, beq_eq_false_iff_ne, List.getD_cons_zero, List.getD_cons_succ, reduceIte, Nat.reduceLT, Nat.reduceSub, Nat.reduceAdd, Nat.lt_irrefl, Nat.sub_self, Int.toNat_natCast, cell_int, set_bool]; rfl
    · rw [ht, hs, if_neg (by omega), if_neg (fun h => h c3), if_neg (by rw [c4]; decide)]
    · simp only [List.map_cons, List.map_nil, X.den, Env.put, Env.pre, List.length_cons, List.length_nil, Nat.zero_add, CD.int_i, CD.bool_b, CD.rows_l, decide_eq_true_eq, decide_eq_false_iff_not, beq_iff_eq, beq_eq_false_iff_ne, List.getD_cons_zero, List.getD_cons_succ, reduceIte, Nat.reduceLT, Nat.reduceSub, Nat.reduceAdd, Nat.lt_irrefl, Nat.sub_self]; omega
  simp only [List.map_cons, List.map_nil, X.den, Env.put, Env.pre, List.length_cons, List.length_nil, Nat.zero_add, CD.int_i, CD.bool_b, CD.rows_l, decide_eq_true_eq, decide_eq_false_iff_not, beq_iff_eq, beq_eq_false_iff_ne, List.getD_cons_zero, List.getD_cons_succ, reduceIte, Nat.reduceLT, Nat.reduceSub, Nat.reduceAdd, Nat.lt_irrefl, len_ints] at hge
  have hF : freeScan m.slots m.free (List.replicate m.slots.length false) = (0, seen) := by rw [ht, List.drop_of_length_le (by omega)]; rfl
  rw [hF, if_neg (fun h => h rfl)]
  clear hge ht hi hF
  -- what is held by nobody
  refine den_loop (fun ds => ∃ i : Nat, ds = [.i i] ∧ i ≤ m.slots.length ∧ leakErr m.slots seen = leakErr (m.slots.drop i) (seen.drop i)) (fun ds => m.slots.length - (ds.getD 0 .u).int.toNat) ⟨0, rfl, by omega, rfl⟩ ?_
  rintro ds - ⟨q, rfl, hq, ht⟩
  refine den_ite (fun hlt => ?_) (fun hge => ?_)
  · simp only [List.map_cons, List.map_nil, X.den, Env.put, Env.pre, List.length_cons, List.length_nil, Nat.zero_add, CD.int_i, CD.bool_b, CD.rows_l, decide_eq_true_eq, decide_eq_false_iff_not, beq_iff_eq, beq_eq_false_iff_ne, List.getD_cons_zero, List.getD_cons_succ, reduceIte, Nat.reduceLT, Nat.reduceSub, Nat.reduceAdd, Nat.lt_irrefl, len_slots] at hlt
    have hs := leakErr_step (l := m.slots) (m := seen) (i := q) (by omega) (by omega)
    have back : ¬ ((m.slots.getD q default).refs = 0 ∧ seen.getD q false = false) → ∃ i : Nat, [CD.i ((q : Int) + 1)] = [.i i] ∧ i ≤ m.slots.length ∧ leakErr m.slots seen = leakErr (m.slots.drop i) (seen.drop i) := fun h => ⟨q + 1, rfl, by omega, by rw [ht, hs, if_neg h]⟩
    refine den_need (by simp only [List.map_cons, List.map_nil, X.den, Env.put, Env.pre, List.length_cons, List.length_nil, Nat.zero_add, CD.int_i, CD.bool_b, CD.rows_l, decide_eq_true_eq, decide_eq_false_iff_not, beq_iff_eq, beq_eq_false_iff_ne, List.getD_cons_zero, List.getD_cons_succ, reduceIte, Nat.reduceLT, Nat.reduceSub, Nat.reduceAdd, Nat.lt_irrefl]; omega) (den_ite (fun c1 => ?_) (fun c1 => ?_))
    · simp only [List.map_cons, List.map_nil, X.den, Env.put, Env.pre, List.length_cons, List.length_nil, Nat.zero_add, CD.int_i, CD.bool_b, CD.rows_l, decide_eq_true_eq, decide_eq_false_iff_not, beq_iff_eq, beq_eq_false_iff_ne, List.getD_cons_zero, List.getD_cons_succ, reduceIte, Nat.reduceLT, Nat.reduceSub, Nat.reduceAdd, Nat.lt_irrefl, Nat.sub_self, Int.toNat_natCast, cell_s0] at c1
      refine den_need (by simp only [List.map_cons, List.map_nil, X.den, Env.put, Env.pre, List.length_cons, List.length_nil, Nat.zero_add, CD.int_i, CD.bool_b, CD.rows_l, decide_eq_true_eq, decide_eq_false_iff_not, beq_iff_eq, beq_eq_false_iff_ne, List.getD_cons_zero, List.getD_cons_succ, reduceIte, Nat.reduceLT, Nat.reduceSub, Nat.reduceAdd, Nat.lt_irrefl, len_bools]; omega) (den_ite (fun c2 => den_ret ?_) (fun c2 => ?_))
      · simp only [List.map_cons, List.map_nil, X.den, Env.put, Env.pre, List.length_cons, List.length_nil, Nat.zero_add, CD.int_i, CD.bool_b, CD.rows_l, decide_eq_true_eq, decide_eq_false_iff_not, beq_iff_eq, beq_eq_false_iff_ne, List.getD_cons_zero, List.getD_cons_succ, reduceIte, Nat.reduceLT, Nat.reduceSub, Nat.reduceAdd, Nat.lt_irrefl, Nat.sub_self, Int.toNat_natCast, cell_bool, Bool.not_eq_true'] at c2
        simp only [List.map_cons, List.map_nil, X.den, Env.put, Env.pre, List.length_cons, List.length_nil, Nat.zero_add, CD.int_i, CD.bool_b, CD.rows_l, decide_eq_true_eq, decide_eq_false_iff_not, beq_iff_eq, beq_eq_false_iff_ne, List.getD_cons_zero, List.getD_cons_succ, reduceIte, Nat.reduceLT, Nat.reduceSub, Nat.reduceAdd]
        rw [ht, hs, if_pos ⟨c1, c2⟩]
      · simp only [List.map_cons, List.map_nil, X.den, Env.put, Env.pre, List.length_cons, List.length_nil, Nat.zero_add, CD.int_i, CD.bool_b, CD.rows_l, decide_eq_true_eq, decide_eq_false_iff_not, beq_iff_eq, beq_eq_false_iff_ne, List.getD_cons_zero, List.getD_cons_succ, reduceIte, Nat.reduceLT, Nat.reduceSub, Nat.reduceAdd, Nat.lt_irrefl, Nat.sub_self, Int.toNat_natCast, cell_bool, Bool.not_eq_false'] at c2
        refine den_fit (by simp only [List.map_cons, List.map_nil, X.den, Env.put, Env.pre, List.length_cons, List.length_nil, Nat.zero_add, CD.int_i, CD.bool_b, CD.rows_l, decide_eq_true_eq, decide_eq_false_iff_not, beq_iff_eq, beq_eq_false_iff_ne, List.getD_cons_zero, List.getD_cons_succ, reduceIte, Nat.reduceLT, Nat.reduceSub, Nat.reduceAdd, Nat.lt_irrefl]; omega) (den_back ⟨?_, ?_⟩)
        · simp only [List.map_cons, List.map_nil, X.den, Env.put, Env.pre, List.length_cons, List.length_nil, Nat.zero_add, CD.int_i, CD.bool_b, CD.rows_l, decide_eq_true_eq, decide_eq_false_iff_not, beq_iff_eq, beq_eq_false_iff_ne, List.getD_cons_zero, List.getD_cons_succ, reduceIte, Nat.reduceLT, Nat.reduceSub, Nat.reduceAdd, Nat.lt_irrefl, Nat.sub_self]
          exact back fun h => by rw [h.2] at c2; cases c2
        · simp only [List.map_cons, List.map_nil, X.den, Env.put, Env.pre, List.length_cons, List.length_nil, Nat.zero_add, CD.int_i, CD.bool_b, CD.rows_l, decide_eq_true_eq, decide_eq_false_iff_not, beq_iff_eq, beq_eq_false_iff_ne, List.getD_cons_zero, List.getD_cons_succ, reduceIte, Nat.reduceLT, Nat.reduceSub, Nat.reduceAdd, Nat.lt_irrefl, Nat.sub_self]; omega
    · simp only [List.map_cons, List.map_nil, X.den, Env.put, Env.pre, List.length_cons, List.length_nil, Nat.zero_add, CD.int_i, CD.bool_b, CD.rows_l, decide_eq_true_eq, decide_eq_false_iff_not, beq_iff_eq, beq_eq_false_iff_ne, List.getD_cons_zero, List.getD_cons_succ, reduceIte, Nat.reduceLT, Nat.reduceSub, Nat.reduceAdd, Nat.lt_irrefl, Nat.sub_self, Int.toNat_natCast, cell_s0] at c1
      refine den_fit (by simp only [List.map_cons, List.map_nil, X.den, Env.put, Env.pre, List.length_cons, List.length_nil, Nat.zero_add, CD.int_i, CD.bool_b, CD.rows_l, decide_eq_true_eq, decide_eq_false_iff_not, beq_iff_eq, beq_eq_false_iff_ne, List.getD_cons_zero, List.getD_cons_succ, reduceIte, Nat.reduceLT, Nat.reduceSub, Nat.reduceAdd, Nat.lt_irrefl]; omega) (den_back ⟨?_, ?_⟩)
      · simp only [List.map_cons, List.map_nil, X.den, Env.put, Env.pre, List.length_cons, List.length_nil, Nat.zero_add, CD.int_i, CD.bool_b, CD.rows_l, decide_eq_true_eq, decide_eq_false_iff_not, beq_iff_eq, beq_eq_false_iff_ne, List.getD_cons_zero, List.getD_cons_succ, reduceIte, Nat.reduceLT, Nat.reduceSub, Nat.reduceAdd, Nat.lt_irrefl, Nat.sub_self]
        exact back fun h => c1 h.1
      · simp only [List.map_cons, List.map_nil, X.den, Env.put, Env.pre, List.length_cons, List.length_nil, Nat.zero_add, CD.int_i, CD.bool_b, CD.rows_l, decide_eq_true_eq, decide_eq_false_iff_not, beq_iff_eq, beq_eq_false_iff_ne, List.getD_cons_zero, List.getD_cons_succ, reduceIte, Nat.reduceLT, Nat.reduceSub, Nat.reduceAdd, Nat.lt_irrefl, Nat.sub_self]; omega
  · simp only [List.map_cons, List.map_nil, X.den, Env.put, Env.pre, List.length_cons, List.length_nil, Nat.zero_add, CD.int_i, CD.bool_b, CD.rows_l, decide_eq_true_eq, decide_eq_false_iff_not, beq_iff_eq, beq_eq_false_iff_ne, List.getD_cons_zero, List.getD_cons_succ, reduceIte, Nat.reduceLT, Nat.reduceSub, Nat.reduceAdd, Nat.lt_irrefl, len_slots] at hge
    refine den_ret ?_
    simp only [List.map_cons, List.map_nil, X.den, Env.put, Env.pre, List.length_cons, List.length_nil, Nat.zero_add, CD.int_i, CD.bool_b, CD.rows_l, decide_eq_true_eq, decide_eq_false_iff_not, beq_iff_eq, beq_eq_false_iff_ne, List.getD_cons_zero, List.getD_cons_succ, reduceIte, Nat.reduceLT, Nat.reduceSub, Nat.reduceAdd]
    rw [ht, List.drop_of_length_le (by omega), List.drop_of_length_le (by omega)]
    rfl
end Go.Proofs.Ytpmamacjepcdmaa
