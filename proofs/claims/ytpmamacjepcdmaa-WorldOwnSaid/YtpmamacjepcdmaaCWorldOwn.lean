import Derived.Test.YtpmamacjepcdmaaCPlayed
namespace Go.Proofs.Ytpmamacjepcdmaa
open Go Go.Sy Go.RowKit
set_option linter.unusedSimpArgs false
set_option linter.unusedVariables false
theorem modify_ne {α : Type} [Inhabited α] {g : α → α} : ∀ {l : List α} {i k : Nat}, i ≠ k → (l.modify i g).getD k default = l.getD k default
  | [], i, k, _ => by simp
  | a :: l, 0, 0, h => absurd rfl h
  | a :: l, 0, k + 1, _ => by simp
  | a :: l, i + 1, 0, _ => by simp
  | a :: l, i + 1, k + 1, h => by
    have := modify_ne (g := g) (l := l) (i := i) (k := k) (fun e => h (by omega))
    simpa using this
theorem step_at {w : Wrd} {x : Int} {k : Nat} (h : x.toNat ≠ k) : (stepW w x).1.ts.getD k default = w.ts.getD k default := by
  unfold stepW
  repeat' split
  all_goals first
    | rfl
    | exact modify_ne h
theorem begin_at {w : Wrd} {x : Int} {c : Cal} {k : Nat} (h : x.toNat ≠ k) : (beginW w x c).1.ts.getD k default = w.ts.getD k default := by
  unfold beginW
  repeat' split
  all_goals first
    | rfl
    | exact modify_ne h
theorem pick_at {w : Wrd} {x : Pik} {k : Nat} (h : (k : Int) ≠ x.task ∨ x.tick = true) : (pickW w x).1.ts.getD k default = w.ts.getD k default := by
  unfold pickW
  split
  · split <;> rfl
  · rename_i ht
    have h : (k : Int) ≠ x.task := h.resolve_right ht
    split
    · rfl
    · split
      · exact step_at (by omega)
      · exact begin_at (by omega)
theorem begin_m {w : Wrd} {x : Int} {c : Cal} : (beginW w x c).1.m = w.m := by
  unfold beginW
  repeat' split
  all_goals rfl
theorem step_now {n : Nat} {w : Wrd} (h : WInB n w) {x : Int} (hx : tsk w x ∈ w.ts) : (stepW w x).1.m.now = w.m.now := by
  unfold stepW
  split
  · rfl
  rename_i hb
  have hf := (h.t _ hx).2.2 (by simpa using hb)
  split
  · split <;> exact (lookStep_touch (m := w.m) (f := (tsk w x).f)).1.now
  split
  · exact (addStep_touch x h.m hf (by assumption)).now
  split
  · exact (dropStep_touch x h.m hf (by assumption)).now
  split
  · exact (sweepStep_touch x h.m hf (by assumption)).now
  split
  · exact (put_len _ _).2.2.2
  · rfl
theorem pick_now {n : Nat} {w : Wrd} (h : WInB n w) {x : Pik} (ht : x.tick = false) : (pickW w x).1.m.now = w.m.now := by
  unfold pickW
  rw [if_neg (by rw [ht]; exact Bool.false_ne_true)]
  split
  · rfl
  · split
    · exact step_now h (getD_cell (by omega))
    · rw [begin_m]
theorem pick_tick {w : Wrd} {x : Pik} (h : (pickW w x).2 = 0) (ht : x.tick = true) : (pickW w x).1.m.now = w.m.now + 1 := by
  unfold pickW at h ⊢
  rw [if_pos ht] at h ⊢
  split at h
  · cases h
  · rename_i h1
    rw [if_neg h1]
theorem pick_same {w : Wrd} {x : Pik} (ht : x.tick = false) (hs : x.step = false) : (pickW w x).1.m = w.m := by
  unfold pickW
  rw [if_neg (by rw [ht]; exact Bool.false_ne_true)]
  split
  · rfl
  · rw [if_neg (by rw [hs]; exact Bool.false_ne_true), begin_m]
theorem mine_at {ts : List Tsk} {i : Nat} (h : i < ts.length) : (ts.map Tsk.mine).getD i default = (ts.getD i default).mine := by
  simp [List.getD_eq_getElem?_getD, h]
def s34 : Sig := ⟨[.agg [.fz kS, .fz kI, .fz kI, .fz kI, .int .i64, .fz kT], .agg [.int .i64, .bool, .bool, .int .i64, .int .i64, .int .i64, .int .i64, .int .i64, .int .i64]], [.one (.bool)]⟩
def d34 : DC := ⟨s34, fun _ => True, fun _ => [.b true]⟩
def l34 : List (Nat × Ct) := [(140, d140.ct), (79, d79.ct), (47, d47.ct), (39, d39.ct), (59, d59.ct)]
def z34 : Cx := { T := ttA, C := sigs l34, F := [], hints := [⟨34, 7, false, [(33, .lt)], [(2, 5, .fz kT)], [], [], 0⟩], sig := s34 }
def t34 : Tree :=
 (.call 140 [.var 0, .var 1, .var 2, .var 3, .var 4, .var 5, .var 6, .var 7, .var 8, .var 9, .var 10, .var 11, .var 12, .var 13, .var 14] 15
 (.call 79 [] 22
 (.ite (.not (.var 22))
 (.call 79 [] 23
 (.ret [.var 23]))
 (.ite (.not (.eq (.var 21) (.int 0)))
 (.call 79 [] 23
 (.ret [.var 23]))
 (.ite (.not (.eq (.len (.var 20)) (.len (.var 5))))
 (.ret [.bool false])
 (.need (.clean (.var 20) 15)
 (.loop 23 [.int .i64, .sl 160 [.bool, .int .i64, .int .i64, .int .i64, .int .i64, .int .i64, .int .i64, .int .i64, .int .i64, .int .i64, .int .i64, .int .i64, .sl 16 [.int .i64, .int .i64], .bool, .int .i64, .sl 8 [.int .i64]]] [.int 0, .shuts (.var 20) 15]
 (.ite (.lt (.var 24) (.len (.var 5)))
 (.need (.le (.int 0) (.var 24))
 (.need (.lt (.var 24) (.len (.var 25)))
 (.ite (.not (.eq (.var 24) (.var 6)))
 (.ite (.not (.beq (.cell (.var 25) (.var 24) 0) (.cell (.var 5) (.var 24) 0)))
 (.ret [.bool false])
 (.call 47 [.cell (.var 25) (.var 24) 1, .cell (.var 25) (.var 24) 2, .cell (.var 25) (.var 24) 3, .cell (.var 25) (.var 24) 4, .cell (.var 25) (.var 24) 5, .cell (.var 25) (.var 24) 6, .cell (.var 25) (.var 24) 7, .cell (.var 25) (.var 24) 8, .cell (.var 25) (.var 24) 9, .cell (.var 25) (.var 24) 10, .cell (.var 25) (.var 24) 11, .cell (.var 25) (.var 24) 12, .cell (.var 25) (.var 24) 13, .cell (.var 25) (.var 24) 14, .cell (.var 5) (.var 24) 1, .cell (.var 5) (.var 24) 2, .cell (.var 5) (.var 24) 3, .cell (.var 5) (.var 24) 4, .cell (.var 5) (.var 24) 5, .cell (.var 5) (.var 24) 6, .cell (.var 5) (.var 24) 7, .cell (.var 5) (.var 24) 8, .cell (.var 5) (.var 24) 9, .cell (.var 5) (.var 24) 10, .cell (.var 5) (.var 24) 11, .cell (.var 5) (.var 24) 12, .cell (.var 5) (.var 24) 13, .cell (.var 5) (.var 24) 14] 26
 (.ite (.not (.var 26))
 (.ret [.bool false])
 (.call 39 [.cell (.var 25) (.var 24) 15, .cell (.var 5) (.var 24) 15] 27
 (.ite (.not (.var 27))
 (.ret [.bool false])
 (.need (.fit (.add (.var 24) (.int 1)))
 (.back 23 [.add (.var 24) (.int 1), .var 25])))))))
 (.ite (.var 8)
 (.ite (.not (.beq (.cell (.var 25) (.var 24) 0) (.cell (.var 5) (.var 24) 0)))
 (.ret [.bool false])
 (.call 47 [.cell (.var 25) (.var 24) 1, .cell (.var 25) (.var 24) 2, .cell (.var 25) (.var 24) 3, .cell (.var 25) (.var 24) 4, .cell (.var 25) (.var 24) 5, .cell (.var 25) (.var 24) 6, .cell (.var 25) (.var 24) 7, .cell (.var 25) (.var 24) 8, .cell (.var 25) (.var 24) 9, .cell (.var 25) (.var 24) 10, .cell (.var 25) (.var 24) 11, .cell (.var 25) (.var 24) 12, .cell (.var 25) (.var 24) 13, .cell (.var 25) (.var 24) 14, .cell (.var 5) (.var 24) 1, .cell (.var 5) (.var 24) 2, .cell (.var 5) (.var 24) 3, .cell (.var 5) (.var 24) 4, .cell (.var 5) (.var 24) 5, .cell (.var 5) (.var 24) 6, .cell (.var 5) (.var 24) 7, .cell (.var 5) (.var 24) 8, .cell (.var 5) (.var 24) 9, .cell (.var 5) (.var 24) 10, .cell (.var 5) (.var 24) 11, .cell (.var 5) (.var 24) 12, .cell (.var 5) (.var 24) 13, .cell (.var 5) (.var 24) 14] 26
 (.ite (.not (.var 26))
 (.ret [.bool false])
 (.call 39 [.cell (.var 25) (.var 24) 15, .cell (.var 5) (.var 24) 15] 27
 (.ite (.not (.var 27))
 (.ret [.bool false])
 (.need (.fit (.add (.var 24) (.int 1)))
 (.back 23 [.add (.var 24) (.int 1), .var 25])))))))
 (.need (.fit (.add (.var 24) (.int 1)))
 (.back 23 [.add (.var 24) (.int 1), .var 25]))))))
 (.need (.fit (.add (.var 4) (.int 1)))
 (.ite (.beq (.var 8) (.eq (.var 19) (.add (.var 4) (.int 1))))
 (.ite (.var 7)
 (.ret [.bool true])
 (.call 59 [.var 0, .var 1, .var 2, .var 3, .var 4, .var 15, .var 16, .var 17, .var 18, .var 19] 26
 (.ite (.var 26)
 (.ret [.bool true])
 (.ret [.var 8]))))
 (.ret [.bool false])))))))))))
theorem run34 : run z34 6000 [.code (Try.f34.body.getD .skip), .fin (topRet z34 Try.f34.results.toList 50)] { fn := 34, tmps := z34.sig.args0 ++ List.replicate (Try.f34.ntmps - z34.sig.args0.length) (.v (.one .undef)), stk := [], h := z34.sig.h0, nx := z34.sig.ins.length, known := [] } = t34 := by kernel_rfl
set_option maxHeartbeats 4000000 in
theorem ok34 : CtOk Try.prog 34 d34.ct := by
  refine dc_of_tree (d := d34) (Z := z34) (Γ := gam l34) (fn := Try.f34) (c := Try.f34.body.getD .skip) (told_of tok mixed (all_cons ok140 (all_cons ok79 (all_cons ok47 (all_cons ok39 (all_cons ok59 all_nil))))) fok_nil) Try.func34 (by kernel_rfl) (by kernel_rfl) rfl run34 fun E hk hp => ?_
  obtain ⟨hk0, hk1, hk2, hk3, hk4, hk5, hk6, hk7, hk8, hk9, hk10, hk11, hk12, hk13, hk14, _⟩ := hk
  obtain ⟨m, e0, e1, e2, e3, e4, b0, b1, b2, b3⟩ := ok_mem (d0 := E 0) (d1 := E 1) (d2 := E 2) (d3 := E 3) (d4 := E 4) hk0 hk1 hk2 hk3 hk4
  obtain ⟨ts, e5, hts, b5⟩ := ok_tasks (d := E 5) hk5
  have b5 : ts.length * 160 ≤ 140737488355328 := b5
  obtain ⟨x, e6, e7, e8, e9, e10, e11, e12, e13, e14⟩ := ok_pick (d0 := E 6) (d1 := E 7) (d2 := E 8) (d3 := E 9) (d4 := E 10) (d5 := E 11) (d6 := E 12) (d7 := E 13) (d8 := E 14) hk6 hk7 hk8 hk9 hk10 hk11 hk12 hk13 hk14
  have el : letters E d34.sig.ins.length = [slotsD m.slots, intsD m.heads, intsD m.free, intsD m.locks, .i m.now, tasksD ts, .i x.task, .b x.step, .b x.tick, .i x.c.kind, .i x.c.k.a, .i x.c.k.b, .i x.c.time, .i x.c.bucket, .i x.c.slot] := by
    show [E 0, E 1, E 2, E 3, E 4, E 5, E 6, E 7, E 8, E 9, E 10, E 11, E 12, E 13, E 14] = _
    rw [e0, e1, e2, e3, e4, e5, e6, e7, e8, e9, e10, e11, e12, e13, e14]
  rw [el] at hp
  rw [el]
  rw [Env.pre_eq el]
  clear el e0 e1 e2 e3 e4 e5 e6 e7 e8 e9 e10 e11 e12 e13 e14
  have hown : ∀ t ∈ ts, t.own = false := fun t ht => (hts t ht).1
  simp only [d34]
  unfold t34
  obtain ⟨R, hR⟩ : ∃ R, doW ⟨m, ts⟩ x = R := ⟨_, rfl⟩
  refine den_calle d140 (R.1.cds ++ [.i R.2]) rfl trivial (by simp only [nrm, X.den, Env.put, Env.pre, reduceIte, Nat.reduceLT, Nat.reduceSub, Nat.reduceAdd, d140, wrd_off _ _ _ _ _ hown, mem_eta, List.drop_succ_cons, List.drop_zero, pik_of, call_eta]; rw [← hR]) (den_calle d79 [.b true] rfl trivial rfl (den_iff (by simp only [nrm, X.den, Env.put, Env.pre, reduceIte, Nat.reduceLT, Nat.reduceSub, Nat.reduceAdd, Wrd.cds, Mem.cds, lca] <;> rfl) (den_ite (fun h => den_calle d79 [.b true] rfl trivial rfl (den_ret ?_)) (fun h => ?_))))
  · simp only [nrm, X.den, Env.put, Env.pre, reduceIte, Nat.reduceLT, Nat.reduceSub, Nat.reduceAdd, Wrd.cds, Mem.cds, lca]
  simp only [nrm, X.den, Env.put, Env.pre, reduceIte, Nat.reduceLT, Nat.reduceSub, Nat.reduceAdd, Wrd.cds, Mem.cds, lca] at h
  have h : R.2 = 0 := by simpa using h
  obtain ⟨hc, hp, hv⟩ : checkWorld ⟨m, ts⟩ = 0 ∧ (pickW (Wrd.mine ⟨m, ts⟩) x).2 = 0 ∧ (pickW (Wrd.mine ⟨m, ts⟩) x).1 = R.1 := by
    unfold doW at hR
    split at hR
    · rename_i h1; rw [← hR] at h; exact absurd h h1
    · rename_i h1
      split at hR
      · rename_i h2; rw [← hR] at h; exact absurd h h2
      · rename_i h2
        exact ⟨Classical.not_not.1 h1, Classical.not_not.1 h2, by rw [← hR]⟩
  have hw := winb_of hc
  have hl : R.1.ts.length = ts.length := by rw [← hv, pick_len, mine_len]
  have hn0 := hw.m.now0
  have hn1 := hw.m.now1
  have hn0 : 0 ≤ m.now := hn0
  have hn1 : m.now ≤ 1000000 := hn1
  obtain ⟨v, hv1⟩ : ∃ v, R.1 = v := ⟨_, rfl⟩
  rw [hv1] at hv hl ⊢
  refine den_iff (by simp only [nrm, X.den, Env.put, Env.pre, reduceIte, Nat.reduceLT, Nat.reduceSub, Nat.reduceAdd, Wrd.cds, Mem.cds, lca, len_otasks, len_tasks, hl, beq_self_eq_true, Bool.not_true] <;> rfl) (den_need (by simp only [nrm, X.den, Env.put, Env.pre, reduceIte, Nat.reduceLT, Nat.reduceSub, Nat.reduceAdd, Wrd.cds, Mem.cds, lca]; exact clean_otasks _) (den_loop (fun ds => ∃ i : Nat, ds = [.i i, tasksD v.ts] ∧ i ≤ ts.length) (fun ds => ts.length - (ds.getD 0 .u).int.toNat) ⟨0, ?_, by omega⟩ ?_))
  · simp only [nrm, X.den, Env.put, Env.pre, reduceIte, Nat.reduceLT, Nat.reduceSub, Nat.reduceAdd, Wrd.cds, Mem.cds, lca, shuts_otasks]; rfl
  rintro ds - ⟨i, rfl, hi⟩
  refine den_ite (fun hlt => ?_) (fun hge => ?_)
  · simp only [nrm, X.den, Env.put, Env.pre, reduceIte, Nat.reduceLT, Nat.reduceSub, Nat.reduceAdd, len_tasks] at hlt
    obtain ⟨t, ht⟩ : ∃ t, ts.getD i default = t := ⟨_, rfl⟩
    have a0 : ((tasksD ts).rows.getD i []).getD 0 .u = .b t.busy := by rw [raw_r 0 (by omega), ht]; rfl
    have a1 : ((tasksD ts).rows.getD i []).getD 1 .u = .i t.f.c.kind := by rw [raw_r 1 (by omega), ht]; rfl
    have a2 : ((tasksD ts).rows.getD i []).getD 2 .u = .i t.f.c.k.a := by rw [raw_r 2 (by omega), ht]; rfl
    have a3 : ((tasksD ts).rows.getD i []).getD 3 .u = .i t.f.c.k.b := by rw [raw_r 3 (by omega), ht]; rfl
    have a4 : ((tasksD ts).rows.getD i []).getD 4 .u = .i t.f.c.time := by rw [raw_r 4 (by omega), ht]; rfl
    have a5 : ((tasksD ts).rows.getD i []).getD 5 .u = .i t.f.c.bucket := by rw [raw_r 5 (by omega), ht]; rfl
    have a6 : ((tasksD ts).rows.getD i []).getD 6 .u = .i t.f.c.slot := by rw [raw_r 6 (by omega), ht]; rfl
    have a7 : ((tasksD ts).rows.getD i []).getD 7 .u = .i t.f.pc := by rw [raw_r 7 (by omega), ht]; rfl
    have a8 : ((tasksD ts).rows.getD i []).getD 8 .u = .i t.f.cur := by rw [raw_r 8 (by omega), ht]; rfl
    have a9 : ((tasksD ts).rows.getD i []).getD 9 .u = .i t.f.prev := by rw [raw_r 9 (by omega), ht]; rfl
    have a10 : ((tasksD ts).rows.getD i []).getD 10 .u = .i t.f.slot := by rw [raw_r 10 (by omega), ht]; rfl
    have a11 : ((tasksD ts).rows.getD i []).getD 11 .u = .i t.f.n := by rw [raw_r 11 (by omega), ht]; rfl
    have a12 : ((tasksD ts).rows.getD i []).getD 12 .u = keysD t.f.keys := by rw [raw_r 12 (by omega), ht]; rfl
    have a13 : ((tasksD ts).rows.getD i []).getD 13 .u = .b t.f.done := by rw [raw_r 13 (by omega), ht]; rfl
    have a14 : ((tasksD ts).rows.getD i []).getD 14 .u = .i t.f.e := by rw [raw_r 14 (by omega), ht]; rfl
    have a15 : ((tasksD ts).rows.getD i []).getD 15 .u = intsD t.held := by rw [raw_r 15 (by omega), ht]; rfl
    refine den_need (by simp only [nrm, X.den, Env.put, Env.pre, reduceIte, Nat.reduceLT, Nat.reduceSub, Nat.reduceAdd]; omega) (den_need (by simp only [nrm, X.den, Env.put, Env.pre, reduceIte, Nat.reduceLT, Nat.reduceSub, Nat.reduceAdd, len_tasks]; omega) (den_ite (fun h1 => ?_) (fun h1 => den_ite (fun h2 => ?_) (fun h2 => ?_))))
    · simp only [nrm, X.den, Env.put, Env.pre, reduceIte, Nat.reduceLT, Nat.reduceSub, Nat.reduceAdd] at h1
      have hne : (i : Int) ≠ x.task ∨ x.tick = true := .inl (by simpa using h1)
      have hu : v.ts.getD i default = t.mine := by rw [← hv]; exact (pick_at hne).trans (by rw [← ht]; exact mine_at (show i < ts.length by omega))
      have b0' : ((tasksD v.ts).rows.getD i []).getD 0 .u = .b t.busy := by rw [raw_r 0 (by omega), hu]; rfl
      have b1' : ((tasksD v.ts).rows.getD i []).getD 1 .u = .i t.f.c.kind := by rw [raw_r 1 (by omega), hu]; rfl
      have b2' : ((tasksD v.ts).rows.getD i []).getD 2 .u = .i t.f.c.k.a := by rw [raw_r 2 (by omega), hu]; rfl
      have b3' : ((tasksD v.ts).rows.getD i []).getD 3 .u = .i t.f.c.k.b := by rw [raw_r 3 (by omega), hu]; rfl
      have b4' : ((tasksD v.ts).rows.getD i []).getD 4 .u = .i t.f.c.time := by rw [raw_r 4 (by omega), hu]; rfl
      have b5' : ((tasksD v.ts).rows.getD i []).getD 5 .u = .i t.f.c.bucket := by rw [raw_r 5 (by omega), hu]; rfl
      have b6' : ((tasksD v.ts).rows.getD i []).getD 6 .u = .i t.f.c.slot := by rw [raw_r 6 (by omega), hu]; rfl
      have b7' : ((tasksD v.ts).rows.getD i []).getD 7 .u = .i t.f.pc := by rw [raw_r 7 (by omega), hu]; rfl
      have b8' : ((tasksD v.ts).rows.getD i []).getD 8 .u = .i t.f.cur := by rw [raw_r 8 (by omega), hu]; rfl
      have b9' : ((tasksD v.ts).rows.getD i []).getD 9 .u = .i t.f.prev := by rw [raw_r 9 (by omega), hu]; rfl
      have b10' : ((tasksD v.ts).rows.getD i []).getD 10 .u = .i t.f.slot := by rw [raw_r 10 (by omega), hu]; rfl
      have b11' : ((tasksD v.ts).rows.getD i []).getD 11 .u = .i t.f.n := by rw [raw_r 11 (by omega), hu]; rfl
      have b12' : ((tasksD v.ts).rows.getD i []).getD 12 .u = keysD t.f.keys := by rw [raw_r 12 (by omega), hu]; rfl
      have b13' : ((tasksD v.ts).rows.getD i []).getD 13 .u = .b t.f.done := by rw [raw_r 13 (by omega), hu]; rfl
      have b14' : ((tasksD v.ts).rows.getD i []).getD 14 .u = .i t.f.e := by rw [raw_r 14 (by omega), hu]; rfl
      have b15' : ((tasksD v.ts).rows.getD i []).getD 15 .u = intsD t.held := by rw [raw_r 15 (by omega), hu]; rfl
      refine den_iff (by simp only [nrm, X.den, Env.put, Env.pre, reduceIte, Nat.reduceLT, Nat.reduceSub, Nat.reduceAdd, Int.toNat_natCast, a0, a1, a2, a3, a4, a5, a6, a7, a8, a9, a10, a11, a12, a13, a14, a15, b0', b1', b2', b3', b4', b5', b6', b7', b8', b9', b10', b11', b12', b13', b14', b15', beq_self_eq_true, Bool.not_true] <;> rfl) (den_calle d47 [.b true] rfl trivial (by simp only [nrm, X.den, Env.put, Env.pre, reduceIte, Nat.reduceLT, Nat.reduceSub, Nat.reduceAdd, Int.toNat_natCast, a0, a1, a2, a3, a4, a5, a6, a7, a8, a9, a10, a11, a12, a13, a14, a15, b0', b1', b2', b3', b4', b5', b6', b7', b8', b9', b10', b11', b12', b13', b14', b15', fn47, decide_true]) (den_iff (by simp only [nrm, X.den, Env.put, Env.pre, reduceIte, Nat.reduceLT, Nat.reduceSub, Nat.reduceAdd] <;> rfl) (den_calle d39 [.b true] rfl trivial (by simp only [nrm, X.den, Env.put, Env.pre, reduceIte, Nat.reduceLT, Nat.reduceSub, Nat.reduceAdd, Int.toNat_natCast, a0, a1, a2, a3, a4, a5, a6, a7, a8, a9, a10, a11, a12, a13, a14, a15, b0', b1', b2', b3', b4', b5', b6', b7', b8', b9', b10', b11', b12', b13', b14', b15', d39, ints_intsD, decide_true]) (den_iff (by simp only [nrm, X.den, Env.put, Env.pre, reduceIte, Nat.reduceLT, Nat.reduceSub, Nat.reduceAdd] <;> rfl) ?_))))
      refine den_fit (by simp only [nrm, X.den, Env.put, Env.pre, reduceIte, Nat.reduceLT, Nat.reduceSub, Nat.reduceAdd]; omega) (den_back ⟨⟨i + 1, ?_, by omega⟩, ?_⟩)
      · simp only [nrm, X.den, Env.put, Env.pre, reduceIte, Nat.reduceLT, Nat.reduceSub, Nat.reduceAdd]; rfl
      · simp only [nrm, X.den, Env.put, Env.pre, reduceIte, Nat.reduceLT, Nat.reduceSub, Nat.reduceAdd]; omega
    · simp only [nrm, X.den, Env.put, Env.pre, reduceIte, Nat.reduceLT, Nat.reduceSub, Nat.reduceAdd] at h2
      have hne : (i : Int) ≠ x.task ∨ x.tick = true := .inr h2
      have hu : v.ts.getD i default = t.mine := by rw [← hv]; exact (pick_at hne).trans (by rw [← ht]; exact mine_at (show i < ts.length by omega))
      have b0' : ((tasksD v.ts).rows.getD i []).getD 0 .u = .b t.busy := by rw [raw_r 0 (by omega), hu]; rfl
      have b1' : ((tasksD v.ts).rows.getD i []).getD 1 .u = .i t.f.c.kind := by rw [raw_r 1 (by omega), hu]; rfl
      have b2' : ((tasksD v.ts).rows.getD i []).getD 2 .u = .i t.f.c.k.a := by rw [raw_r 2 (by omega), hu]; rfl
      have b3' : ((tasksD v.ts).rows.getD i []).getD 3 .u = .i t.f.c.k.b := by rw [raw_r 3 (by omega), hu]; rfl
      have b4' : ((tasksD v.ts).rows.getD i []).getD 4 .u = .i t.f.c.time := by rw [raw_r 4 (by omega), hu]; rfl
      have b5' : ((tasksD v.ts).rows.getD i []).getD 5 .u = .i t.f.c.bucket := by rw [raw_r 5 (by omega), hu]; rfl
      have b6' : ((tasksD v.ts).rows.getD i []).getD 6 .u = .i t.f.c.slot := by rw [raw_r 6 (by omega), hu]; rfl
      have b7' : ((tasksD v.ts).rows.getD i []).getD 7 .u = .i t.f.pc := by rw [raw_r 7 (by omega), hu]; rfl
      have b8' : ((tasksD v.ts).rows.getD i []).getD 8 .u = .i t.f.cur := by rw [raw_r 8 (by omega), hu]; rfl
      have b9' : ((tasksD v.ts).rows.getD i []).getD 9 .u = .i t.f.prev := by rw [raw_r 9 (by omega), hu]; rfl
      have b10' : ((tasksD v.ts).rows.getD i []).getD 10 .u = .i t.f.slot := by rw [raw_r 10 (by omega), hu]; rfl
      have b11' : ((tasksD v.ts).rows.getD i []).getD 11 .u = .i t.f.n := by rw [raw_r 11 (by omega), hu]; rfl
      have b12' : ((tasksD v.ts).rows.getD i []).getD 12 .u = keysD t.f.keys := by rw [raw_r 12 (by omega), hu]; rfl
      have b13' : ((tasksD v.ts).rows.getD i []).getD 13 .u = .b t.f.done := by rw [raw_r 13 (by omega), hu]; rfl
      have b14' : ((tasksD v.ts).rows.getD i []).getD 14 .u = .i t.f.e := by rw [raw_r 14 (by omega), hu]; rfl
      have b15' : ((tasksD v.ts).rows.getD i []).getD 15 .u = intsD t.held := by rw [raw_r 15 (by omega), hu]; rfl
      refine den_iff (by simp only [nrm, X.den, Env.put, Env.pre, reduceIte, Nat.reduceLT, Nat.reduceSub, Nat.reduceAdd, Int.toNat_natCast, a0, a1, a2, a3, a4, a5, a6, a7, a8, a9, a10, a11, a12, a13, a14, a15, b0', b1', b2', b3', b4', b5', b6', b7', b8', b9', b10', b11', b12', b13', b14', b15', beq_self_eq_true, Bool.not_true] <;> rfl) (den_calle d47 [.b true] rfl trivial (by simp only [nrm, X.den, Env.put, Env.pre, reduceIte, Nat.reduceLT, Nat.reduceSub, Nat.reduceAdd, Int.toNat_natCast, a0, a1, a2, a3, a4, a5, a6, a7, a8, a9, a10, a11, a12, a13, a14, a15, b0', b1', b2', b3', b4', b5', b6', b7', b8', b9', b10', b11', b12', b13', b14', b15', fn47, decide_true]) (den_iff (by simp only [nrm, X.den, Env.put, Env.pre, reduceIte, Nat.reduceLT, Nat.reduceSub, Nat.reduceAdd] <;> rfl) (den_calle d39 [.b true] rfl trivial (by simp only [nrm, X.den, Env.put, Env.pre, reduceIte, Nat.reduceLT, Nat.reduceSub, Nat.reduceAdd, Int.toNat_natCast, a0, a1, a2, a3, a4, a5, a6, a7, a8, a9, a10, a11, a12, a13, a14, a15, b0', b1', b2', b3', b4', b5', b6', b7', b8', b9', b10', b11', b12', b13', b14', b15', d39, ints_intsD, decide_true]) (den_iff (by simp only [nrm, X.den, Env.put, Env.pre, reduceIte, Nat.reduceLT, Nat.reduceSub, Nat.reduceAdd] <;> rfl) ?_))))
      refine den_fit (by simp only [nrm, X.den, Env.put, Env.pre, reduceIte, Nat.reduceLT, Nat.reduceSub, Nat.reduceAdd]; omega) (den_back ⟨⟨i + 1, ?_, by omega⟩, ?_⟩)
      · simp only [nrm, X.den, Env.put, Env.pre, reduceIte, Nat.reduceLT, Nat.reduceSub, Nat.reduceAdd]; rfl
      · simp only [nrm, X.den, Env.put, Env.pre, reduceIte, Nat.reduceLT, Nat.reduceSub, Nat.reduceAdd]; omega
    · skip
      refine den_fit (by simp only [nrm, X.den, Env.put, Env.pre, reduceIte, Nat.reduceLT, Nat.reduceSub, Nat.reduceAdd]; omega) (den_back ⟨⟨i + 1, ?_, by omega⟩, ?_⟩)
      · simp only [nrm, X.den, Env.put, Env.pre, reduceIte, Nat.reduceLT, Nat.reduceSub, Nat.reduceAdd]; rfl
      · simp only [nrm, X.den, Env.put, Env.pre, reduceIte, Nat.reduceLT, Nat.reduceSub, Nat.reduceAdd]; omega
  · refine den_fit (by simp only [nrm, X.den, Env.put, Env.pre, reduceIte, Nat.reduceLT, Nat.reduceSub, Nat.reduceAdd]; omega) ?_
    cases htk : x.tick with
    | true =>
      have e := pick_tick hp htk
      rw [hv] at e
      have e : v.m.now = m.now + 1 := e
      refine den_ift (by simp only [nrm, X.den, Env.put, Env.pre, reduceIte, Nat.reduceLT, Nat.reduceSub, Nat.reduceAdd, Wrd.cds, Mem.cds, lca, htk, e, beq_self_eq_true] <;> rfl) (den_ite (fun _ => den_ret ?_) (fun _ => den_calle d59 [.b (decide (m = v.m))] rfl trivial (by simp only [nrm, X.den, Env.put, Env.pre, reduceIte, Nat.reduceLT, Nat.reduceSub, Nat.reduceAdd, Wrd.cds, Mem.cds, lca, d59, mem_of, mem_eta, List.drop_succ_cons, List.drop_zero]) (den_ite (fun _ => den_ret ?_) (fun _ => den_ret ?_))))
      · simp only [nrm, X.den, Env.put, Env.pre, reduceIte, Nat.reduceLT, Nat.reduceSub, Nat.reduceAdd]
      · simp only [nrm, X.den, Env.put, Env.pre, reduceIte, Nat.reduceLT, Nat.reduceSub, Nat.reduceAdd]
      · simp only [nrm, X.den, Env.put, Env.pre, reduceIte, Nat.reduceLT, Nat.reduceSub, Nat.reduceAdd, htk]
    | false =>
      have e := pick_now hw htk
      rw [hv] at e
      have e : v.m.now = m.now := e
      have e2 : (m.now == m.now + 1) = false := by rw [beq_eq_false_iff_ne]; omega
      refine den_ift (by simp only [nrm, X.den, Env.put, Env.pre, reduceIte, Nat.reduceLT, Nat.reduceSub, Nat.reduceAdd, Wrd.cds, Mem.cds, lca, htk, e, e2] <;> rfl) (den_ite (fun _ => den_ret ?_) (fun h3 => den_calle d59 [.b (decide (m = v.m))] rfl trivial (by simp only [nrm, X.den, Env.put, Env.pre, reduceIte, Nat.reduceLT, Nat.reduceSub, Nat.reduceAdd, Wrd.cds, Mem.cds, lca, d59, mem_of, mem_eta, List.drop_succ_cons, List.drop_zero]) (den_ift ?_ (den_ret ?_))))
      · simp only [nrm, X.den, Env.put, Env.pre, reduceIte, Nat.reduceLT, Nat.reduceSub, Nat.reduceAdd]
      · simp only [nrm, X.den, Env.put, Env.pre, reduceIte, Nat.reduceLT, Nat.reduceSub, Nat.reduceAdd] at h3
        have e3 := pick_same (w := Wrd.mine ⟨m, ts⟩) htk h3
        rw [hv] at e3
        have e3 : v.m = m := e3
        simp only [nrm, X.den, Env.put, Env.pre, reduceIte, Nat.reduceLT, Nat.reduceSub, Nat.reduceAdd, e3, decide_true]
      · simp only [nrm, X.den, Env.put, Env.pre, reduceIte, Nat.reduceLT, Nat.reduceSub, Nat.reduceAdd]
end Go.Proofs.Ytpmamacjepcdmaa
