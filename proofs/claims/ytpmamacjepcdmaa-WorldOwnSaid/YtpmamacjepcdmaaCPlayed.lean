import Derived.Test.YtpmamacjepcdmaaCWorldIn
namespace Go.Proofs.Ytpmamacjepcdmaa
open Go Go.Sy Go.RowKit
set_option linter.unusedSimpArgs false
set_option linter.unusedVariables false
structure Pst where
  task : Int
  c : Cal
  fr : Int
  to : Int
  e : Int
  slot : Int
  n : Int
  keys : List Key
  deriving DecidableEq
instance : Inhabited Pik := ⟨⟨0, false, false, ⟨0, ⟨0, 0⟩, 0, 0, 0⟩⟩⟩
def Pik.row (x : Pik) : List CD := [.i x.task, .b x.step, .b x.tick, .i x.c.kind, .i x.c.k.a, .i x.c.k.b, .i x.c.time, .i x.c.bucket, .i x.c.slot]
def Pst.row (p : Pst) : List CD := [.i p.task, .i p.c.kind, .i p.c.k.a, .i p.c.k.b, .i p.c.time, .i p.c.bucket, .i p.c.slot, .i p.fr, .i p.to, .i p.e, .i p.slot, .i p.n, keysD p.keys]
def picksD (l : List Pik) : CD := .l (l.map Pik.row)
def pastsD (l : List Pst) : CD := .l (l.map Pst.row)
def _root_.Go.Sy.CD.picks (d : CD) : List Pik := d.rows.map Pik.of
theorem picks_picksD (l : List Pik) : (picksD l).picks = l := by
  simp only [picksD, CD.picks, CD.rows_l, List.map_map]
  rw [show (Pik.of ∘ Pik.row) = id from rfl, List.map_id]
theorem len_picks (l : List Pik) : (picksD l).rows.length = l.length := by simp [picksD]
theorem len_pasts (l : List Pst) : (pastsD l).rows.length = l.length := by simp [pastsD]
theorem ok_picks {b : Nat} {d : CD} (h : CD.ok (.sl b kQ.kd) d) : ∃ l, d = picksD l ∧ l.length * b ≤ 140737488355328 := by
  obtain ⟨⟨rows, rfl, h1, h2⟩, _⟩ := h
  obtain ⟨l, rfl⟩ := rows_ex (f := Pik.row) (fun row hr => by
    obtain ⟨d0, row, rfl, g0, hr⟩ := cons_ok hr
    obtain ⟨d1, row, rfl, g1, hr⟩ := cons_ok hr
    obtain ⟨d2, row, rfl, g2, hr⟩ := cons_ok hr
    obtain ⟨d3, row, rfl, g3, hr⟩ := cons_ok hr
    obtain ⟨d4, row, rfl, g4, hr⟩ := cons_ok hr
    obtain ⟨d5, row, rfl, g5, hr⟩ := cons_ok hr
    obtain ⟨d6, row, rfl, g6, hr⟩ := cons_ok hr
    obtain ⟨d7, row, rfl, g7, hr⟩ := cons_ok hr
    obtain ⟨d8, row, rfl, g8, hr⟩ := cons_ok hr
    have hr := nil_ok hr
    subst hr
    obtain ⟨x, rfl, rfl, rfl, rfl, rfl, rfl, rfl, rfl, rfl⟩ := ok_pick (d0 := d0) (d1 := d1) (d2 := d2) g0 g1 g2 g3 g4 g5 g6 g7 g8
    exact ⟨x, rfl⟩) h2
  exact ⟨l, rfl, by simpa using h1⟩
theorem shut_orow (t : Tsk) : t.orow.modify 15 CD.shut = t.row := by
  show t.rw (t.hd.shut) = _
  unfold Tsk.hd
  split <;> rfl
theorem shuts_otasks (l : List Tsk) : CD.l ((otasksD l).rows.map fun r => r.modify 15 CD.shut) = tasksD l := by
  simp only [otasksD, tasksD, CD.rows_l, List.map_map]
  exact congrArg CD.l (List.map_congr_left fun t _ => shut_orow t)
structure RunS where
  w : Wrd
  said : List Int
  past : List Pst
  began : List Int
def pastOf (w : Wrd) (x : Int) (fr to : Int) : Pst := ⟨x, (tsk w x).f.c, fr, to, (tsk w x).f.e, (tsk w x).f.slot, (tsk w x).f.n, (tsk w x).f.keys⟩
def runStep (i : Nat) (x : Pik) (s : RunS) : RunS :=
  if (pickW s.w.mine x).2 ≠ 0 then { s with said := s.said ++ [(pickW s.w.mine x).2] }
  else if x.tick = true then ⟨(pickW s.w.mine x).1, s.said ++ [(pickW s.w.mine x).2], s.past, s.began⟩
  else if x.step = false then ⟨(pickW s.w.mine x).1, s.said ++ [(pickW s.w.mine x).2], s.past, s.began.set x.task.toNat i⟩
  else if (tsk (pickW s.w.mine x).1 x.task).busy = false then ⟨(pickW s.w.mine x).1, s.said ++ [(pickW s.w.mine x).2], s.past ++ [pastOf (pickW s.w.mine x).1 x.task (s.began.getD x.task.toNat 0) i], s.began⟩
  else ⟨(pickW s.w.mine x).1, s.said ++ [(pickW s.w.mine x).2], s.past, s.began⟩
def runL : List Pik → Nat → RunS → RunS
  | [], _, s => s
  | x :: l, i, s => runL l (i + 1) (runStep i x s)
def runW (w : Wrd) (l : List Pik) : RunS × Int :=
  if checkWorld w ≠ 0 then (⟨Wrd.none, [], [], []⟩, checkWorld w)
  else if 300 < l.length then (⟨Wrd.none, [], [], []⟩, 2)
  else (runL l 0 ⟨w.mine, [], [], List.replicate w.ts.length 0⟩, 0)
def Wrd.fcds (w : Wrd) : List CD := w.m.cds ++ [tasksD w.ts]
theorem pick_len (w : Wrd) (x : Pik) : (pickW w x).1.ts.length = w.ts.length := by
  unfold pickW
  split
  · split <;> rfl
  · split
    · rfl
    · split
      · unfold stepW
        repeat' split
        all_goals first
          | rfl
          | simp [Wrd.gone]
      · unfold beginW
        repeat' split
        all_goals first
          | rfl
          | simp [Wrd.at]
theorem pick_task {w : Wrd} {x : Pik} (h : (pickW w x).2 = 0) (ht : x.tick = false) : 0 ≤ x.task ∧ x.task < w.ts.length := by
  unfold pickW at h
  rw [if_neg (by rw [ht]; exact Bool.false_ne_true)] at h
  split at h
  · cases h
  · omega
theorem WInB.mine {n : Nat} {w : Wrd} (h : WInB n w) : WInB n w.mine :=
  ⟨h.m, fun t ht => by
    obtain ⟨u, hu, rfl⟩ := List.mem_map.1 ht
    obtain ⟨k1, k2, k3⟩ := h.t u hu
    exact ⟨rfl, k2, k3⟩⟩
theorem mine_len (w : Wrd) : w.mine.ts.length = w.ts.length := by simp [Wrd.mine]
theorem fine_of (m : Mem) (ts : List Tsk) : (Wrd.mine (Wrd.of [slotsD m.slots, intsD m.heads, intsD m.free, intsD m.locks, .i m.now, tasksD ts])) = (Wrd.mine ⟨m, ts⟩) := by
  rw [tasksD_lent, wrd_of]
  simp only [Wrd.mine, List.map_map]
  rfl
def s80 : Sig := ⟨[.agg [.fz kS, .fz kI, .fz kI, .fz kI, .int .i64, .fz kT], .one (.fz kQ)], [.agg [.fz kS, .fz kI, .fz kI, .fz kI, .int .i64, .fz kT], .one (.own 22 kI), .one (.own 93 kP), .one (.int .i64)]⟩
def d80 : DC := ⟨s80, fun _ => True, fun l => (runW (Wrd.of l) (l.getD 6 .u).picks).1.w.fcds ++ [intsD (runW (Wrd.of l) (l.getD 6 .u).picks).1.said, pastsD (runW (Wrd.of l) (l.getD 6 .u).picks).1.past, .i (runW (Wrd.of l) (l.getD 6 .u).picks).2]⟩
structure RInv (l : List Pik) (s0 : RunS) (i : Nat) (s : RunS) : Prop where
  le : i ≤ l.length
  eq : runL l 0 s0 = runL (l.drop i) i s
  w : WInB (100 + i) s.w.mine
  said : s.said.length = i
  past : s.past.length ≤ i
  began : s.began.length = s.w.ts.length
theorem runStep_inv {l : List Pik} {s0 : RunS} {i : Nat} {s : RunS} (h : RInv l s0 i s) (hi : i < l.length) : RInv l s0 (i + 1) (runStep i (l.getD i default) s) := by
  obtain ⟨h1, h2, h3, h4, h5, h6⟩ := h
  rw [drop_getD hi] at h2
  have hp := (pick_in h3 (l.getD i default)).mine
  have hl := pick_len s.w.mine (l.getD i default)
  rw [mine_len] at hl
  refine ⟨hi, h2, ?_, ?_, ?_, ?_⟩
  · unfold runStep
    repeat' split
    all_goals first
      | exact h3.mono (by omega)
      | exact hp
  · unfold runStep
    repeat' split
    all_goals simp [h4]
  · unfold runStep
    repeat' split
    all_goals first
      | (simp only [List.length_append, List.length_cons, List.length_nil]; omega)
      | (show s.past.length ≤ _; omega)
  · unfold runStep
    repeat' split
    all_goals first
      | exact h6
      | (simp only [List.length_set]; omega)
      | (show s.began.length = _; omega)
def l80 : List (Nat × Ct) := [(157, d157.ct), (170, d170.ct), (171, d171.ct), (172, d172.ct)]
def z80 : Cx := { T := ttA, C := sigs l80, F := [], hints := [⟨80, 9, false, [(33, .lt), (5, .own 22 kI), (6, .own 93 kP), (9, .own 3 kI)], [(0, 0, .fz kS), (0, 1, .fz kI), (0, 2, .fz kI), (0, 3, .fz kI), (0, 4, .lt), (0, 5, .fz kT)], [], [], 0⟩], sig := s80 }
def t80 : Tree :=
 (.call 157 [.var 0, .var 1, .var 2, .var 3, .var 4, .var 5] 7
 (.ite (.not (.eq (.var 7) (.int 0)))
 (.ret [.nil, .nil, .nil, .nil, .int 0, .nil, .nil, .nil, .var 7])
 (.ite (.lt (.int 300) (.len (.var 6)))
 (.ret [.nil, .nil, .nil, .nil, .int 0, .nil, .nil, .nil, .int 2])
 (.call 170 [.var 0, .var 1, .var 2, .var 3, .var 4, .var 5] 8
 (.need (.le (.len (.var 13)) (.int 17592186044416))
 (.need (.clean (.var 13) 15)
 (.loop 14 [.sl 8 [.int .i64], .sl 120 [.int .i64, .int .i64, .int .i64, .int .i64, .int .i64, .int .i64, .int .i64, .int .i64, .int .i64, .int .i64, .int .i64, .int .i64, .sl 16 [.int .i64, .int .i64]], .sl 8 [.int .i64], .int .i64, .sl 48 [.int .i64, .int .i64, .int .i64, .int .i64, .bool, .int .i64], .sl 8 [.int .i64], .sl 8 [.int .i64], .sl 8 [.int .i64], .int .i64, .sl 160 [.bool, .int .i64, .int .i64, .int .i64, .int .i64, .int .i64, .int .i64, .int .i64, .int .i64, .int .i64, .int .i64, .int .i64, .sl 16 [.int .i64, .int .i64], .bool, .int .i64, .sl 8 [.int .i64]]] [.nil, .nil, .rep (.len (.var 13)) (.cons (.int 0) .row0), .int 0, .var 8, .var 9, .var 10, .var 11, .var 12, .shuts (.var 13) 15]
 (.ite (.lt (.var 18) (.len (.var 6)))
 (.need (.le (.int 0) (.var 18))
 (.call 170 [.var 19, .var 20, .var 21, .var 22, .var 23, .var 24] 25
 (.need (.clean (.var 30) 15)
 (.call 171 [.var 25, .var 26, .var 27, .var 28, .var 29, .var 30, .cell (.var 6) (.var 18) 0, .cell (.var 6) (.var 18) 1, .cell (.var 6) (.var 18) 2, .cell (.var 6) (.var 18) 3, .cell (.var 6) (.var 18) 4, .cell (.var 6) (.var 18) 5, .cell (.var 6) (.var 18) 6, .cell (.var 6) (.var 18) 7, .cell (.var 6) (.var 18) 8] 31
 (.need (.le (.add (.len (.var 15)) (.int 1)) (.int 17592186044416))
 (.ite (.not (.eq (.var 37) (.int 0)))
 (.need (.fit (.add (.var 18) (.int 1)))
 (.need (.clean (.var 36) 15)
 (.back 14 [.app (.var 15) (.cons (.var 37) .row0), .var 16, .var 17, .add (.var 18) (.int 1), .var 19, .var 20, .var 21, .var 22, .var 23, .var 24])))
 (.ite (.cell (.var 6) (.var 18) 2)
 (.need (.fit (.add (.var 18) (.int 1)))
 (.need (.clean (.var 36) 15)
 (.back 14 [.app (.var 15) (.cons (.var 37) .row0), .var 16, .var 17, .add (.var 18) (.int 1), .var 31, .var 32, .var 33, .var 34, .var 35, .shuts (.var 36) 15])))
 (.ite (.not (.cell (.var 6) (.var 18) 1))
 (.need (.le (.int 0) (.cell (.var 6) (.var 18) 0))
 (.need (.lt (.cell (.var 6) (.var 18) 0) (.len (.var 17)))
 (.need (.fit (.add (.var 18) (.int 1)))
 (.need (.clean (.var 36) 15)
 (.back 14 [.app (.var 15) (.cons (.var 37) .row0), .var 16, .set (.var 17) (.cell (.var 6) (.var 18) 0) 0 (.var 18), .add (.var 18) (.int 1), .var 31, .var 32, .var 33, .var 34, .var 35, .shuts (.var 36) 15])))))
 (.need (.le (.int 0) (.cell (.var 6) (.var 18) 0))
 (.need (.lt (.cell (.var 6) (.var 18) 0) (.len (.var 36)))
 (.ite (.not (.cell (.var 36) (.cell (.var 6) (.var 18) 0) 0))
 (.need (.lt (.cell (.var 6) (.var 18) 0) (.len (.var 17)))
 (.call 172 [.cell (.var 36) (.cell (.var 6) (.var 18) 0) 12] 38
 (.need (.le (.add (.len (.var 16)) (.int 1)) (.int 1172812402961))
 (.need (.fit (.add (.var 18) (.int 1)))
 (.need (.clean (.var 36) 15)
 (.back 14 [.app (.var 15) (.cons (.var 37) .row0), .app (.var 16) (.cons (.cell (.var 6) (.var 18) 0) (.cons (.cell (.var 36) (.cell (.var 6) (.var 18) 0) 1) (.cons (.cell (.var 36) (.cell (.var 6) (.var 18) 0) 2) (.cons (.cell (.var 36) (.cell (.var 6) (.var 18) 0) 3) (.cons (.cell (.var 36) (.cell (.var 6) (.var 18) 0) 4) (.cons (.cell (.var 36) (.cell (.var 6) (.var 18) 0) 5) (.cons (.cell (.var 36) (.cell (.var 6) (.var 18) 0) 6) (.cons (.cell (.var 17) (.cell (.var 6) (.var 18) 0) 0) (.cons (.var 18) (.cons (.cell (.var 36) (.cell (.var 6) (.var 18) 0) 14) (.cons (.cell (.var 36) (.cell (.var 6) (.var 18) 0) 10) (.cons (.cell (.var 36) (.cell (.var 6) (.var 18) 0) 11) (.cons (.var 38) .row0))))))))))))), .var 17, .add (.var 18) (.int 1), .var 31, .var 32, .var 33, .var 34, .var 35, .shuts (.var 36) 15]))))))
 (.need (.fit (.add (.var 18) (.int 1)))
 (.need (.clean (.var 36) 15)
 (.back 14 [.app (.var 15) (.cons (.var 37) .row0), .var 16, .var 17, .add (.var 18) (.int 1), .var 31, .var 32, .var 33, .var 34, .var 35, .shuts (.var 36) 15]))))))))))))))
 (.ret [.var 19, .var 20, .var 21, .var 22, .var 23, .var 24, .var 15, .var 16, .int 0])))))))))
theorem run80 : run z80 6000 [.code (Try.f80.body.getD .skip), .fin (topRet z80 Try.f80.results.toList 50)] { fn := 80, tmps := z80.sig.args0 ++ List.replicate (Try.f80.ntmps - z80.sig.args0.length) (.v (.one .undef)), stk := [], h := z80.sig.h0, nx := z80.sig.ins.length, known := [] } = t80 := by kernel_rfl
set_option maxHeartbeats 4000000 in
theorem ok80 : CtOk Try.prog 80 d80.ct := by
  refine dc_of_tree (d := d80) (Z := z80) (Γ := gam l80) (fn := Try.f80) (c := Try.f80.body.getD .skip) (told_of tok mixed (all_cons ok157 (all_cons ok170 (all_cons ok171 (all_cons ok172 all_nil)))) fok_nil) Try.func80 (by kernel_rfl) (by kernel_rfl) rfl run80 fun E hk hp => ?_
  obtain ⟨hk0, hk1, hk2, hk3, hk4, hk5, hk6, _⟩ := hk
  obtain ⟨m, e0, e1, e2, e3, e4, b0, b1, b2, b3⟩ := ok_mem (d0 := E 0) (d1 := E 1) (d2 := E 2) (d3 := E 3) (d4 := E 4) hk0 hk1 hk2 hk3 hk4
  obtain ⟨ts, e5, hts, b5⟩ := ok_tasks (d := E 5) hk5
  have b5 : ts.length * 160 ≤ 140737488355328 := b5
  obtain ⟨l, e6, b6⟩ := ok_picks (d := E 6) hk6
  have b6 : l.length * 64 ≤ 140737488355328 := b6
  have el : letters E d80.sig.ins.length = [slotsD m.slots, intsD m.heads, intsD m.free, intsD m.locks, .i m.now, tasksD ts, picksD l] := by
    show [E 0, E 1, E 2, E 3, E 4, E 5, E 6] = _
    rw [e0, e1, e2, e3, e4, e5, e6]
  rw [el] at hp
  rw [el]
  rw [Env.pre_eq el]
  clear el e0 e1 e2 e3 e4 e5 e6
  have hown : ∀ t ∈ ts, t.own = false := fun t ht => (hts t ht).1
  simp only [d80, wrd_off _ _ _ _ _ hown, mem_eta, List.getD_cons_zero, List.getD_cons_succ, picks_picksD]
  unfold runW
  unfold t80
  refine den_calle d157 [.i (checkWorld ⟨m, ts⟩)] rfl trivial (by simp only [nrm, X.den, Env.put, Env.pre, reduceIte, Nat.reduceLT, Nat.reduceSub, Nat.reduceAdd, d157, wrd_off _ _ _ _ _ hown, mem_eta]) (den_ite (fun h => den_ret ?_) (fun h => ?_))
  · simp only [nrm, X.den, Env.put, Env.pre, reduceIte, Nat.reduceLT, Nat.reduceSub, Nat.reduceAdd] at h ⊢
    rw [if_pos (by simpa using h)]; rfl
  simp only [nrm, X.den, Env.put, Env.pre, reduceIte, Nat.reduceLT, Nat.reduceSub, Nat.reduceAdd] at h
  have h : checkWorld ⟨m, ts⟩ = 0 := by simpa using h
  rw [if_neg (fun y => y h)]
  refine den_ite (fun h1 => den_ret ?_) (fun h1 => ?_)
  · simp only [nrm, X.den, Env.put, Env.pre, reduceIte, Nat.reduceLT, Nat.reduceSub, Nat.reduceAdd, len_picks] at h1 ⊢
    rw [if_pos (by omega)]; rfl
  simp only [nrm, X.den, Env.put, Env.pre, reduceIte, Nat.reduceLT, Nat.reduceSub, Nat.reduceAdd, len_picks] at h1
  rw [if_neg (by omega)]
  have hw := winb_of h
  refine den_calle d170 (Wrd.mine ⟨m, ts⟩).cds rfl trivial (by simp only [nrm, X.den, Env.put, Env.pre, reduceIte, Nat.reduceLT, Nat.reduceSub, Nat.reduceAdd, d170, fine_of]) ?_
  obtain ⟨s0, hs0⟩ : ∃ s0 : RunS, (⟨Wrd.mine ⟨m, ts⟩, [], [], List.replicate ts.length 0⟩ : RunS) = s0 := ⟨_, rfl⟩
  have hlen : (Wrd.mine ⟨m, ts⟩).ts.length = ts.length := mine_len _
  show Tree.den _ (fun outs => outs = (runL l 0 ⟨Wrd.mine ⟨m, ts⟩, [], [], List.replicate ts.length 0⟩).w.fcds ++ [intsD (runL l 0 ⟨Wrd.mine ⟨m, ts⟩, [], [], List.replicate ts.length 0⟩).said, pastsD (runL l 0 ⟨Wrd.mine ⟨m, ts⟩, [], [], List.replicate ts.length 0⟩).past, .i 0]) _ _ _
  rw [hs0]
  have hz : ∀ n : Nat, CD.l (List.replicate n [CD.i 0]) = intsD (List.replicate n 0) := fun n => by simp [intsD]
  refine den_need (by simp only [nrm, X.den, Env.put, Env.pre, reduceIte, Nat.reduceLT, Nat.reduceSub, Nat.reduceAdd, Wrd.cds, Mem.cds, lca, len_otasks, hlen]; omega) (den_need (by simp only [nrm, X.den, Env.put, Env.pre, reduceIte, Nat.reduceLT, Nat.reduceSub, Nat.reduceAdd, Wrd.cds, Mem.cds, lca]; exact clean_otasks _)
    (den_loop (fun ds => ∃ (i : Nat) (s : RunS), ds = [intsD s.said, pastsD s.past, intsD s.began, .i i, slotsD s.w.m.slots, intsD s.w.m.heads, intsD s.w.m.free, intsD s.w.m.locks, .i s.w.m.now, tasksD s.w.ts] ∧ RInv l s0 i s) (fun ds => l.length - (ds.getD 3 .u).int.toNat) ⟨0, s0, ?_, ?_⟩ ?_))
  · simp only [nrm, X.den, Env.put, Env.pre, reduceIte, Nat.reduceLT, Nat.reduceSub, Nat.reduceAdd, Wrd.cds, Mem.cds, lca, len_otasks, hlen, shuts_otasks, CD.row, List.headD_cons, Int.toNat_natCast, hz]
    rw [← hs0]; rfl
  · subst hs0
    exact ⟨Nat.zero_le _, rfl, hw.mine.mono (by omega), rfl, Nat.le_refl _, by simp [hlen]⟩
  rintro ds - ⟨i, s, rfl, hI⟩
  obtain ⟨I1, I2, I3, I4, I5, I6⟩ := id hI
  refine den_ite (fun hlt => ?_) (fun hge => den_ret ?_)
  · simp only [nrm, X.den, Env.put, Env.pre, reduceIte, Nat.reduceLT, Nat.reduceSub, Nat.reduceAdd, len_picks] at hlt
    obtain ⟨x, hx⟩ : ∃ x, l.getD i default = x := ⟨_, rfl⟩
    have hcell : ∀ o, ((picksD l).rows.getD i []).getD o .u = x.row.getD o .u := fun o => by rw [← hx]; exact raw_map Pik.row l i o (by omega)
    have c0 : ((picksD l).rows.getD i []).getD 0 .u = .i x.task := hcell 0
    have c1 : ((picksD l).rows.getD i []).getD 1 .u = .b x.step := hcell 1
    have c2 : ((picksD l).rows.getD i []).getD 2 .u = .b x.tick := hcell 2
    have c3 : ((picksD l).rows.getD i []).getD 3 .u = .i x.c.kind := hcell 3
    have c4 : ((picksD l).rows.getD i []).getD 4 .u = .i x.c.k.a := hcell 4
    have c5 : ((picksD l).rows.getD i []).getD 5 .u = .i x.c.k.b := hcell 5
    have c6 : ((picksD l).rows.getD i []).getD 6 .u = .i x.c.time := hcell 6
    have c7 : ((picksD l).rows.getD i []).getD 7 .u = .i x.c.bucket := hcell 7
    have c8 : ((picksD l).rows.getD i []).getD 8 .u = .i x.c.slot := hcell 8
    have hv := runStep_inv hI (show i < l.length by omega)
    rw [hx] at hv
    have hsw : (⟨s.w.m, s.w.ts⟩ : Wrd) = s.w := rfl
    refine den_need (by simp only [nrm, X.den, Env.put, Env.pre, reduceIte, Nat.reduceLT, Nat.reduceSub, Nat.reduceAdd]; omega) (den_calle d170 s.w.mine.cds rfl trivial (by simp only [nrm, X.den, Env.put, Env.pre, reduceIte, Nat.reduceLT, Nat.reduceSub, Nat.reduceAdd, d170, fine_of, hsw]) ?_)
    have hpl := pick_len s.w.mine x
    rw [mine_len] at hpl
    have hpt := pick_task (w := s.w.mine) (x := x)
    rw [mine_len] at hpt
    obtain ⟨q, hq⟩ : ∃ q, pickW s.w.mine x = q := ⟨_, rfl⟩
    have hS : runStep i x s = if q.2 ≠ 0 then { s with said := s.said ++ [q.2] } else if x.tick = true then ⟨q.1, s.said ++ [q.2], s.past, s.began⟩ else if x.step = false then ⟨q.1, s.said ++ [q.2], s.past, s.began.set x.task.toNat i⟩ else if (tsk q.1 x.task).busy = false then ⟨q.1, s.said ++ [q.2], s.past ++ [pastOf q.1 x.task (s.began.getD x.task.toNat 0) i], s.began⟩ else ⟨q.1, s.said ++ [q.2], s.past, s.began⟩ := by rw [← hq]; rfl
    rw [hq] at hpl hpt
    refine den_need (by simp only [nrm, X.den, Env.put, Env.pre, reduceIte, Nat.reduceLT, Nat.reduceSub, Nat.reduceAdd, Wrd.cds, Mem.cds, lca]; exact clean_otasks _) (den_calle d171 (q.1.cds ++ [.i q.2]) rfl ?_ ?_ ?_)
    · simp only [nrm, X.den, Env.put, Env.pre, reduceIte, Nat.reduceLT, Nat.reduceSub, Nat.reduceAdd, Wrd.cds, Mem.cds, lca, d171, wrd_of, mem_eta]
      exact I3.in (by omega)
    · simp only [nrm, X.den, Env.put, Env.pre, reduceIte, Nat.reduceLT, Nat.reduceSub, Nat.reduceAdd, Int.toNat_natCast, c0, c1, c2, c3, c4, c5, c6, c7, c8, Wrd.cds, Mem.cds, lca, d171, wrd_of, mem_eta, List.drop_succ_cons, List.drop_zero, pik_of, call_eta]
      rw [← hq]
    refine den_need (by simp only [nrm, X.den, Env.put, Env.pre, reduceIte, Nat.reduceLT, Nat.reduceSub, Nat.reduceAdd, len_ints]; omega) (den_ite (fun h2 => ?_) (fun h2 => ?_))
    · simp only [nrm, X.den, Env.put, Env.pre, reduceIte, Nat.reduceLT, Nat.reduceSub, Nat.reduceAdd, Wrd.cds, Mem.cds, lca] at h2
      rw [if_pos (by simpa using h2)] at hS
      refine den_fit (by simp only [nrm, X.den, Env.put, Env.pre, reduceIte, Nat.reduceLT, Nat.reduceSub, Nat.reduceAdd]; omega) (den_need (by simp only [nrm, X.den, Env.put, Env.pre, reduceIte, Nat.reduceLT, Nat.reduceSub, Nat.reduceAdd, Wrd.cds, Mem.cds, lca]; exact clean_otasks _) (den_back ⟨⟨i + 1, _, ?_, hv⟩, ?_⟩))
      · rw [hS]
        simp only [nrm, X.den, Env.put, Env.pre, reduceIte, Nat.reduceLT, Nat.reduceSub, Nat.reduceAdd, Int.toNat_natCast, c0, c1, c2, c3, c4, c5, c6, c7, c8, Wrd.cds, Mem.cds, lca, CD.row, List.headD_cons, CD.rows_l, shuts_otasks, app_int, set_int]
        rfl
      · simp only [nrm, X.den, Env.put, Env.pre, reduceIte, Nat.reduceLT, Nat.reduceSub, Nat.reduceAdd]; omega
    simp only [nrm, X.den, Env.put, Env.pre, reduceIte, Nat.reduceLT, Nat.reduceSub, Nat.reduceAdd, Wrd.cds, Mem.cds, lca] at h2
    have h2 : q.2 = 0 := by simpa using h2
    rw [if_neg (fun y => y h2)] at hS
    refine den_ite (fun h3 => ?_) (fun h3 => ?_)
    · simp only [nrm, X.den, Env.put, Env.pre, reduceIte, Nat.reduceLT, Nat.reduceSub, Nat.reduceAdd, Int.toNat_natCast, c2] at h3
      rw [if_pos h3] at hS
      refine den_fit (by simp only [nrm, X.den, Env.put, Env.pre, reduceIte, Nat.reduceLT, Nat.reduceSub, Nat.reduceAdd]; omega) (den_need (by simp only [nrm, X.den, Env.put, Env.pre, reduceIte, Nat.reduceLT, Nat.reduceSub, Nat.reduceAdd, Wrd.cds, Mem.cds, lca]; exact clean_otasks _) (den_back ⟨⟨i + 1, _, ?_, hv⟩, ?_⟩))
      · rw [hS]
        simp only [nrm, X.den, Env.put, Env.pre, reduceIte, Nat.reduceLT, Nat.reduceSub, Nat.reduceAdd, Int.toNat_natCast, c0, c1, c2, c3, c4, c5, c6, c7, c8, Wrd.cds, Mem.cds, lca, CD.row, List.headD_cons, CD.rows_l, shuts_otasks, app_int, set_int]
        rfl
      · simp only [nrm, X.den, Env.put, Env.pre, reduceIte, Nat.reduceLT, Nat.reduceSub, Nat.reduceAdd]; omega
    simp only [nrm, X.den, Env.put, Env.pre, reduceIte, Nat.reduceLT, Nat.reduceSub, Nat.reduceAdd, Int.toNat_natCast, c2] at h3
    rw [if_neg (by rw [h3]; exact Bool.false_ne_true)] at hS
    have ht := hpt h2 h3
    refine den_ite (fun h4 => ?_) (fun h4 => ?_)
    · simp only [nrm, X.den, Env.put, Env.pre, reduceIte, Nat.reduceLT, Nat.reduceSub, Nat.reduceAdd, Int.toNat_natCast, c1, Bool.not_eq_true'] at h4
      rw [if_pos h4] at hS
      refine den_need (by simp only [nrm, X.den, Env.put, Env.pre, reduceIte, Nat.reduceLT, Nat.reduceSub, Nat.reduceAdd, Int.toNat_natCast, c0]; omega) (den_need (by simp only [nrm, X.den, Env.put, Env.pre, reduceIte, Nat.reduceLT, Nat.reduceSub, Nat.reduceAdd, Int.toNat_natCast, c0, len_ints]; omega) ?_)
      refine den_fit (by simp only [nrm, X.den, Env.put, Env.pre, reduceIte, Nat.reduceLT, Nat.reduceSub, Nat.reduceAdd]; omega) (den_need (by simp only [nrm, X.den, Env.put, Env.pre, reduceIte, Nat.reduceLT, Nat.reduceSub, Nat.reduceAdd, Wrd.cds, Mem.cds, lca]; exact clean_otasks _) (den_back ⟨⟨i + 1, _, ?_, hv⟩, ?_⟩))
      · rw [hS]
        simp only [nrm, X.den, Env.put, Env.pre, reduceIte, Nat.reduceLT, Nat.reduceSub, Nat.reduceAdd, Int.toNat_natCast, c0, c1, c2, c3, c4, c5, c6, c7, c8, Wrd.cds, Mem.cds, lca, CD.row, List.headD_cons, CD.rows_l, shuts_otasks, app_int, set_int]
        rfl
      · simp only [nrm, X.den, Env.put, Env.pre, reduceIte, Nat.reduceLT, Nat.reduceSub, Nat.reduceAdd]; omega
    simp only [nrm, X.den, Env.put, Env.pre, reduceIte, Nat.reduceLT, Nat.reduceSub, Nat.reduceAdd, Int.toNat_natCast, c1, Bool.not_eq_false'] at h4
    rw [if_neg (by rw [h4]; exact fun y => Bool.noConfusion y)] at hS
    have hlt' : x.task.toNat < q.1.ts.length := by omega
    obtain ⟨t, htt⟩ : ∃ t, tsk q.1 x.task = t := ⟨_, rfl⟩
    have htt' : q.1.ts.getD x.task.toNat default = t := htt
    have e0 : ((otasksD q.1.ts).rows.getD x.task.toNat []).getD 0 .u = .b t.busy := by rw [raw_t 0 hlt', htt']; rfl
    have e1 : ((otasksD q.1.ts).rows.getD x.task.toNat []).getD 1 .u = .i t.f.c.kind := by rw [raw_t 1 hlt', htt']; rfl
    have e2 : ((otasksD q.1.ts).rows.getD x.task.toNat []).getD 2 .u = .i t.f.c.k.a := by rw [raw_t 2 hlt', htt']; rfl
    have e3 : ((otasksD q.1.ts).rows.getD x.task.toNat []).getD 3 .u = .i t.f.c.k.b := by rw [raw_t 3 hlt', htt']; rfl
    have e4 : ((otasksD q.1.ts).rows.getD x.task.toNat []).getD 4 .u = .i t.f.c.time := by rw [raw_t 4 hlt', htt']; rfl
    have e5 : ((otasksD q.1.ts).rows.getD x.task.toNat []).getD 5 .u = .i t.f.c.bucket := by rw [raw_t 5 hlt', htt']; rfl
    have e6 : ((otasksD q.1.ts).rows.getD x.task.toNat []).getD 6 .u = .i t.f.c.slot := by rw [raw_t 6 hlt', htt']; rfl
    have e7 : ((otasksD q.1.ts).rows.getD x.task.toNat []).getD 7 .u = .i t.f.pc := by rw [raw_t 7 hlt', htt']; rfl
    have e8 : ((otasksD q.1.ts).rows.getD x.task.toNat []).getD 8 .u = .i t.f.cur := by rw [raw_t 8 hlt', htt']; rfl
    have e9 : ((otasksD q.1.ts).rows.getD x.task.toNat []).getD 9 .u = .i t.f.prev := by rw [raw_t 9 hlt', htt']; rfl
    have e10 : ((otasksD q.1.ts).rows.getD x.task.toNat []).getD 10 .u = .i t.f.slot := by rw [raw_t 10 hlt', htt']; rfl
    have e11 : ((otasksD q.1.ts).rows.getD x.task.toNat []).getD 11 .u = .i t.f.n := by rw [raw_t 11 hlt', htt']; rfl
    have e12 : ((otasksD q.1.ts).rows.getD x.task.toNat []).getD 12 .u = keysD t.f.keys := by rw [raw_t 12 hlt', htt']; rfl
    have e13 : ((otasksD q.1.ts).rows.getD x.task.toNat []).getD 13 .u = .b t.f.done := by rw [raw_t 13 hlt', htt']; rfl
    have e14 : ((otasksD q.1.ts).rows.getD x.task.toNat []).getD 14 .u = .i t.f.e := by rw [raw_t 14 hlt', htt']; rfl
    have hb1 : ((intsD s.began).rows.getD x.task.toNat []).getD 0 .u = .i (s.began.getD x.task.toNat 0) := raw_int (by omega)
    refine den_need (by simp only [nrm, X.den, Env.put, Env.pre, reduceIte, Nat.reduceLT, Nat.reduceSub, Nat.reduceAdd, Int.toNat_natCast, c0]; omega) (den_need (by simp only [nrm, X.den, Env.put, Env.pre, reduceIte, Nat.reduceLT, Nat.reduceSub, Nat.reduceAdd, Int.toNat_natCast, c0, Wrd.cds, Mem.cds, lca, len_otasks]; omega) (den_ite (fun h5 => ?_) (fun h5 => ?_)))
    · simp only [nrm, X.den, Env.put, Env.pre, reduceIte, Nat.reduceLT, Nat.reduceSub, Nat.reduceAdd, Int.toNat_natCast, c0, Wrd.cds, Mem.cds, lca, e0, Bool.not_eq_true'] at h5
      rw [htt, if_pos h5] at hS
      refine den_need (by simp only [nrm, X.den, Env.put, Env.pre, reduceIte, Nat.reduceLT, Nat.reduceSub, Nat.reduceAdd, Int.toNat_natCast, c0, len_ints]; omega) (den_calle d172 [keysD t.f.keys] rfl trivial (by simp only [nrm, X.den, Env.put, Env.pre, reduceIte, Nat.reduceLT, Nat.reduceSub, Nat.reduceAdd, Int.toNat_natCast, c0, e12, Wrd.cds, Mem.cds, lca, d172, keys_keysD]) (den_need (by simp only [nrm, X.den, Env.put, Env.pre, reduceIte, Nat.reduceLT, Nat.reduceSub, Nat.reduceAdd, len_pasts]; omega) ?_))
      have hp : pastOf q.1 x.task (s.began.getD x.task.toNat 0) i = ⟨x.task, t.f.c, s.began.getD x.task.toNat 0, i, t.f.e, t.f.slot, t.f.n, t.f.keys⟩ := by unfold pastOf; rw [htt]
      have ha : (pastsD s.past).rows ++ [[.i x.task, .i t.f.c.kind, .i t.f.c.k.a, .i t.f.c.k.b, .i t.f.c.time, .i t.f.c.bucket, .i t.f.c.slot, .i (s.began.getD x.task.toNat 0), .i (i : Int), .i t.f.e, .i t.f.slot, .i t.f.n, keysD t.f.keys]] = (pastsD (s.past ++ [pastOf q.1 x.task (s.began.getD x.task.toNat 0) i])).rows := by rw [hp]; simp [pastsD, Pst.row]
      refine den_fit (by simp only [nrm, X.den, Env.put, Env.pre, reduceIte, Nat.reduceLT, Nat.reduceSub, Nat.reduceAdd]; omega) (den_need (by simp only [nrm, X.den, Env.put, Env.pre, reduceIte, Nat.reduceLT, Nat.reduceSub, Nat.reduceAdd, Wrd.cds, Mem.cds, lca]; exact clean_otasks _) (den_back ⟨⟨i + 1, _, ?_, hv⟩, ?_⟩))
      · rw [hS]
        simp only [nrm, X.den, Env.put, Env.pre, reduceIte, Nat.reduceLT, Nat.reduceSub, Nat.reduceAdd, Int.toNat_natCast, c0, c1, c2, c3, c4, c5, c6, c7, c8, e1, e2, e3, e4, e5, e6, e10, e11, e14, hb1, ha, Wrd.cds, Mem.cds, lca, CD.row, List.headD_cons, CD.rows_l, shuts_otasks, app_int]
        rfl
      · simp only [nrm, X.den, Env.put, Env.pre, reduceIte, Nat.reduceLT, Nat.reduceSub, Nat.reduceAdd]; omega
    · simp only [nrm, X.den, Env.put, Env.pre, reduceIte, Nat.reduceLT, Nat.reduceSub, Nat.reduceAdd, Int.toNat_natCast, c0, Wrd.cds, Mem.cds, lca, e0, Bool.not_eq_false'] at h5
      rw [htt, if_neg (by rw [h5]; exact fun y => Bool.noConfusion y)] at hS
      refine den_fit (by simp only [nrm, X.den, Env.put, Env.pre, reduceIte, Nat.reduceLT, Nat.reduceSub, Nat.reduceAdd]; omega) (den_need (by simp only [nrm, X.den, Env.put, Env.pre, reduceIte, Nat.reduceLT, Nat.reduceSub, Nat.reduceAdd, Wrd.cds, Mem.cds, lca]; exact clean_otasks _) (den_back ⟨⟨i + 1, _, ?_, hv⟩, ?_⟩))
      · rw [hS]
        simp only [nrm, X.den, Env.put, Env.pre, reduceIte, Nat.reduceLT, Nat.reduceSub, Nat.reduceAdd, Int.toNat_natCast, c0, c1, c2, c3, c4, c5, c6, c7, c8, Wrd.cds, Mem.cds, lca, CD.row, List.headD_cons, CD.rows_l, shuts_otasks, app_int, set_int]
        rfl
      · simp only [nrm, X.den, Env.put, Env.pre, reduceIte, Nat.reduceLT, Nat.reduceSub, Nat.reduceAdd]; omega
  · simp only [nrm, X.den, Env.put, Env.pre, reduceIte, Nat.reduceLT, Nat.reduceSub, Nat.reduceAdd, len_picks] at hge ⊢
    rw [List.drop_eq_nil_of_le (show l.length ≤ i by omega)] at I2
    rw [I2]
    simp only [runL, Wrd.fcds, Mem.cds, lca]
end Go.Proofs.Ytpmamacjepcdmaa

namespace Go.Proofs.Ytpmamacjepcdmaa
open Go Go.Sy Go.RowKit
set_option linter.unusedSimpArgs false
set_option linter.unusedVariables false
set_option maxRecDepth 20000
instance : Inhabited Pst := ⟨⟨0, ⟨0, ⟨0, 0⟩, 0, 0, 0⟩, 0, 0, 0, 0, 0, []⟩⟩
def qL : List Pik := [⟨0, false, false, ⟨2, ⟨3, 0⟩, 5, 0, 0⟩⟩, ⟨1, false, false, ⟨1, ⟨3, 0⟩, 0, 0, 0⟩⟩, ⟨1, true, false, ⟨0, ⟨0, 0⟩, 0, 0, 0⟩⟩, ⟨0, true, false, ⟨0, ⟨0, 0⟩, 0, 0, 0⟩⟩, ⟨0, true, false, ⟨0, ⟨0, 0⟩, 0, 0, 0⟩⟩, ⟨0, true, false, ⟨0, ⟨0, 0⟩, 0, 0, 0⟩⟩, ⟨0, true, false, ⟨0, ⟨0, 0⟩, 0, 0, 0⟩⟩, ⟨0, true, false, ⟨0, ⟨0, 0⟩, 0, 0, 0⟩⟩, ⟨0, true, false, ⟨0, ⟨0, 0⟩, 0, 0, 0⟩⟩, ⟨1, true, false, ⟨0, ⟨0, 0⟩, 0, 0, 0⟩⟩, ⟨1, true, false, ⟨0, ⟨0, 0⟩, 0, 0, 0⟩⟩, ⟨0, false, true, ⟨0, ⟨0, 0⟩, 0, 0, 0⟩⟩]
def pN : Wrd × Int := newW 2 1 2
def Wrd.lent (w : Wrd) : Wrd := ⟨w.m, w.ts.map Tsk.lent⟩
def pR : RunS × Int := runW pN.1.lent qL
def pF : List Flow × Int := flowsW pR.1.w.lent
theorem pN_ok : pN.2 = 0 := by decide +kernel
theorem pR_ok : pR.2 = 0 ∧ pR.1.said = [0, 0, 0, 0, 0, 0, 0, 0, 0, 0, 8, 0] ∧ pR.1.past.length = 2 ∧ (pR.1.past.getD 0 default).e = 0 ∧ (pR.1.past.getD 0 default).task = 0 ∧ (pR.1.past.getD 1 default).e = 5 ∧ (pR.1.past.getD 1 default).to = 9 ∧ pR.1.w.m.now = 1 := by decide +kernel
theorem pF_ok : pF.2 = 0 ∧ pF.1.length = 1 := by decide +kernel
theorem wrd_lent (a : List Slot) (b c d : List Int) (n : Int) (ts : List Tsk) (l : List CD) : Wrd.of (slotsD a :: intsD b :: intsD c :: intsD d :: .i n :: tasksD ts :: l) = Wrd.lent ⟨⟨a, b, c, d, n⟩, ts⟩ := by
  rw [tasksD_lent]; exact wrd_of a b c d n _ l
theorem raw_p {l : List Pst} {i : Nat} (o : Nat) (h : i < l.length) : ((pastsD l).rows.getD i []).getD o .u = (l.getD i default).row.getD o .u := raw_map Pst.row l i o h
def s79 : Sig := ⟨[], [.one (.bool)]⟩
def d79 : DC := ⟨s79, fun _ => True, fun _ => [.b true]⟩
def l79 : List (Nat × Ct) := [(78, d78.ct), (80, d80.ct), (134, d134.ct)]
def z79 : Cx := { T := ttA, C := sigs l79, F := [], hints := [⟨79, 5, true, [], [], [], [], 0⟩], sig := s79 }
def t79 : Tree :=
 (.call 78 [.int 2, .int 1, .int 2] 0
 (.need (.clean (.var 5) 15)
 (.call 80 [.var 0, .var 1, .var 2, .var 3, .var 4, .shuts (.var 5) 15, .app (.app (.app (.app (.app (.app (.app (.app (.cons (.int 0) (.cons (.bool false) (.cons (.bool false) (.cons (.int 2) (.cons (.int 3) (.cons (.int 0) (.cons (.int 5) (.cons (.int 0) (.cons (.int 0) .row0))))))))) (.app (.cons (.int 1) (.cons (.bool false) (.cons (.bool false) (.cons (.int 1) (.cons (.int 3) (.cons (.int 0) (.cons (.int 0) (.cons (.int 0) (.cons (.int 0) .row0))))))))) (.cons (.int 1) (.cons (.bool true) (.cons (.bool false) (.cons (.int 0) (.cons (.int 0) (.cons (.int 0) (.cons (.int 0) (.cons (.int 0) (.cons (.int 0) .row0))))))))))) (.cons (.int 0) (.cons (.bool true) (.cons (.bool false) (.cons (.int 0) (.cons (.int 0) (.cons (.int 0) (.cons (.int 0) (.cons (.int 0) (.cons (.int 0) .row0)))))))))) (.cons (.int 0) (.cons (.bool true) (.cons (.bool false) (.cons (.int 0) (.cons (.int 0) (.cons (.int 0) (.cons (.int 0) (.cons (.int 0) (.cons (.int 0) .row0)))))))))) (.cons (.int 0) (.cons (.bool true) (.cons (.bool false) (.cons (.int 0) (.cons (.int 0) (.cons (.int 0) (.cons (.int 0) (.cons (.int 0) (.cons (.int 0) .row0)))))))))) (.cons (.int 0) (.cons (.bool true) (.cons (.bool false) (.cons (.int 0) (.cons (.int 0) (.cons (.int 0) (.cons (.int 0) (.cons (.int 0) (.cons (.int 0) .row0)))))))))) (.cons (.int 0) (.cons (.bool true) (.cons (.bool false) (.cons (.int 0) (.cons (.int 0) (.cons (.int 0) (.cons (.int 0) (.cons (.int 0) (.cons (.int 0) .row0)))))))))) (.cons (.int 0) (.cons (.bool true) (.cons (.bool false) (.cons (.int 0) (.cons (.int 0) (.cons (.int 0) (.cons (.int 0) (.cons (.int 0) (.cons (.int 0) .row0)))))))))) (.app (.cons (.int 1) (.cons (.bool true) (.cons (.bool false) (.cons (.int 0) (.cons (.int 0) (.cons (.int 0) (.cons (.int 0) (.cons (.int 0) (.cons (.int 0) .row0))))))))) (.app (.cons (.int 1) (.cons (.bool true) (.cons (.bool false) (.cons (.int 0) (.cons (.int 0) (.cons (.int 0) (.cons (.int 0) (.cons (.int 0) (.cons (.int 0) .row0))))))))) (.cons (.int 0) (.cons (.bool false) (.cons (.bool true) (.cons (.int 0) (.cons (.int 0) (.cons (.int 0) (.cons (.int 0) (.cons (.int 0) (.cons (.int 0) .row0)))))))))))] 7
 (.call 134 [.var 7, .var 8, .var 9, .var 10, .var 11, .var 12] 16
 (.ite (.eq (.var 6) (.int 0))
 (.ite (.eq (.var 15) (.int 0))
 (.ite (.eq (.var 17) (.int 0))
 (.ite (.eq (.len (.var 13)) (.int 12))
 (.need (.lt (.int 10) (.len (.var 13)))
 (.ite (.eq (.cell (.var 13) (.int 10) 0) (.int 8))
 (.ite (.eq (.len (.var 14)) (.int 2))
 (.need (.lt (.int 0) (.len (.var 14)))
 (.ite (.eq (.cell (.var 14) (.int 0) 9) (.int 0))
 (.ite (.eq (.cell (.var 14) (.int 0) 0) (.int 0))
 (.need (.lt (.int 1) (.len (.var 14)))
 (.ite (.eq (.cell (.var 14) (.int 1) 9) (.int 5))
 (.ite (.eq (.cell (.var 14) (.int 1) 8) (.int 9))
 (.ite (.eq (.len (.var 16)) (.int 1))
 (.ret [.eq (.var 11) (.int 1)])
 (.ret [.bool false]))
 (.ret [.bool false]))
 (.ret [.bool false])))
 (.ret [.bool false]))
 (.ret [.bool false])))
 (.ret [.bool false]))
 (.ret [.bool false])))
 (.ret [.bool false]))
 (.ret [.bool false]))
 (.ret [.bool false]))
 (.ret [.bool false]))))))
theorem run79 : run z79 6000 [.code (Try.f79.body.getD .skip), .fin (topRet z79 Try.f79.results.toList 50)] { fn := 79, tmps := z79.sig.args0 ++ List.replicate (Try.f79.ntmps - z79.sig.args0.length) (.v (.one .undef)), stk := [], h := z79.sig.h0, nx := z79.sig.ins.length, known := [] } = t79 := by kernel_rfl
theorem ok79 : CtOk Try.prog 79 d79.ct := by
  refine dc_of_tree (d := d79) (Z := z79) (Γ := gam l79) (fn := Try.f79) (c := Try.f79.body.getD .skip) (told_of tok mixed (all_cons ok78 (all_cons ok80 (all_cons ok134 all_nil))) fok_nil) Try.func79 (by kernel_rfl) (by kernel_rfl) rfl run79 fun E hk hp => ?_
  clear hk
  have el : letters E d79.sig.ins.length = [] := rfl
  rw [el] at hp
  rw [el]
  rw [Env.pre_eq el]
  clear el
  simp only [d79]
  unfold t79
  refine den_calle d78 (pN.1.cds ++ [.i pN.2]) rfl trivial (by simp only [nrm, X.den, Env.put, Env.pre, reduceIte, Nat.reduceLT, Nat.reduceSub, Nat.reduceAdd, d78]; rfl) ?_
  refine den_need (by simp only [nrm, X.den, Env.put, Env.pre, reduceIte, Nat.reduceLT, Nat.reduceSub, Nat.reduceAdd, Wrd.cds, Mem.cds, lca]; exact clean_otasks _) (den_calle d80 (pR.1.w.fcds ++ [intsD pR.1.said, pastsD pR.1.past, .i pR.2]) rfl trivial ?_ ?_)
  · simp only [nrm, X.den, Env.put, Env.pre, reduceIte, Nat.reduceLT, Nat.reduceSub, Nat.reduceAdd, Wrd.cds, Mem.cds, lca, shuts_otasks, CD.row, List.headD_cons, CD.rows_l]
    show d80.fn [slotsD pN.1.m.slots, intsD pN.1.m.heads, intsD pN.1.m.free, intsD pN.1.m.locks, .i pN.1.m.now, tasksD pN.1.ts, picksD qL] = _
    simp only [d80, wrd_lent, List.getD_cons_zero, List.getD_cons_succ, picks_picksD]
    rfl
  obtain ⟨k1, k2, k3, k4, k5, k6, k7, k8⟩ := pR_ok
  obtain ⟨j1, j2⟩ := pF_ok
  refine den_calle d134 [flowsD pF.1, .i pF.2] rfl trivial ?_ ?_
  · simp only [nrm, X.den, Env.put, Env.pre, reduceIte, Nat.reduceLT, Nat.reduceSub, Nat.reduceAdd, Wrd.cds, Wrd.fcds, Mem.cds, lca, d134, wrd_lent]
    rfl
  have n0 := pN_ok
  have q0 : ((pastsD pR.1.past).rows.getD 0 []).getD 9 .u = .i (pR.1.past.getD 0 default).e := by rw [raw_p 9 (by omega)]; rfl
  have q1 : ((pastsD pR.1.past).rows.getD 0 []).getD 0 .u = .i (pR.1.past.getD 0 default).task := by rw [raw_p 0 (by omega)]; rfl
  have q2 : ((pastsD pR.1.past).rows.getD 1 []).getD 9 .u = .i (pR.1.past.getD 1 default).e := by rw [raw_p 9 (by omega)]; rfl
  have q3 : ((pastsD pR.1.past).rows.getD 1 []).getD 8 .u = .i (pR.1.past.getD 1 default).to := by rw [raw_p 8 (by omega)]; rfl
  have sl : ((intsD pR.1.said).rows.getD 10 []).getD 0 .u = .i 8 := by rw [k2]; rfl
  have sn : pR.1.said.length = 12 := by rw [k2]; rfl
  generalize pN = N at *
  generalize pR = R at *
  generalize pF = F at *
  have t1 : (1 : Int).toNat = 1 := rfl
  have t10 : (10 : Int).toNat = 10 := rfl
  repeat' first
    | refine den_ift (by simp only [nrm, X.den, Env.put, Env.pre, reduceIte, Nat.reduceLT, Nat.reduceSub, Nat.reduceAdd, Wrd.cds, Wrd.fcds, Mem.cds, lca, len_ints, len_pasts, len_flows, Int.toNat_zero, t1, t10, q0, q1, q2, q3, sl, sn, n0, k1, k3, k4, k5, k6, k7, k8, j1, j2] <;> rfl) ?_
    | refine den_need (by simp only [nrm, X.den, Env.put, Env.pre, reduceIte, Nat.reduceLT, Nat.reduceSub, Nat.reduceAdd, Wrd.cds, Wrd.fcds, Mem.cds, lca, len_ints, len_pasts, len_flows, sn, k3] <;> omega) ?_
  refine den_ret ?_
  simp only [nrm, X.den, Env.put, Env.pre, reduceIte, Nat.reduceLT, Nat.reduceSub, Nat.reduceAdd, Wrd.cds, Wrd.fcds, Mem.cds, lca, k8] <;> rfl
end Go.Proofs.Ytpmamacjepcdmaa
