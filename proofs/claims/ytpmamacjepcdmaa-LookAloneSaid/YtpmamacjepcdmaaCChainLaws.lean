import Derived.Test.YtpmamacjepcdmaaCStep
/- Contracts: flows; a closed fact; ChainTells. -/
namespace Go.Proofs.Ytpmamacjepcdmaa
open Go Go.Sy Go.RowKit
set_option linter.unusedSimpArgs false
set_option linter.unusedVariables false

theorem fn57c (a b : Int) : d57.fn [.i a, .i b] = (newMem a b).1.cds ++ [.i (newMem a b).2] := rfl
theorem none_same : d60.fn [.l [], .l [], .l [], .l [], .i 0, .l [], .l [], .l [], .l [], .i 0] = [.b true] := by
  have := fn60 Mem.none Mem.none
  rw [decide_eq_true rfl] at this
  exact this
theorem self_same (m : Mem) : d60.fn [slotsD m.slots, intsD m.heads, intsD m.free, intsD m.locks, .i m.now, slotsD m.slots, intsD m.heads, intsD m.free, intsD m.locks, .i m.now] = [.b true] := by
  rw [fn60, decide_eq_true rfl]
theorem take_getD {l : List Int} {j : Nat} (h : j < l.length) : l.take (j + 1) = l.take j ++ [l.getD j 0] := by
  rw [List.take_succ_eq_append_getElem h, List.getD_eq_getElem?_getD, List.getElem?_eq_getElem h, Option.getD_some]
def s71 : Sig := ⟨[.agg [.fz kS, .fz kI, .fz kI, .fz kI, .int .i64]], [.one (.own 78 kW), .one (.int .i64)]⟩
def d71 : DC := ⟨s71, fun _ => True, fun l => [flowsD (flowsR (Mem.of l)).1, .i (flowsR (Mem.of l)).2]⟩
theorem fn71 (m : Mem) : d71.fn [slotsD m.slots, intsD m.heads, intsD m.free, intsD m.locks, .i m.now] = [flowsD (flowsR m).1, .i (flowsR m).2] := by simp only [d71, mem_of, mem_eta]
def l71 : List (Nat × Ct) := [(74, d74.ct), (168, d168.ct)]
def z71 : Cx := { T := ttA, C := sigs l71, F := [], hints := [⟨71, 6, false, [(19, .lt), (5, .own 78 kW)], [], [], [], 0⟩, ⟨71, 10, false, [(30, .lt), (5, .own 78 kW)], [], [], [], 0⟩], sig := s71 }
def t71 : Tree :=
 (.call 74 [.var 0, .var 1, .var 2, .var 3, .var 4] 5
 (.ite (.not (.eq (.var 5) (.int 0)))
  (.ret [.nil, .var 5])
  (.loop 6 [.sl 32 [.int .i64, .int .i64, .int .i64, .int .i64], .int .i64] [.nil, .int 0]
  (.ite (.lt (.var 8) (.len (.var 1)))
   (.call 168 [.var 0, .var 1, .var 2, .var 3, .var 4, .var 8] 9
   (.loop 11 [.sl 32 [.int .i64, .int .i64, .int .i64, .int .i64], .int .i64] [.var 7, .int 0]
   (.ite (.lt (.var 13) (.len (.var 9)))
    (.need (.le (.int 0) (.var 13))
    (.need (.le (.int 0) (.cell (.var 9) (.var 13) 0))
    (.need (.lt (.cell (.var 9) (.var 13) 0) (.len (.var 0)))
    (.need (.le (.add (.len (.var 12)) (.int 1)) (.int 4398046511104))
    (.need (.fit (.add (.var 13) (.int 1)))
    (.back 11 [.app (.var 12) (.cons (.cell (.var 0) (.cell (.var 9) (.var 13) 0) 1) (.cons (.cell (.var 0) (.cell (.var 9) (.var 13) 0) 2) (.cons (.cell (.var 9) (.var 13) 0) (.cons (.cell (.var 0) (.cell (.var 9) (.var 13) 0) 3) .row0)))), .add (.var 13) (.int 1)]))))))
    (.need (.fit (.add (.var 8) (.int 1)))
    (.back 6 [.var 12, .add (.var 8) (.int 1)])))))
   (.ret [.var 7, .int 0])))))
theorem run71 : run z71 6000 [.code (Try.f71.body.getD .skip), .fin (topRet z71 Try.f71.results.toList 50)] { fn := 71, tmps := z71.sig.args0 ++ List.replicate (Try.f71.ntmps - z71.sig.args0.length) (.v (.one .undef)), stk := [], h := z71.sig.h0, nx := z71.sig.ins.length, known := [] } = t71 := by kernel_rfl
theorem ok71 : CtOk Try.prog 71 d71.ct := by
  refine dc_of_tree (d := d71) (Z := z71) (Γ := gam l71) (fn := Try.f71) (c := Try.f71.body.getD .skip) (told_of tok mixed (all_cons ok74 (all_cons ok168 all_nil)) fok_nil) Try.func71 (by kernel_rfl) (by kernel_rfl) rfl run71 fun E hk hp => ?_
  obtain ⟨hk0, hk1, hk2, hk3, hk4, _⟩ := hk
  obtain ⟨m, e0, e1, e2, e3, e4, b0, b1, b2, b3⟩ := ok_mem (d0 := E 0) (d1 := E 1) (d2 := E 2) (d3 := E 3) (d4 := E 4) hk0 hk1 hk2 hk3 hk4
  have el : letters E d71.sig.ins.length = [slotsD m.slots, intsD m.heads, intsD m.free, intsD m.locks, .i m.now] := by
    show [E 0, E 1, E 2, E 3, E 4] = _
    rw [e0, e1, e2, e3, e4]
  rw [el] at hp
  rw [el]
  rw [Env.pre_eq el]
  clear el e0 e1 e2 e3 e4
  rw [fn71]
  unfold flowsR
  unfold t71
  refine den_calle d74 [.i (checkChains m)] rfl trivial (by simp only [nrm, X.den, Env.put, Env.pre, reduceIte, Nat.reduceLT, Nat.reduceSub, Nat.reduceAdd, fn74]) (den_ite (fun h => den_ret ?_) (fun h => ?_))
  · simp only [nrm, X.den, Env.put, Env.pre, reduceIte, Nat.reduceLT, Nat.reduceSub, Nat.reduceAdd, Bool.not_eq_true'] at h ⊢
    rw [if_pos h]; rfl
  simp only [nrm, X.den, Env.put, Env.pre, reduceIte, Nat.reduceLT, Nat.reduceSub, Nat.reduceAdd, Bool.not_eq_false'] at h
  rw [if_neg (by omega)]
  have hm := checkChains_mem (by omega : checkChains m = 0)
  have hns := hm.ns
  have hnh := hm.nh4
  refine den_loop (fun ds => ∃ (b : Nat) (acc : List Flow), ds = [flowsD acc, .i b] ∧ b ≤ m.heads.length ∧ acc.length ≤ b * 12 ∧ flowsOf m = flowsFrom m (m.heads.length - b) b acc) (fun ds => m.heads.length - (ds.getD 1 .u).int.toNat) ⟨0, [], rfl, by omega, by simp, rfl⟩ ?_
  rintro ds - ⟨b, acc, rfl, hb, hkl, ht⟩
  refine den_ite (fun hlt => ?_) (fun hge => den_ret ?_)
  · simp only [nrm, X.den, Env.put, Env.pre, reduceIte, Nat.reduceLT, Nat.reduceSub, Nat.reduceAdd, len_ints] at hlt
    have e1 : m.heads.length - b = m.heads.length - (b + 1) + 1 := by omega
    rw [e1] at ht
    refine den_calle d168 [intsD (chainR m b).1, .i (chainR m b).2] rfl ?_ (by simp only [nrm, X.den, Env.put, Env.pre, reduceIte, Nat.reduceLT, Nat.reduceSub, Nat.reduceAdd, fn168]) ?_
    · simp only [nrm, X.den, Env.put, Env.pre, reduceIte, Nat.reduceLT, Nat.reduceSub, Nat.reduceAdd]
      exact pre168 hm (by omega) (by omega)
    obtain ⟨hl, hlm⟩ := chainR_mem hm b
    rw [flowsFrom] at ht
    generalize (chainR m b).1 = l at *
    refine den_loop (fun ds => ∃ (j : Nat) (acc' : List Flow), ds = [flowsD acc', .i j] ∧ j ≤ l.length ∧ acc' = acc ++ (l.take j).map (flowAt m)) (fun ds => l.length - (ds.getD 1 .u).int.toNat) ⟨0, acc, ?_, by omega, by simp⟩ ?_
    · simp only [nrm, X.den, Env.put, Env.pre, reduceIte, Nat.reduceLT, Nat.reduceSub, Nat.reduceAdd]; rfl
    rintro ds - ⟨j, acc', rfl, hj, hs⟩
    have hal : acc'.length = acc.length + j := by rw [hs]; simp; omega
    refine den_ite (fun hlt' => ?_) (fun hge' => ?_)
    · simp only [nrm, X.den, Env.put, Env.pre, reduceIte, Nat.reduceLT, Nat.reduceSub, Nat.reduceAdd, len_ints] at hlt'
      have ha := hlm (l.getD j 0) (getD_mem (by omega))
      have hraw : ((intsD l).rows.getD j []).getD 0 .u = .i (l.getD j 0) := raw_int (by omega)
      have hnx : acc ++ (l.take (j + 1)).map (flowAt m) = acc' ++ [flowAt m (l.getD j 0)] := by
        rw [take_getD (by omega), hs, List.map_append, ← List.append_assoc]; rfl
      generalize hag : l.getD j 0 = a at *
      have hk1 : ((slotsD m.slots).rows.getD a.toNat []).getD 1 .u = .i (msl m a.toNat).k.a := raw_s1 (by omega)
      have hk2 : ((slotsD m.slots).rows.getD a.toNat []).getD 2 .u = .i (msl m a.toNat).k.b := raw_s2 (by omega)
      have hk3 : ((slotsD m.slots).rows.getD a.toNat []).getD 3 .u = .i (msl m a.toNat).till := raw_s3 (by omega)
      refine den_need (by simp only [nrm, X.den, Env.put, Env.pre, reduceIte, Nat.reduceLT, Nat.reduceSub, Nat.reduceAdd]; omega) (den_need (by simp only [nrm, X.den, Env.put, Env.pre, reduceIte, Nat.reduceLT, Nat.reduceSub, Nat.reduceAdd, Int.toNat_natCast, hraw]; omega) (den_need (by simp only [nrm, X.den, Env.put, Env.pre, reduceIte, Nat.reduceLT, Nat.reduceSub, Nat.reduceAdd, Int.toNat_natCast, hraw, len_slots]; omega) (den_le (by simp only [nrm, X.den, Env.put, Env.pre, reduceIte, Nat.reduceLT, Nat.reduceSub, Nat.reduceAdd, len_flows]; omega) (den_fit (by simp only [nrm, X.den, Env.put, Env.pre, reduceIte, Nat.reduceLT, Nat.reduceSub, Nat.reduceAdd]; omega) (den_back ⟨⟨j + 1, _, ?_, by omega, hnx.symm⟩, ?_⟩)))))
      · simp only [nrm, X.den, Env.put, Env.pre, reduceIte, Nat.reduceLT, Nat.reduceSub, Nat.reduceAdd, Int.toNat_natCast, hraw, hk1, hk2, hk3, CD.row, List.headD_cons, app_flow]
        rfl
      · simp only [nrm, X.den, Env.put, Env.pre, reduceIte, Nat.reduceLT, Nat.reduceSub, Nat.reduceAdd]; omega
    · simp only [nrm, X.den, Env.put, Env.pre, reduceIte, Nat.reduceLT, Nat.reduceSub, Nat.reduceAdd, len_ints] at hge'
      have hjl : j = l.length := by omega
      subst hjl
      rw [List.take_length] at hs
      refine den_fit (by simp only [nrm, X.den, Env.put, Env.pre, reduceIte, Nat.reduceLT, Nat.reduceSub, Nat.reduceAdd]; omega) (den_back2 (by decide) ⟨⟨b + 1, acc', ?_, by omega, by omega, ?_⟩, ?_⟩)
      · simp only [nrm, X.den, Env.put, Env.pre, reduceIte, Nat.reduceLT, Nat.reduceSub, Nat.reduceAdd]; rfl
      · rw [ht, hs]
      · simp only [nrm, X.den, Env.put, Env.pre, reduceIte, Nat.reduceLT, Nat.reduceSub, Nat.reduceAdd]; omega
  · simp only [nrm, X.den, Env.put, Env.pre, reduceIte, Nat.reduceLT, Nat.reduceSub, Nat.reduceAdd, len_ints] at hge ⊢
    rw [show m.heads.length - b = 0 from by omega] at ht
    rw [ht]; rfl
def s76 : Sig := ⟨[.agg [.fz kS, .fz kI, .fz kI, .fz kI, .int .i64]], [.one (.own 78 kW)]⟩
def d76 : DC := ⟨s76, fun l => checkChains (Mem.of l) = 0, fun l => [flowsD (flowsOf (Mem.of l))]⟩
theorem fn76 (m : Mem) : d76.fn [slotsD m.slots, intsD m.heads, intsD m.free, intsD m.locks, .i m.now] = [flowsD (flowsOf m)] := by simp only [d76, mem_of, mem_eta]
def l76 : List (Nat × Ct) := [(77, d77.ct)]
def z76 : Cx := { T := ttA, C := sigs l76, F := [], hints := [⟨76, 3, false, [(12, .lt), (3, .own 78 kW)], [], [], [], 0⟩, ⟨76, 7, false, [(23, .lt), (3, .own 78 kW)], [], [], [], 0⟩], sig := s76 }
def t76 : Tree :=
 (.loop 5 [.sl 32 [.int .i64, .int .i64, .int .i64, .int .i64], .int .i64] [.nil, .int 0]
 (.ite (.lt (.var 7) (.len (.var 1)))
  (.call 77 [.var 0, .var 1, .var 2, .var 3, .var 4, .var 7] 8
  (.loop 10 [.sl 32 [.int .i64, .int .i64, .int .i64, .int .i64], .int .i64] [.var 6, .int 0]
  (.ite (.lt (.var 12) (.len (.var 8)))
   (.need (.le (.int 0) (.var 12))
   (.need (.le (.int 0) (.cell (.var 8) (.var 12) 0))
   (.need (.lt (.cell (.var 8) (.var 12) 0) (.len (.var 0)))
   (.need (.le (.add (.len (.var 11)) (.int 1)) (.int 4398046511104))
   (.need (.fit (.add (.var 12) (.int 1)))
   (.back 10 [.app (.var 11) (.cons (.cell (.var 0) (.cell (.var 8) (.var 12) 0) 1) (.cons (.cell (.var 0) (.cell (.var 8) (.var 12) 0) 2) (.cons (.cell (.var 8) (.var 12) 0) (.cons (.cell (.var 0) (.cell (.var 8) (.var 12) 0) 3) .row0)))), .add (.var 12) (.int 1)]))))))
   (.need (.fit (.add (.var 7) (.int 1)))
   (.back 5 [.var 11, .add (.var 7) (.int 1)])))))
  (.ret [.var 6])))
theorem run76 : run z76 6000 [.code (Try.f76.body.getD .skip), .fin (topRet z76 Try.f76.results.toList 50)] { fn := 76, tmps := z76.sig.args0 ++ List.replicate (Try.f76.ntmps - z76.sig.args0.length) (.v (.one .undef)), stk := [], h := z76.sig.h0, nx := z76.sig.ins.length, known := [] } = t76 := by kernel_rfl
theorem ok76 : CtOk Try.prog 76 d76.ct := by
  refine dc_of_tree (d := d76) (Z := z76) (Γ := gam l76) (fn := Try.f76) (c := Try.f76.body.getD .skip) (told_of tok mixed (all_cons ok77 all_nil) fok_nil) Try.func76 (by kernel_rfl) (by kernel_rfl) rfl run76 fun E hk hp => ?_
  obtain ⟨hk0, hk1, hk2, hk3, hk4, _⟩ := hk
  obtain ⟨m, e0, e1, e2, e3, e4, b0, b1, b2, b3⟩ := ok_mem (d0 := E 0) (d1 := E 1) (d2 := E 2) (d3 := E 3) (d4 := E 4) hk0 hk1 hk2 hk3 hk4
  have el : letters E d76.sig.ins.length = [slotsD m.slots, intsD m.heads, intsD m.free, intsD m.locks, .i m.now] := by
    show [E 0, E 1, E 2, E 3, E 4] = _
    rw [e0, e1, e2, e3, e4]
  rw [el] at hp
  rw [el]
  rw [Env.pre_eq el]
  clear el e0 e1 e2 e3 e4
  rw [fn76]
  simp only [d76, mem_of, mem_eta] at hp
  unfold t76
  have hm := checkChains_mem hp
  have hns := hm.ns
  have hnh := hm.nh4
  refine den_loop (fun ds => ∃ (b : Nat) (acc : List Flow), ds = [flowsD acc, .i b] ∧ b ≤ m.heads.length ∧ acc.length ≤ b * 12 ∧ flowsOf m = flowsFrom m (m.heads.length - b) b acc) (fun ds => m.heads.length - (ds.getD 1 .u).int.toNat) ⟨0, [], rfl, by omega, by simp, rfl⟩ ?_
  rintro ds - ⟨b, acc, rfl, hb, hkl, ht⟩
  refine den_ite (fun hlt => ?_) (fun hge => den_ret ?_)
  · simp only [nrm, X.den, Env.put, Env.pre, reduceIte, Nat.reduceLT, Nat.reduceSub, Nat.reduceAdd, len_ints] at hlt
    have e1 : m.heads.length - b = m.heads.length - (b + 1) + 1 := by omega
    rw [e1] at ht
    obtain ⟨l, hc⟩ := checkChains_some hp (b := b) (by omega)
    obtain ⟨q1, q2⟩ := chain77_R hc
    refine den_calle d77 [intsD l, .b true] rfl ?_ (by simp only [nrm, X.den, Env.put, Env.pre, reduceIte, Nat.reduceLT, Nat.reduceSub, Nat.reduceAdd, fn77, q1]) ?_
    · simp only [nrm, X.den, Env.put, Env.pre, reduceIte, Nat.reduceLT, Nat.reduceSub, Nat.reduceAdd]
      exact pre77 hm (by omega) (by omega)
    obtain ⟨hl, hlm⟩ := chainOf_mem hm hc
    rw [flowsFrom, q2] at ht
    dsimp only at ht
    refine den_loop (fun ds => ∃ (j : Nat) (acc' : List Flow), ds = [flowsD acc', .i j] ∧ j ≤ l.length ∧ acc' = acc ++ (l.take j).map (flowAt m)) (fun ds => l.length - (ds.getD 1 .u).int.toNat) ⟨0, acc, ?_, by omega, by simp⟩ ?_
    · simp only [nrm, X.den, Env.put, Env.pre, reduceIte, Nat.reduceLT, Nat.reduceSub, Nat.reduceAdd]; rfl
    rintro ds - ⟨j, acc', rfl, hj, hs⟩
    have hal : acc'.length = acc.length + j := by rw [hs]; simp; omega
    refine den_ite (fun hlt' => ?_) (fun hge' => ?_)
    · simp only [nrm, X.den, Env.put, Env.pre, reduceIte, Nat.reduceLT, Nat.reduceSub, Nat.reduceAdd, len_ints] at hlt'
      have ha := hlm (l.getD j 0) (getD_mem (by omega))
      have hraw : ((intsD l).rows.getD j []).getD 0 .u = .i (l.getD j 0) := raw_int (by omega)
      have hnx : acc ++ (l.take (j + 1)).map (flowAt m) = acc' ++ [flowAt m (l.getD j 0)] := by
        rw [take_getD (by omega), hs, List.map_append, ← List.append_assoc]; rfl
      generalize hag : l.getD j 0 = a at *
      have hk1 : ((slotsD m.slots).rows.getD a.toNat []).getD 1 .u = .i (msl m a.toNat).k.a := raw_s1 (by omega)
      have hk2 : ((slotsD m.slots).rows.getD a.toNat []).getD 2 .u = .i (msl m a.toNat).k.b := raw_s2 (by omega)
      have hk3 : ((slotsD m.slots).rows.getD a.toNat []).getD 3 .u = .i (msl m a.toNat).till := raw_s3 (by omega)
      refine den_need (by simp only [nrm, X.den, Env.put, Env.pre, reduceIte, Nat.reduceLT, Nat.reduceSub, Nat.reduceAdd]; omega) (den_need (by simp only [nrm, X.den, Env.put, Env.pre, reduceIte, Nat.reduceLT, Nat.reduceSub, Nat.reduceAdd, Int.toNat_natCast, hraw]; omega) (den_need (by simp only [nrm, X.den, Env.put, Env.pre, reduceIte, Nat.reduceLT, Nat.reduceSub, Nat.reduceAdd, Int.toNat_natCast, hraw, len_slots]; omega) (den_le (by simp only [nrm, X.den, Env.put, Env.pre, reduceIte, Nat.reduceLT, Nat.reduceSub, Nat.reduceAdd, len_flows]; omega) (den_fit (by simp only [nrm, X.den, Env.put, Env.pre, reduceIte, Nat.reduceLT, Nat.reduceSub, Nat.reduceAdd]; omega) (den_back ⟨⟨j + 1, _, ?_, by omega, hnx.symm⟩, ?_⟩)))))
      · simp only [nrm, X.den, Env.put, Env.pre, reduceIte, Nat.reduceLT, Nat.reduceSub, Nat.reduceAdd, Int.toNat_natCast, hraw, hk1, hk2, hk3, CD.row, List.headD_cons, app_flow]
        rfl
      · simp only [nrm, X.den, Env.put, Env.pre, reduceIte, Nat.reduceLT, Nat.reduceSub, Nat.reduceAdd]; omega
    · simp only [nrm, X.den, Env.put, Env.pre, reduceIte, Nat.reduceLT, Nat.reduceSub, Nat.reduceAdd, len_ints] at hge'
      have hjl : j = l.length := by omega
      subst hjl
      rw [List.take_length] at hs
      refine den_fit (by simp only [nrm, X.den, Env.put, Env.pre, reduceIte, Nat.reduceLT, Nat.reduceSub, Nat.reduceAdd]; omega) (den_back2 (by decide) ⟨⟨b + 1, acc', ?_, by omega, by omega, ?_⟩, ?_⟩)
      · simp only [nrm, X.den, Env.put, Env.pre, reduceIte, Nat.reduceLT, Nat.reduceSub, Nat.reduceAdd]; rfl
      · rw [ht, hs]
      · simp only [nrm, X.den, Env.put, Env.pre, reduceIte, Nat.reduceLT, Nat.reduceSub, Nat.reduceAdd]; omega
  · simp only [nrm, X.den, Env.put, Env.pre, reduceIte, Nat.reduceLT, Nat.reduceSub, Nat.reduceAdd, len_ints] at hge ⊢
    rw [show m.heads.length - b = 0 from by omega] at ht
    rw [ht]; rfl

/-! ### A closed fact -/
def hM0 : Mem := ⟨[default, default], [-1, -2], [1, 0], [-1, -1], 0⟩
def hM1 : Mem := ⟨[⟨1, ⟨1, 2⟩, 5, false, 0⟩, default], [-1, -2], [1], [-1, -1], 0⟩
def hM2 : Mem := ⟨[⟨1, ⟨1, 2⟩, 5, true, -2⟩, default], [-1, 1], [1], [-1, -1], 0⟩
def hM3 : Mem := ⟨[⟨1, ⟨1, 2⟩, 5, true, -2⟩, default], [-1, -2], [1], [-1, -1], 0⟩
theorem h0 : newMem 2 2 = (hM0, 0) := by decide +kernel
theorem h1 : taken hM0 ⟨1, 2⟩ 5 = (hM1, 0, 0) := by decide +kernel
theorem h2 : linked hM1 0 = (hM2, 0) := by decide +kernel
theorem h3 : flowsR hM2 = ([⟨⟨1, 2⟩, 0, 5⟩], 0) := by decide +kernel
theorem h4 : without hM2 ⟨1, 2⟩ = (hM3, 0, 0) := by decide +kernel
theorem h5 : slotsOf hM3 1 = ([], 0) := by decide +kernel
def s73 : Sig := ⟨[], [.one (.bool)]⟩
def d73 : DC := ⟨s73, fun _ => True, fun _ => [.b true]⟩
def l73 : List (Nat × Ct) := [(57, d57.ct), (54, d54.ct), (82, d82.ct), (71, d71.ct), (83, d83.ct), (70, d70.ct), (75, d75.ct)]
def z73 : Cx := { T := ttA, C := sigs l73, F := [], hints := [], sig := s73 }
def t73 : Tree :=
 (.call 57 [.int 2, .int 2] 0
 (.call 54 [.var 0, .var 1, .var 2, .var 3, .var 4, .int 1, .int 2, .int 5] 6
 (.call 82 [.var 6, .var 7, .var 8, .var 9, .var 10, .var 11] 13
 (.call 71 [.var 13, .var 14, .var 15, .var 16, .var 17] 19
 (.call 83 [.var 13, .var 14, .var 15, .var 16, .var 17, .int 1, .int 2] 21
 (.call 70 [.var 21, .var 22, .var 23, .var 24, .var 25, .int 1] 28
 (.ite (.eq (.var 5) (.int 0))
  (.ite (.eq (.var 12) (.int 0))
   (.ite (.eq (.var 18) (.int 0))
    (.ite (.eq (.var 20) (.int 0))
     (.ite (.eq (.var 27) (.int 0))
      (.ite (.eq (.var 29) (.int 0))
       (.call 75 [.var 19, .cons (.int 1) (.cons (.int 2) (.cons (.int 0) (.cons (.int 5) .row0)))] 30
       (.ite (.var 30)
        (.ite (.eq (.var 26) (.int 0))
         (.ite (.eq (.len (.var 28)) (.int 0))
          (.need (.lt (.int 0) (.len (.var 21)))
          (.ite (.cell (.var 21) (.int 0) 4)
           (.ret [.eq (.cell (.var 21) (.int 0) 5) (.int (-2))])
           (.ret [.bool false])))
          (.ret [.bool false]))
         (.ret [.bool false]))
        (.ret [.bool false])))
       (.ret [.bool false]))
      (.ret [.bool false]))
     (.ret [.bool false]))
    (.ret [.bool false]))
   (.ret [.bool false]))
  (.ret [.bool false]))))))))
theorem run73 : run z73 6000 [.code (Try.f73.body.getD .skip), .fin (topRet z73 Try.f73.results.toList 50)] { fn := 73, tmps := z73.sig.args0 ++ List.replicate (Try.f73.ntmps - z73.sig.args0.length) (.v (.one .undef)), stk := [], h := z73.sig.h0, nx := z73.sig.ins.length, known := [] } = t73 := by kernel_rfl
theorem ok73 : CtOk Try.prog 73 d73.ct := by
  refine dc_of_tree (d := d73) (Z := z73) (Γ := gam l73) (fn := Try.f73) (c := Try.f73.body.getD .skip) (told_of tok mixed (all_cons ok57 (all_cons ok54 (all_cons ok82 (all_cons ok71 (all_cons ok83 (all_cons ok70 (all_cons ok75 all_nil))))))) fok_nil) Try.func73 (by kernel_rfl) (by kernel_rfl) rfl run73 fun E hk hp => ?_
  clear hk
  have el : letters E d73.sig.ins.length = [] := rfl
  rw [el] at hp
  rw [el]
  rw [Env.pre_eq el]
  clear el
  simp only [d73]
  unfold t73
  refine den_calle d57 (hM0.cds ++ [.i 0]) rfl trivial (by simp only [nrm, X.den, Env.put, Env.pre, reduceIte, Nat.reduceLT, Nat.reduceSub, Nat.reduceAdd, fn57c, h0]) ?_
  refine den_calle d54 (hM1.cds ++ [.i 0, .i 0]) rfl trivial (by simp only [nrm, X.den, Env.put, Env.pre, reduceIte, Nat.reduceLT, Nat.reduceSub, Nat.reduceAdd, Mem.cds, List.cons_append, List.nil_append, fn54, h1]) ?_
  refine den_calle d82 (hM2.cds ++ [.i 0]) rfl trivial (by simp only [nrm, X.den, Env.put, Env.pre, reduceIte, Nat.reduceLT, Nat.reduceSub, Nat.reduceAdd, Mem.cds, List.cons_append, List.nil_append, fn82, h2]) ?_
  refine den_calle d71 [flowsD [⟨⟨1, 2⟩, 0, 5⟩], .i 0] rfl trivial (by simp only [nrm, X.den, Env.put, Env.pre, reduceIte, Nat.reduceLT, Nat.reduceSub, Nat.reduceAdd, Mem.cds, List.cons_append, List.nil_append, fn71, h3]) ?_
  refine den_calle d83 (hM3.cds ++ [.i 0, .i 0]) rfl trivial (by simp only [nrm, X.den, Env.put, Env.pre, reduceIte, Nat.reduceLT, Nat.reduceSub, Nat.reduceAdd, Mem.cds, List.cons_append, List.nil_append, fn83, h4]) ?_
  refine den_calle d70 [intsD [], .i 0] rfl trivial (by simp only [nrm, X.den, Env.put, Env.pre, reduceIte, Nat.reduceLT, Nat.reduceSub, Nat.reduceAdd, Mem.cds, List.cons_append, List.nil_append, fn70, h5]) ?_
  refine den_ift (by simp only [nrm, X.den, Env.put, Env.pre, reduceIte, Nat.reduceLT, Nat.reduceSub, Nat.reduceAdd, Mem.cds, List.cons_append, List.nil_append]) ?_
  refine den_ift (by simp only [nrm, X.den, Env.put, Env.pre, reduceIte, Nat.reduceLT, Nat.reduceSub, Nat.reduceAdd, Mem.cds, List.cons_append, List.nil_append]) ?_
  refine den_ift (by simp only [nrm, X.den, Env.put, Env.pre, reduceIte, Nat.reduceLT, Nat.reduceSub, Nat.reduceAdd, Mem.cds, List.cons_append, List.nil_append]) ?_
  refine den_ift (by simp only [nrm, X.den, Env.put, Env.pre, reduceIte, Nat.reduceLT, Nat.reduceSub, Nat.reduceAdd, Mem.cds, List.cons_append, List.nil_append]) ?_
  refine den_ift (by simp only [nrm, X.den, Env.put, Env.pre, reduceIte, Nat.reduceLT, Nat.reduceSub, Nat.reduceAdd, Mem.cds, List.cons_append, List.nil_append]) ?_
  refine den_ift (by simp only [nrm, X.den, Env.put, Env.pre, reduceIte, Nat.reduceLT, Nat.reduceSub, Nat.reduceAdd, Mem.cds, List.cons_append, List.nil_append]) ?_
  refine den_calle d75 [.b true] rfl trivial ?_ (den_ift (by simp only [nrm, X.den, Env.put, Env.pre, reduceIte, Nat.reduceLT, Nat.reduceSub, Nat.reduceAdd]) ?_)
  · simp only [nrm, X.den, Env.put, Env.pre, reduceIte, Nat.reduceLT, Nat.reduceSub, Nat.reduceAdd, Mem.cds, List.cons_append, List.nil_append]
    rfl
  refine den_ift (by simp only [nrm, X.den, Env.put, Env.pre, reduceIte, Nat.reduceLT, Nat.reduceSub, Nat.reduceAdd, Mem.cds, List.cons_append, List.nil_append]) ?_
  refine den_ift (by simp only [nrm, X.den, Env.put, Env.pre, reduceIte, Nat.reduceLT, Nat.reduceSub, Nat.reduceAdd, Mem.cds, List.cons_append, List.nil_append, len_ints]; rfl) ?_
  refine den_need (by simp only [nrm, X.den, Env.put, Env.pre, reduceIte, Nat.reduceLT, Nat.reduceSub, Nat.reduceAdd, Mem.cds, List.cons_append, List.nil_append, len_slots]; decide) (den_ift (by simp only [nrm, X.den, Env.put, Env.pre, reduceIte, Nat.reduceLT, Nat.reduceSub, Nat.reduceAdd, Mem.cds, List.cons_append, List.nil_append]; rfl) (den_ret ?_))
  simp only [nrm, X.den, Env.put, Env.pre, reduceIte, Nat.reduceLT, Nat.reduceSub, Nat.reduceAdd, Mem.cds, List.cons_append, List.nil_append]
  rfl
end Go.Proofs.Ytpmamacjepcdmaa

/- Plain: chains that are right. Contracts: the document's Link and Cut. -/
namespace Go.Proofs.Ytpmamacjepcdmaa
open Go Go.Sy Go.RowKit
set_option linter.unusedSimpArgs false
set_option linter.unusedVariables false

def kys (m : Mem) (a : Int) : Key := (msl m a.toNat).k
structure InOk (m : Mem) (b : Int) (a : Int) : Prop where
  refs : (msl m a.toNat).refs ≠ 0
  inn : (msl m a.toNat).inn = true
  bk : bk m (kys m a) = b
structure ChainOk (m : Mem) (b : Nat) (l : List Int) : Prop where
  of : chainOf m b = some l
  ok : ∀ a ∈ l, InOk m b a
  nd : (l.map (kys m)).Nodup
structure ChainsOk (m : Mem) : Prop where
  mem : MemOk m
  all : ∀ b : Nat, b < m.heads.length → ∃ l, ChainOk m b l
theorem linkErr_iff {m : Mem} {b : Int} {ks : List Key} {a : Int} : linkErr m b ks a = 0 ↔ InOk m b a ∧ kys m a ∉ ks := by
  unfold linkErr
  constructor
  · intro h
    split at h
    · cases h
    · rename_i h1
      split at h
      · cases h
      · rename_i h2
        split at h
        · cases h
        · rename_i h3
          refine ⟨⟨fun e => h1 (.inl e), ?_, Classical.not_not.1 h2⟩, h3⟩
          cases hx : (msl m a.toNat).inn with
          | true => rfl
          | false => exact absurd (.inr hx) h1
  · rintro ⟨⟨h1, h2, h3⟩, h4⟩
    rw [if_neg, if_neg (fun h => h h3), if_neg (show (msl m a.toNat).k ∉ ks from h4)]
    rintro (e | e)
    · exact h1 e
    · rw [h2] at e; cases e
theorem chainScan_iff {m : Mem} {b : Int} : ∀ {l : List Int} {ks : List Key}, ((chainScan m b l ks).1 = 0 ↔ (∀ a ∈ l, InOk m b a ∧ kys m a ∉ ks) ∧ (l.map (kys m)).Nodup)
  | [], ks => by simp [chainScan]
  | a :: l, ks => by
    have ih := chainScan_iff (m := m) (b := b) (l := l) (ks := kys m a :: ks)
    simp only [chainScan]
    split
    · rename_i h
      constructor
      · intro e; exact absurd e h
      · intro e; exact absurd (linkErr_iff.2 (e.1 a (by simp))) h
    · rename_i h
      have h0 := linkErr_iff.1 (Classical.not_not.1 h)
      show (chainScan m b l (kys m a :: ks)).1 = 0 ↔ _
      rw [ih]
      simp only [List.map_cons, List.nodup_cons, List.mem_cons, not_or, forall_eq_or_imp]
      constructor
      · rintro ⟨h1, h2⟩
        refine ⟨⟨h0, fun x hx => ⟨(h1 x hx).1, (h1 x hx).2.2⟩⟩, fun hm => ?_, h2⟩
        obtain ⟨y, hy, e⟩ := List.mem_map.1 hm
        exact (h1 y hy).2.1 e
      · rintro ⟨⟨_, h1⟩, h2, h3⟩
        exact ⟨fun x hx => ⟨(h1 x hx).1, fun e => h2 (List.mem_map.2 ⟨x, hx, e⟩), (h1 x hx).2⟩, h3⟩
theorem chainScan_ks {m : Mem} {b : Int} : ∀ {l : List Int} {ks : List Key}, (chainScan m b l ks).1 = 0 → ∀ k ∈ (chainScan m b l ks).2, k ∈ ks ∨ ∃ a ∈ l, k = kys m a
  | [], ks, _, k, hk => .inl hk
  | a :: l, ks, h, k, hk => by
    simp only [chainScan] at h hk
    split at h
    · rename_i hx; exact absurd h hx
    · rename_i hx
      rw [if_neg hx] at hk
      rcases chainScan_ks h k hk with h1 | ⟨x, h1, h2⟩
      · rcases List.mem_cons.1 h1 with rfl | h1
        · exact .inr ⟨a, by simp, rfl⟩
        · exact .inl h1
      · exact .inr ⟨x, by simp [h1], h2⟩
theorem chainsErr_iff {m : Mem} : ∀ {n b : Nat} {ks : List Key}, (∀ k ∈ ks, bk m k < b) → (chainsErr m n b ks = 0 ↔ ∀ i, b ≤ i → i < b + n → ∃ l, ChainOk m i l)
  | 0, b, ks, _ => by simp only [chainsErr, true_iff]; intro i h1 h2; omega
  | n + 1, b, ks, hk => by
    cases hc : chainOf m b with
    | none =>
      rw [chainsErr_none hc]
      constructor
      · intro h; cases h
      · intro h
        obtain ⟨l, hl⟩ := h b (Nat.le_refl _) (by omega)
        rw [hl.of] at hc; cases hc
    | some l =>
      rw [chainsErr_some hc]
      by_cases h0 : (chainScan m b l ks).1 = 0
      · rw [if_neg (fun h => h h0)]
        obtain ⟨h1, h2⟩ := chainScan_iff.1 h0
        have ih := chainsErr_iff (m := m) (n := n) (b := b + 1) (ks := (chainScan m b l ks).2) fun k hk' => by
          rcases chainScan_ks h0 k hk' with h | ⟨a, ha, e⟩
          · have := hk k h; omega
          · rw [e, (h1 a ha).1.bk]; omega
        rw [ih]
        constructor
        · intro h i hi1 hi2
          rcases Nat.lt_or_ge b i with hl | hg
          · exact h i (by omega) (by omega)
          · have : i = b := by omega
            subst this
            exact ⟨l, hc, fun a ha => (h1 a ha).1, h2⟩
        · intro h i hi1 hi2
          exact h i (by omega) (by omega)
      · rw [if_pos h0]
        constructor
        · intro h; exact absurd h h0
        · intro h
          obtain ⟨l', hl⟩ := h b (Nat.le_refl _) (by omega)
          have := hl.of
          rw [hc] at this
          cases this
          refine absurd (chainScan_iff.2 ⟨fun a ha => ⟨hl.ok a ha, fun hm => ?_⟩, hl.nd⟩) h0
          have h3 := hk _ hm
          rw [(hl.ok a ha).bk] at h3
          omega
theorem checkChains_iff (m : Mem) : checkChains m = 0 ↔ ChainsOk m := by
  unfold checkChains
  constructor
  · intro h
    split at h
    · rename_i hx; exact absurd h hx
    · rename_i hx
      have hm := (checkMem_iff m).1 (Classical.not_not.1 hx)
      exact ⟨hm, fun b hb => (chainsErr_iff (by simp)).1 h b (by omega) (by omega)⟩
  · intro h
    rw [if_neg (fun hx => hx ((checkMem_iff m).2 h.mem))]
    exact (chainsErr_iff (by simp)).2 fun i _ hi => h.all i (by omega)
theorem ChainOk.r {m : Mem} {b : Nat} {l : List Int} (h : ChainOk m b l) : (chainR m b).1 = l := by unfold chainR; rw [h.of]
/-- What chain b is. -/
def chL (m : Mem) (b : Nat) : List Int := (chainR m b).1
theorem ChainsOk.ch {m : Mem} (h : ChainsOk m) {b : Nat} (hb : b < m.heads.length) : ChainOk m b (chL m b) := by
  obtain ⟨l, hl⟩ := h.all b hb
  have := hl.r
  unfold chL
  rw [this]; exact hl
theorem chL_mem {m : Mem} (h : ChainsOk m) {b : Nat} {a : Int} (ha : a ∈ chL m b) : 0 ≤ a ∧ a < m.slots.length := (chainR_mem h.mem b).2 a ha
theorem nodup_map_inj {α β : Type} {f : α → β} : ∀ {l : List α}, (l.map f).Nodup → ∀ {a b : α}, a ∈ l → b ∈ l → f a = f b → a = b
  | [], _, _, _, h, _, _ => by cases h
  | x :: l, hd, a, b, ha, hb, e => by
    rw [List.map_cons, List.nodup_cons] at hd
    rcases List.mem_cons.1 ha with h1 | h1
    · rcases List.mem_cons.1 hb with h2 | h2
      · rw [h1, h2]
      · exact absurd (List.mem_map.2 ⟨b, h2, by rw [← h1]; exact e.symm⟩) hd.1
    · rcases List.mem_cons.1 hb with h2 | h2
      · exact absurd (List.mem_map.2 ⟨a, h1, by rw [← h2]; exact e⟩) hd.1
      · exact nodup_map_inj hd.2 h1 h2 e
theorem flowsFrom_mem {m : Mem} {f : Flow} : ∀ {n b : Nat} {acc : List Flow}, f ∈ flowsFrom m n b acc ↔ f ∈ acc ∨ ∃ i, b ≤ i ∧ i < b + n ∧ ∃ a ∈ chL m i, f = flowAt m a
  | 0, b, acc => by
    simp only [flowsFrom]
    exact ⟨.inl, fun h => h.resolve_right (by rintro ⟨i, h1, h2, _⟩; omega)⟩
  | n + 1, b, acc => by
    rw [flowsFrom, flowsFrom_mem (n := n) (b := b + 1)]
    constructor
    · rintro (h | ⟨i, h1, h2, h3⟩)
      · rcases List.mem_append.1 h with h | h
        · exact .inl h
        · obtain ⟨a, ha, e⟩ := List.mem_map.1 h
          exact .inr ⟨b, Nat.le_refl _, by omega, a, ha, e.symm⟩
      · exact .inr ⟨i, by omega, by omega, h3⟩
    · rintro (h | ⟨i, h1, h2, a, ha, e⟩)
      · exact .inl (List.mem_append_left _ h)
      · rcases Nat.lt_or_ge b i with hl | hg
        · exact .inr ⟨i, by omega, by omega, a, ha, e⟩
        · have : i = b := by omega
          subst this
          exact .inl (List.mem_append_right _ (List.mem_map.2 ⟨a, ha, e.symm⟩))
theorem flows_mem {m : Mem} {f : Flow} : f ∈ flowsOf m ↔ ∃ b, b < m.heads.length ∧ ∃ a ∈ chL m b, f = flowAt m a := by
  unfold flowsOf
  rw [flowsFrom_mem]
  constructor
  · rintro (h | ⟨i, _, h2, h3⟩)
    · cases h
    · exact ⟨i, by omega, h3⟩
  · rintro ⟨b, h1, h2⟩
    exact .inr ⟨b, by omega, by omega, h2⟩
/-- A flow's slot stands in its key's chain. -/
theorem flows_at {m : Mem} (h : ChainsOk m) {f : Flow} (hf : f ∈ flowsOf m) : 0 ≤ f.slot ∧ f.slot < m.slots.length ∧ kys m f.slot = f.k ∧ f = flowAt m f.slot ∧ 0 ≤ bk m f.k ∧ bk m f.k < m.heads.length ∧ f.slot ∈ chL m (bk m f.k).toNat := by
  obtain ⟨b, hb, a, ha, e⟩ := flows_mem.1 hf
  have hc := h.ch hb
  have h1 := chL_mem h ha
  have h2 := (hc.ok a ha).bk
  have e1 : f.slot = a := by rw [e]; rfl
  have e2 : f.k = kys m a := by rw [e]; rfl
  rw [e1, e2, h2]
  refine ⟨h1.1, h1.2, rfl, e, by omega, by omega, ?_⟩
  rw [show ((b : Int)).toNat = b from by omega]
  exact ha
theorem flows_of {m : Mem} {b : Nat} (hb : b < m.heads.length) {a : Int} (ha : a ∈ chL m b) : flowAt m a ∈ flowsOf m := flows_mem.2 ⟨b, hb, a, ha, rfl⟩
theorem flowsFrom_length {m : Mem} (hm : MemOk m) : ∀ {n b : Nat} {acc : List Flow}, (flowsFrom m n b acc).length ≤ acc.length + n * 12
  | 0, b, acc => by simp [flowsFrom]
  | n + 1, b, acc => by
    rw [flowsFrom]
    have ih := flowsFrom_length hm (n := n) (b := b + 1) (acc := acc ++ (chainR m b).1.map (flowAt m))
    have h1 := (chainR_mem hm b).1
    have h2 := hm.ns
    rw [List.length_append, List.length_map] at ih
    omega
theorem flows_length {m : Mem} (hm : MemOk m) : (flowsOf m).length ≤ 48 := by
  have := flowsFrom_length hm (n := m.heads.length) (b := 0) (acc := [])
  have h1 := hm.nh4
  unfold flowsOf
  simp only [List.length_nil] at this
  omega
def prevOf (t : Int) : List Int → Int → Int
  | [], p => p
  | a :: l, p => if a = t then p else prevOf t l (a + 1)
theorem cutScan_at {m : Mem} {k : Key} {b t : Int} (hk : kys m t = k) : ∀ {l : List Int} {p : Int}, (l.map (kys m)).Nodup → t ∈ l → cutScan m k b l p = (cut m (prevOf t l p) t b, t, 0)
  | [], _, _, h => by cases h
  | a :: l, p, hd, h => by
    simp only [cutScan, prevOf]
    by_cases e : a = t
    · subst e
      rw [if_pos (show (msl m a.toNat).k = k from hk), if_pos rfl]
    · have hne : kys m a ≠ k := fun e' => e (nodup_map_inj hd (by simp) h (by rw [e', hk]))
      have ht : t ∈ l := (List.mem_cons.1 h).resolve_left (fun e' => e e'.symm)
      rw [if_neg (show (msl m a.toNat).k ≠ k from hne), if_neg e]
      exact cutScan_at hk (by rw [List.map_cons, List.nodup_cons] at hd; exact hd.2) ht
theorem cutScan_none {m : Mem} {k : Key} {b : Int} : ∀ {l : List Int} {p : Int}, (∀ a ∈ l, kys m a ≠ k) → cutScan m k b l p = (Mem.none, 0, 5)
  | [], _, _ => rfl
  | a :: l, p, h => by
    simp only [cutScan]
    rw [if_neg (show (msl m a.toNat).k ≠ k from h a (by simp))]
    exact cutScan_none fun x hx => h x (by simp [hx])

def s87 : Sig := ⟨[.ptr [.own 52 kS, .own 3 kI, .own 3 kI, .own 3 kI, .int .i64], .one (.int .i64), .one (.int .i64)], []⟩
def d87 : DC := ⟨s87, fun l => 0 ≤ (l.getD 5 .u).int ∧ (l.getD 5 .u).int < (Mem.of l).slots.length ∧ 0 ≤ (l.getD 6 .u).int ∧ (l.getD 6 .u).int < (Mem.of l).heads.length, fun l => (link (Mem.of l) (l.getD 5 .u).int (l.getD 6 .u).int).cds⟩
theorem fn87 (m : Mem) (a b : Int) : d87.fn [slotsD m.slots, intsD m.heads, intsD m.free, intsD m.locks, .i m.now, .i a, .i b] = (link m a b).cds := by simp only [d87, mem_of, mem_eta, List.getD_cons_zero, List.getD_cons_succ, CD.int_i]
theorem pre87 {m : Mem} {a b : Int} (h1 : 0 ≤ a) (h2 : a < m.slots.length) (h3 : 0 ≤ b) (h4 : b < m.heads.length) : d87.pre [slotsD m.slots, intsD m.heads, intsD m.free, intsD m.locks, .i m.now, .i a, .i b] := by
  simp only [d87, mem_of, mem_eta, List.getD_cons_zero, List.getD_cons_succ, CD.int_i]
  exact ⟨h1, h2, h3, h4⟩
def l87 : List (Nat × Ct) := []
def z87 : Cx := { T := ttA, C := sigs l87, F := [], hints := [], sig := s87 }
def t87 : Tree :=
 (.need (.le (.int 0) (.var 5))
 (.need (.lt (.var 5) (.len (.var 0)))
 (.need (.le (.int 0) (.var 6))
 (.need (.lt (.var 6) (.len (.var 1)))
 (.need (.fit (.add (.var 5) (.int 1)))
 (.ret [.set (.set (.set (.set (.set (.set (.var 0) (.var 5) 0 (.cell (.var 0) (.var 5) 0)) (.var 5) 1 (.cell (.var 0) (.var 5) 1)) (.var 5) 2 (.cell (.var 0) (.var 5) 2)) (.var 5) 3 (.cell (.var 0) (.var 5) 3)) (.var 5) 4 (.bool true)) (.var 5) 5 (.cell (.var 1) (.var 6) 0), .set (.var 1) (.var 6) 0 (.add (.var 5) (.int 1)), .var 2, .var 3, .var 4]))))))
theorem run87 : run z87 6000 [.code (Try.f87.body.getD .skip), .fin (topRet z87 Try.f87.results.toList 50)] { fn := 87, tmps := z87.sig.args0 ++ List.replicate (Try.f87.ntmps - z87.sig.args0.length) (.v (.one .undef)), stk := [], h := z87.sig.h0, nx := z87.sig.ins.length, known := [] } = t87 := by kernel_rfl
theorem ok87 : CtOk Try.prog 87 d87.ct := by
  refine dc_of_tree (d := d87) (Z := z87) (Γ := gam l87) (fn := Try.f87) (c := Try.f87.body.getD .skip) (told_of tok mixed all_nil fok_nil) Try.func87 (by kernel_rfl) (by kernel_rfl) rfl run87 fun E hk hp => ?_
  obtain ⟨hk0, hk1, hk2, hk3, hk4, hk5, hk6, _⟩ := hk
  obtain ⟨m, e0, e1, e2, e3, e4, b0, b1, b2, b3⟩ := ok_mem (d0 := E 0) (d1 := E 1) (d2 := E 2) (d3 := E 3) (d4 := E 4) hk0 hk1 hk2 hk3 hk4
  obtain ⟨x, e5⟩ := ok_int (d := E 5) hk5
  obtain ⟨x2, e6⟩ := ok_int (d := E 6) hk6
  have el : letters E d87.sig.ins.length = [slotsD m.slots, intsD m.heads, intsD m.free, intsD m.locks, .i m.now, .i x, .i x2] := by
    show [E 0, E 1, E 2, E 3, E 4, E 5, E 6] = _
    rw [e0, e1, e2, e3, e4, e5, e6]
  rw [el] at hp
  rw [el]
  rw [Env.pre_eq el]
  clear el e0 e1 e2 e3 e4 e5 e6
  rw [fn87]
  simp only [d87, mem_of, mem_eta, List.getD_cons_zero, List.getD_cons_succ, CD.int_i] at hp
  obtain ⟨h1, h2, h3, h4⟩ := hp
  unfold t87
  have r0 : ((slotsD m.slots).rows.getD x.toNat []).getD 0 .u = .i (msl m x.toNat).refs := raw_s0 (by omega)
  have r1 : ((slotsD m.slots).rows.getD x.toNat []).getD 1 .u = .i (msl m x.toNat).k.a := raw_s1 (by omega)
  have r2 : ((slotsD m.slots).rows.getD x.toNat []).getD 2 .u = .i (msl m x.toNat).k.b := raw_s2 (by omega)
  have r3 : ((slotsD m.slots).rows.getD x.toNat []).getD 3 .u = .i (msl m x.toNat).till := raw_s3 (by omega)
  refine den_need (by simp only [nrm, X.den, Env.put, Env.pre, reduceIte, Nat.reduceLT, Nat.reduceSub, Nat.reduceAdd]; omega) (den_need (by simp only [nrm, X.den, Env.put, Env.pre, reduceIte, Nat.reduceLT, Nat.reduceSub, Nat.reduceAdd, len_slots]; omega) (den_need (by simp only [nrm, X.den, Env.put, Env.pre, reduceIte, Nat.reduceLT, Nat.reduceSub, Nat.reduceAdd]; omega) (den_need (by simp only [nrm, X.den, Env.put, Env.pre, reduceIte, Nat.reduceLT, Nat.reduceSub, Nat.reduceAdd, len_ints]; omega) (den_fit (by simp only [nrm, X.den, Env.put, Env.pre, reduceIte, Nat.reduceLT, Nat.reduceSub, Nat.reduceAdd]; omega) (den_ret ?_)))))
  simp only [nrm, X.den, Env.put, Env.pre, reduceIte, Nat.reduceLT, Nat.reduceSub, Nat.reduceAdd, r0, r1, r2, r3, raw_int (show x2.toNat < m.heads.length by omega), set_s0, set_s1, set_s2, set_s3, set_s5, set_s4, set_int, modify_modify, Mem.cds]
  rw [modify_here (fun s : Slot => (⟨(msl m x.toNat).refs, ⟨(msl m x.toNat).k.a, (msl m x.toNat).k.b⟩, (msl m x.toNat).till, true, m.heads.getD x2.toNat 0⟩ : Slot)) (linkSlot (headAt m x2)) m.slots x.toNat rfl]
  rfl
def s89 : Sig := ⟨[.ptr [.own 52 kS, .own 3 kI, .own 3 kI, .own 3 kI, .int .i64], .one (.int .i64), .one (.int .i64), .one (.int .i64)], []⟩
def d89 : DC := ⟨s89, fun l => 0 ≤ (l.getD 5 .u).int ∧ (l.getD 5 .u).int ≤ (Mem.of l).slots.length ∧ 0 ≤ (l.getD 6 .u).int ∧ (l.getD 6 .u).int < (Mem.of l).slots.length ∧ 0 ≤ (l.getD 7 .u).int ∧ (l.getD 7 .u).int < (Mem.of l).heads.length, fun l => (cut (Mem.of l) (l.getD 5 .u).int (l.getD 6 .u).int (l.getD 7 .u).int).cds⟩
theorem fn89 (m : Mem) (p a b : Int) : d89.fn [slotsD m.slots, intsD m.heads, intsD m.free, intsD m.locks, .i m.now, .i p, .i a, .i b] = (cut m p a b).cds := by simp only [d89, mem_of, mem_eta, List.getD_cons_zero, List.getD_cons_succ, CD.int_i]
theorem pre89 {m : Mem} {p a b : Int} (h0 : 0 ≤ p) (h1 : p ≤ m.slots.length) (h2 : 0 ≤ a) (h3 : a < m.slots.length) (h4 : 0 ≤ b) (h5 : b < m.heads.length) : d89.pre [slotsD m.slots, intsD m.heads, intsD m.free, intsD m.locks, .i m.now, .i p, .i a, .i b] := by
  simp only [d89, mem_of, mem_eta, List.getD_cons_zero, List.getD_cons_succ, CD.int_i]
  exact ⟨h0, h1, h2, h3, h4, h5⟩
def l89 : List (Nat × Ct) := []
def z89 : Cx := { T := ttA, C := sigs l89, F := [], hints := [], sig := s89 }
def t89 : Tree :=
 (.need (.le (.int 0) (.var 6))
 (.need (.lt (.var 6) (.len (.var 0)))
 (.ite (.eq (.var 5) (.int 0))
  (.need (.le (.int 0) (.var 7))
  (.need (.lt (.var 7) (.len (.var 1)))
  (.ret [.var 0, .set (.var 1) (.var 7) 0 (.cell (.var 0) (.var 6) 5), .var 2, .var 3, .var 4])))
  (.need (.fit (.sub (.var 5) (.int 1)))
  (.need (.le (.int 0) (.sub (.var 5) (.int 1)))
  (.need (.lt (.sub (.var 5) (.int 1)) (.len (.var 0)))
  (.ret [.set (.var 0) (.sub (.var 5) (.int 1)) 5 (.cell (.var 0) (.var 6) 5), .var 1, .var 2, .var 3, .var 4])))))))
theorem run89 : run z89 6000 [.code (Try.f89.body.getD .skip), .fin (topRet z89 Try.f89.results.toList 50)] { fn := 89, tmps := z89.sig.args0 ++ List.replicate (Try.f89.ntmps - z89.sig.args0.length) (.v (.one .undef)), stk := [], h := z89.sig.h0, nx := z89.sig.ins.length, known := [] } = t89 := by kernel_rfl
theorem ok89 : CtOk Try.prog 89 d89.ct := by
  refine dc_of_tree (d := d89) (Z := z89) (Γ := gam l89) (fn := Try.f89) (c := Try.f89.body.getD .skip) (told_of tok mixed all_nil fok_nil) Try.func89 (by kernel_rfl) (by kernel_rfl) rfl run89 fun E hk hp => ?_
  obtain ⟨hk0, hk1, hk2, hk3, hk4, hk5, hk6, hk7, _⟩ := hk
  obtain ⟨m, e0, e1, e2, e3, e4, b0, b1, b2, b3⟩ := ok_mem (d0 := E 0) (d1 := E 1) (d2 := E 2) (d3 := E 3) (d4 := E 4) hk0 hk1 hk2 hk3 hk4
  obtain ⟨x, e5⟩ := ok_int (d := E 5) hk5
  obtain ⟨x2, e6⟩ := ok_int (d := E 6) hk6
  obtain ⟨x3, e7⟩ := ok_int (d := E 7) hk7
  have el : letters E d89.sig.ins.length = [slotsD m.slots, intsD m.heads, intsD m.free, intsD m.locks, .i m.now, .i x, .i x2, .i x3] := by
    show [E 0, E 1, E 2, E 3, E 4, E 5, E 6, E 7] = _
    rw [e0, e1, e2, e3, e4, e5, e6, e7]
  rw [el] at hp
  rw [el]
  rw [Env.pre_eq el]
  clear el e0 e1 e2 e3 e4 e5 e6 e7
  rw [fn89]
  simp only [d89, mem_of, mem_eta, List.getD_cons_zero, List.getD_cons_succ, CD.int_i] at hp
  obtain ⟨h0, h1, h2, h3, h4, h5⟩ := hp
  have hn : ((slotsD m.slots).rows.getD x2.toNat []).getD 5 .u = .i (msl m x2.toNat).next := raw_s5 (by omega)
  unfold cut
  unfold t89
  refine den_need (by simp only [nrm, X.den, Env.put, Env.pre, reduceIte, Nat.reduceLT, Nat.reduceSub, Nat.reduceAdd]; omega) (den_need (by simp only [nrm, X.den, Env.put, Env.pre, reduceIte, Nat.reduceLT, Nat.reduceSub, Nat.reduceAdd, len_slots]; omega) (den_ite (fun h => ?_) (fun h => ?_)))
  · simp only [nrm, X.den, Env.put, Env.pre, reduceIte, Nat.reduceLT, Nat.reduceSub, Nat.reduceAdd] at h
    rw [if_neg (by omega)]
    refine den_need (by simp only [nrm, X.den, Env.put, Env.pre, reduceIte, Nat.reduceLT, Nat.reduceSub, Nat.reduceAdd]; omega) (den_need (by simp only [nrm, X.den, Env.put, Env.pre, reduceIte, Nat.reduceLT, Nat.reduceSub, Nat.reduceAdd, len_ints]; omega) (den_ret ?_))
    simp only [nrm, X.den, Env.put, Env.pre, reduceIte, Nat.reduceLT, Nat.reduceSub, Nat.reduceAdd, hn, set_int, Mem.cds]
  · simp only [nrm, X.den, Env.put, Env.pre, reduceIte, Nat.reduceLT, Nat.reduceSub, Nat.reduceAdd] at h
    rw [if_pos (by omega)]
    refine den_fit (by simp only [nrm, X.den, Env.put, Env.pre, reduceIte, Nat.reduceLT, Nat.reduceSub, Nat.reduceAdd]; omega) (den_need (by simp only [nrm, X.den, Env.put, Env.pre, reduceIte, Nat.reduceLT, Nat.reduceSub, Nat.reduceAdd]; omega) (den_need (by simp only [nrm, X.den, Env.put, Env.pre, reduceIte, Nat.reduceLT, Nat.reduceSub, Nat.reduceAdd, len_slots]; omega) (den_ret ?_)))
    simp only [nrm, X.den, Env.put, Env.pre, reduceIte, Nat.reduceLT, Nat.reduceSub, Nat.reduceAdd, hn, set_s5, Mem.cds]
    rfl
end Go.Proofs.Ytpmamacjepcdmaa
