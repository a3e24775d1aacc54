import Derived.Test.YtpmamacjepcdmaaCAdd
namespace Go.Proofs.Ytpmamacjepcdmaa
open Go Go.Sy Go.RowKit
set_option linter.unusedSimpArgs false
set_option linter.unusedVariables false
def s104 : Sig := ⟨[.ptr [.own 52 kS, .own 3 kI, .own 3 kI, .own 3 kI, .int .i64], .agg [.int .i64, .int .i64, .int .i64, .int .i64, .int .i64, .int .i64, .int .i64, .int .i64, .int .i64, .int .i64, .int .i64, .fz kK, .bool, .int .i64], .one (.int .i64)], [.agg [.int .i64, .int .i64, .int .i64, .int .i64, .int .i64, .int .i64, .int .i64, .int .i64, .int .i64, .int .i64, .int .i64, .fz kK, .bool, .int .i64]]⟩
def d104 : DC := ⟨s104, fun l => MemIn (Mem.of l) ∧ FrmOk (Mem.of l) (Frm.of (l.drop 5)) ∧ (Frm.of (l.drop 5)).c.kind = 3, fun l => (dropStep (Mem.of l) (Frm.of (l.drop 5)) (l.getD 19 .u).int).2.cds ++ (dropStep (Mem.of l) (Frm.of (l.drop 5)) (l.getD 19 .u).int).1.cds⟩
theorem fn104 (m : Mem) (f : Frm) (x : Int) : d104.fn [slotsD m.slots, intsD m.heads, intsD m.free, intsD m.locks, .i m.now, .i f.c.kind, .i f.c.k.a, .i f.c.k.b, .i f.c.time, .i f.c.bucket, .i f.c.slot, .i f.pc, .i f.cur, .i f.prev, .i f.slot, .i f.n, keysD f.keys, .b f.done, .i f.e, .i x] = (dropStep m f x).2.cds ++ (dropStep m f x).1.cds := by
  simp only [d104, mem_of, mem_eta, List.drop_succ_cons, List.drop_zero, frm_of, List.getD_cons_zero, List.getD_cons_succ, CD.int_i]
theorem pi104 {m : Mem} {f : Frm} (hm : MemIn m) (hf : FrmOk m f) (hk : f.c.kind = 3) (x : Int) : d104.pre [slotsD m.slots, intsD m.heads, intsD m.free, intsD m.locks, .i m.now, .i f.c.kind, .i f.c.k.a, .i f.c.k.b, .i f.c.time, .i f.c.bucket, .i f.c.slot, .i f.pc, .i f.cur, .i f.prev, .i f.slot, .i f.n, keysD f.keys, .b f.done, .i f.e, .i x] := by
  simp only [d104, mem_of, mem_eta, List.drop_succ_cons, List.drop_zero, frm_of]
  exact ⟨hm, hf, hk⟩
def l104 : List (Nat × Ct) := [(48, d48.ct), (177, d177.ct), (186, d186.ct), (187, d187.ct), (167, d167.ct), (44, d44.ct)]
def z104 : Cx := { T := ttA, C := sigs l104, F := [], hints := [], sig := s104 }
def t104 : Tree :=
 (.call 48 [.var 0, .var 1, .var 2, .var 3, .var 4, .var 5, .var 6, .var 7, .var 8, .var 9, .var 10] 20
 (.ite (.eq (.var 11) (.int 3))
 (.ite (.le (.var 12) (.int 0))
 (.ret [.var 0, .var 1, .var 2, .var 3, .var 4, .var 5, .var 6, .var 7, .var 8, .var 9, .var 10, .int 5, .var 12, .var 13, .var 14, .var 15, .var 16, .var 17, .int 8])
 (.need (.fit (.sub (.var 12) (.int 1)))
 (.need (.le (.int 0) (.sub (.var 12) (.int 1)))
 (.need (.lt (.sub (.var 12) (.int 1)) (.len (.var 0)))
 (.ret [.var 0, .var 1, .var 2, .var 3, .var 4, .var 5, .var 6, .var 7, .var 8, .var 9, .var 10, .int 2, .cell (.var 0) (.sub (.var 12) (.int 1)) 5, .var 12, .var 14, .var 15, .var 16, .var 17, .var 18])))))
 (.ite (.eq (.var 11) (.int 4))
 (.ite (.le (.var 12) (.int 0))
 (.ret [.var 0, .var 1, .var 2, .var 3, .var 4, .var 5, .var 6, .var 7, .var 8, .var 9, .var 10, .int 5, .var 12, .var 13, .var 14, .var 15, .var 16, .var 17, .int 8])
 (.need (.fit (.sub (.var 12) (.int 1)))
 (.call 177 [.var 0, .var 1, .var 2, .var 3, .var 4, .var 13, .sub (.var 12) (.int 1), .var 20] 21
 (.ret [.var 21, .var 22, .var 23, .var 24, .var 25, .var 5, .var 6, .var 7, .var 8, .var 9, .var 10, .int 5, .var 12, .var 13, .sub (.var 12) (.int 1), .var 15, .var 16, .var 17, .int 0]))))
 (.ite (.lt (.int 6) (.var 11))
 (.ret [.var 0, .var 1, .var 2, .var 3, .var 4, .var 5, .var 6, .var 7, .var 8, .var 9, .var 10, .int 5, .var 12, .var 13, .var 14, .var 15, .var 16, .var 17, .int 8])
 (.ite (.eq (.var 11) (.int 0))
 (.call 186 [.var 0, .var 1, .var 2, .var 3, .var 4, .var 20, .var 19] 21
 (.ite (.var 26)
 (.ret [.var 21, .var 22, .var 23, .var 24, .var 25, .var 5, .var 6, .var 7, .var 8, .var 9, .var 10, .int 1, .var 12, .var 13, .var 14, .var 15, .var 16, .var 17, .var 18])
 (.ret [.var 21, .var 22, .var 23, .var 24, .var 25, .var 5, .var 6, .var 7, .var 8, .var 9, .var 10, .var 11, .var 12, .var 13, .var 14, .var 15, .var 16, .var 17, .var 18])))
 (.ite (.eq (.var 11) (.int 1))
 (.need (.le (.int 0) (.var 20))
 (.need (.lt (.var 20) (.len (.var 1)))
 (.ret [.var 0, .var 1, .var 2, .var 3, .var 4, .var 5, .var 6, .var 7, .var 8, .var 9, .var 10, .int 2, .cell (.var 1) (.var 20) 0, .int 0, .var 14, .var 15, .var 16, .var 17, .var 18])))
 (.ite (.eq (.var 11) (.int 2))
 (.ite (.le (.var 12) (.int 0))
 (.ret [.var 0, .var 1, .var 2, .var 3, .var 4, .var 5, .var 6, .var 7, .var 8, .var 9, .var 10, .int 5, .var 12, .var 13, .var 14, .var 15, .var 16, .var 17, .int 5])
 (.need (.fit (.sub (.var 12) (.int 1)))
 (.need (.le (.int 0) (.sub (.var 12) (.int 1)))
 (.need (.lt (.sub (.var 12) (.int 1)) (.len (.var 0)))
 (.ite (.and (.eq (.cell (.var 0) (.sub (.var 12) (.int 1)) 1) (.var 6)) (.and (.eq (.cell (.var 0) (.sub (.var 12) (.int 1)) 2) (.var 7)) (.bool true)))
 (.ret [.var 0, .var 1, .var 2, .var 3, .var 4, .var 5, .var 6, .var 7, .var 8, .var 9, .var 10, .int 4, .var 12, .var 13, .var 14, .var 15, .var 16, .var 17, .var 18])
 (.ret [.var 0, .var 1, .var 2, .var 3, .var 4, .var 5, .var 6, .var 7, .var 8, .var 9, .var 10, .int 3, .var 12, .var 13, .var 14, .var 15, .var 16, .var 17, .var 18]))))))
 (.ite (.eq (.var 11) (.int 5))
 (.call 187 [.var 0, .var 1, .var 2, .var 3, .var 4, .var 20, .var 19] 21
 (.ret [.var 21, .var 22, .var 23, .var 24, .var 25, .var 5, .var 6, .var 7, .var 8, .var 9, .var 10, .int 6, .var 12, .var 13, .var 14, .var 15, .var 16, .var 17, .var 18]))
 (.ite (.eq (.var 11) (.int 6))
 (.ite (.le (.int 0) (.var 14))
 (.call 167 [.var 0, .var 1, .var 2, .var 3, .var 4, .var 14] 21
 (.call 44 [.var 5, .var 6, .var 7, .var 8, .var 9, .var 10, .var 11, .var 12, .var 13, .int (-1), .var 15, .var 16, .var 17, .var 18, .var 18] 26
 (.ret [.var 21, .var 22, .var 23, .var 24, .var 25, .var 26, .var 27, .var 28, .var 29, .var 30, .var 31, .var 32, .var 33, .var 34, .var 35, .var 36, .var 37, .var 38, .var 39])))
 (.call 44 [.var 5, .var 6, .var 7, .var 8, .var 9, .var 10, .var 11, .var 12, .var 13, .var 14, .var 15, .var 16, .var 17, .var 18, .var 18] 21
 (.ret [.var 0, .var 1, .var 2, .var 3, .var 4, .var 21, .var 22, .var 23, .var 24, .var 25, .var 26, .var 27, .var 28, .var 29, .var 30, .var 31, .var 32, .var 33, .var 34])))
 (.ret [.var 0, .var 1, .var 2, .var 3, .var 4, .var 5, .var 6, .var 7, .var 8, .var 9, .var 10, .var 11, .var 12, .var 13, .var 14, .var 15, .var 16, .var 17, .var 18]))))))))))
theorem run104 : run z104 6000 [.code (Try.f104.body.getD .skip), .fin (topRet z104 Try.f104.results.toList 50)] { fn := 104, tmps := z104.sig.args0 ++ List.replicate (Try.f104.ntmps - z104.sig.args0.length) (.v (.one .undef)), stk := [], h := z104.sig.h0, nx := z104.sig.ins.length, known := [] } = t104 := by kernel_rfl
theorem ok104 : CtOk Try.prog 104 d104.ct := by
  refine dc_of_tree (d := d104) (Z := z104) (Γ := gam l104) (fn := Try.f104) (c := Try.f104.body.getD .skip) (told_of tok mixed (all_cons ok48 (all_cons ok177 (all_cons ok186 (all_cons ok187 (all_cons ok167 (all_cons ok44 all_nil)))))) fok_nil) Try.func104 (by kernel_rfl) (by kernel_rfl) rfl run104 fun E hk hp => ?_
  obtain ⟨hk0, hk1, hk2, hk3, hk4, hk5, hk6, hk7, hk8, hk9, hk10, hk11, hk12, hk13, hk14, hk15, hk16, hk17, hk18, hk19, _⟩ := hk
  obtain ⟨m, e0, e1, e2, e3, e4, b0, b1, b2, b3⟩ := ok_mem (d0 := E 0) (d1 := E 1) (d2 := E 2) (d3 := E 3) (d4 := E 4) hk0 hk1 hk2 hk3 hk4
  obtain ⟨f, e5, e6, e7, e8, e9, e10, e11, e12, e13, e14, e15, e16, e17, e18, b16⟩ := ok_frame (d0 := E 5) (d1 := E 6) (d2 := E 7) (d3 := E 8) (d4 := E 9) (d5 := E 10) (d6 := E 11) (d7 := E 12) (d8 := E 13) (d9 := E 14) (d10 := E 15) (d11 := E 16) (d12 := E 17) (d13 := E 18) hk5 hk6 hk7 hk8 hk9 hk10 hk11 hk12 hk13 hk14 hk15 hk16 hk17 hk18
  obtain ⟨x, e19⟩ := ok_int (d := E 19) hk19
  have el : letters E d104.sig.ins.length = [slotsD m.slots, intsD m.heads, intsD m.free, intsD m.locks, .i m.now, .i f.c.kind, .i f.c.k.a, .i f.c.k.b, .i f.c.time, .i f.c.bucket, .i f.c.slot, .i f.pc, .i f.cur, .i f.prev, .i f.slot, .i f.n, keysD f.keys, .b f.done, .i f.e, .i x] := by
    show [E 0, E 1, E 2, E 3, E 4, E 5, E 6, E 7, E 8, E 9, E 10, E 11, E 12, E 13, E 14, E 15, E 16, E 17, E 18, E 19] = _
    rw [e0, e1, e2, e3, e4, e5, e6, e7, e8, e9, e10, e11, e12, e13, e14, e15, e16, e17, e18, e19]
  rw [el] at hp
  rw [el]
  rw [Env.pre_eq el]
  clear el e0 e1 e2 e3 e4 e5 e6 e7 e8 e9 e10 e11 e12 e13 e14 e15 e16 e17 e18 e19
  rw [fn104]
  simp only [d104, mem_of, mem_eta, List.drop_succ_cons, List.drop_zero, frm_of] at hp
  obtain ⟨hm, hf, hk⟩ : MemIn m ∧ FrmOk m f ∧ f.c.kind = 3 := hp
  have hb := bucketFor_range hm hf.call (by omega)
  have gs := hm.ns
  have g4 := hm.nh4
  have eH : ((intsD m.heads).rows.getD (bucketFor m f.c).toNat []).getD 0 .u = .i (headAt m (bucketFor m f.c)) := raw_int (by omega)
  obtain ⟨f1, f2, f3, f4, f5, f6, f7, f8, f9, f10, f11, f12, f13⟩ := id hf
  have eN : 0 < f.cur → ((slotsD m.slots).rows.getD (f.cur - 1).toNat []).getD 5 .u = .i (at1 m f).next := fun _ => raw_s5 (by omega)
  have eK1 : 0 < f.cur → ((slotsD m.slots).rows.getD (f.cur - 1).toNat []).getD 1 .u = .i (at1 m f).k.a := fun _ => raw_s1 (by omega)
  have eK2 : 0 < f.cur → ((slotsD m.slots).rows.getD (f.cur - 1).toNat []).getD 2 .u = .i (at1 m f).k.b := fun _ => raw_s2 (by omega)
  have a1 : m.slots.getD (f.cur - 1).toNat default = at1 m f := rfl
  have a2 : m.slots.getD f.slot.toNat default = at2 m f := rfl
  unfold t104
  refine den_calle d48 [.i (bucketFor m f.c)] rfl trivial (by simp only [nrm, X.den, Env.put, Env.pre, reduceIte, Nat.reduceLT, Nat.reduceSub, Nat.reduceAdd, fs48]) ?_
  refine den_ite (fun h1 => ?_) (fun h1 => ?_)
  · simp only [nrm, X.den, Env.put, Env.pre, reduceIte, Nat.reduceLT, Nat.reduceSub, Nat.reduceAdd, cell_s1, cell_s2, cell_s3, cell_s4, cell_s5, cell_int, a1, a2, len_keys, Mem.cds, lca, Bool.not_eq_true', Bool.not_eq_false'] at h1
    refine den_ite (fun h2 => ?_) (fun h2 => ?_)
    · simp only [nrm, X.den, Env.put, Env.pre, reduceIte, Nat.reduceLT, Nat.reduceSub, Nat.reduceAdd, cell_s1, cell_s2, cell_s3, cell_s4, cell_s5, cell_int, a1, a2, len_keys, Mem.cds, lca, Bool.not_eq_true', Bool.not_eq_false'] at h2
      refine den_ret ?_
      first | (exfalso; omega) | skip
      all_goals unfold dropStep
      all_goals repeat (first | rw [if_neg (by omega)] | rw [if_pos (by omega)] | rw [if_pos (by assumption)] | rw [if_neg (by assumption)] | rw [if_neg (ne_true_of_eq_false (by assumption))] | rw [if_pos (Or.inl (by assumption))] | rw [if_pos (Or.inr (by assumption))] | rw [if_neg (fun y => Or.elim y (fun z => z (by assumption)) (fun z => Bool.false_ne_true (z.symm.trans (by assumption))))])
      all_goals simp only [nrm, X.den, Env.put, Env.pre, reduceIte, Nat.reduceLT, Nat.reduceSub, Nat.reduceAdd, Mem.cds, Frm.cds, endFrame, lca, CD.row, List.headD_cons, eH, app_key, Bool.false_eq_true, Bool.true_eq_false]
      all_goals first | (have e14 : f.slot = -1 := (by omega); simp only [e14]; done) | (have e15 : f.n = 1000000 := (by omega); simp only [e15]; done)
    · simp only [nrm, X.den, Env.put, Env.pre, reduceIte, Nat.reduceLT, Nat.reduceSub, Nat.reduceAdd, cell_s1, cell_s2, cell_s3, cell_s4, cell_s5, cell_int, a1, a2, len_keys, Mem.cds, lca, Bool.not_eq_true', Bool.not_eq_false'] at h2
      refine den_fit (by simp only [nrm, X.den, Env.put, Env.pre, reduceIte, Nat.reduceLT, Nat.reduceSub, Nat.reduceAdd, len_slots, len_ints, len_keys, cell_s1, cell_s2, cell_s3, cell_s4, cell_s5, cell_int, a1, a2]; omega) ?_
      refine den_le (by simp only [nrm, X.den, Env.put, Env.pre, reduceIte, Nat.reduceLT, Nat.reduceSub, Nat.reduceAdd, len_slots, len_ints, len_keys, cell_s1, cell_s2, cell_s3, cell_s4, cell_s5, cell_int, a1, a2]; omega) ?_
      refine den_lt (by simp only [nrm, X.den, Env.put, Env.pre, reduceIte, Nat.reduceLT, Nat.reduceSub, Nat.reduceAdd, len_slots, len_ints, len_keys, cell_s1, cell_s2, cell_s3, cell_s4, cell_s5, cell_int, a1, a2]; omega) ?_
      refine den_ret ?_
      first | (exfalso; omega) | skip
      all_goals unfold dropStep
      all_goals repeat (first | rw [if_neg (by omega)] | rw [if_pos (by omega)] | rw [if_pos (by assumption)] | rw [if_neg (by assumption)] | rw [if_neg (ne_true_of_eq_false (by assumption))] | rw [if_pos (Or.inl (by assumption))] | rw [if_pos (Or.inr (by assumption))] | rw [if_neg (fun y => Or.elim y (fun z => z (by assumption)) (fun z => Bool.false_ne_true (z.symm.trans (by assumption))))])
      all_goals simp only [nrm, X.den, Env.put, Env.pre, reduceIte, Nat.reduceLT, Nat.reduceSub, Nat.reduceAdd, Mem.cds, Frm.cds, endFrame, lca, CD.row, List.headD_cons, eH, app_key, Bool.false_eq_true, Bool.true_eq_false, eN (by omega), eK1 (by omega), eK2 (by omega)]
      all_goals first | (have e14 : f.slot = -1 := (by omega); simp only [e14]; done) | (have e15 : f.n = 1000000 := (by omega); simp only [e15]; done)
  · simp only [nrm, X.den, Env.put, Env.pre, reduceIte, Nat.reduceLT, Nat.reduceSub, Nat.reduceAdd, cell_s1, cell_s2, cell_s3, cell_s4, cell_s5, cell_int, a1, a2, len_keys, Mem.cds, lca, Bool.not_eq_true', Bool.not_eq_false'] at h1
    refine den_ite (fun h2 => ?_) (fun h2 => ?_)
    · simp only [nrm, X.den, Env.put, Env.pre, reduceIte, Nat.reduceLT, Nat.reduceSub, Nat.reduceAdd, cell_s1, cell_s2, cell_s3, cell_s4, cell_s5, cell_int, a1, a2, len_keys, Mem.cds, lca, Bool.not_eq_true', Bool.not_eq_false'] at h2
      refine den_ite (fun h3 => ?_) (fun h3 => ?_)
      · simp only [nrm, X.den, Env.put, Env.pre, reduceIte, Nat.reduceLT, Nat.reduceSub, Nat.reduceAdd, cell_s1, cell_s2, cell_s3, cell_s4, cell_s5, cell_int, a1, a2, len_keys, Mem.cds, lca, Bool.not_eq_true', Bool.not_eq_false'] at h3
        refine den_ret ?_
        first | (exfalso; omega) | skip
        all_goals unfold dropStep
        all_goals repeat (first | rw [if_neg (by omega)] | rw [if_pos (by omega)] | rw [if_pos (by assumption)] | rw [if_neg (by assumption)] | rw [if_neg (ne_true_of_eq_false (by assumption))] | rw [if_pos (Or.inl (by assumption))] | rw [if_pos (Or.inr (by assumption))] | rw [if_neg (fun y => Or.elim y (fun z => z (by assumption)) (fun z => Bool.false_ne_true (z.symm.trans (by assumption))))])
        all_goals simp only [nrm, X.den, Env.put, Env.pre, reduceIte, Nat.reduceLT, Nat.reduceSub, Nat.reduceAdd, Mem.cds, Frm.cds, endFrame, lca, CD.row, List.headD_cons, eH, app_key, Bool.false_eq_true, Bool.true_eq_false]
        all_goals first | (have e14 : f.slot = -1 := (by omega); simp only [e14]; done) | (have e15 : f.n = 1000000 := (by omega); simp only [e15]; done)
      · simp only [nrm, X.den, Env.put, Env.pre, reduceIte, Nat.reduceLT, Nat.reduceSub, Nat.reduceAdd, cell_s1, cell_s2, cell_s3, cell_s4, cell_s5, cell_int, a1, a2, len_keys, Mem.cds, lca, Bool.not_eq_true', Bool.not_eq_false'] at h3
        refine den_fit (by simp only [nrm, X.den, Env.put, Env.pre, reduceIte, Nat.reduceLT, Nat.reduceSub, Nat.reduceAdd, len_slots, len_ints, len_keys, cell_s1, cell_s2, cell_s3, cell_s4, cell_s5, cell_int, a1, a2]; omega) ?_
        refine den_calle d177 (cut m f.prev (f.cur - 1) (bucketFor m f.c)).cds rfl (by simp only [nrm, X.den, Env.put, Env.pre, reduceIte, Nat.reduceLT, Nat.reduceSub, Nat.reduceAdd]; exact pre177 (by omega) (by omega) (by omega) hb.1 hb.2) (by simp only [nrm, X.den, Env.put, Env.pre, reduceIte, Nat.reduceLT, Nat.reduceSub, Nat.reduceAdd, fn177]) ?_
        refine den_ret ?_
        first | (exfalso; omega) | skip
        all_goals unfold dropStep
        all_goals repeat (first | rw [if_neg (by omega)] | rw [if_pos (by omega)] | rw [if_pos (by assumption)] | rw [if_neg (by assumption)] | rw [if_neg (ne_true_of_eq_false (by assumption))] | rw [if_pos (Or.inl (by assumption))] | rw [if_pos (Or.inr (by assumption))] | rw [if_neg (fun y => Or.elim y (fun z => z (by assumption)) (fun z => Bool.false_ne_true (z.symm.trans (by assumption))))])
        all_goals simp only [nrm, X.den, Env.put, Env.pre, reduceIte, Nat.reduceLT, Nat.reduceSub, Nat.reduceAdd, Mem.cds, Frm.cds, endFrame, lca, CD.row, List.headD_cons, eH, app_key, Bool.false_eq_true, Bool.true_eq_false]
        all_goals first | (have e14 : f.slot = -1 := (by omega); simp only [e14]; done) | (have e15 : f.n = 1000000 := (by omega); simp only [e15]; done)
    · simp only [nrm, X.den, Env.put, Env.pre, reduceIte, Nat.reduceLT, Nat.reduceSub, Nat.reduceAdd, cell_s1, cell_s2, cell_s3, cell_s4, cell_s5, cell_int, a1, a2, len_keys, Mem.cds, lca, Bool.not_eq_true', Bool.not_eq_false'] at h2
      refine den_ite (fun h3 => ?_) (fun h3 => ?_)
      · simp only [nrm, X.den, Env.put, Env.pre, reduceIte, Nat.reduceLT, Nat.reduceSub, Nat.reduceAdd, cell_s1, cell_s2, cell_s3, cell_s4, cell_s5, cell_int, a1, a2, len_keys, Mem.cds, lca, Bool.not_eq_true', Bool.not_eq_false'] at h3
        refine den_ret ?_
        first | (exfalso; omega) | skip
        all_goals unfold dropStep
        all_goals repeat (first | rw [if_neg (by omega)] | rw [if_pos (by omega)] | rw [if_pos (by assumption)] | rw [if_neg (by assumption)] | rw [if_neg (ne_true_of_eq_false (by assumption))] | rw [if_pos (Or.inl (by assumption))] | rw [if_pos (Or.inr (by assumption))] | rw [if_neg (fun y => Or.elim y (fun z => z (by assumption)) (fun z => Bool.false_ne_true (z.symm.trans (by assumption))))])
        all_goals simp only [nrm, X.den, Env.put, Env.pre, reduceIte, Nat.reduceLT, Nat.reduceSub, Nat.reduceAdd, Mem.cds, Frm.cds, endFrame, lca, CD.row, List.headD_cons, eH, app_key, Bool.false_eq_true, Bool.true_eq_false]
        all_goals first | (have e14 : f.slot = -1 := (by omega); simp only [e14]; done) | (have e15 : f.n = 1000000 := (by omega); simp only [e15]; done)
      · simp only [nrm, X.den, Env.put, Env.pre, reduceIte, Nat.reduceLT, Nat.reduceSub, Nat.reduceAdd, cell_s1, cell_s2, cell_s3, cell_s4, cell_s5, cell_int, a1, a2, len_keys, Mem.cds, lca, Bool.not_eq_true', Bool.not_eq_false'] at h3
        refine den_ite (fun h4 => ?_) (fun h4 => ?_)
        · simp only [nrm, X.den, Env.put, Env.pre, reduceIte, Nat.reduceLT, Nat.reduceSub, Nat.reduceAdd, cell_s1, cell_s2, cell_s3, cell_s4, cell_s5, cell_int, a1, a2, len_keys, Mem.cds, lca, Bool.not_eq_true', Bool.not_eq_false'] at h4
          refine den_calle d186 ((lock m (bucketFor m f.c) x).1.cds ++ [.b (lock m (bucketFor m f.c) x).2]) rfl (by simp only [nrm, X.den, Env.put, Env.pre, reduceIte, Nat.reduceLT, Nat.reduceSub, Nat.reduceAdd]; exact pi186 hm hb.1 hb.2) (by simp only [nrm, X.den, Env.put, Env.pre, reduceIte, Nat.reduceLT, Nat.reduceSub, Nat.reduceAdd, fn186]) ?_
          refine den_ite (fun h5 => ?_) (fun h5 => ?_)
          · simp only [nrm, X.den, Env.put, Env.pre, reduceIte, Nat.reduceLT, Nat.reduceSub, Nat.reduceAdd, cell_s1, cell_s2, cell_s3, cell_s4, cell_s5, cell_int, a1, a2, len_keys, Mem.cds, lca, Bool.not_eq_true', Bool.not_eq_false'] at h5
            refine den_ret ?_
            first | (exfalso; omega) | skip
            all_goals unfold dropStep
            all_goals repeat (first | rw [if_neg (by omega)] | rw [if_pos (by omega)] | rw [if_pos (by assumption)] | rw [if_neg (by assumption)] | rw [if_neg (ne_true_of_eq_false (by assumption))] | rw [if_pos (Or.inl (by assumption))] | rw [if_pos (Or.inr (by assumption))] | rw [if_neg (fun y => Or.elim y (fun z => z (by assumption)) (fun z => Bool.false_ne_true (z.symm.trans (by assumption))))])
            all_goals try rw [hold_no h5]
            all_goals try rw [lock_no h5]
            all_goals simp only [nrm, X.den, Env.put, Env.pre, reduceIte, Nat.reduceLT, Nat.reduceSub, Nat.reduceAdd, Mem.cds, Frm.cds, endFrame, lca, CD.row, List.headD_cons, eH, app_key, Bool.false_eq_true, Bool.true_eq_false, h5]
            all_goals first | (have e14 : f.slot = -1 := (by omega); simp only [e14]; done) | (have e15 : f.n = 1000000 := (by omega); simp only [e15]; done)
          · simp only [nrm, X.den, Env.put, Env.pre, reduceIte, Nat.reduceLT, Nat.reduceSub, Nat.reduceAdd, cell_s1, cell_s2, cell_s3, cell_s4, cell_s5, cell_int, a1, a2, len_keys, Mem.cds, lca, Bool.not_eq_true', Bool.not_eq_false'] at h5
            refine den_ret ?_
            first | (exfalso; omega) | skip
            all_goals unfold dropStep
            all_goals repeat (first | rw [if_neg (by omega)] | rw [if_pos (by omega)] | rw [if_pos (by assumption)] | rw [if_neg (by assumption)] | rw [if_neg (ne_true_of_eq_false (by assumption))] | rw [if_pos (Or.inl (by assumption))] | rw [if_pos (Or.inr (by assumption))] | rw [if_neg (fun y => Or.elim y (fun z => z (by assumption)) (fun z => Bool.false_ne_true (z.symm.trans (by assumption))))])
            all_goals try rw [hold_no h5]
            all_goals try rw [lock_no h5]
            all_goals simp only [nrm, X.den, Env.put, Env.pre, reduceIte, Nat.reduceLT, Nat.reduceSub, Nat.reduceAdd, Mem.cds, Frm.cds, endFrame, lca, CD.row, List.headD_cons, eH, app_key, Bool.false_eq_true, Bool.true_eq_false, h5]
            all_goals first | (have e14 : f.slot = -1 := (by omega); simp only [e14]; done) | (have e15 : f.n = 1000000 := (by omega); simp only [e15]; done)
        · simp only [nrm, X.den, Env.put, Env.pre, reduceIte, Nat.reduceLT, Nat.reduceSub, Nat.reduceAdd, cell_s1, cell_s2, cell_s3, cell_s4, cell_s5, cell_int, a1, a2, len_keys, Mem.cds, lca, Bool.not_eq_true', Bool.not_eq_false'] at h4
          refine den_ite (fun h5 => ?_) (fun h5 => ?_)
          · simp only [nrm, X.den, Env.put, Env.pre, reduceIte, Nat.reduceLT, Nat.reduceSub, Nat.reduceAdd, cell_s1, cell_s2, cell_s3, cell_s4, cell_s5, cell_int, a1, a2, len_keys, Mem.cds, lca, Bool.not_eq_true', Bool.not_eq_false'] at h5
            refine den_le (by simp only [nrm, X.den, Env.put, Env.pre, reduceIte, Nat.reduceLT, Nat.reduceSub, Nat.reduceAdd, len_slots, len_ints, len_keys, cell_s1, cell_s2, cell_s3, cell_s4, cell_s5, cell_int, a1, a2]; omega) ?_
            refine den_lt (by simp only [nrm, X.den, Env.put, Env.pre, reduceIte, Nat.reduceLT, Nat.reduceSub, Nat.reduceAdd, len_slots, len_ints, len_keys, cell_s1, cell_s2, cell_s3, cell_s4, cell_s5, cell_int, a1, a2]; omega) ?_
            refine den_ret ?_
            first | (exfalso; omega) | skip
            all_goals unfold dropStep
            all_goals repeat (first | rw [if_neg (by omega)] | rw [if_pos (by omega)] | rw [if_pos (by assumption)] | rw [if_neg (by assumption)] | rw [if_neg (ne_true_of_eq_false (by assumption))] | rw [if_pos (Or.inl (by assumption))] | rw [if_pos (Or.inr (by assumption))] | rw [if_neg (fun y => Or.elim y (fun z => z (by assumption)) (fun z => Bool.false_ne_true (z.symm.trans (by assumption))))])
            all_goals simp only [nrm, X.den, Env.put, Env.pre, reduceIte, Nat.reduceLT, Nat.reduceSub, Nat.reduceAdd, Mem.cds, Frm.cds, endFrame, lca, CD.row, List.headD_cons, eH, app_key, Bool.false_eq_true, Bool.true_eq_false]
            all_goals first | (have e14 : f.slot = -1 := (by omega); simp only [e14]; done) | (have e15 : f.n = 1000000 := (by omega); simp only [e15]; done)
          · simp only [nrm, X.den, Env.put, Env.pre, reduceIte, Nat.reduceLT, Nat.reduceSub, Nat.reduceAdd, cell_s1, cell_s2, cell_s3, cell_s4, cell_s5, cell_int, a1, a2, len_keys, Mem.cds, lca, Bool.not_eq_true', Bool.not_eq_false'] at h5
            refine den_ite (fun h6 => ?_) (fun h6 => ?_)
            · simp only [nrm, X.den, Env.put, Env.pre, reduceIte, Nat.reduceLT, Nat.reduceSub, Nat.reduceAdd, cell_s1, cell_s2, cell_s3, cell_s4, cell_s5, cell_int, a1, a2, len_keys, Mem.cds, lca, Bool.not_eq_true', Bool.not_eq_false'] at h6
              refine den_ite (fun h7 => ?_) (fun h7 => ?_)
              · simp only [nrm, X.den, Env.put, Env.pre, reduceIte, Nat.reduceLT, Nat.reduceSub, Nat.reduceAdd, cell_s1, cell_s2, cell_s3, cell_s4, cell_s5, cell_int, a1, a2, len_keys, Mem.cds, lca, Bool.not_eq_true', Bool.not_eq_false'] at h7
                refine den_ret ?_
                first | (exfalso; omega) | skip
                all_goals unfold dropStep
                all_goals repeat (first | rw [if_neg (by omega)] | rw [if_pos (by omega)] | rw [if_pos (by assumption)] | rw [if_neg (by assumption)] | rw [if_neg (ne_true_of_eq_false (by assumption))] | rw [if_pos (Or.inl (by assumption))] | rw [if_pos (Or.inr (by assumption))] | rw [if_neg (fun y => Or.elim y (fun z => z (by assumption)) (fun z => Bool.false_ne_true (z.symm.trans (by assumption))))])
                all_goals simp only [nrm, X.den, Env.put, Env.pre, reduceIte, Nat.reduceLT, Nat.reduceSub, Nat.reduceAdd, Mem.cds, Frm.cds, endFrame, lca, CD.row, List.headD_cons, eH, app_key, Bool.false_eq_true, Bool.true_eq_false]
                all_goals first | (have e14 : f.slot = -1 := (by omega); simp only [e14]; done) | (have e15 : f.n = 1000000 := (by omega); simp only [e15]; done)
              · simp only [nrm, X.den, Env.put, Env.pre, reduceIte, Nat.reduceLT, Nat.reduceSub, Nat.reduceAdd, cell_s1, cell_s2, cell_s3, cell_s4, cell_s5, cell_int, a1, a2, len_keys, Mem.cds, lca, Bool.not_eq_true', Bool.not_eq_false'] at h7
                refine den_fit (by simp only [nrm, X.den, Env.put, Env.pre, reduceIte, Nat.reduceLT, Nat.reduceSub, Nat.reduceAdd, len_slots, len_ints, len_keys, cell_s1, cell_s2, cell_s3, cell_s4, cell_s5, cell_int, a1, a2]; omega) ?_
                refine den_le (by simp only [nrm, X.den, Env.put, Env.pre, reduceIte, Nat.reduceLT, Nat.reduceSub, Nat.reduceAdd, len_slots, len_ints, len_keys, cell_s1, cell_s2, cell_s3, cell_s4, cell_s5, cell_int, a1, a2]; omega) ?_
                refine den_lt (by simp only [nrm, X.den, Env.put, Env.pre, reduceIte, Nat.reduceLT, Nat.reduceSub, Nat.reduceAdd, len_slots, len_ints, len_keys, cell_s1, cell_s2, cell_s3, cell_s4, cell_s5, cell_int, a1, a2]; omega) ?_
                refine den_ite (fun h8 => ?_) (fun h8 => ?_)
                · simp only [nrm, X.den, Env.put, Env.pre, reduceIte, Nat.reduceLT, Nat.reduceSub, Nat.reduceAdd, cell_s1, cell_s2, cell_s3, cell_s4, cell_s5, cell_int, a1, a2, len_keys, Mem.cds, lca, Bool.not_eq_true', Bool.not_eq_false'] at h8
                  replace h8 := key_t h8
                  refine den_ret ?_
                  first | (exfalso; omega) | skip
                  all_goals unfold dropStep
                  all_goals repeat (first | rw [if_neg (by omega)] | rw [if_pos (by omega)] | rw [if_pos (by assumption)] | rw [if_neg (by assumption)] | rw [if_neg (ne_true_of_eq_false (by assumption))] | rw [if_pos (Or.inl (by assumption))] | rw [if_pos (Or.inr (by assumption))] | rw [if_neg (fun y => Or.elim y (fun z => z (by assumption)) (fun z => Bool.false_ne_true (z.symm.trans (by assumption))))])
                  all_goals simp only [nrm, X.den, Env.put, Env.pre, reduceIte, Nat.reduceLT, Nat.reduceSub, Nat.reduceAdd, Mem.cds, Frm.cds, endFrame, lca, CD.row, List.headD_cons, eH, app_key, Bool.false_eq_true, Bool.true_eq_false]
                  all_goals first | (have e14 : f.slot = -1 := (by omega); simp only [e14]; done) | (have e15 : f.n = 1000000 := (by omega); simp only [e15]; done)
                · simp only [nrm, X.den, Env.put, Env.pre, reduceIte, Nat.reduceLT, Nat.reduceSub, Nat.reduceAdd, cell_s1, cell_s2, cell_s3, cell_s4, cell_s5, cell_int, a1, a2, len_keys, Mem.cds, lca, Bool.not_eq_true', Bool.not_eq_false'] at h8
                  replace h8 := key_f h8
                  refine den_ret ?_
                  first | (exfalso; omega) | skip
                  all_goals unfold dropStep
                  all_goals repeat (first | rw [if_neg (by omega)] | rw [if_pos (by omega)] | rw [if_pos (by assumption)] | rw [if_neg (by assumption)] | rw [if_neg (ne_true_of_eq_false (by assumption))] | rw [if_pos (Or.inl (by assumption))] | rw [if_pos (Or.inr (by assumption))] | rw [if_neg (fun y => Or.elim y (fun z => z (by assumption)) (fun z => Bool.false_ne_true (z.symm.trans (by assumption))))])
                  all_goals simp only [nrm, X.den, Env.put, Env.pre, reduceIte, Nat.reduceLT, Nat.reduceSub, Nat.reduceAdd, Mem.cds, Frm.cds, endFrame, lca, CD.row, List.headD_cons, eH, app_key, Bool.false_eq_true, Bool.true_eq_false]
                  all_goals first | (have e14 : f.slot = -1 := (by omega); simp only [e14]; done) | (have e15 : f.n = 1000000 := (by omega); simp only [e15]; done)
            · simp only [nrm, X.den, Env.put, Env.pre, reduceIte, Nat.reduceLT, Nat.reduceSub, Nat.reduceAdd, cell_s1, cell_s2, cell_s3, cell_s4, cell_s5, cell_int, a1, a2, len_keys, Mem.cds, lca, Bool.not_eq_true', Bool.not_eq_false'] at h6
              refine den_ite (fun h7 => ?_) (fun h7 => ?_)
              · simp only [nrm, X.den, Env.put, Env.pre, reduceIte, Nat.reduceLT, Nat.reduceSub, Nat.reduceAdd, cell_s1, cell_s2, cell_s3, cell_s4, cell_s5, cell_int, a1, a2, len_keys, Mem.cds, lca, Bool.not_eq_true', Bool.not_eq_false'] at h7
                refine den_calle d187 (unlock m (bucketFor m f.c) x).cds rfl (by simp only [nrm, X.den, Env.put, Env.pre, reduceIte, Nat.reduceLT, Nat.reduceSub, Nat.reduceAdd]; exact pi187 hm hb.1 hb.2) (by simp only [nrm, X.den, Env.put, Env.pre, reduceIte, Nat.reduceLT, Nat.reduceSub, Nat.reduceAdd, fn187]) ?_
                refine den_ret ?_
                first | (exfalso; omega) | skip
                all_goals unfold dropStep
                all_goals repeat (first | rw [if_neg (by omega)] | rw [if_pos (by omega)] | rw [if_pos (by assumption)] | rw [if_neg (by assumption)] | rw [if_neg (ne_true_of_eq_false (by assumption))] | rw [if_pos (Or.inl (by assumption))] | rw [if_pos (Or.inr (by assumption))] | rw [if_neg (fun y => Or.elim y (fun z => z (by assumption)) (fun z => Bool.false_ne_true (z.symm.trans (by assumption))))])
                all_goals simp only [nrm, X.den, Env.put, Env.pre, reduceIte, Nat.reduceLT, Nat.reduceSub, Nat.reduceAdd, Mem.cds, Frm.cds, endFrame, lca, CD.row, List.headD_cons, eH, app_key, Bool.false_eq_true, Bool.true_eq_false]
                all_goals first | (have e14 : f.slot = -1 := (by omega); simp only [e14]; done) | (have e15 : f.n = 1000000 := (by omega); simp only [e15]; done)
              · simp only [nrm, X.den, Env.put, Env.pre, reduceIte, Nat.reduceLT, Nat.reduceSub, Nat.reduceAdd, cell_s1, cell_s2, cell_s3, cell_s4, cell_s5, cell_int, a1, a2, len_keys, Mem.cds, lca, Bool.not_eq_true', Bool.not_eq_false'] at h7
                refine den_ite (fun h8 => ?_) (fun h8 => ?_)
                · simp only [nrm, X.den, Env.put, Env.pre, reduceIte, Nat.reduceLT, Nat.reduceSub, Nat.reduceAdd, cell_s1, cell_s2, cell_s3, cell_s4, cell_s5, cell_int, a1, a2, len_keys, Mem.cds, lca, Bool.not_eq_true', Bool.not_eq_false'] at h8
                  refine den_ite (fun h9 => ?_) (fun h9 => ?_)
                  · simp only [nrm, X.den, Env.put, Env.pre, reduceIte, Nat.reduceLT, Nat.reduceSub, Nat.reduceAdd, cell_s1, cell_s2, cell_s3, cell_s4, cell_s5, cell_int, a1, a2, len_keys, Mem.cds, lca, Bool.not_eq_true', Bool.not_eq_false'] at h9
                    refine den_calle d167 (put m f.slot).cds rfl (by simp only [nrm, X.den, Env.put, Env.pre, reduceIte, Nat.reduceLT, Nat.reduceSub, Nat.reduceAdd]; exact pi167 hm (by omega) (by omega)) (by simp only [nrm, X.den, Env.put, Env.pre, reduceIte, Nat.reduceLT, Nat.reduceSub, Nat.reduceAdd, fs167]) ?_
                    refine den_calle d44 (endFrame { f with slot := (-1) } f.e).cds rfl trivial (by simp only [nrm, X.den, Env.put, Env.pre, reduceIte, Nat.reduceLT, Nat.reduceSub, Nat.reduceAdd, Frm.cds, lca]; exact fs44 { f with slot := (-1) } f.e) ?_
                    refine den_ret ?_
                    first | (exfalso; omega) | skip
                    all_goals unfold dropStep
                    all_goals repeat (first | rw [if_neg (by omega)] | rw [if_pos (by omega)] | rw [if_pos (by assumption)] | rw [if_neg (by assumption)] | rw [if_neg (ne_true_of_eq_false (by assumption))] | rw [if_pos (Or.inl (by assumption))] | rw [if_pos (Or.inr (by assumption))] | rw [if_neg (fun y => Or.elim y (fun z => z (by assumption)) (fun z => Bool.false_ne_true (z.symm.trans (by assumption))))])
                    all_goals simp only [nrm, X.den, Env.put, Env.pre, reduceIte, Nat.reduceLT, Nat.reduceSub, Nat.reduceAdd, Mem.cds, Frm.cds, endFrame, lca, CD.row, List.headD_cons, eH, app_key, Bool.false_eq_true, Bool.true_eq_false]
                    all_goals first | (have e14 : f.slot = -1 := (by omega); simp only [e14]; done) | (have e15 : f.n = 1000000 := (by omega); simp only [e15]; done)
                  · simp only [nrm, X.den, Env.put, Env.pre, reduceIte, Nat.reduceLT, Nat.reduceSub, Nat.reduceAdd, cell_s1, cell_s2, cell_s3, cell_s4, cell_s5, cell_int, a1, a2, len_keys, Mem.cds, lca, Bool.not_eq_true', Bool.not_eq_false'] at h9
                    refine den_calle d44 (endFrame f f.e).cds rfl trivial (by simp only [nrm, X.den, Env.put, Env.pre, reduceIte, Nat.reduceLT, Nat.reduceSub, Nat.reduceAdd, Frm.cds, lca]; exact fs44 f f.e) ?_
                    refine den_ret ?_
                    first | (exfalso; omega) | skip
                    all_goals unfold dropStep
                    all_goals repeat (first | rw [if_neg (by omega)] | rw [if_pos (by omega)] | rw [if_pos (by assumption)] | rw [if_neg (by assumption)] | rw [if_neg (ne_true_of_eq_false (by assumption))] | rw [if_pos (Or.inl (by assumption))] | rw [if_pos (Or.inr (by assumption))] | rw [if_neg (fun y => Or.elim y (fun z => z (by assumption)) (fun z => Bool.false_ne_true (z.symm.trans (by assumption))))])
                    all_goals simp only [nrm, X.den, Env.put, Env.pre, reduceIte, Nat.reduceLT, Nat.reduceSub, Nat.reduceAdd, Mem.cds, Frm.cds, endFrame, lca, CD.row, List.headD_cons, eH, app_key, Bool.false_eq_true, Bool.true_eq_false]
                    all_goals first | (have e14 : f.slot = -1 := (by omega); simp only [e14]; done) | (have e15 : f.n = 1000000 := (by omega); simp only [e15]; done)
                · simp only [nrm, X.den, Env.put, Env.pre, reduceIte, Nat.reduceLT, Nat.reduceSub, Nat.reduceAdd, cell_s1, cell_s2, cell_s3, cell_s4, cell_s5, cell_int, a1, a2, len_keys, Mem.cds, lca, Bool.not_eq_true', Bool.not_eq_false'] at h8
                  refine den_ret ?_
                  first | (exfalso; omega) | skip
                  all_goals unfold dropStep
                  all_goals repeat (first | rw [if_neg (by omega)] | rw [if_pos (by omega)] | rw [if_pos (by assumption)] | rw [if_neg (by assumption)] | rw [if_neg (ne_true_of_eq_false (by assumption))] | rw [if_pos (Or.inl (by assumption))] | rw [if_pos (Or.inr (by assumption))] | rw [if_neg (fun y => Or.elim y (fun z => z (by assumption)) (fun z => Bool.false_ne_true (z.symm.trans (by assumption))))])
                  all_goals simp only [nrm, X.den, Env.put, Env.pre, reduceIte, Nat.reduceLT, Nat.reduceSub, Nat.reduceAdd, Mem.cds, Frm.cds, endFrame, lca, CD.row, List.headD_cons, eH, app_key, Bool.false_eq_true, Bool.true_eq_false]
                  all_goals first | (have e14 : f.slot = -1 := (by omega); simp only [e14]; done) | (have e15 : f.n = 1000000 := (by omega); simp only [e15]; done)
end Go.Proofs.Ytpmamacjepcdmaa

namespace Go.Proofs.Ytpmamacjepcdmaa
open Go Go.Sy Go.RowKit
set_option linter.unusedSimpArgs false
set_option linter.unusedVariables false
def s110 : Sig := ⟨[.ptr [.own 52 kS, .own 3 kI, .own 3 kI, .own 3 kI, .int .i64], .agg [.int .i64, .int .i64, .int .i64, .int .i64, .int .i64, .int .i64, .int .i64, .int .i64, .int .i64, .int .i64, .int .i64, .fz kK, .bool, .int .i64], .one (.int .i64)], [.agg [.int .i64, .int .i64, .int .i64, .int .i64, .int .i64, .int .i64, .int .i64, .int .i64, .int .i64, .int .i64, .int .i64, .fz kK, .bool, .int .i64]]⟩
def d110 : DC := ⟨s110, fun l => MemIn (Mem.of l) ∧ FrmOk (Mem.of l) (Frm.of (l.drop 5)) ∧ ((Frm.of (l.drop 5)).c.kind = 4 ∨ (Frm.of (l.drop 5)).c.kind = 5), fun l => (sweepStep (Mem.of l) (Frm.of (l.drop 5)) (l.getD 19 .u).int).2.cds ++ (sweepStep (Mem.of l) (Frm.of (l.drop 5)) (l.getD 19 .u).int).1.cds⟩
theorem fn110 (m : Mem) (f : Frm) (x : Int) : d110.fn [slotsD m.slots, intsD m.heads, intsD m.free, intsD m.locks, .i m.now, .i f.c.kind, .i f.c.k.a, .i f.c.k.b, .i f.c.time, .i f.c.bucket, .i f.c.slot, .i f.pc, .i f.cur, .i f.prev, .i f.slot, .i f.n, keysD f.keys, .b f.done, .i f.e, .i x] = (sweepStep m f x).2.cds ++ (sweepStep m f x).1.cds := by
  simp only [d110, mem_of, mem_eta, List.drop_succ_cons, List.drop_zero, frm_of, List.getD_cons_zero, List.getD_cons_succ, CD.int_i]
theorem pi110 {m : Mem} {f : Frm} (hm : MemIn m) (hf : FrmOk m f) (hk : f.c.kind = 4 ∨ f.c.kind = 5) (x : Int) : d110.pre [slotsD m.slots, intsD m.heads, intsD m.free, intsD m.locks, .i m.now, .i f.c.kind, .i f.c.k.a, .i f.c.k.b, .i f.c.time, .i f.c.bucket, .i f.c.slot, .i f.pc, .i f.cur, .i f.prev, .i f.slot, .i f.n, keysD f.keys, .b f.done, .i f.e, .i x] := by
  simp only [d110, mem_of, mem_eta, List.drop_succ_cons, List.drop_zero, frm_of]
  exact ⟨hm, hf, hk⟩
def l110 : List (Nat × Ct) := [(48, d48.ct), (177, d177.ct), (167, d167.ct), (186, d186.ct), (172, d172.ct), (187, d187.ct), (44, d44.ct)]
def z110 : Cx := { T := ttA, C := sigs l110, F := [], hints := [], sig := s110 }
def t110 : Tree :=
 (.call 48 [.var 0, .var 1, .var 2, .var 3, .var 4, .var 5, .var 6, .var 7, .var 8, .var 9, .var 10] 20
 (.ite (.eq (.var 11) (.int 3))
 (.ite (.le (.var 12) (.int 0))
 (.ret [.var 0, .var 1, .var 2, .var 3, .var 4, .var 5, .var 6, .var 7, .var 8, .var 9, .var 10, .int 6, .var 12, .var 13, .var 14, .var 15, .var 16, .var 17, .var 18])
 (.need (.fit (.sub (.var 12) (.int 1)))
 (.need (.le (.int 0) (.sub (.var 12) (.int 1)))
 (.need (.lt (.sub (.var 12) (.int 1)) (.len (.var 0)))
 (.ret [.var 0, .var 1, .var 2, .var 3, .var 4, .var 5, .var 6, .var 7, .var 8, .var 9, .var 10, .int 2, .cell (.var 0) (.sub (.var 12) (.int 1)) 5, .var 12, .var 14, .var 15, .var 16, .var 17, .var 18])))))
 (.ite (.eq (.var 11) (.int 4))
 (.ite (.le (.var 12) (.int 0))
 (.ret [.var 0, .var 1, .var 2, .var 3, .var 4, .var 5, .var 6, .var 7, .var 8, .var 9, .var 10, .int 6, .var 12, .var 13, .var 14, .var 15, .var 16, .var 17, .var 18])
 (.need (.fit (.sub (.var 12) (.int 1)))
 (.need (.le (.int 0) (.sub (.var 12) (.int 1)))
 (.need (.lt (.sub (.var 12) (.int 1)) (.len (.var 0)))
 (.call 177 [.var 0, .var 1, .var 2, .var 3, .var 4, .var 13, .sub (.var 12) (.int 1), .var 20] 21
 (.ret [.var 21, .var 22, .var 23, .var 24, .var 25, .var 5, .var 6, .var 7, .var 8, .var 9, .var 10, .int 5, .cell (.var 0) (.sub (.var 12) (.int 1)) 5, .var 13, .sub (.var 12) (.int 1), .var 15, .var 16, .var 17, .var 18]))))))
 (.ite (.eq (.var 11) (.int 5))
 (.ite (.lt (.var 14) (.int 0))
 (.ret [.var 0, .var 1, .var 2, .var 3, .var 4, .var 5, .var 6, .var 7, .var 8, .var 9, .var 10, .int 6, .var 12, .var 13, .var 14, .var 15, .var 16, .var 17, .var 18])
 (.call 167 [.var 0, .var 1, .var 2, .var 3, .var 4, .var 14] 21
 (.need (.fit (.add (.var 15) (.int 1)))
 (.ret [.var 21, .var 22, .var 23, .var 24, .var 25, .var 5, .var 6, .var 7, .var 8, .var 9, .var 10, .int 2, .var 12, .var 13, .int (-1), .min (.add (.var 15) (.int 1)) (.int 1000000), .var 16, .var 17, .var 18]))))
 (.ite (.lt (.int 6) (.var 11))
 (.ret [.var 0, .var 1, .var 2, .var 3, .var 4, .var 5, .var 6, .var 7, .var 8, .var 9, .var 10, .int 6, .var 12, .var 13, .var 14, .var 15, .var 16, .var 17, .var 18])
 (.ite (.eq (.var 11) (.int 0))
 (.call 186 [.var 0, .var 1, .var 2, .var 3, .var 4, .var 20, .var 19] 21
 (.ite (.var 26)
 (.ret [.var 21, .var 22, .var 23, .var 24, .var 25, .var 5, .var 6, .var 7, .var 8, .var 9, .var 10, .int 1, .var 12, .var 13, .var 14, .var 15, .var 16, .var 17, .var 18])
 (.ret [.var 21, .var 22, .var 23, .var 24, .var 25, .var 5, .var 6, .var 7, .var 8, .var 9, .var 10, .var 11, .var 12, .var 13, .var 14, .var 15, .var 16, .var 17, .var 18])))
 (.ite (.eq (.var 11) (.int 1))
 (.need (.le (.int 0) (.var 20))
 (.need (.lt (.var 20) (.len (.var 1)))
 (.ret [.var 0, .var 1, .var 2, .var 3, .var 4, .var 5, .var 6, .var 7, .var 8, .var 9, .var 10, .int 2, .cell (.var 1) (.var 20) 0, .int 0, .var 14, .var 15, .var 16, .var 17, .var 18])))
 (.ite (.eq (.var 11) (.int 2))
 (.ite (.le (.var 12) (.int 0))
 (.ret [.var 0, .var 1, .var 2, .var 3, .var 4, .var 5, .var 6, .var 7, .var 8, .var 9, .var 10, .int 6, .var 12, .var 13, .var 14, .var 15, .var 16, .var 17, .var 18])
 (.ite (.eq (.var 5) (.int 5))
 (.ite (.lt (.len (.var 16)) (.int 100))
 (.need (.fit (.sub (.var 12) (.int 1)))
 (.need (.le (.int 0) (.sub (.var 12) (.int 1)))
 (.need (.lt (.sub (.var 12) (.int 1)) (.len (.var 0)))
 (.call 172 [.var 16] 21
 (.need (.le (.add (.len (.var 21)) (.int 1)) (.int 8796093022208))
 (.ret [.var 0, .var 1, .var 2, .var 3, .var 4, .var 5, .var 6, .var 7, .var 8, .var 9, .var 10, .int 3, .var 12, .var 13, .var 14, .var 15, .app (.var 21) (.cons (.cell (.var 0) (.sub (.var 12) (.int 1)) 1) (.cons (.cell (.var 0) (.sub (.var 12) (.int 1)) 2) .row0)), .var 17, .var 18]))))))
 (.ret [.var 0, .var 1, .var 2, .var 3, .var 4, .var 5, .var 6, .var 7, .var 8, .var 9, .var 10, .int 3, .var 12, .var 13, .var 14, .var 15, .var 16, .var 17, .var 18]))
 (.need (.fit (.sub (.var 12) (.int 1)))
 (.need (.le (.int 0) (.sub (.var 12) (.int 1)))
 (.need (.lt (.sub (.var 12) (.int 1)) (.len (.var 0)))
 (.ite (.le (.cell (.var 0) (.sub (.var 12) (.int 1)) 3) (.var 4))
 (.ret [.var 0, .var 1, .var 2, .var 3, .var 4, .var 5, .var 6, .var 7, .var 8, .var 9, .var 10, .int 4, .var 12, .var 13, .var 14, .var 15, .var 16, .var 17, .var 18])
 (.ret [.var 0, .var 1, .var 2, .var 3, .var 4, .var 5, .var 6, .var 7, .var 8, .var 9, .var 10, .int 3, .var 12, .var 13, .var 14, .var 15, .var 16, .var 17, .var 18])))))))
 (.ite (.eq (.var 11) (.int 6))
 (.call 187 [.var 0, .var 1, .var 2, .var 3, .var 4, .var 20, .var 19] 21
 (.call 44 [.var 5, .var 6, .var 7, .var 8, .var 9, .var 10, .var 11, .var 12, .var 13, .var 14, .var 15, .var 16, .var 17, .var 18, .int 0] 26
 (.ret [.var 21, .var 22, .var 23, .var 24, .var 25, .var 26, .var 27, .var 28, .var 29, .var 30, .var 31, .var 32, .var 33, .var 34, .var 35, .var 36, .var 37, .var 38, .var 39])))
 (.ret [.var 0, .var 1, .var 2, .var 3, .var 4, .var 5, .var 6, .var 7, .var 8, .var 9, .var 10, .var 11, .var 12, .var 13, .var 14, .var 15, .var 16, .var 17, .var 18]))))))))))
theorem run110 : run z110 6000 [.code (Try.f110.body.getD .skip), .fin (topRet z110 Try.f110.results.toList 50)] { fn := 110, tmps := z110.sig.args0 ++ List.replicate (Try.f110.ntmps - z110.sig.args0.length) (.v (.one .undef)), stk := [], h := z110.sig.h0, nx := z110.sig.ins.length, known := [] } = t110 := by kernel_rfl
theorem ok110 : CtOk Try.prog 110 d110.ct := by
  refine dc_of_tree (d := d110) (Z := z110) (Γ := gam l110) (fn := Try.f110) (c := Try.f110.body.getD .skip) (told_of tok mixed (all_cons ok48 (all_cons ok177 (all_cons ok167 (all_cons ok186 (all_cons ok172 (all_cons ok187 (all_cons ok44 all_nil))))))) fok_nil) Try.func110 (by kernel_rfl) (by kernel_rfl) rfl run110 fun E hk hp => ?_
  obtain ⟨hk0, hk1, hk2, hk3, hk4, hk5, hk6, hk7, hk8, hk9, hk10, hk11, hk12, hk13, hk14, hk15, hk16, hk17, hk18, hk19, _⟩ := hk
  obtain ⟨m, e0, e1, e2, e3, e4, b0, b1, b2, b3⟩ := ok_mem (d0 := E 0) (d1 := E 1) (d2 := E 2) (d3 := E 3) (d4 := E 4) hk0 hk1 hk2 hk3 hk4
  obtain ⟨f, e5, e6, e7, e8, e9, e10, e11, e12, e13, e14, e15, e16, e17, e18, b16⟩ := ok_frame (d0 := E 5) (d1 := E 6) (d2 := E 7) (d3 := E 8) (d4 := E 9) (d5 := E 10) (d6 := E 11) (d7 := E 12) (d8 := E 13) (d9 := E 14) (d10 := E 15) (d11 := E 16) (d12 := E 17) (d13 := E 18) hk5 hk6 hk7 hk8 hk9 hk10 hk11 hk12 hk13 hk14 hk15 hk16 hk17 hk18
  obtain ⟨x, e19⟩ := ok_int (d := E 19) hk19
  have el : letters E d110.sig.ins.length = [slotsD m.slots, intsD m.heads, intsD m.free, intsD m.locks, .i m.now, .i f.c.kind, .i f.c.k.a, .i f.c.k.b, .i f.c.time, .i f.c.bucket, .i f.c.slot, .i f.pc, .i f.cur, .i f.prev, .i f.slot, .i f.n, keysD f.keys, .b f.done, .i f.e, .i x] := by
    show [E 0, E 1, E 2, E 3, E 4, E 5, E 6, E 7, E 8, E 9, E 10, E 11, E 12, E 13, E 14, E 15, E 16, E 17, E 18, E 19] = _
    rw [e0, e1, e2, e3, e4, e5, e6, e7, e8, e9, e10, e11, e12, e13, e14, e15, e16, e17, e18, e19]
  rw [el] at hp
  rw [el]
  rw [Env.pre_eq el]
  clear el e0 e1 e2 e3 e4 e5 e6 e7 e8 e9 e10 e11 e12 e13 e14 e15 e16 e17 e18 e19
  rw [fn110]
  simp only [d110, mem_of, mem_eta, List.drop_succ_cons, List.drop_zero, frm_of] at hp
  obtain ⟨hm, hf, hk⟩ : MemIn m ∧ FrmOk m f ∧ (f.c.kind = 4 ∨ f.c.kind = 5) := hp
  have hb := bucketFor_range hm hf.call (by omega)
  have gs := hm.ns
  have g4 := hm.nh4
  have eH : ((intsD m.heads).rows.getD (bucketFor m f.c).toNat []).getD 0 .u = .i (headAt m (bucketFor m f.c)) := raw_int (by omega)
  obtain ⟨f1, f2, f3, f4, f5, f6, f7, f8, f9, f10, f11, f12, f13⟩ := id hf
  have eN : 0 < f.cur → ((slotsD m.slots).rows.getD (f.cur - 1).toNat []).getD 5 .u = .i (at1 m f).next := fun _ => raw_s5 (by omega)
  have eK1 : 0 < f.cur → ((slotsD m.slots).rows.getD (f.cur - 1).toNat []).getD 1 .u = .i (at1 m f).k.a := fun _ => raw_s1 (by omega)
  have eK2 : 0 < f.cur → ((slotsD m.slots).rows.getD (f.cur - 1).toNat []).getD 2 .u = .i (at1 m f).k.b := fun _ => raw_s2 (by omega)
  have a1 : m.slots.getD (f.cur - 1).toNat default = at1 m f := rfl
  have a2 : m.slots.getD f.slot.toNat default = at2 m f := rfl
  unfold t110
  refine den_calle d48 [.i (bucketFor m f.c)] rfl trivial (by simp only [nrm, X.den, Env.put, Env.pre, reduceIte, Nat.reduceLT, Nat.reduceSub, Nat.reduceAdd, fs48]) ?_
  refine den_ite (fun h1 => ?_) (fun h1 => ?_)
  · simp only [nrm, X.den, Env.put, Env.pre, reduceIte, Nat.reduceLT, Nat.reduceSub, Nat.reduceAdd, cell_s1, cell_s2, cell_s3, cell_s4, cell_s5, cell_int, a1, a2, len_keys, Mem.cds, lca, Bool.not_eq_true', Bool.not_eq_false'] at h1
    refine den_ite (fun h2 => ?_) (fun h2 => ?_)
    · simp only [nrm, X.den, Env.put, Env.pre, reduceIte, Nat.reduceLT, Nat.reduceSub, Nat.reduceAdd, cell_s1, cell_s2, cell_s3, cell_s4, cell_s5, cell_int, a1, a2, len_keys, Mem.cds, lca, Bool.not_eq_true', Bool.not_eq_false'] at h2
      refine den_ret ?_
      first | (exfalso; omega) | skip
      all_goals unfold sweepStep
      all_goals repeat (first | rw [if_neg (by omega)] | rw [if_pos (by omega)] | rw [if_pos (by assumption)] | rw [if_neg (by assumption)] | rw [if_neg (ne_true_of_eq_false (by assumption))] | rw [if_pos (Or.inl (by assumption))] | rw [if_pos (Or.inr (by assumption))] | rw [if_neg (fun y => Or.elim y (fun z => z (by assumption)) (fun z => Bool.false_ne_true (z.symm.trans (by assumption))))])
      all_goals simp only [nrm, X.den, Env.put, Env.pre, reduceIte, Nat.reduceLT, Nat.reduceSub, Nat.reduceAdd, Mem.cds, Frm.cds, endFrame, lca, CD.row, List.headD_cons, eH, app_key, Bool.false_eq_true, Bool.true_eq_false]
      all_goals first | (have e14 : f.slot = -1 := (by omega); simp only [e14]; done) | (have e15 : f.n = 1000000 := (by omega); simp only [e15]; done)
    · simp only [nrm, X.den, Env.put, Env.pre, reduceIte, Nat.reduceLT, Nat.reduceSub, Nat.reduceAdd, cell_s1, cell_s2, cell_s3, cell_s4, cell_s5, cell_int, a1, a2, len_keys, Mem.cds, lca, Bool.not_eq_true', Bool.not_eq_false'] at h2
      refine den_fit (by simp only [nrm, X.den, Env.put, Env.pre, reduceIte, Nat.reduceLT, Nat.reduceSub, Nat.reduceAdd, len_slots, len_ints, len_keys, cell_s1, cell_s2, cell_s3, cell_s4, cell_s5, cell_int, a1, a2]; omega) ?_
      refine den_le (by simp only [nrm, X.den, Env.put, Env.pre, reduceIte, Nat.reduceLT, Nat.reduceSub, Nat.reduceAdd, len_slots, len_ints, len_keys, cell_s1, cell_s2, cell_s3, cell_s4, cell_s5, cell_int, a1, a2]; omega) ?_
      refine den_lt (by simp only [nrm, X.den, Env.put, Env.pre, reduceIte, Nat.reduceLT, Nat.reduceSub, Nat.reduceAdd, len_slots, len_ints, len_keys, cell_s1, cell_s2, cell_s3, cell_s4, cell_s5, cell_int, a1, a2]; omega) ?_
      refine den_ret ?_
      first | (exfalso; omega) | skip
      all_goals unfold sweepStep
      all_goals repeat (first | rw [if_neg (by omega)] | rw [if_pos (by omega)] | rw [if_pos (by assumption)] | rw [if_neg (by assumption)] | rw [if_neg (ne_true_of_eq_false (by assumption))] | rw [if_pos (Or.inl (by assumption))] | rw [if_pos (Or.inr (by assumption))] | rw [if_neg (fun y => Or.elim y (fun z => z (by assumption)) (fun z => Bool.false_ne_true (z.symm.trans (by assumption))))])
      all_goals simp only [nrm, X.den, Env.put, Env.pre, reduceIte, Nat.reduceLT, Nat.reduceSub, Nat.reduceAdd, Mem.cds, Frm.cds, endFrame, lca, CD.row, List.headD_cons, eH, app_key, Bool.false_eq_true, Bool.true_eq_false, eN (by omega), eK1 (by omega), eK2 (by omega)]
      all_goals first | (have e14 : f.slot = -1 := (by omega); simp only [e14]; done) | (have e15 : f.n = 1000000 := (by omega); simp only [e15]; done)
  · simp only [nrm, X.den, Env.put, Env.pre, reduceIte, Nat.reduceLT, Nat.reduceSub, Nat.reduceAdd, cell_s1, cell_s2, cell_s3, cell_s4, cell_s5, cell_int, a1, a2, len_keys, Mem.cds, lca, Bool.not_eq_true', Bool.not_eq_false'] at h1
    refine den_ite (fun h2 => ?_) (fun h2 => ?_)
    · simp only [nrm, X.den, Env.put, Env.pre, reduceIte, Nat.reduceLT, Nat.reduceSub, Nat.reduceAdd, cell_s1, cell_s2, cell_s3, cell_s4, cell_s5, cell_int, a1, a2, len_keys, Mem.cds, lca, Bool.not_eq_true', Bool.not_eq_false'] at h2
      refine den_ite (fun h3 => ?_) (fun h3 => ?_)
      · simp only [nrm, X.den, Env.put, Env.pre, reduceIte, Nat.reduceLT, Nat.reduceSub, Nat.reduceAdd, cell_s1, cell_s2, cell_s3, cell_s4, cell_s5, cell_int, a1, a2, len_keys, Mem.cds, lca, Bool.not_eq_true', Bool.not_eq_false'] at h3
        refine den_ret ?_
        first | (exfalso; omega) | skip
        all_goals unfold sweepStep
        all_goals repeat (first | rw [if_neg (by omega)] | rw [if_pos (by omega)] | rw [if_pos (by assumption)] | rw [if_neg (by assumption)] | rw [if_neg (ne_true_of_eq_false (by assumption))] | rw [if_pos (Or.inl (by assumption))] | rw [if_pos (Or.inr (by assumption))] | rw [if_neg (fun y => Or.elim y (fun z => z (by assumption)) (fun z => Bool.false_ne_true (z.symm.trans (by assumption))))])
        all_goals simp only [nrm, X.den, Env.put, Env.pre, reduceIte, Nat.reduceLT, Nat.reduceSub, Nat.reduceAdd, Mem.cds, Frm.cds, endFrame, lca, CD.row, List.headD_cons, eH, app_key, Bool.false_eq_true, Bool.true_eq_false]
        all_goals first | (have e14 : f.slot = -1 := (by omega); simp only [e14]; done) | (have e15 : f.n = 1000000 := (by omega); simp only [e15]; done)
      · simp only [nrm, X.den, Env.put, Env.pre, reduceIte, Nat.reduceLT, Nat.reduceSub, Nat.reduceAdd, cell_s1, cell_s2, cell_s3, cell_s4, cell_s5, cell_int, a1, a2, len_keys, Mem.cds, lca, Bool.not_eq_true', Bool.not_eq_false'] at h3
        refine den_fit (by simp only [nrm, X.den, Env.put, Env.pre, reduceIte, Nat.reduceLT, Nat.reduceSub, Nat.reduceAdd, len_slots, len_ints, len_keys, cell_s1, cell_s2, cell_s3, cell_s4, cell_s5, cell_int, a1, a2]; omega) ?_
        refine den_le (by simp only [nrm, X.den, Env.put, Env.pre, reduceIte, Nat.reduceLT, Nat.reduceSub, Nat.reduceAdd, len_slots, len_ints, len_keys, cell_s1, cell_s2, cell_s3, cell_s4, cell_s5, cell_int, a1, a2]; omega) ?_
        refine den_lt (by simp only [nrm, X.den, Env.put, Env.pre, reduceIte, Nat.reduceLT, Nat.reduceSub, Nat.reduceAdd, len_slots, len_ints, len_keys, cell_s1, cell_s2, cell_s3, cell_s4, cell_s5, cell_int, a1, a2]; omega) ?_
        refine den_calle d177 (cut m f.prev (f.cur - 1) (bucketFor m f.c)).cds rfl (by simp only [nrm, X.den, Env.put, Env.pre, reduceIte, Nat.reduceLT, Nat.reduceSub, Nat.reduceAdd]; exact pre177 (by omega) (by omega) (by omega) hb.1 hb.2) (by simp only [nrm, X.den, Env.put, Env.pre, reduceIte, Nat.reduceLT, Nat.reduceSub, Nat.reduceAdd, fn177]) ?_
        refine den_ret ?_
        first | (exfalso; omega) | skip
        all_goals unfold sweepStep
        all_goals repeat (first | rw [if_neg (by omega)] | rw [if_pos (by omega)] | rw [if_pos (by assumption)] | rw [if_neg (by assumption)] | rw [if_neg (ne_true_of_eq_false (by assumption))] | rw [if_pos (Or.inl (by assumption))] | rw [if_pos (Or.inr (by assumption))] | rw [if_neg (fun y => Or.elim y (fun z => z (by assumption)) (fun z => Bool.false_ne_true (z.symm.trans (by assumption))))])
        all_goals simp only [nrm, X.den, Env.put, Env.pre, reduceIte, Nat.reduceLT, Nat.reduceSub, Nat.reduceAdd, Mem.cds, Frm.cds, endFrame, lca, CD.row, List.headD_cons, eH, app_key, Bool.false_eq_true, Bool.true_eq_false, eN (by omega), eK1 (by omega), eK2 (by omega)]
        all_goals first | (have e14 : f.slot = -1 := (by omega); simp only [e14]; done) | (have e15 : f.n = 1000000 := (by omega); simp only [e15]; done)
    · simp only [nrm, X.den, Env.put, Env.pre, reduceIte, Nat.reduceLT, Nat.reduceSub, Nat.reduceAdd, cell_s1, cell_s2, cell_s3, cell_s4, cell_s5, cell_int, a1, a2, len_keys, Mem.cds, lca, Bool.not_eq_true', Bool.not_eq_false'] at h2
      refine den_ite (fun h3 => ?_) (fun h3 => ?_)
      · simp only [nrm, X.den, Env.put, Env.pre, reduceIte, Nat.reduceLT, Nat.reduceSub, Nat.reduceAdd, cell_s1, cell_s2, cell_s3, cell_s4, cell_s5, cell_int, a1, a2, len_keys, Mem.cds, lca, Bool.not_eq_true', Bool.not_eq_false'] at h3
        refine den_ite (fun h4 => ?_) (fun h4 => ?_)
        · simp only [nrm, X.den, Env.put, Env.pre, reduceIte, Nat.reduceLT, Nat.reduceSub, Nat.reduceAdd, cell_s1, cell_s2, cell_s3, cell_s4, cell_s5, cell_int, a1, a2, len_keys, Mem.cds, lca, Bool.not_eq_true', Bool.not_eq_false'] at h4
          refine den_ret ?_
          first | (exfalso; omega) | skip
          all_goals unfold sweepStep
          all_goals repeat (first | rw [if_neg (by omega)] | rw [if_pos (by omega)] | rw [if_pos (by assumption)] | rw [if_neg (by assumption)] | rw [if_neg (ne_true_of_eq_false (by assumption))] | rw [if_pos (Or.inl (by assumption))] | rw [if_pos (Or.inr (by assumption))] | rw [if_neg (fun y => Or.elim y (fun z => z (by assumption)) (fun z => Bool.false_ne_true (z.symm.trans (by assumption))))])
          all_goals simp only [nrm, X.den, Env.put, Env.pre, reduceIte, Nat.reduceLT, Nat.reduceSub, Nat.reduceAdd, Mem.cds, Frm.cds, endFrame, lca, CD.row, List.headD_cons, eH, app_key, Bool.false_eq_true, Bool.true_eq_false]
          all_goals first | (have e14 : f.slot = -1 := (by omega); simp only [e14]; done) | (have e15 : f.n = 1000000 := (by omega); simp only [e15]; done)
        · simp only [nrm, X.den, Env.put, Env.pre, reduceIte, Nat.reduceLT, Nat.reduceSub, Nat.reduceAdd, cell_s1, cell_s2, cell_s3, cell_s4, cell_s5, cell_int, a1, a2, len_keys, Mem.cds, lca, Bool.not_eq_true', Bool.not_eq_false'] at h4
          refine den_calle d167 (put m f.slot).cds rfl (by simp only [nrm, X.den, Env.put, Env.pre, reduceIte, Nat.reduceLT, Nat.reduceSub, Nat.reduceAdd]; exact pi167 hm (by omega) (by omega)) (by simp only [nrm, X.den, Env.put, Env.pre, reduceIte, Nat.reduceLT, Nat.reduceSub, Nat.reduceAdd, fs167]) ?_
          refine den_fit (by simp only [nrm, X.den, Env.put, Env.pre, reduceIte, Nat.reduceLT, Nat.reduceSub, Nat.reduceAdd, len_slots, len_ints, len_keys, cell_s1, cell_s2, cell_s3, cell_s4, cell_s5, cell_int, a1, a2]; omega) ?_
          refine den_ret ?_
          first | (exfalso; omega) | skip
          all_goals unfold sweepStep
          all_goals repeat (first | rw [if_neg (by omega)] | rw [if_pos (by omega)] | rw [if_pos (by assumption)] | rw [if_neg (by assumption)] | rw [if_neg (ne_true_of_eq_false (by assumption))] | rw [if_pos (Or.inl (by assumption))] | rw [if_pos (Or.inr (by assumption))] | rw [if_neg (fun y => Or.elim y (fun z => z (by assumption)) (fun z => Bool.false_ne_true (z.symm.trans (by assumption))))])
          all_goals simp only [nrm, X.den, Env.put, Env.pre, reduceIte, Nat.reduceLT, Nat.reduceSub, Nat.reduceAdd, Mem.cds, Frm.cds, endFrame, lca, CD.row, List.headD_cons, eH, app_key, Bool.false_eq_true, Bool.true_eq_false]
          all_goals first | (have e14 : f.slot = -1 := (by omega); simp only [e14]; done) | (have e15 : f.n = 1000000 := (by omega); simp only [e15]; done)
      · simp only [nrm, X.den, Env.put, Env.pre, reduceIte, Nat.reduceLT, Nat.reduceSub, Nat.reduceAdd, cell_s1, cell_s2, cell_s3, cell_s4, cell_s5, cell_int, a1, a2, len_keys, Mem.cds, lca, Bool.not_eq_true', Bool.not_eq_false'] at h3
        refine den_ite (fun h4 => ?_) (fun h4 => ?_)
        · simp only [nrm, X.den, Env.put, Env.pre, reduceIte, Nat.reduceLT, Nat.reduceSub, Nat.reduceAdd, cell_s1, cell_s2, cell_s3, cell_s4, cell_s5, cell_int, a1, a2, len_keys, Mem.cds, lca, Bool.not_eq_true', Bool.not_eq_false'] at h4
          refine den_ret ?_
          first | (exfalso; omega) | skip
          all_goals unfold sweepStep
          all_goals repeat (first | rw [if_neg (by omega)] | rw [if_pos (by omega)] | rw [if_pos (by assumption)] | rw [if_neg (by assumption)] | rw [if_neg (ne_true_of_eq_false (by assumption))] | rw [if_pos (Or.inl (by assumption))] | rw [if_pos (Or.inr (by assumption))] | rw [if_neg (fun y => Or.elim y (fun z => z (by assumption)) (fun z => Bool.false_ne_true (z.symm.trans (by assumption))))])
          all_goals simp only [nrm, X.den, Env.put, Env.pre, reduceIte, Nat.reduceLT, Nat.reduceSub, Nat.reduceAdd, Mem.cds, Frm.cds, endFrame, lca, CD.row, List.headD_cons, eH, app_key, Bool.false_eq_true, Bool.true_eq_false]
          all_goals first | (have e14 : f.slot = -1 := (by omega); simp only [e14]; done) | (have e15 : f.n = 1000000 := (by omega); simp only [e15]; done)
        · simp only [nrm, X.den, Env.put, Env.pre, reduceIte, Nat.reduceLT, Nat.reduceSub, Nat.reduceAdd, cell_s1, cell_s2, cell_s3, cell_s4, cell_s5, cell_int, a1, a2, len_keys, Mem.cds, lca, Bool.not_eq_true', Bool.not_eq_false'] at h4
          refine den_ite (fun h5 => ?_) (fun h5 => ?_)
          · simp only [nrm, X.den, Env.put, Env.pre, reduceIte, Nat.reduceLT, Nat.reduceSub, Nat.reduceAdd, cell_s1, cell_s2, cell_s3, cell_s4, cell_s5, cell_int, a1, a2, len_keys, Mem.cds, lca, Bool.not_eq_true', Bool.not_eq_false'] at h5
            refine den_calle d186 ((lock m (bucketFor m f.c) x).1.cds ++ [.b (lock m (bucketFor m f.c) x).2]) rfl (by simp only [nrm, X.den, Env.put, Env.pre, reduceIte, Nat.reduceLT, Nat.reduceSub, Nat.reduceAdd]; exact pi186 hm hb.1 hb.2) (by simp only [nrm, X.den, Env.put, Env.pre, reduceIte, Nat.reduceLT, Nat.reduceSub, Nat.reduceAdd, fn186]) ?_
            refine den_ite (fun h6 => ?_) (fun h6 => ?_)
            · simp only [nrm, X.den, Env.put, Env.pre, reduceIte, Nat.reduceLT, Nat.reduceSub, Nat.reduceAdd, cell_s1, cell_s2, cell_s3, cell_s4, cell_s5, cell_int, a1, a2, len_keys, Mem.cds, lca, Bool.not_eq_true', Bool.not_eq_false'] at h6
              refine den_ret ?_
              first | (exfalso; omega) | skip
              all_goals unfold sweepStep
              all_goals repeat (first | rw [if_neg (by omega)] | rw [if_pos (by omega)] | rw [if_pos (by assumption)] | rw [if_neg (by assumption)] | rw [if_neg (ne_true_of_eq_false (by assumption))] | rw [if_pos (Or.inl (by assumption))] | rw [if_pos (Or.inr (by assumption))] | rw [if_neg (fun y => Or.elim y (fun z => z (by assumption)) (fun z => Bool.false_ne_true (z.symm.trans (by assumption))))])
              all_goals try rw [hold_no h6]
              all_goals try rw [lock_no h6]
              all_goals simp only [nrm, X.den, Env.put, Env.pre, reduceIte, Nat.reduceLT, Nat.reduceSub, Nat.reduceAdd, Mem.cds, Frm.cds, endFrame, lca, CD.row, List.headD_cons, eH, app_key, Bool.false_eq_true, Bool.true_eq_false, h6]
              all_goals first | (have e14 : f.slot = -1 := (by omega); simp only [e14]; done) | (have e15 : f.n = 1000000 := (by omega); simp only [e15]; done)
            · simp only [nrm, X.den, Env.put, Env.pre, reduceIte, Nat.reduceLT, Nat.reduceSub, Nat.reduceAdd, cell_s1, cell_s2, cell_s3, cell_s4, cell_s5, cell_int, a1, a2, len_keys, Mem.cds, lca, Bool.not_eq_true', Bool.not_eq_false'] at h6
              refine den_ret ?_
              first | (exfalso; omega) | skip
              all_goals unfold sweepStep
              all_goals repeat (first | rw [if_neg (by omega)] | rw [if_pos (by omega)] | rw [if_pos (by assumption)] | rw [if_neg (by assumption)] | rw [if_neg (ne_true_of_eq_false (by assumption))] | rw [if_pos (Or.inl (by assumption))] | rw [if_pos (Or.inr (by assumption))] | rw [if_neg (fun y => Or.elim y (fun z => z (by assumption)) (fun z => Bool.false_ne_true (z.symm.trans (by assumption))))])
              all_goals try rw [hold_no h6]
              all_goals try rw [lock_no h6]
              all_goals simp only [nrm, X.den, Env.put, Env.pre, reduceIte, Nat.reduceLT, Nat.reduceSub, Nat.reduceAdd, Mem.cds, Frm.cds, endFrame, lca, CD.row, List.headD_cons, eH, app_key, Bool.false_eq_true, Bool.true_eq_false, h6]
              all_goals first | (have e14 : f.slot = -1 := (by omega); simp only [e14]; done) | (have e15 : f.n = 1000000 := (by omega); simp only [e15]; done)
          · simp only [nrm, X.den, Env.put, Env.pre, reduceIte, Nat.reduceLT, Nat.reduceSub, Nat.reduceAdd, cell_s1, cell_s2, cell_s3, cell_s4, cell_s5, cell_int, a1, a2, len_keys, Mem.cds, lca, Bool.not_eq_true', Bool.not_eq_false'] at h5
            refine den_ite (fun h6 => ?_) (fun h6 => ?_)
            · simp only [nrm, X.den, Env.put, Env.pre, reduceIte, Nat.reduceLT, Nat.reduceSub, Nat.reduceAdd, cell_s1, cell_s2, cell_s3, cell_s4, cell_s5, cell_int, a1, a2, len_keys, Mem.cds, lca, Bool.not_eq_true', Bool.not_eq_false'] at h6
              refine den_le (by simp only [nrm, X.den, Env.put, Env.pre, reduceIte, Nat.reduceLT, Nat.reduceSub, Nat.reduceAdd, len_slots, len_ints, len_keys, cell_s1, cell_s2, cell_s3, cell_s4, cell_s5, cell_int, a1, a2]; omega) ?_
              refine den_lt (by simp only [nrm, X.den, Env.put, Env.pre, reduceIte, Nat.reduceLT, Nat.reduceSub, Nat.reduceAdd, len_slots, len_ints, len_keys, cell_s1, cell_s2, cell_s3, cell_s4, cell_s5, cell_int, a1, a2]; omega) ?_
              refine den_ret ?_
              first | (exfalso; omega) | skip
              all_goals unfold sweepStep
              all_goals repeat (first | rw [if_neg (by omega)] | rw [if_pos (by omega)] | rw [if_pos (by assumption)] | rw [if_neg (by assumption)] | rw [if_neg (ne_true_of_eq_false (by assumption))] | rw [if_pos (Or.inl (by assumption))] | rw [if_pos (Or.inr (by assumption))] | rw [if_neg (fun y => Or.elim y (fun z => z (by assumption)) (fun z => Bool.false_ne_true (z.symm.trans (by assumption))))])
              all_goals simp only [nrm, X.den, Env.put, Env.pre, reduceIte, Nat.reduceLT, Nat.reduceSub, Nat.reduceAdd, Mem.cds, Frm.cds, endFrame, lca, CD.row, List.headD_cons, eH, app_key, Bool.false_eq_true, Bool.true_eq_false]
              all_goals first | (have e14 : f.slot = -1 := (by omega); simp only [e14]; done) | (have e15 : f.n = 1000000 := (by omega); simp only [e15]; done)
            · simp only [nrm, X.den, Env.put, Env.pre, reduceIte, Nat.reduceLT, Nat.reduceSub, Nat.reduceAdd, cell_s1, cell_s2, cell_s3, cell_s4, cell_s5, cell_int, a1, a2, len_keys, Mem.cds, lca, Bool.not_eq_true', Bool.not_eq_false'] at h6
              refine den_ite (fun h7 => ?_) (fun h7 => ?_)
              · simp only [nrm, X.den, Env.put, Env.pre, reduceIte, Nat.reduceLT, Nat.reduceSub, Nat.reduceAdd, cell_s1, cell_s2, cell_s3, cell_s4, cell_s5, cell_int, a1, a2, len_keys, Mem.cds, lca, Bool.not_eq_true', Bool.not_eq_false'] at h7
                refine den_ite (fun h8 => ?_) (fun h8 => ?_)
                · simp only [nrm, X.den, Env.put, Env.pre, reduceIte, Nat.reduceLT, Nat.reduceSub, Nat.reduceAdd, cell_s1, cell_s2, cell_s3, cell_s4, cell_s5, cell_int, a1, a2, len_keys, Mem.cds, lca, Bool.not_eq_true', Bool.not_eq_false'] at h8
                  refine den_ret ?_
                  first | (exfalso; omega) | skip
                  all_goals unfold sweepStep
                  all_goals repeat (first | rw [if_neg (by omega)] | rw [if_pos (by omega)] | rw [if_pos (by assumption)] | rw [if_neg (by assumption)] | rw [if_neg (ne_true_of_eq_false (by assumption))] | rw [if_pos (Or.inl (by assumption))] | rw [if_pos (Or.inr (by assumption))] | rw [if_neg (fun y => Or.elim y (fun z => z (by assumption)) (fun z => Bool.false_ne_true (z.symm.trans (by assumption))))])
                  all_goals simp only [nrm, X.den, Env.put, Env.pre, reduceIte, Nat.reduceLT, Nat.reduceSub, Nat.reduceAdd, Mem.cds, Frm.cds, endFrame, lca, CD.row, List.headD_cons, eH, app_key, Bool.false_eq_true, Bool.true_eq_false]
                  all_goals first | (have e14 : f.slot = -1 := (by omega); simp only [e14]; done) | (have e15 : f.n = 1000000 := (by omega); simp only [e15]; done)
                · simp only [nrm, X.den, Env.put, Env.pre, reduceIte, Nat.reduceLT, Nat.reduceSub, Nat.reduceAdd, cell_s1, cell_s2, cell_s3, cell_s4, cell_s5, cell_int, a1, a2, len_keys, Mem.cds, lca, Bool.not_eq_true', Bool.not_eq_false'] at h8
                  refine den_ite (fun h9 => ?_) (fun h9 => ?_)
                  · simp only [nrm, X.den, Env.put, Env.pre, reduceIte, Nat.reduceLT, Nat.reduceSub, Nat.reduceAdd, cell_s1, cell_s2, cell_s3, cell_s4, cell_s5, cell_int, a1, a2, len_keys, Mem.cds, lca, Bool.not_eq_true', Bool.not_eq_false'] at h9
                    refine den_ite (fun h10 => ?_) (fun h10 => ?_)
                    · simp only [nrm, X.den, Env.put, Env.pre, reduceIte, Nat.reduceLT, Nat.reduceSub, Nat.reduceAdd, cell_s1, cell_s2, cell_s3, cell_s4, cell_s5, cell_int, a1, a2, len_keys, Mem.cds, lca, Bool.not_eq_true', Bool.not_eq_false'] at h10
                      refine den_fit (by simp only [nrm, X.den, Env.put, Env.pre, reduceIte, Nat.reduceLT, Nat.reduceSub, Nat.reduceAdd, len_slots, len_ints, len_keys, cell_s1, cell_s2, cell_s3, cell_s4, cell_s5, cell_int, a1, a2]; omega) ?_
                      refine den_le (by simp only [nrm, X.den, Env.put, Env.pre, reduceIte, Nat.reduceLT, Nat.reduceSub, Nat.reduceAdd, len_slots, len_ints, len_keys, cell_s1, cell_s2, cell_s3, cell_s4, cell_s5, cell_int, a1, a2]; omega) ?_
                      refine den_lt (by simp only [nrm, X.den, Env.put, Env.pre, reduceIte, Nat.reduceLT, Nat.reduceSub, Nat.reduceAdd, len_slots, len_ints, len_keys, cell_s1, cell_s2, cell_s3, cell_s4, cell_s5, cell_int, a1, a2]; omega) ?_
                      refine den_calle d172 [keysD f.keys] rfl trivial (by simp only [nrm, X.den, Env.put, Env.pre, reduceIte, Nat.reduceLT, Nat.reduceSub, Nat.reduceAdd, d172, keys_keysD]) ?_
                      refine den_le (by simp only [nrm, X.den, Env.put, Env.pre, reduceIte, Nat.reduceLT, Nat.reduceSub, Nat.reduceAdd, len_slots, len_ints, len_keys, cell_s1, cell_s2, cell_s3, cell_s4, cell_s5, cell_int, a1, a2]; omega) ?_
                      refine den_ret ?_
                      first | (exfalso; omega) | skip
                      all_goals unfold sweepStep
                      all_goals repeat (first | rw [if_neg (by omega)] | rw [if_pos (by omega)] | rw [if_pos (by assumption)] | rw [if_neg (by assumption)] | rw [if_neg (ne_true_of_eq_false (by assumption))] | rw [if_pos (Or.inl (by assumption))] | rw [if_pos (Or.inr (by assumption))] | rw [if_neg (fun y => Or.elim y (fun z => z (by assumption)) (fun z => Bool.false_ne_true (z.symm.trans (by assumption))))])
                      all_goals simp only [nrm, X.den, Env.put, Env.pre, reduceIte, Nat.reduceLT, Nat.reduceSub, Nat.reduceAdd, Mem.cds, Frm.cds, endFrame, lca, CD.row, List.headD_cons, eH, app_key, Bool.false_eq_true, Bool.true_eq_false, eN (by omega), eK1 (by omega), eK2 (by omega)]
                      all_goals first | (have e14 : f.slot = -1 := (by omega); simp only [e14]; done) | (have e15 : f.n = 1000000 := (by omega); simp only [e15]; done)
                    · simp only [nrm, X.den, Env.put, Env.pre, reduceIte, Nat.reduceLT, Nat.reduceSub, Nat.reduceAdd, cell_s1, cell_s2, cell_s3, cell_s4, cell_s5, cell_int, a1, a2, len_keys, Mem.cds, lca, Bool.not_eq_true', Bool.not_eq_false'] at h10
                      refine den_ret ?_
                      first | (exfalso; omega) | skip
                      all_goals unfold sweepStep
                      all_goals repeat (first | rw [if_neg (by omega)] | rw [if_pos (by omega)] | rw [if_pos (by assumption)] | rw [if_neg (by assumption)] | rw [if_neg (ne_true_of_eq_false (by assumption))] | rw [if_pos (Or.inl (by assumption))] | rw [if_pos (Or.inr (by assumption))] | rw [if_neg (fun y => Or.elim y (fun z => z (by assumption)) (fun z => Bool.false_ne_true (z.symm.trans (by assumption))))])
                      all_goals simp only [nrm, X.den, Env.put, Env.pre, reduceIte, Nat.reduceLT, Nat.reduceSub, Nat.reduceAdd, Mem.cds, Frm.cds, endFrame, lca, CD.row, List.headD_cons, eH, app_key, Bool.false_eq_true, Bool.true_eq_false]
                      all_goals first | (have e14 : f.slot = -1 := (by omega); simp only [e14]; done) | (have e15 : f.n = 1000000 := (by omega); simp only [e15]; done)
                  · simp only [nrm, X.den, Env.put, Env.pre, reduceIte, Nat.reduceLT, Nat.reduceSub, Nat.reduceAdd, cell_s1, cell_s2, cell_s3, cell_s4, cell_s5, cell_int, a1, a2, len_keys, Mem.cds, lca, Bool.not_eq_true', Bool.not_eq_false'] at h9
                    refine den_fit (by simp only [nrm, X.den, Env.put, Env.pre, reduceIte, Nat.reduceLT, Nat.reduceSub, Nat.reduceAdd, len_slots, len_ints, len_keys, cell_s1, cell_s2, cell_s3, cell_s4, cell_s5, cell_int, a1, a2]; omega) ?_
                    refine den_le (by simp only [nrm, X.den, Env.put, Env.pre, reduceIte, Nat.reduceLT, Nat.reduceSub, Nat.reduceAdd, len_slots, len_ints, len_keys, cell_s1, cell_s2, cell_s3, cell_s4, cell_s5, cell_int, a1, a2]; omega) ?_
                    refine den_lt (by simp only [nrm, X.den, Env.put, Env.pre, reduceIte, Nat.reduceLT, Nat.reduceSub, Nat.reduceAdd, len_slots, len_ints, len_keys, cell_s1, cell_s2, cell_s3, cell_s4, cell_s5, cell_int, a1, a2]; omega) ?_
                    refine den_ite (fun h10 => ?_) (fun h10 => ?_)
                    · simp only [nrm, X.den, Env.put, Env.pre, reduceIte, Nat.reduceLT, Nat.reduceSub, Nat.reduceAdd, cell_s1, cell_s2, cell_s3, cell_s4, cell_s5, cell_int, a1, a2, len_keys, Mem.cds, lca, Bool.not_eq_true', Bool.not_eq_false'] at h10
                      refine den_ret ?_
                      first | (exfalso; omega) | skip
                      all_goals unfold sweepStep
                      all_goals repeat (first | rw [if_neg (by omega)] | rw [if_pos (by omega)] | rw [if_pos (by assumption)] | rw [if_neg (by assumption)] | rw [if_neg (ne_true_of_eq_false (by assumption))] | rw [if_pos (Or.inl (by assumption))] | rw [if_pos (Or.inr (by assumption))] | rw [if_neg (fun y => Or.elim y (fun z => z (by assumption)) (fun z => Bool.false_ne_true (z.symm.trans (by assumption))))])
                      all_goals simp only [nrm, X.den, Env.put, Env.pre, reduceIte, Nat.reduceLT, Nat.reduceSub, Nat.reduceAdd, Mem.cds, Frm.cds, endFrame, lca, CD.row, List.headD_cons, eH, app_key, Bool.false_eq_true, Bool.true_eq_false]
                      all_goals first | (have e14 : f.slot = -1 := (by omega); simp only [e14]; done) | (have e15 : f.n = 1000000 := (by omega); simp only [e15]; done)
                    · simp only [nrm, X.den, Env.put, Env.pre, reduceIte, Nat.reduceLT, Nat.reduceSub, Nat.reduceAdd, cell_s1, cell_s2, cell_s3, cell_s4, cell_s5, cell_int, a1, a2, len_keys, Mem.cds, lca, Bool.not_eq_true', Bool.not_eq_false'] at h10
                      refine den_ret ?_
                      first | (exfalso; omega) | skip
                      all_goals unfold sweepStep
                      all_goals repeat (first | rw [if_neg (by omega)] | rw [if_pos (by omega)] | rw [if_pos (by assumption)] | rw [if_neg (by assumption)] | rw [if_neg (ne_true_of_eq_false (by assumption))] | rw [if_pos (Or.inl (by assumption))] | rw [if_pos (Or.inr (by assumption))] | rw [if_neg (fun y => Or.elim y (fun z => z (by assumption)) (fun z => Bool.false_ne_true (z.symm.trans (by assumption))))])
                      all_goals simp only [nrm, X.den, Env.put, Env.pre, reduceIte, Nat.reduceLT, Nat.reduceSub, Nat.reduceAdd, Mem.cds, Frm.cds, endFrame, lca, CD.row, List.headD_cons, eH, app_key, Bool.false_eq_true, Bool.true_eq_false]
                      all_goals first | (have e14 : f.slot = -1 := (by omega); simp only [e14]; done) | (have e15 : f.n = 1000000 := (by omega); simp only [e15]; done)
              · simp only [nrm, X.den, Env.put, Env.pre, reduceIte, Nat.reduceLT, Nat.reduceSub, Nat.reduceAdd, cell_s1, cell_s2, cell_s3, cell_s4, cell_s5, cell_int, a1, a2, len_keys, Mem.cds, lca, Bool.not_eq_true', Bool.not_eq_false'] at h7
                refine den_ite (fun h8 => ?_) (fun h8 => ?_)
                · simp only [nrm, X.den, Env.put, Env.pre, reduceIte, Nat.reduceLT, Nat.reduceSub, Nat.reduceAdd, cell_s1, cell_s2, cell_s3, cell_s4, cell_s5, cell_int, a1, a2, len_keys, Mem.cds, lca, Bool.not_eq_true', Bool.not_eq_false'] at h8
                  refine den_calle d187 (unlock m (bucketFor m f.c) x).cds rfl (by simp only [nrm, X.den, Env.put, Env.pre, reduceIte, Nat.reduceLT, Nat.reduceSub, Nat.reduceAdd]; exact pi187 hm hb.1 hb.2) (by simp only [nrm, X.den, Env.put, Env.pre, reduceIte, Nat.reduceLT, Nat.reduceSub, Nat.reduceAdd, fn187]) ?_
                  refine den_calle d44 (endFrame f 0).cds rfl trivial (by simp only [nrm, X.den, Env.put, Env.pre, reduceIte, Nat.reduceLT, Nat.reduceSub, Nat.reduceAdd, Frm.cds, lca]; exact fs44 f 0) ?_
                  refine den_ret ?_
                  first | (exfalso; omega) | skip
                  all_goals unfold sweepStep
                  all_goals repeat (first | rw [if_neg (by omega)] | rw [if_pos (by omega)] | rw [if_pos (by assumption)] | rw [if_neg (by assumption)] | rw [if_neg (ne_true_of_eq_false (by assumption))] | rw [if_pos (Or.inl (by assumption))] | rw [if_pos (Or.inr (by assumption))] | rw [if_neg (fun y => Or.elim y (fun z => z (by assumption)) (fun z => Bool.false_ne_true (z.symm.trans (by assumption))))])
                  all_goals simp only [nrm, X.den, Env.put, Env.pre, reduceIte, Nat.reduceLT, Nat.reduceSub, Nat.reduceAdd, Mem.cds, Frm.cds, endFrame, lca, CD.row, List.headD_cons, eH, app_key, Bool.false_eq_true, Bool.true_eq_false]
                  all_goals first | (have e14 : f.slot = -1 := (by omega); simp only [e14]; done) | (have e15 : f.n = 1000000 := (by omega); simp only [e15]; done)
                · simp only [nrm, X.den, Env.put, Env.pre, reduceIte, Nat.reduceLT, Nat.reduceSub, Nat.reduceAdd, cell_s1, cell_s2, cell_s3, cell_s4, cell_s5, cell_int, a1, a2, len_keys, Mem.cds, lca, Bool.not_eq_true', Bool.not_eq_false'] at h8
                  refine den_ret ?_
                  first | (exfalso; omega) | skip
                  all_goals unfold sweepStep
                  all_goals repeat (first | rw [if_neg (by omega)] | rw [if_pos (by omega)] | rw [if_pos (by assumption)] | rw [if_neg (by assumption)] | rw [if_neg (ne_true_of_eq_false (by assumption))] | rw [if_pos (Or.inl (by assumption))] | rw [if_pos (Or.inr (by assumption))] | rw [if_neg (fun y => Or.elim y (fun z => z (by assumption)) (fun z => Bool.false_ne_true (z.symm.trans (by assumption))))])
                  all_goals simp only [nrm, X.den, Env.put, Env.pre, reduceIte, Nat.reduceLT, Nat.reduceSub, Nat.reduceAdd, Mem.cds, Frm.cds, endFrame, lca, CD.row, List.headD_cons, eH, app_key, Bool.false_eq_true, Bool.true_eq_false]
                  all_goals first | (have e14 : f.slot = -1 := (by omega); simp only [e14]; done) | (have e15 : f.n = 1000000 := (by omega); simp only [e15]; done)
end Go.Proofs.Ytpmamacjepcdmaa
