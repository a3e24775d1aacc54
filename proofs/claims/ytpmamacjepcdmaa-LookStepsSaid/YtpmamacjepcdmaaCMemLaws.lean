import Derived.Test.YtpmamacjepcdmaaCStep
import Derived.Test.YtpmamacjepcdmaaCRef
/- Contracts: a step of a Look, the program's and the document's. -/
namespace Go.Proofs.Ytpmamacjepcdmaa
open Go Go.Sy Go.RowKit
set_option linter.unusedSimpArgs false
set_option linter.unusedVariables false

def s101 : Sig := ⟨[.ptr [.own 52 kS, .own 3 kI, .own 3 kI, .own 3 kI, .int .i64], .agg [.int .i64, .int .i64, .int .i64, .int .i64, .int .i64, .int .i64, .int .i64, .int .i64, .int .i64, .int .i64, .int .i64, .fz kK, .bool, .int .i64]], [.agg [.int .i64, .int .i64, .int .i64, .int .i64, .int .i64, .int .i64, .int .i64, .int .i64, .int .i64, .int .i64, .int .i64, .fz kK, .bool, .int .i64]]⟩
def d101 : DC := ⟨s101, fun l => MemIn (Mem.of l) ∧ FrmOk (Mem.of l) (Frm.of (l.drop 5)) ∧ (Frm.of (l.drop 5)).c.kind = 1, fun l => (lookStep (Mem.of l) (Frm.of (l.drop 5))).2.cds ++ (lookStep (Mem.of l) (Frm.of (l.drop 5))).1.cds⟩
theorem fn101 (m : Mem) (f : Frm) : d101.fn [slotsD m.slots, intsD m.heads, intsD m.free, intsD m.locks, .i m.now, .i f.c.kind, .i f.c.k.a, .i f.c.k.b, .i f.c.time, .i f.c.bucket, .i f.c.slot, .i f.pc, .i f.cur, .i f.prev, .i f.slot, .i f.n, keysD f.keys, .b f.done, .i f.e] = (lookStep m f).2.cds ++ (lookStep m f).1.cds := by
  simp only [d101, mem_of, mem_eta, List.drop_succ_cons, List.drop_zero, frm_of]
theorem pi101 {m : Mem} {f : Frm} (hm : MemIn m) (hf : FrmOk m f) (hk : f.c.kind = 1) : d101.pre [slotsD m.slots, intsD m.heads, intsD m.free, intsD m.locks, .i m.now, .i f.c.kind, .i f.c.k.a, .i f.c.k.b, .i f.c.time, .i f.c.bucket, .i f.c.slot, .i f.pc, .i f.cur, .i f.prev, .i f.slot, .i f.n, keysD f.keys, .b f.done, .i f.e] := by
  simp only [d101, mem_of, mem_eta, List.drop_succ_cons, List.drop_zero, frm_of]
  exact ⟨hm, hf, hk⟩
def l101 : List (Nat × Ct) := [(48, d48.ct), (166, d166.ct), (44, d44.ct), (167, d167.ct)]
def z101 : Cx := { T := ttA, C := sigs l101, F := [], hints := [], sig := s101 }
def t101 : Tree :=
 (.call 48 [.var 0, .var 1, .var 2, .var 3, .var 4, .var 5, .var 6, .var 7, .var 8, .var 9, .var 10] 19
 (.ite (.eq (.var 11) (.int 2))
  (.ite (.le (.var 12) (.int 0))
   (.ret [.var 0, .var 1, .var 2, .var 3, .var 4, .var 5, .var 6, .var 7, .var 8, .var 9, .var 10, .int 0, .var 12, .var 13, .var 14, .var 15, .var 16, .var 17, .var 18])
   (.need (.fit (.sub (.var 12) (.int 1)))
   (.need (.le (.int 0) (.sub (.var 12) (.int 1)))
   (.need (.lt (.sub (.var 12) (.int 1)) (.len (.var 0)))
   (.ret [.var 0, .var 1, .var 2, .var 3, .var 4, .var 5, .var 6, .var 7, .var 8, .var 9, .var 10, .int 1, .cell (.var 0) (.sub (.var 12) (.int 1)) 5, .var 13, .var 14, .var 15, .var 16, .var 17, .var 18])))))
  (.ite (.eq (.var 11) (.int 3))
   (.ite (.le (.var 12) (.int 0))
    (.ret [.var 0, .var 1, .var 2, .var 3, .var 4, .var 5, .var 6, .var 7, .var 8, .var 9, .var 10, .int 0, .var 12, .var 13, .var 14, .var 15, .var 16, .var 17, .var 18])
    (.need (.fit (.sub (.var 12) (.int 1)))
    (.call 166 [.var 0, .var 1, .var 2, .var 3, .var 4, .sub (.var 12) (.int 1)] 20
    (.ite (.var 25)
     (.ret [.var 20, .var 21, .var 22, .var 23, .var 24, .var 5, .var 6, .var 7, .var 8, .var 9, .var 10, .int 4, .var 12, .var 13, .sub (.var 12) (.int 1), .var 15, .var 16, .var 17, .var 18])
     (.ret [.var 20, .var 21, .var 22, .var 23, .var 24, .var 5, .var 6, .var 7, .var 8, .var 9, .var 10, .int 0, .var 12, .var 13, .var 14, .var 15, .var 16, .var 17, .var 18])))))
   (.ite (.eq (.var 11) (.int 4))
    (.ite (.lt (.var 14) (.int 0))
     (.ret [.var 0, .var 1, .var 2, .var 3, .var 4, .var 5, .var 6, .var 7, .var 8, .var 9, .var 10, .int 0, .var 12, .var 13, .var 14, .var 15, .var 16, .var 17, .var 18])
     (.need (.le (.int 0) (.var 14))
     (.need (.lt (.var 14) (.len (.var 0)))
     (.ite (.not (.and (.eq (.cell (.var 0) (.var 14) 1) (.var 6)) (.and (.eq (.cell (.var 0) (.var 14) 2) (.var 7)) (.bool true))))
      (.ret [.var 0, .var 1, .var 2, .var 3, .var 4, .var 5, .var 6, .var 7, .var 8, .var 9, .var 10, .int 5, .var 12, .var 13, .var 14, .var 15, .var 16, .var 17, .var 18])
      (.ite (.not (.cell (.var 0) (.var 14) 4))
       (.ret [.var 0, .var 1, .var 2, .var 3, .var 4, .var 5, .var 6, .var 7, .var 8, .var 9, .var 10, .int 5, .var 12, .var 13, .var 14, .var 15, .var 16, .var 17, .var 18])
       (.ite (.le (.cell (.var 0) (.var 14) 3) (.var 4))
        (.ret [.var 0, .var 1, .var 2, .var 3, .var 4, .var 5, .var 6, .var 7, .var 8, .var 9, .var 10, .int 6, .var 12, .var 13, .var 14, .var 15, .var 16, .var 17, .var 18])
        (.call 44 [.var 5, .var 6, .var 7, .var 8, .var 9, .var 10, .var 11, .var 12, .var 13, .var 14, .var 15, .var 16, .var 17, .var 18, .int 0] 20
        (.ret [.var 0, .var 1, .var 2, .var 3, .var 4, .var 20, .var 21, .var 22, .var 23, .var 24, .var 25, .var 26, .var 27, .var 28, .var 29, .var 30, .var 31, .var 32, .var 33]))))))))
    (.ite (.eq (.var 11) (.int 5))
     (.ite (.lt (.var 14) (.int 0))
      (.ret [.var 0, .var 1, .var 2, .var 3, .var 4, .var 5, .var 6, .var 7, .var 8, .var 9, .var 10, .int 0, .var 12, .var 13, .var 14, .var 15, .var 16, .var 17, .var 18])
      (.call 167 [.var 0, .var 1, .var 2, .var 3, .var 4, .var 14] 20
      (.ret [.var 20, .var 21, .var 22, .var 23, .var 24, .var 5, .var 6, .var 7, .var 8, .var 9, .var 10, .int 0, .var 12, .var 13, .int (-1), .var 15, .var 16, .var 17, .var 18])))
     (.ite (.eq (.var 11) (.int 6))
      (.ite (.lt (.var 14) (.int 0))
       (.ret [.var 0, .var 1, .var 2, .var 3, .var 4, .var 5, .var 6, .var 7, .var 8, .var 9, .var 10, .int 0, .var 12, .var 13, .var 14, .var 15, .var 16, .var 17, .var 18])
       (.call 167 [.var 0, .var 1, .var 2, .var 3, .var 4, .var 14] 20
       (.call 44 [.var 5, .var 6, .var 7, .var 8, .var 9, .var 10, .var 11, .var 12, .var 13, .int (-1), .var 15, .var 16, .var 17, .var 18, .int 5] 25
       (.ret [.var 20, .var 21, .var 22, .var 23, .var 24, .var 25, .var 26, .var 27, .var 28, .var 29, .var 30, .var 31, .var 32, .var 33, .var 34, .var 35, .var 36, .var 37, .var 38]))))
      (.ite (.lt (.int 6) (.var 11))
       (.ret [.var 0, .var 1, .var 2, .var 3, .var 4, .var 5, .var 6, .var 7, .var 8, .var 9, .var 10, .int 0, .var 12, .var 13, .var 14, .var 15, .var 16, .var 17, .var 18])
       (.ite (.eq (.var 11) (.int 0))
        (.need (.le (.int 0) (.var 19))
        (.need (.lt (.var 19) (.len (.var 1)))
        (.ret [.var 0, .var 1, .var 2, .var 3, .var 4, .var 5, .var 6, .var 7, .var 8, .var 9, .var 10, .int 1, .cell (.var 1) (.var 19) 0, .var 13, .var 14, .var 15, .var 16, .var 17, .var 18])))
        (.ite (.eq (.var 11) (.int 1))
         (.need (.fit (.sub (.int (-1)) (.var 19)))
         (.ite (.eq (.var 12) (.sub (.int (-1)) (.var 19)))
          (.call 44 [.var 5, .var 6, .var 7, .var 8, .var 9, .var 10, .var 11, .var 12, .var 13, .var 14, .var 15, .var 16, .var 17, .var 18, .int 5] 20
          (.ret [.var 0, .var 1, .var 2, .var 3, .var 4, .var 20, .var 21, .var 22, .var 23, .var 24, .var 25, .var 26, .var 27, .var 28, .var 29, .var 30, .var 31, .var 32, .var 33]))
          (.ite (.le (.var 12) (.int 0))
           (.ret [.var 0, .var 1, .var 2, .var 3, .var 4, .var 5, .var 6, .var 7, .var 8, .var 9, .var 10, .int 0, .var 12, .var 13, .var 14, .var 15, .var 16, .var 17, .var 18])
           (.need (.fit (.sub (.var 12) (.int 1)))
           (.need (.le (.int 0) (.sub (.var 12) (.int 1)))
           (.need (.lt (.sub (.var 12) (.int 1)) (.len (.var 0)))
           (.ite (.and (.eq (.cell (.var 0) (.sub (.var 12) (.int 1)) 1) (.var 6)) (.and (.eq (.cell (.var 0) (.sub (.var 12) (.int 1)) 2) (.var 7)) (.bool true)))
            (.ret [.var 0, .var 1, .var 2, .var 3, .var 4, .var 5, .var 6, .var 7, .var 8, .var 9, .var 10, .int 3, .var 12, .var 13, .var 14, .var 15, .var 16, .var 17, .var 18])
            (.ret [.var 0, .var 1, .var 2, .var 3, .var 4, .var 5, .var 6, .var 7, .var 8, .var 9, .var 10, .int 2, .var 12, .var 13, .var 14, .var 15, .var 16, .var 17, .var 18]))))))))
         (.ret [.var 0, .var 1, .var 2, .var 3, .var 4, .var 5, .var 6, .var 7, .var 8, .var 9, .var 10, .var 11, .var 12, .var 13, .var 14, .var 15, .var 16, .var 17, .var 18]))))))))))
theorem run101 : run z101 6000 [.code (Try.f101.body.getD .skip), .fin (topRet z101 Try.f101.results.toList 50)] { fn := 101, tmps := z101.sig.args0 ++ List.replicate (Try.f101.ntmps - z101.sig.args0.length) (.v (.one .undef)), stk := [], h := z101.sig.h0, nx := z101.sig.ins.length, known := [] } = t101 := by kernel_rfl
theorem ok101 : CtOk Try.prog 101 d101.ct := by
  refine dc_of_tree (d := d101) (Z := z101) (Γ := gam l101) (fn := Try.f101) (c := Try.f101.body.getD .skip) (told_of tok mixed (all_cons ok48 (all_cons ok166 (all_cons ok44 (all_cons ok167 all_nil)))) fok_nil) Try.func101 (by kernel_rfl) (by kernel_rfl) rfl run101 fun E hk hp => ?_
  obtain ⟨hk0, hk1, hk2, hk3, hk4, hk5, hk6, hk7, hk8, hk9, hk10, hk11, hk12, hk13, hk14, hk15, hk16, hk17, hk18, _⟩ := hk
  obtain ⟨m, e0, e1, e2, e3, e4, b0, b1, b2, b3⟩ := ok_mem (d0 := E 0) (d1 := E 1) (d2 := E 2) (d3 := E 3) (d4 := E 4) hk0 hk1 hk2 hk3 hk4
  obtain ⟨f, e5, e6, e7, e8, e9, e10, e11, e12, e13, e14, e15, e16, e17, e18, b16⟩ := ok_frame (d0 := E 5) (d1 := E 6) (d2 := E 7) (d3 := E 8) (d4 := E 9) (d5 := E 10) (d6 := E 11) (d7 := E 12) (d8 := E 13) (d9 := E 14) (d10 := E 15) (d11 := E 16) (d12 := E 17) (d13 := E 18) hk5 hk6 hk7 hk8 hk9 hk10 hk11 hk12 hk13 hk14 hk15 hk16 hk17 hk18
  have el : letters E d101.sig.ins.length = [slotsD m.slots, intsD m.heads, intsD m.free, intsD m.locks, .i m.now, .i f.c.kind, .i f.c.k.a, .i f.c.k.b, .i f.c.time, .i f.c.bucket, .i f.c.slot, .i f.pc, .i f.cur, .i f.prev, .i f.slot, .i f.n, keysD f.keys, .b f.done, .i f.e] := by
    show [E 0, E 1, E 2, E 3, E 4, E 5, E 6, E 7, E 8, E 9, E 10, E 11, E 12, E 13, E 14, E 15, E 16, E 17, E 18] = _
    rw [e0, e1, e2, e3, e4, e5, e6, e7, e8, e9, e10, e11, e12, e13, e14, e15, e16, e17, e18]
  rw [el] at hp
  rw [el]
  rw [Env.pre_eq el]
  clear el e0 e1 e2 e3 e4 e5 e6 e7 e8 e9 e10 e11 e12 e13 e14 e15 e16 e17 e18
  rw [fn101]
  simp only [d101, mem_of, mem_eta, List.drop_succ_cons, List.drop_zero, frm_of] at hp
  obtain ⟨hm, hf, hk⟩ : MemIn m ∧ FrmOk m f ∧ f.c.kind = 1 := hp
  have hb := bucketFor_range hm hf.call (by omega)
  have gs := hm.ns
  have g4 := hm.nh4
  have eH : ((intsD m.heads).rows.getD (bucketFor m f.c).toNat []).getD 0 .u = .i (headAt m (bucketFor m f.c)) := raw_int (by omega)
  obtain ⟨f1, f2, f3, f4, f5, f6, f7, f8, f9, f10, f11, f12, f13⟩ := id hf
  have eN : 0 < f.cur → ((slotsD m.slots).rows.getD (f.cur - 1).toNat []).getD 5 .u = .i (at1 m f).next := fun _ => raw_s5 (by omega)
  have eK1 : 0 < f.cur → ((slotsD m.slots).rows.getD (f.cur - 1).toNat []).getD 1 .u = .i (at1 m f).k.a := fun _ => raw_s1 (by omega)
  have eK2 : 0 < f.cur → ((slotsD m.slots).rows.getD (f.cur - 1).toNat []).getD 2 .u = .i (at1 m f).k.b := fun _ => raw_s2 (by omega)
  have a1 : m.slots.getD (f.cur - 1).toNat default = at1 m f := rfl
  have a2 : m.slots.getD f.slot.toNat default = at2 m f := rfl
  unfold t101
  refine den_calle d48 [.i (bucketFor m f.c)] rfl trivial (by simp only [nrm, X.den, Env.put, Env.pre, reduceIte, Nat.reduceLT, Nat.reduceSub, Nat.reduceAdd, fs48]) ?_
  refine den_ite (fun h1 => ?_) (fun h1 => ?_)
  · simp only [nrm, X.den, Env.put, Env.pre, reduceIte, Nat.reduceLT, Nat.reduceSub, Nat.reduceAdd, cell_s1, cell_s2, cell_s3, cell_s4, cell_s5, cell_int, a1, a2, len_keys, Mem.cds, List.cons_append, List.nil_append, Bool.not_eq_true', Bool.not_eq_false'] at h1
    refine den_ite (fun h2 => ?_) (fun h2 => ?_)
    · simp only [nrm, X.den, Env.put, Env.pre, reduceIte, Nat.reduceLT, Nat.reduceSub, Nat.reduceAdd, cell_s1, cell_s2, cell_s3, cell_s4, cell_s5, cell_int, a1, a2, len_keys, Mem.cds, List.cons_append, List.nil_append, Bool.not_eq_true', Bool.not_eq_false'] at h2
      refine den_ret ?_
      first | (exfalso; omega) | skip
      all_goals unfold lookStep
      all_goals repeat (first | rw [if_neg (by omega)] | rw [if_pos (by omega)] | rw [if_pos (by assumption)] | rw [if_neg (by assumption)] | rw [if_neg (ne_true_of_eq_false (by assumption))] | rw [if_pos (Or.inl (by assumption))] | rw [if_pos (Or.inr (by assumption))] | rw [if_neg (fun y => Or.elim y (fun z => z (by assumption)) (fun z => Bool.false_ne_true (z.symm.trans (by assumption))))])
      all_goals simp only [nrm, X.den, Env.put, Env.pre, reduceIte, Nat.reduceLT, Nat.reduceSub, Nat.reduceAdd, Mem.cds, Frm.cds, endFrame, List.cons_append, List.nil_append, CD.row, List.headD_cons, eH, app_key, Bool.false_eq_true, Bool.true_eq_false]
    · simp only [nrm, X.den, Env.put, Env.pre, reduceIte, Nat.reduceLT, Nat.reduceSub, Nat.reduceAdd, cell_s1, cell_s2, cell_s3, cell_s4, cell_s5, cell_int, a1, a2, len_keys, Mem.cds, List.cons_append, List.nil_append, Bool.not_eq_true', Bool.not_eq_false'] at h2
      refine den_fit (by simp only [nrm, X.den, Env.put, Env.pre, reduceIte, Nat.reduceLT, Nat.reduceSub, Nat.reduceAdd, len_slots, len_ints, len_keys, cell_s1, cell_s2, cell_s3, cell_s4, cell_s5, cell_int, a1, a2]; omega) ?_
      refine den_le (by simp only [nrm, X.den, Env.put, Env.pre, reduceIte, Nat.reduceLT, Nat.reduceSub, Nat.reduceAdd, len_slots, len_ints, len_keys, cell_s1, cell_s2, cell_s3, cell_s4, cell_s5, cell_int, a1, a2]; omega) ?_
      refine den_lt (by simp only [nrm, X.den, Env.put, Env.pre, reduceIte, Nat.reduceLT, Nat.reduceSub, Nat.reduceAdd, len_slots, len_ints, len_keys, cell_s1, cell_s2, cell_s3, cell_s4, cell_s5, cell_int, a1, a2]; omega) ?_
      refine den_ret ?_
      first | (exfalso; omega) | skip
      all_goals unfold lookStep
      all_goals repeat (first | rw [if_neg (by omega)] | rw [if_pos (by omega)] | rw [if_pos (by assumption)] | rw [if_neg (by assumption)] | rw [if_neg (ne_true_of_eq_false (by assumption))] | rw [if_pos (Or.inl (by assumption))] | rw [if_pos (Or.inr (by assumption))] | rw [if_neg (fun y => Or.elim y (fun z => z (by assumption)) (fun z => Bool.false_ne_true (z.symm.trans (by assumption))))])
      all_goals simp only [nrm, X.den, Env.put, Env.pre, reduceIte, Nat.reduceLT, Nat.reduceSub, Nat.reduceAdd, Mem.cds, Frm.cds, endFrame, List.cons_append, List.nil_append, CD.row, List.headD_cons, eH, app_key, Bool.false_eq_true, Bool.true_eq_false, eN (by omega), eK1 (by omega), eK2 (by omega)]
  · simp only [nrm, X.den, Env.put, Env.pre, reduceIte, Nat.reduceLT, Nat.reduceSub, Nat.reduceAdd, cell_s1, cell_s2, cell_s3, cell_s4, cell_s5, cell_int, a1, a2, len_keys, Mem.cds, List.cons_append, List.nil_append, Bool.not_eq_true', Bool.not_eq_false'] at h1
    refine den_ite (fun h2 => ?_) (fun h2 => ?_)
    · simp only [nrm, X.den, Env.put, Env.pre, reduceIte, Nat.reduceLT, Nat.reduceSub, Nat.reduceAdd, cell_s1, cell_s2, cell_s3, cell_s4, cell_s5, cell_int, a1, a2, len_keys, Mem.cds, List.cons_append, List.nil_append, Bool.not_eq_true', Bool.not_eq_false'] at h2
      refine den_ite (fun h3 => ?_) (fun h3 => ?_)
      · simp only [nrm, X.den, Env.put, Env.pre, reduceIte, Nat.reduceLT, Nat.reduceSub, Nat.reduceAdd, cell_s1, cell_s2, cell_s3, cell_s4, cell_s5, cell_int, a1, a2, len_keys, Mem.cds, List.cons_append, List.nil_append, Bool.not_eq_true', Bool.not_eq_false'] at h3
        refine den_ret ?_
        first | (exfalso; omega) | skip
        all_goals unfold lookStep
        all_goals repeat (first | rw [if_neg (by omega)] | rw [if_pos (by omega)] | rw [if_pos (by assumption)] | rw [if_neg (by assumption)] | rw [if_neg (ne_true_of_eq_false (by assumption))] | rw [if_pos (Or.inl (by assumption))] | rw [if_pos (Or.inr (by assumption))] | rw [if_neg (fun y => Or.elim y (fun z => z (by assumption)) (fun z => Bool.false_ne_true (z.symm.trans (by assumption))))])
        all_goals simp only [nrm, X.den, Env.put, Env.pre, reduceIte, Nat.reduceLT, Nat.reduceSub, Nat.reduceAdd, Mem.cds, Frm.cds, endFrame, List.cons_append, List.nil_append, CD.row, List.headD_cons, eH, app_key, Bool.false_eq_true, Bool.true_eq_false]
      · simp only [nrm, X.den, Env.put, Env.pre, reduceIte, Nat.reduceLT, Nat.reduceSub, Nat.reduceAdd, cell_s1, cell_s2, cell_s3, cell_s4, cell_s5, cell_int, a1, a2, len_keys, Mem.cds, List.cons_append, List.nil_append, Bool.not_eq_true', Bool.not_eq_false'] at h3
        refine den_fit (by simp only [nrm, X.den, Env.put, Env.pre, reduceIte, Nat.reduceLT, Nat.reduceSub, Nat.reduceAdd, len_slots, len_ints, len_keys, cell_s1, cell_s2, cell_s3, cell_s4, cell_s5, cell_int, a1, a2]; omega) ?_
        refine den_calle d166 ((hold m (f.cur - 1)).1.cds ++ [.b (hold m (f.cur - 1)).2]) rfl (by simp only [nrm, X.den, Env.put, Env.pre, reduceIte, Nat.reduceLT, Nat.reduceSub, Nat.reduceAdd]; exact pi166 hm (by omega) (by omega)) (by simp only [nrm, X.den, Env.put, Env.pre, reduceIte, Nat.reduceLT, Nat.reduceSub, Nat.reduceAdd, fs166]) ?_
        refine den_ite (fun h4 => ?_) (fun h4 => ?_)
        · simp only [nrm, X.den, Env.put, Env.pre, reduceIte, Nat.reduceLT, Nat.reduceSub, Nat.reduceAdd, cell_s1, cell_s2, cell_s3, cell_s4, cell_s5, cell_int, a1, a2, len_keys, Mem.cds, List.cons_append, List.nil_append, Bool.not_eq_true', Bool.not_eq_false'] at h4
          refine den_ret ?_
          try rw [hold_no h4]
          try rw [lock_no h4]
          first | (exfalso; omega) | skip
          all_goals unfold lookStep
          all_goals repeat (first | rw [if_neg (by omega)] | rw [if_pos (by omega)] | rw [if_pos (by assumption)] | rw [if_neg (by assumption)] | rw [if_neg (ne_true_of_eq_false (by assumption))] | rw [if_pos (Or.inl (by assumption))] | rw [if_pos (Or.inr (by assumption))] | rw [if_neg (fun y => Or.elim y (fun z => z (by assumption)) (fun z => Bool.false_ne_true (z.symm.trans (by assumption))))])
          all_goals simp only [nrm, X.den, Env.put, Env.pre, reduceIte, Nat.reduceLT, Nat.reduceSub, Nat.reduceAdd, Mem.cds, Frm.cds, endFrame, List.cons_append, List.nil_append, CD.row, List.headD_cons, eH, app_key, Bool.false_eq_true, Bool.true_eq_false, h4]
        · simp only [nrm, X.den, Env.put, Env.pre, reduceIte, Nat.reduceLT, Nat.reduceSub, Nat.reduceAdd, cell_s1, cell_s2, cell_s3, cell_s4, cell_s5, cell_int, a1, a2, len_keys, Mem.cds, List.cons_append, List.nil_append, Bool.not_eq_true', Bool.not_eq_false'] at h4
          refine den_ret ?_
          try rw [hold_no h4]
          try rw [lock_no h4]
          first | (exfalso; omega) | skip
          all_goals unfold lookStep
          all_goals repeat (first | rw [if_neg (by omega)] | rw [if_pos (by omega)] | rw [if_pos (by assumption)] | rw [if_neg (by assumption)] | rw [if_neg (ne_true_of_eq_false (by assumption))] | rw [if_pos (Or.inl (by assumption))] | rw [if_pos (Or.inr (by assumption))] | rw [if_neg (fun y => Or.elim y (fun z => z (by assumption)) (fun z => Bool.false_ne_true (z.symm.trans (by assumption))))])
          all_goals simp only [nrm, X.den, Env.put, Env.pre, reduceIte, Nat.reduceLT, Nat.reduceSub, Nat.reduceAdd, Mem.cds, Frm.cds, endFrame, List.cons_append, List.nil_append, CD.row, List.headD_cons, eH, app_key, Bool.false_eq_true, Bool.true_eq_false, h4]
    · simp only [nrm, X.den, Env.put, Env.pre, reduceIte, Nat.reduceLT, Nat.reduceSub, Nat.reduceAdd, cell_s1, cell_s2, cell_s3, cell_s4, cell_s5, cell_int, a1, a2, len_keys, Mem.cds, List.cons_append, List.nil_append, Bool.not_eq_true', Bool.not_eq_false'] at h2
      refine den_ite (fun h3 => ?_) (fun h3 => ?_)
      · simp only [nrm, X.den, Env.put, Env.pre, reduceIte, Nat.reduceLT, Nat.reduceSub, Nat.reduceAdd, cell_s1, cell_s2, cell_s3, cell_s4, cell_s5, cell_int, a1, a2, len_keys, Mem.cds, List.cons_append, List.nil_append, Bool.not_eq_true', Bool.not_eq_false'] at h3
        refine den_ite (fun h4 => ?_) (fun h4 => ?_)
        · simp only [nrm, X.den, Env.put, Env.pre, reduceIte, Nat.reduceLT, Nat.reduceSub, Nat.reduceAdd, cell_s1, cell_s2, cell_s3, cell_s4, cell_s5, cell_int, a1, a2, len_keys, Mem.cds, List.cons_append, List.nil_append, Bool.not_eq_true', Bool.not_eq_false'] at h4
          refine den_ret ?_
          first | (exfalso; omega) | skip
          all_goals unfold lookStep
          all_goals repeat (first | rw [if_neg (by omega)] | rw [if_pos (by omega)] | rw [if_pos (by assumption)] | rw [if_neg (by assumption)] | rw [if_neg (ne_true_of_eq_false (by assumption))] | rw [if_pos (Or.inl (by assumption))] | rw [if_pos (Or.inr (by assumption))] | rw [if_neg (fun y => Or.elim y (fun z => z (by assumption)) (fun z => Bool.false_ne_true (z.symm.trans (by assumption))))])
          all_goals simp only [nrm, X.den, Env.put, Env.pre, reduceIte, Nat.reduceLT, Nat.reduceSub, Nat.reduceAdd, Mem.cds, Frm.cds, endFrame, List.cons_append, List.nil_append, CD.row, List.headD_cons, eH, app_key, Bool.false_eq_true, Bool.true_eq_false]
        · simp only [nrm, X.den, Env.put, Env.pre, reduceIte, Nat.reduceLT, Nat.reduceSub, Nat.reduceAdd, cell_s1, cell_s2, cell_s3, cell_s4, cell_s5, cell_int, a1, a2, len_keys, Mem.cds, List.cons_append, List.nil_append, Bool.not_eq_true', Bool.not_eq_false'] at h4
          refine den_le (by simp only [nrm, X.den, Env.put, Env.pre, reduceIte, Nat.reduceLT, Nat.reduceSub, Nat.reduceAdd, len_slots, len_ints, len_keys, cell_s1, cell_s2, cell_s3, cell_s4, cell_s5, cell_int, a1, a2]; omega) ?_
          refine den_lt (by simp only [nrm, X.den, Env.put, Env.pre, reduceIte, Nat.reduceLT, Nat.reduceSub, Nat.reduceAdd, len_slots, len_ints, len_keys, cell_s1, cell_s2, cell_s3, cell_s4, cell_s5, cell_int, a1, a2]; omega) ?_
          refine den_ite (fun h5 => ?_) (fun h5 => ?_)
          · simp only [nrm, X.den, Env.put, Env.pre, reduceIte, Nat.reduceLT, Nat.reduceSub, Nat.reduceAdd, cell_s1, cell_s2, cell_s3, cell_s4, cell_s5, cell_int, a1, a2, len_keys, Mem.cds, List.cons_append, List.nil_append, Bool.not_eq_true', Bool.not_eq_false'] at h5
            replace h5 := key_f h5
            refine den_ret ?_
            first | (exfalso; omega) | skip
            all_goals unfold lookStep
            all_goals repeat (first | rw [if_neg (by omega)] | rw [if_pos (by omega)] | rw [if_pos (by assumption)] | rw [if_neg (by assumption)] | rw [if_neg (ne_true_of_eq_false (by assumption))] | rw [if_pos (Or.inl (by assumption))] | rw [if_pos (Or.inr (by assumption))] | rw [if_neg (fun y => Or.elim y (fun z => z (by assumption)) (fun z => Bool.false_ne_true (z.symm.trans (by assumption))))])
            all_goals simp only [nrm, X.den, Env.put, Env.pre, reduceIte, Nat.reduceLT, Nat.reduceSub, Nat.reduceAdd, Mem.cds, Frm.cds, endFrame, List.cons_append, List.nil_append, CD.row, List.headD_cons, eH, app_key, Bool.false_eq_true, Bool.true_eq_false]
          · simp only [nrm, X.den, Env.put, Env.pre, reduceIte, Nat.reduceLT, Nat.reduceSub, Nat.reduceAdd, cell_s1, cell_s2, cell_s3, cell_s4, cell_s5, cell_int, a1, a2, len_keys, Mem.cds, List.cons_append, List.nil_append, Bool.not_eq_true', Bool.not_eq_false'] at h5
            replace h5 := key_t h5
            refine den_ite (fun h6 => ?_) (fun h6 => ?_)
            · simp only [nrm, X.den, Env.put, Env.pre, reduceIte, Nat.reduceLT, Nat.reduceSub, Nat.reduceAdd, cell_s1, cell_s2, cell_s3, cell_s4, cell_s5, cell_int, a1, a2, len_keys, Mem.cds, List.cons_append, List.nil_append, Bool.not_eq_true', Bool.not_eq_false'] at h6
              refine den_ret ?_
              try rw [hold_no h6]
              try rw [lock_no h6]
              first | (exfalso; omega) | skip
              all_goals unfold lookStep
              all_goals repeat (first | rw [if_neg (by omega)] | rw [if_pos (by omega)] | rw [if_pos (by assumption)] | rw [if_neg (by assumption)] | rw [if_neg (ne_true_of_eq_false (by assumption))] | rw [if_pos (Or.inl (by assumption))] | rw [if_pos (Or.inr (by assumption))] | rw [if_neg (fun y => Or.elim y (fun z => z (by assumption)) (fun z => Bool.false_ne_true (z.symm.trans (by assumption))))])
              all_goals simp only [nrm, X.den, Env.put, Env.pre, reduceIte, Nat.reduceLT, Nat.reduceSub, Nat.reduceAdd, Mem.cds, Frm.cds, endFrame, List.cons_append, List.nil_append, CD.row, List.headD_cons, eH, app_key, Bool.false_eq_true, Bool.true_eq_false, h6]
            · simp only [nrm, X.den, Env.put, Env.pre, reduceIte, Nat.reduceLT, Nat.reduceSub, Nat.reduceAdd, cell_s1, cell_s2, cell_s3, cell_s4, cell_s5, cell_int, a1, a2, len_keys, Mem.cds, List.cons_append, List.nil_append, Bool.not_eq_true', Bool.not_eq_false'] at h6
              refine den_ite (fun h7 => ?_) (fun h7 => ?_)
              · simp only [nrm, X.den, Env.put, Env.pre, reduceIte, Nat.reduceLT, Nat.reduceSub, Nat.reduceAdd, cell_s1, cell_s2, cell_s3, cell_s4, cell_s5, cell_int, a1, a2, len_keys, Mem.cds, List.cons_append, List.nil_append, Bool.not_eq_true', Bool.not_eq_false'] at h7
                refine den_ret ?_
                try rw [hold_no h6]
                try rw [lock_no h6]
                first | (exfalso; omega) | skip
                all_goals unfold lookStep
                all_goals repeat (first | rw [if_neg (by omega)] | rw [if_pos (by omega)] | rw [if_pos (by assumption)] | rw [if_neg (by assumption)] | rw [if_neg (ne_true_of_eq_false (by assumption))] | rw [if_pos (Or.inl (by assumption))] | rw [if_pos (Or.inr (by assumption))] | rw [if_neg (fun y => Or.elim y (fun z => z (by assumption)) (fun z => Bool.false_ne_true (z.symm.trans (by assumption))))])
                all_goals simp only [nrm, X.den, Env.put, Env.pre, reduceIte, Nat.reduceLT, Nat.reduceSub, Nat.reduceAdd, Mem.cds, Frm.cds, endFrame, List.cons_append, List.nil_append, CD.row, List.headD_cons, eH, app_key, Bool.false_eq_true, Bool.true_eq_false, h6]
              · simp only [nrm, X.den, Env.put, Env.pre, reduceIte, Nat.reduceLT, Nat.reduceSub, Nat.reduceAdd, cell_s1, cell_s2, cell_s3, cell_s4, cell_s5, cell_int, a1, a2, len_keys, Mem.cds, List.cons_append, List.nil_append, Bool.not_eq_true', Bool.not_eq_false'] at h7
                refine den_calle d44 (endFrame f 0).cds rfl trivial (by simp only [nrm, X.den, Env.put, Env.pre, reduceIte, Nat.reduceLT, Nat.reduceSub, Nat.reduceAdd, Frm.cds, List.cons_append, List.nil_append]; exact fs44 f 0) ?_
                refine den_ret ?_
                try rw [hold_no h6]
                try rw [lock_no h6]
                first | (exfalso; omega) | skip
                all_goals unfold lookStep
                all_goals repeat (first | rw [if_neg (by omega)] | rw [if_pos (by omega)] | rw [if_pos (by assumption)] | rw [if_neg (by assumption)] | rw [if_neg (ne_true_of_eq_false (by assumption))] | rw [if_pos (Or.inl (by assumption))] | rw [if_pos (Or.inr (by assumption))] | rw [if_neg (fun y => Or.elim y (fun z => z (by assumption)) (fun z => Bool.false_ne_true (z.symm.trans (by assumption))))])
                all_goals simp only [nrm, X.den, Env.put, Env.pre, reduceIte, Nat.reduceLT, Nat.reduceSub, Nat.reduceAdd, Mem.cds, Frm.cds, endFrame, List.cons_append, List.nil_append, CD.row, List.headD_cons, eH, app_key, Bool.false_eq_true, Bool.true_eq_false, h6]
      · simp only [nrm, X.den, Env.put, Env.pre, reduceIte, Nat.reduceLT, Nat.reduceSub, Nat.reduceAdd, cell_s1, cell_s2, cell_s3, cell_s4, cell_s5, cell_int, a1, a2, len_keys, Mem.cds, List.cons_append, List.nil_append, Bool.not_eq_true', Bool.not_eq_false'] at h3
        refine den_ite (fun h4 => ?_) (fun h4 => ?_)
        · simp only [nrm, X.den, Env.put, Env.pre, reduceIte, Nat.reduceLT, Nat.reduceSub, Nat.reduceAdd, cell_s1, cell_s2, cell_s3, cell_s4, cell_s5, cell_int, a1, a2, len_keys, Mem.cds, List.cons_append, List.nil_append, Bool.not_eq_true', Bool.not_eq_false'] at h4
          refine den_ite (fun h5 => ?_) (fun h5 => ?_)
          · simp only [nrm, X.den, Env.put, Env.pre, reduceIte, Nat.reduceLT, Nat.reduceSub, Nat.reduceAdd, cell_s1, cell_s2, cell_s3, cell_s4, cell_s5, cell_int, a1, a2, len_keys, Mem.cds, List.cons_append, List.nil_append, Bool.not_eq_true', Bool.not_eq_false'] at h5
            refine den_ret ?_
            first | (exfalso; omega) | skip
            all_goals unfold lookStep
            all_goals repeat (first | rw [if_neg (by omega)] | rw [if_pos (by omega)] | rw [if_pos (by assumption)] | rw [if_neg (by assumption)] | rw [if_neg (ne_true_of_eq_false (by assumption))] | rw [if_pos (Or.inl (by assumption))] | rw [if_pos (Or.inr (by assumption))] | rw [if_neg (fun y => Or.elim y (fun z => z (by assumption)) (fun z => Bool.false_ne_true (z.symm.trans (by assumption))))])
            all_goals simp only [nrm, X.den, Env.put, Env.pre, reduceIte, Nat.reduceLT, Nat.reduceSub, Nat.reduceAdd, Mem.cds, Frm.cds, endFrame, List.cons_append, List.nil_append, CD.row, List.headD_cons, eH, app_key, Bool.false_eq_true, Bool.true_eq_false]
          · simp only [nrm, X.den, Env.put, Env.pre, reduceIte, Nat.reduceLT, Nat.reduceSub, Nat.reduceAdd, cell_s1, cell_s2, cell_s3, cell_s4, cell_s5, cell_int, a1, a2, len_keys, Mem.cds, List.cons_append, List.nil_append, Bool.not_eq_true', Bool.not_eq_false'] at h5
            refine den_calle d167 (put m f.slot).cds rfl (by simp only [nrm, X.den, Env.put, Env.pre, reduceIte, Nat.reduceLT, Nat.reduceSub, Nat.reduceAdd]; exact pi167 hm (by omega) (by omega)) (by simp only [nrm, X.den, Env.put, Env.pre, reduceIte, Nat.reduceLT, Nat.reduceSub, Nat.reduceAdd, fs167]) ?_
            refine den_ret ?_
            first | (exfalso; omega) | skip
            all_goals unfold lookStep
            all_goals repeat (first | rw [if_neg (by omega)] | rw [if_pos (by omega)] | rw [if_pos (by assumption)] | rw [if_neg (by assumption)] | rw [if_neg (ne_true_of_eq_false (by assumption))] | rw [if_pos (Or.inl (by assumption))] | rw [if_pos (Or.inr (by assumption))] | rw [if_neg (fun y => Or.elim y (fun z => z (by assumption)) (fun z => Bool.false_ne_true (z.symm.trans (by assumption))))])
            all_goals simp only [nrm, X.den, Env.put, Env.pre, reduceIte, Nat.reduceLT, Nat.reduceSub, Nat.reduceAdd, Mem.cds, Frm.cds, endFrame, List.cons_append, List.nil_append, CD.row, List.headD_cons, eH, app_key, Bool.false_eq_true, Bool.true_eq_false]
        · simp only [nrm, X.den, Env.put, Env.pre, reduceIte, Nat.reduceLT, Nat.reduceSub, Nat.reduceAdd, cell_s1, cell_s2, cell_s3, cell_s4, cell_s5, cell_int, a1, a2, len_keys, Mem.cds, List.cons_append, List.nil_append, Bool.not_eq_true', Bool.not_eq_false'] at h4
          refine den_ite (fun h5 => ?_) (fun h5 => ?_)
          · simp only [nrm, X.den, Env.put, Env.pre, reduceIte, Nat.reduceLT, Nat.reduceSub, Nat.reduceAdd, cell_s1, cell_s2, cell_s3, cell_s4, cell_s5, cell_int, a1, a2, len_keys, Mem.cds, List.cons_append, List.nil_append, Bool.not_eq_true', Bool.not_eq_false'] at h5
            refine den_ite (fun h6 => ?_) (fun h6 => ?_)
            · simp only [nrm, X.den, Env.put, Env.pre, reduceIte, Nat.reduceLT, Nat.reduceSub, Nat.reduceAdd, cell_s1, cell_s2, cell_s3, cell_s4, cell_s5, cell_int, a1, a2, len_keys, Mem.cds, List.cons_append, List.nil_append, Bool.not_eq_true', Bool.not_eq_false'] at h6
              refine den_ret ?_
              first | (exfalso; omega) | skip
              all_goals unfold lookStep
              all_goals repeat (first | rw [if_neg (by omega)] | rw [if_pos (by omega)] | rw [if_pos (by assumption)] | rw [if_neg (by assumption)] | rw [if_neg (ne_true_of_eq_false (by assumption))] | rw [if_pos (Or.inl (by assumption))] | rw [if_pos (Or.inr (by assumption))] | rw [if_neg (fun y => Or.elim y (fun z => z (by assumption)) (fun z => Bool.false_ne_true (z.symm.trans (by assumption))))])
              all_goals simp only [nrm, X.den, Env.put, Env.pre, reduceIte, Nat.reduceLT, Nat.reduceSub, Nat.reduceAdd, Mem.cds, Frm.cds, endFrame, List.cons_append, List.nil_append, CD.row, List.headD_cons, eH, app_key, Bool.false_eq_true, Bool.true_eq_false]
            · simp only [nrm, X.den, Env.put, Env.pre, reduceIte, Nat.reduceLT, Nat.reduceSub, Nat.reduceAdd, cell_s1, cell_s2, cell_s3, cell_s4, cell_s5, cell_int, a1, a2, len_keys, Mem.cds, List.cons_append, List.nil_append, Bool.not_eq_true', Bool.not_eq_false'] at h6
              refine den_calle d167 (put m f.slot).cds rfl (by simp only [nrm, X.den, Env.put, Env.pre, reduceIte, Nat.reduceLT, Nat.reduceSub, Nat.reduceAdd]; exact pi167 hm (by omega) (by omega)) (by simp only [nrm, X.den, Env.put, Env.pre, reduceIte, Nat.reduceLT, Nat.reduceSub, Nat.reduceAdd, fs167]) ?_
              refine den_calle d44 (endFrame { f with slot := (-1) } 5).cds rfl trivial (by simp only [nrm, X.den, Env.put, Env.pre, reduceIte, Nat.reduceLT, Nat.reduceSub, Nat.reduceAdd, Frm.cds, List.cons_append, List.nil_append]; exact fs44 { f with slot := (-1) } 5) ?_
              refine den_ret ?_
              first | (exfalso; omega) | skip
              all_goals unfold lookStep
              all_goals repeat (first | rw [if_neg (by omega)] | rw [if_pos (by omega)] | rw [if_pos (by assumption)] | rw [if_neg (by assumption)] | rw [if_neg (ne_true_of_eq_false (by assumption))] | rw [if_pos (Or.inl (by assumption))] | rw [if_pos (Or.inr (by assumption))] | rw [if_neg (fun y => Or.elim y (fun z => z (by assumption)) (fun z => Bool.false_ne_true (z.symm.trans (by assumption))))])
              all_goals simp only [nrm, X.den, Env.put, Env.pre, reduceIte, Nat.reduceLT, Nat.reduceSub, Nat.reduceAdd, Mem.cds, Frm.cds, endFrame, List.cons_append, List.nil_append, CD.row, List.headD_cons, eH, app_key, Bool.false_eq_true, Bool.true_eq_false]
          · simp only [nrm, X.den, Env.put, Env.pre, reduceIte, Nat.reduceLT, Nat.reduceSub, Nat.reduceAdd, cell_s1, cell_s2, cell_s3, cell_s4, cell_s5, cell_int, a1, a2, len_keys, Mem.cds, List.cons_append, List.nil_append, Bool.not_eq_true', Bool.not_eq_false'] at h5
            refine den_ite (fun h6 => ?_) (fun h6 => ?_)
            · simp only [nrm, X.den, Env.put, Env.pre, reduceIte, Nat.reduceLT, Nat.reduceSub, Nat.reduceAdd, cell_s1, cell_s2, cell_s3, cell_s4, cell_s5, cell_int, a1, a2, len_keys, Mem.cds, List.cons_append, List.nil_append, Bool.not_eq_true', Bool.not_eq_false'] at h6
              refine den_ret ?_
              first | (exfalso; omega) | skip
              all_goals unfold lookStep
              all_goals repeat (first | rw [if_neg (by omega)] | rw [if_pos (by omega)] | rw [if_pos (by assumption)] | rw [if_neg (by assumption)] | rw [if_neg (ne_true_of_eq_false (by assumption))] | rw [if_pos (Or.inl (by assumption))] | rw [if_pos (Or.inr (by assumption))] | rw [if_neg (fun y => Or.elim y (fun z => z (by assumption)) (fun z => Bool.false_ne_true (z.symm.trans (by assumption))))])
              all_goals simp only [nrm, X.den, Env.put, Env.pre, reduceIte, Nat.reduceLT, Nat.reduceSub, Nat.reduceAdd, Mem.cds, Frm.cds, endFrame, List.cons_append, List.nil_append, CD.row, List.headD_cons, eH, app_key, Bool.false_eq_true, Bool.true_eq_false]
            · simp only [nrm, X.den, Env.put, Env.pre, reduceIte, Nat.reduceLT, Nat.reduceSub, Nat.reduceAdd, cell_s1, cell_s2, cell_s3, cell_s4, cell_s5, cell_int, a1, a2, len_keys, Mem.cds, List.cons_append, List.nil_append, Bool.not_eq_true', Bool.not_eq_false'] at h6
              refine den_ite (fun h7 => ?_) (fun h7 => ?_)
              · simp only [nrm, X.den, Env.put, Env.pre, reduceIte, Nat.reduceLT, Nat.reduceSub, Nat.reduceAdd, cell_s1, cell_s2, cell_s3, cell_s4, cell_s5, cell_int, a1, a2, len_keys, Mem.cds, List.cons_append, List.nil_append, Bool.not_eq_true', Bool.not_eq_false'] at h7
                refine den_le (by simp only [nrm, X.den, Env.put, Env.pre, reduceIte, Nat.reduceLT, Nat.reduceSub, Nat.reduceAdd, len_slots, len_ints, len_keys, cell_s1, cell_s2, cell_s3, cell_s4, cell_s5, cell_int, a1, a2]; omega) ?_
                refine den_lt (by simp only [nrm, X.den, Env.put, Env.pre, reduceIte, Nat.reduceLT, Nat.reduceSub, Nat.reduceAdd, len_slots, len_ints, len_keys, cell_s1, cell_s2, cell_s3, cell_s4, cell_s5, cell_int, a1, a2]; omega) ?_
                refine den_ret ?_
                first | (exfalso; omega) | skip
                all_goals unfold lookStep
                all_goals repeat (first | rw [if_neg (by omega)] | rw [if_pos (by omega)] | rw [if_pos (by assumption)] | rw [if_neg (by assumption)] | rw [if_neg (ne_true_of_eq_false (by assumption))] | rw [if_pos (Or.inl (by assumption))] | rw [if_pos (Or.inr (by assumption))] | rw [if_neg (fun y => Or.elim y (fun z => z (by assumption)) (fun z => Bool.false_ne_true (z.symm.trans (by assumption))))])
                all_goals simp only [nrm, X.den, Env.put, Env.pre, reduceIte, Nat.reduceLT, Nat.reduceSub, Nat.reduceAdd, Mem.cds, Frm.cds, endFrame, List.cons_append, List.nil_append, CD.row, List.headD_cons, eH, app_key, Bool.false_eq_true, Bool.true_eq_false]
              · simp only [nrm, X.den, Env.put, Env.pre, reduceIte, Nat.reduceLT, Nat.reduceSub, Nat.reduceAdd, cell_s1, cell_s2, cell_s3, cell_s4, cell_s5, cell_int, a1, a2, len_keys, Mem.cds, List.cons_append, List.nil_append, Bool.not_eq_true', Bool.not_eq_false'] at h7
                refine den_ite (fun h8 => ?_) (fun h8 => ?_)
                · simp only [nrm, X.den, Env.put, Env.pre, reduceIte, Nat.reduceLT, Nat.reduceSub, Nat.reduceAdd, cell_s1, cell_s2, cell_s3, cell_s4, cell_s5, cell_int, a1, a2, len_keys, Mem.cds, List.cons_append, List.nil_append, Bool.not_eq_true', Bool.not_eq_false'] at h8
                  refine den_fit (by simp only [nrm, X.den, Env.put, Env.pre, reduceIte, Nat.reduceLT, Nat.reduceSub, Nat.reduceAdd, len_slots, len_ints, len_keys, cell_s1, cell_s2, cell_s3, cell_s4, cell_s5, cell_int, a1, a2]; omega) ?_
                  refine den_ite (fun h9 => ?_) (fun h9 => ?_)
                  · simp only [nrm, X.den, Env.put, Env.pre, reduceIte, Nat.reduceLT, Nat.reduceSub, Nat.reduceAdd, cell_s1, cell_s2, cell_s3, cell_s4, cell_s5, cell_int, a1, a2, len_keys, Mem.cds, List.cons_append, List.nil_append, Bool.not_eq_true', Bool.not_eq_false'] at h9
                    refine den_calle d44 (endFrame f 5).cds rfl trivial (by simp only [nrm, X.den, Env.put, Env.pre, reduceIte, Nat.reduceLT, Nat.reduceSub, Nat.reduceAdd, Frm.cds, List.cons_append, List.nil_append]; exact fs44 f 5) ?_
                    refine den_ret ?_
                    first | (exfalso; omega) | skip
                    all_goals unfold lookStep
                    all_goals repeat (first | rw [if_neg (by omega)] | rw [if_pos (by omega)] | rw [if_pos (by assumption)] | rw [if_neg (by assumption)] | rw [if_neg (ne_true_of_eq_false (by assumption))] | rw [if_pos (Or.inl (by assumption))] | rw [if_pos (Or.inr (by assumption))] | rw [if_neg (fun y => Or.elim y (fun z => z (by assumption)) (fun z => Bool.false_ne_true (z.symm.trans (by assumption))))])
                    all_goals simp only [nrm, X.den, Env.put, Env.pre, reduceIte, Nat.reduceLT, Nat.reduceSub, Nat.reduceAdd, Mem.cds, Frm.cds, endFrame, List.cons_append, List.nil_append, CD.row, List.headD_cons, eH, app_key, Bool.false_eq_true, Bool.true_eq_false]
                  · simp only [nrm, X.den, Env.put, Env.pre, reduceIte, Nat.reduceLT, Nat.reduceSub, Nat.reduceAdd, cell_s1, cell_s2, cell_s3, cell_s4, cell_s5, cell_int, a1, a2, len_keys, Mem.cds, List.cons_append, List.nil_append, Bool.not_eq_true', Bool.not_eq_false'] at h9
                    refine den_ite (fun h10 => ?_) (fun h10 => ?_)
                    · simp only [nrm, X.den, Env.put, Env.pre, reduceIte, Nat.reduceLT, Nat.reduceSub, Nat.reduceAdd, cell_s1, cell_s2, cell_s3, cell_s4, cell_s5, cell_int, a1, a2, len_keys, Mem.cds, List.cons_append, List.nil_append, Bool.not_eq_true', Bool.not_eq_false'] at h10
                      refine den_ret ?_
                      first | (exfalso; omega) | skip
                      all_goals unfold lookStep
                      all_goals repeat (first | rw [if_neg (by omega)] | rw [if_pos (by omega)] | rw [if_pos (by assumption)] | rw [if_neg (by assumption)] | rw [if_neg (ne_true_of_eq_false (by assumption))] | rw [if_pos (Or.inl (by assumption))] | rw [if_pos (Or.inr (by assumption))] | rw [if_neg (fun y => Or.elim y (fun z => z (by assumption)) (fun z => Bool.false_ne_true (z.symm.trans (by assumption))))])
                      all_goals simp only [nrm, X.den, Env.put, Env.pre, reduceIte, Nat.reduceLT, Nat.reduceSub, Nat.reduceAdd, Mem.cds, Frm.cds, endFrame, List.cons_append, List.nil_append, CD.row, List.headD_cons, eH, app_key, Bool.false_eq_true, Bool.true_eq_false]
                    · simp only [nrm, X.den, Env.put, Env.pre, reduceIte, Nat.reduceLT, Nat.reduceSub, Nat.reduceAdd, cell_s1, cell_s2, cell_s3, cell_s4, cell_s5, cell_int, a1, a2, len_keys, Mem.cds, List.cons_append, List.nil_append, Bool.not_eq_true', Bool.not_eq_false'] at h10
                      refine den_fit (by simp only [nrm, X.den, Env.put, Env.pre, reduceIte, Nat.reduceLT, Nat.reduceSub, Nat.reduceAdd, len_slots, len_ints, len_keys, cell_s1, cell_s2, cell_s3, cell_s4, cell_s5, cell_int, a1, a2]; omega) ?_
                      refine den_le (by simp only [nrm, X.den, Env.put, Env.pre, reduceIte, Nat.reduceLT, Nat.reduceSub, Nat.reduceAdd, len_slots, len_ints, len_keys, cell_s1, cell_s2, cell_s3, cell_s4, cell_s5, cell_int, a1, a2]; omega) ?_
                      refine den_lt (by simp only [nrm, X.den, Env.put, Env.pre, reduceIte, Nat.reduceLT, Nat.reduceSub, Nat.reduceAdd, len_slots, len_ints, len_keys, cell_s1, cell_s2, cell_s3, cell_s4, cell_s5, cell_int, a1, a2]; omega) ?_
                      refine den_ite (fun h11 => ?_) (fun h11 => ?_)
                      · simp only [nrm, X.den, Env.put, Env.pre, reduceIte, Nat.reduceLT, Nat.reduceSub, Nat.reduceAdd, cell_s1, cell_s2, cell_s3, cell_s4, cell_s5, cell_int, a1, a2, len_keys, Mem.cds, List.cons_append, List.nil_append, Bool.not_eq_true', Bool.not_eq_false'] at h11
                        replace h11 := key_t h11
                        refine den_ret ?_
                        first | (exfalso; omega) | skip
                        all_goals unfold lookStep
                        all_goals repeat (first | rw [if_neg (by omega)] | rw [if_pos (by omega)] | rw [if_pos (by assumption)] | rw [if_neg (by assumption)] | rw [if_neg (ne_true_of_eq_false (by assumption))] | rw [if_pos (Or.inl (by assumption))] | rw [if_pos (Or.inr (by assumption))] | rw [if_neg (fun y => Or.elim y (fun z => z (by assumption)) (fun z => Bool.false_ne_true (z.symm.trans (by assumption))))])
                        all_goals simp only [nrm, X.den, Env.put, Env.pre, reduceIte, Nat.reduceLT, Nat.reduceSub, Nat.reduceAdd, Mem.cds, Frm.cds, endFrame, List.cons_append, List.nil_append, CD.row, List.headD_cons, eH, app_key, Bool.false_eq_true, Bool.true_eq_false]
                      · simp only [nrm, X.den, Env.put, Env.pre, reduceIte, Nat.reduceLT, Nat.reduceSub, Nat.reduceAdd, cell_s1, cell_s2, cell_s3, cell_s4, cell_s5, cell_int, a1, a2, len_keys, Mem.cds, List.cons_append, List.nil_append, Bool.not_eq_true', Bool.not_eq_false'] at h11
                        replace h11 := key_f h11
                        refine den_ret ?_
                        first | (exfalso; omega) | skip
                        all_goals unfold lookStep
                        all_goals repeat (first | rw [if_neg (by omega)] | rw [if_pos (by omega)] | rw [if_pos (by assumption)] | rw [if_neg (by assumption)] | rw [if_neg (ne_true_of_eq_false (by assumption))] | rw [if_pos (Or.inl (by assumption))] | rw [if_pos (Or.inr (by assumption))] | rw [if_neg (fun y => Or.elim y (fun z => z (by assumption)) (fun z => Bool.false_ne_true (z.symm.trans (by assumption))))])
                        all_goals simp only [nrm, X.den, Env.put, Env.pre, reduceIte, Nat.reduceLT, Nat.reduceSub, Nat.reduceAdd, Mem.cds, Frm.cds, endFrame, List.cons_append, List.nil_append, CD.row, List.headD_cons, eH, app_key, Bool.false_eq_true, Bool.true_eq_false]
                · simp only [nrm, X.den, Env.put, Env.pre, reduceIte, Nat.reduceLT, Nat.reduceSub, Nat.reduceAdd, cell_s1, cell_s2, cell_s3, cell_s4, cell_s5, cell_int, a1, a2, len_keys, Mem.cds, List.cons_append, List.nil_append, Bool.not_eq_true', Bool.not_eq_false'] at h8
                  refine den_ret ?_
                  first | (exfalso; omega) | skip
                  all_goals unfold lookStep
                  all_goals repeat (first | rw [if_neg (by omega)] | rw [if_pos (by omega)] | rw [if_pos (by assumption)] | rw [if_neg (by assumption)] | rw [if_neg (ne_true_of_eq_false (by assumption))] | rw [if_pos (Or.inl (by assumption))] | rw [if_pos (Or.inr (by assumption))] | rw [if_neg (fun y => Or.elim y (fun z => z (by assumption)) (fun z => Bool.false_ne_true (z.symm.trans (by assumption))))])
                  all_goals simp only [nrm, X.den, Env.put, Env.pre, reduceIte, Nat.reduceLT, Nat.reduceSub, Nat.reduceAdd, Mem.cds, Frm.cds, endFrame, List.cons_append, List.nil_append, CD.row, List.headD_cons, eH, app_key, Bool.false_eq_true, Bool.true_eq_false]
def s102 : Sig := ⟨[.ptr [.own 52 kS, .own 3 kI, .own 3 kI, .own 3 kI, .int .i64], .agg [.int .i64, .int .i64, .int .i64, .int .i64, .int .i64, .int .i64, .int .i64, .int .i64, .int .i64, .int .i64, .int .i64, .fz kK, .bool, .int .i64]], [.agg [.int .i64, .int .i64, .int .i64, .int .i64, .int .i64, .int .i64, .int .i64, .int .i64, .int .i64, .int .i64, .int .i64, .fz kK, .bool, .int .i64]]⟩
def d102 : DC := ⟨s102, fun l => MemIn (Mem.of l) ∧ FrmOk (Mem.of l) (Frm.of (l.drop 5)) ∧ (Frm.of (l.drop 5)).c.kind = 1, fun l => (lookStep (Mem.of l) (Frm.of (l.drop 5))).2.cds ++ (lookStep (Mem.of l) (Frm.of (l.drop 5))).1.cds⟩
theorem fn102 (m : Mem) (f : Frm) : d102.fn [slotsD m.slots, intsD m.heads, intsD m.free, intsD m.locks, .i m.now, .i f.c.kind, .i f.c.k.a, .i f.c.k.b, .i f.c.time, .i f.c.bucket, .i f.c.slot, .i f.pc, .i f.cur, .i f.prev, .i f.slot, .i f.n, keysD f.keys, .b f.done, .i f.e] = (lookStep m f).2.cds ++ (lookStep m f).1.cds := by
  simp only [d102, mem_of, mem_eta, List.drop_succ_cons, List.drop_zero, frm_of]
theorem pi102 {m : Mem} {f : Frm} (hm : MemIn m) (hf : FrmOk m f) (hk : f.c.kind = 1) : d102.pre [slotsD m.slots, intsD m.heads, intsD m.free, intsD m.locks, .i m.now, .i f.c.kind, .i f.c.k.a, .i f.c.k.b, .i f.c.time, .i f.c.bucket, .i f.c.slot, .i f.pc, .i f.cur, .i f.prev, .i f.slot, .i f.n, keysD f.keys, .b f.done, .i f.e] := by
  simp only [d102, mem_of, mem_eta, List.drop_succ_cons, List.drop_zero, frm_of]
  exact ⟨hm, hf, hk⟩
def l102 : List (Nat × Ct) := [(49, d49.ct), (67, d67.ct), (68, d68.ct)]
noncomputable def z102 : Cx := { T := ttA, C := sigs l102, F := [(182, Try.f182), (183, Try.f183), (184, Try.f184)], hints := [], sig := s102 }
def t102 : Tree :=
 (.call 49 [.var 0, .var 1, .var 2, .var 3, .var 4, .var 5, .var 6, .var 7, .var 8, .var 9, .var 10] 19
 (.ite (.eq (.var 11) (.int 0))
  (.need (.le (.int 0) (.var 19))
  (.need (.lt (.var 19) (.len (.var 1)))
  (.ret [.var 0, .var 1, .var 2, .var 3, .var 4, .var 5, .var 6, .var 7, .var 8, .var 9, .var 10, .int 1, .cell (.var 1) (.var 19) 0, .var 13, .var 14, .var 15, .var 16, .var 17, .var 18])))
  (.ite (.eq (.var 11) (.int 1))
   (.ite (.lt (.int 0) (.var 12))
    (.need (.fit (.sub (.var 12) (.int 1)))
    (.need (.le (.int 0) (.sub (.var 12) (.int 1)))
    (.need (.lt (.sub (.var 12) (.int 1)) (.len (.var 0)))
    (.ite (.and (.eq (.cell (.var 0) (.sub (.var 12) (.int 1)) 1) (.var 6)) (.and (.eq (.cell (.var 0) (.sub (.var 12) (.int 1)) 2) (.var 7)) (.bool true)))
     (.ret [.var 0, .var 1, .var 2, .var 3, .var 4, .var 5, .var 6, .var 7, .var 8, .var 9, .var 10, .int 3, .var 12, .var 13, .var 14, .var 15, .var 16, .var 17, .var 18])
     (.ret [.var 0, .var 1, .var 2, .var 3, .var 4, .var 5, .var 6, .var 7, .var 8, .var 9, .var 10, .int 2, .var 12, .var 13, .var 14, .var 15, .var 16, .var 17, .var 18])))))
    (.need (.fit (.add (.var 19) (.int 1)))
    (.need (.fit (.sub (.int 0) (.add (.var 19) (.int 1))))
    (.ite (.eq (.var 12) (.sub (.int 0) (.add (.var 19) (.int 1))))
     (.ret [.var 0, .var 1, .var 2, .var 3, .var 4, .var 5, .var 6, .var 7, .var 8, .var 9, .var 10, .var 11, .var 12, .var 13, .var 14, .var 15, .var 16, .bool true, .int 5])
     (.ret [.var 0, .var 1, .var 2, .var 3, .var 4, .var 5, .var 6, .var 7, .var 8, .var 9, .var 10, .int 0, .var 12, .var 13, .var 14, .var 15, .var 16, .var 17, .var 18])))))
   (.ite (.eq (.var 11) (.int 2))
    (.ite (.lt (.int 0) (.var 12))
     (.need (.fit (.sub (.var 12) (.int 1)))
     (.need (.le (.int 0) (.sub (.var 12) (.int 1)))
     (.need (.lt (.sub (.var 12) (.int 1)) (.len (.var 0)))
     (.ret [.var 0, .var 1, .var 2, .var 3, .var 4, .var 5, .var 6, .var 7, .var 8, .var 9, .var 10, .int 1, .cell (.var 0) (.sub (.var 12) (.int 1)) 5, .var 13, .var 14, .var 15, .var 16, .var 17, .var 18]))))
     (.ret [.var 0, .var 1, .var 2, .var 3, .var 4, .var 5, .var 6, .var 7, .var 8, .var 9, .var 10, .int 0, .var 12, .var 13, .var 14, .var 15, .var 16, .var 17, .var 18]))
    (.ite (.eq (.var 11) (.int 3))
     (.ite (.lt (.int 0) (.var 12))
      (.need (.fit (.sub (.var 12) (.int 1)))
      (.call 67 [.var 0, .var 1, .var 2, .var 3, .var 4, .sub (.var 12) (.int 1)] 20
      (.ite (.not (.var 25))
       (.ret [.var 20, .var 21, .var 22, .var 23, .var 24, .var 5, .var 6, .var 7, .var 8, .var 9, .var 10, .int 0, .var 12, .var 13, .var 14, .var 15, .var 16, .var 17, .var 18])
       (.ret [.var 20, .var 21, .var 22, .var 23, .var 24, .var 5, .var 6, .var 7, .var 8, .var 9, .var 10, .int 4, .var 12, .var 13, .sub (.var 12) (.int 1), .var 15, .var 16, .var 17, .var 18]))))
      (.ret [.var 0, .var 1, .var 2, .var 3, .var 4, .var 5, .var 6, .var 7, .var 8, .var 9, .var 10, .int 0, .var 12, .var 13, .var 14, .var 15, .var 16, .var 17, .var 18]))
     (.ite (.eq (.var 11) (.int 4))
      (.ite (.le (.int 0) (.var 14))
       (.need (.lt (.var 14) (.len (.var 0)))
       (.ite (.not (.cell (.var 0) (.var 14) 4))
        (.ret [.var 0, .var 1, .var 2, .var 3, .var 4, .var 5, .var 6, .var 7, .var 8, .var 9, .var 10, .int 5, .var 12, .var 13, .var 14, .var 15, .var 16, .var 17, .var 18])
        (.ite (.not (.and (.eq (.cell (.var 0) (.var 14) 1) (.var 6)) (.and (.eq (.cell (.var 0) (.var 14) 2) (.var 7)) (.bool true))))
         (.ret [.var 0, .var 1, .var 2, .var 3, .var 4, .var 5, .var 6, .var 7, .var 8, .var 9, .var 10, .int 5, .var 12, .var 13, .var 14, .var 15, .var 16, .var 17, .var 18])
         (.ite (.lt (.var 4) (.cell (.var 0) (.var 14) 3))
          (.ret [.var 0, .var 1, .var 2, .var 3, .var 4, .var 5, .var 6, .var 7, .var 8, .var 9, .var 10, .var 11, .var 12, .var 13, .var 14, .var 15, .var 16, .bool true, .int 0])
          (.ret [.var 0, .var 1, .var 2, .var 3, .var 4, .var 5, .var 6, .var 7, .var 8, .var 9, .var 10, .int 6, .var 12, .var 13, .var 14, .var 15, .var 16, .var 17, .var 18])))))
       (.ret [.var 0, .var 1, .var 2, .var 3, .var 4, .var 5, .var 6, .var 7, .var 8, .var 9, .var 10, .int 0, .var 12, .var 13, .var 14, .var 15, .var 16, .var 17, .var 18]))
      (.ite (.eq (.var 11) (.int 5))
       (.ite (.le (.int 0) (.var 14))
        (.call 68 [.var 0, .var 1, .var 2, .var 3, .var 4, .var 14] 20
        (.ret [.var 20, .var 21, .var 22, .var 23, .var 24, .var 5, .var 6, .var 7, .var 8, .var 9, .var 10, .int 0, .var 12, .var 13, .int (-1), .var 15, .var 16, .var 17, .var 18]))
        (.ret [.var 0, .var 1, .var 2, .var 3, .var 4, .var 5, .var 6, .var 7, .var 8, .var 9, .var 10, .int 0, .var 12, .var 13, .var 14, .var 15, .var 16, .var 17, .var 18]))
       (.ite (.eq (.var 11) (.int 6))
        (.ite (.le (.int 0) (.var 14))
         (.call 68 [.var 0, .var 1, .var 2, .var 3, .var 4, .var 14] 20
         (.ret [.var 20, .var 21, .var 22, .var 23, .var 24, .var 5, .var 6, .var 7, .var 8, .var 9, .var 10, .var 11, .var 12, .var 13, .int (-1), .var 15, .var 16, .bool true, .int 5]))
         (.ret [.var 0, .var 1, .var 2, .var 3, .var 4, .var 5, .var 6, .var 7, .var 8, .var 9, .var 10, .int 0, .var 12, .var 13, .var 14, .var 15, .var 16, .var 17, .var 18]))
        (.ret [.var 0, .var 1, .var 2, .var 3, .var 4, .var 5, .var 6, .var 7, .var 8, .var 9, .var 10, .int 0, .var 12, .var 13, .var 14, .var 15, .var 16, .var 17, .var 18])))))))))
theorem run102 : run z102 6000 [.code (Try.f102.body.getD .skip), .fin (topRet z102 Try.f102.results.toList 50)] { fn := 102, tmps := z102.sig.args0 ++ List.replicate (Try.f102.ntmps - z102.sig.args0.length) (.v (.one .undef)), stk := [], h := z102.sig.h0, nx := z102.sig.ins.length, known := [] } = t102 := by kernel_rfl
theorem ok102 : CtOk Try.prog 102 d102.ct := by
  refine dc_of_tree (d := d102) (Z := z102) (Γ := gam l102) (fn := Try.f102) (c := Try.f102.body.getD .skip) (told_of tok mixed (all_cons ok49 (all_cons ok67 (all_cons ok68 all_nil))) (fok_cons (c := Try.f182.body.getD .skip) Try.func182 (by kernel_rfl) (by kernel_rfl) (fok_cons (c := Try.f183.body.getD .skip) Try.func183 (by kernel_rfl) (by kernel_rfl) (fok_cons (c := Try.f184.body.getD .skip) Try.func184 (by kernel_rfl) (by kernel_rfl) fok_nil)))) Try.func102 (by kernel_rfl) (by kernel_rfl) rfl run102 fun E hk hp => ?_
  obtain ⟨hk0, hk1, hk2, hk3, hk4, hk5, hk6, hk7, hk8, hk9, hk10, hk11, hk12, hk13, hk14, hk15, hk16, hk17, hk18, _⟩ := hk
  obtain ⟨m, e0, e1, e2, e3, e4, b0, b1, b2, b3⟩ := ok_mem (d0 := E 0) (d1 := E 1) (d2 := E 2) (d3 := E 3) (d4 := E 4) hk0 hk1 hk2 hk3 hk4
  obtain ⟨f, e5, e6, e7, e8, e9, e10, e11, e12, e13, e14, e15, e16, e17, e18, b16⟩ := ok_frame (d0 := E 5) (d1 := E 6) (d2 := E 7) (d3 := E 8) (d4 := E 9) (d5 := E 10) (d6 := E 11) (d7 := E 12) (d8 := E 13) (d9 := E 14) (d10 := E 15) (d11 := E 16) (d12 := E 17) (d13 := E 18) hk5 hk6 hk7 hk8 hk9 hk10 hk11 hk12 hk13 hk14 hk15 hk16 hk17 hk18
  have el : letters E d102.sig.ins.length = [slotsD m.slots, intsD m.heads, intsD m.free, intsD m.locks, .i m.now, .i f.c.kind, .i f.c.k.a, .i f.c.k.b, .i f.c.time, .i f.c.bucket, .i f.c.slot, .i f.pc, .i f.cur, .i f.prev, .i f.slot, .i f.n, keysD f.keys, .b f.done, .i f.e] := by
    show [E 0, E 1, E 2, E 3, E 4, E 5, E 6, E 7, E 8, E 9, E 10, E 11, E 12, E 13, E 14, E 15, E 16, E 17, E 18] = _
    rw [e0, e1, e2, e3, e4, e5, e6, e7, e8, e9, e10, e11, e12, e13, e14, e15, e16, e17, e18]
  rw [el] at hp
  rw [el]
  rw [Env.pre_eq el]
  clear el e0 e1 e2 e3 e4 e5 e6 e7 e8 e9 e10 e11 e12 e13 e14 e15 e16 e17 e18
  rw [fn102]
  simp only [d102, mem_of, mem_eta, List.drop_succ_cons, List.drop_zero, frm_of] at hp
  obtain ⟨hm, hf, hk⟩ : MemIn m ∧ FrmOk m f ∧ f.c.kind = 1 := hp
  have hb := bucketFor_range hm hf.call (by omega)
  have gs := hm.ns
  have g4 := hm.nh4
  have eH : ((intsD m.heads).rows.getD (bucketFor m f.c).toNat []).getD 0 .u = .i (headAt m (bucketFor m f.c)) := raw_int (by omega)
  obtain ⟨f1, f2, f3, f4, f5, f6, f7, f8, f9, f10, f11, f12, f13⟩ := id hf
  have eN : 0 < f.cur → ((slotsD m.slots).rows.getD (f.cur - 1).toNat []).getD 5 .u = .i (at1 m f).next := fun _ => raw_s5 (by omega)
  have eK1 : 0 < f.cur → ((slotsD m.slots).rows.getD (f.cur - 1).toNat []).getD 1 .u = .i (at1 m f).k.a := fun _ => raw_s1 (by omega)
  have eK2 : 0 < f.cur → ((slotsD m.slots).rows.getD (f.cur - 1).toNat []).getD 2 .u = .i (at1 m f).k.b := fun _ => raw_s2 (by omega)
  have a1 : m.slots.getD (f.cur - 1).toNat default = at1 m f := rfl
  have a2 : m.slots.getD f.slot.toNat default = at2 m f := rfl
  unfold t102
  refine den_calle d49 [.i (bucketFor m f.c)] rfl trivial (by simp only [nrm, X.den, Env.put, Env.pre, reduceIte, Nat.reduceLT, Nat.reduceSub, Nat.reduceAdd, fn49]) ?_
  refine den_ite (fun h1 => ?_) (fun h1 => ?_)
  · simp only [nrm, X.den, Env.put, Env.pre, reduceIte, Nat.reduceLT, Nat.reduceSub, Nat.reduceAdd, cell_s1, cell_s2, cell_s3, cell_s4, cell_s5, cell_int, a1, a2, len_keys, Mem.cds, List.cons_append, List.nil_append, Bool.not_eq_true', Bool.not_eq_false'] at h1
    refine den_le (by simp only [nrm, X.den, Env.put, Env.pre, reduceIte, Nat.reduceLT, Nat.reduceSub, Nat.reduceAdd, len_slots, len_ints, len_keys, cell_s1, cell_s2, cell_s3, cell_s4, cell_s5, cell_int, a1, a2]; omega) ?_
    refine den_lt (by simp only [nrm, X.den, Env.put, Env.pre, reduceIte, Nat.reduceLT, Nat.reduceSub, Nat.reduceAdd, len_slots, len_ints, len_keys, cell_s1, cell_s2, cell_s3, cell_s4, cell_s5, cell_int, a1, a2]; omega) ?_
    refine den_ret ?_
    first | (exfalso; omega) | skip
    all_goals unfold lookStep
    all_goals repeat (first | rw [if_neg (by omega)] | rw [if_pos (by omega)] | rw [if_pos (by assumption)] | rw [if_neg (by assumption)] | rw [if_neg (ne_true_of_eq_false (by assumption))] | rw [if_pos (Or.inl (by assumption))] | rw [if_pos (Or.inr (by assumption))] | rw [if_neg (fun y => Or.elim y (fun z => z (by assumption)) (fun z => Bool.false_ne_true (z.symm.trans (by assumption))))])
    all_goals simp only [nrm, X.den, Env.put, Env.pre, reduceIte, Nat.reduceLT, Nat.reduceSub, Nat.reduceAdd, Mem.cds, Frm.cds, endFrame, List.cons_append, List.nil_append, CD.row, List.headD_cons, eH, app_key, Bool.false_eq_true, Bool.true_eq_false]
  · simp only [nrm, X.den, Env.put, Env.pre, reduceIte, Nat.reduceLT, Nat.reduceSub, Nat.reduceAdd, cell_s1, cell_s2, cell_s3, cell_s4, cell_s5, cell_int, a1, a2, len_keys, Mem.cds, List.cons_append, List.nil_append, Bool.not_eq_true', Bool.not_eq_false'] at h1
    refine den_ite (fun h2 => ?_) (fun h2 => ?_)
    · simp only [nrm, X.den, Env.put, Env.pre, reduceIte, Nat.reduceLT, Nat.reduceSub, Nat.reduceAdd, cell_s1, cell_s2, cell_s3, cell_s4, cell_s5, cell_int, a1, a2, len_keys, Mem.cds, List.cons_append, List.nil_append, Bool.not_eq_true', Bool.not_eq_false'] at h2
      refine den_ite (fun h3 => ?_) (fun h3 => ?_)
      · simp only [nrm, X.den, Env.put, Env.pre, reduceIte, Nat.reduceLT, Nat.reduceSub, Nat.reduceAdd, cell_s1, cell_s2, cell_s3, cell_s4, cell_s5, cell_int, a1, a2, len_keys, Mem.cds, List.cons_append, List.nil_append, Bool.not_eq_true', Bool.not_eq_false'] at h3
        refine den_fit (by simp only [nrm, X.den, Env.put, Env.pre, reduceIte, Nat.reduceLT, Nat.reduceSub, Nat.reduceAdd, len_slots, len_ints, len_keys, cell_s1, cell_s2, cell_s3, cell_s4, cell_s5, cell_int, a1, a2]; omega) ?_
        refine den_le (by simp only [nrm, X.den, Env.put, Env.pre, reduceIte, Nat.reduceLT, Nat.reduceSub, Nat.reduceAdd, len_slots, len_ints, len_keys, cell_s1, cell_s2, cell_s3, cell_s4, cell_s5, cell_int, a1, a2]; omega) ?_
        refine den_lt (by simp only [nrm, X.den, Env.put, Env.pre, reduceIte, Nat.reduceLT, Nat.reduceSub, Nat.reduceAdd, len_slots, len_ints, len_keys, cell_s1, cell_s2, cell_s3, cell_s4, cell_s5, cell_int, a1, a2]; omega) ?_
        refine den_ite (fun h4 => ?_) (fun h4 => ?_)
        · simp only [nrm, X.den, Env.put, Env.pre, reduceIte, Nat.reduceLT, Nat.reduceSub, Nat.reduceAdd, cell_s1, cell_s2, cell_s3, cell_s4, cell_s5, cell_int, a1, a2, len_keys, Mem.cds, List.cons_append, List.nil_append, Bool.not_eq_true', Bool.not_eq_false'] at h4
          replace h4 := key_t h4
          refine den_ret ?_
          first | (exfalso; omega) | skip
          all_goals unfold lookStep
          all_goals repeat (first | rw [if_neg (by omega)] | rw [if_pos (by omega)] | rw [if_pos (by assumption)] | rw [if_neg (by assumption)] | rw [if_neg (ne_true_of_eq_false (by assumption))] | rw [if_pos (Or.inl (by assumption))] | rw [if_pos (Or.inr (by assumption))] | rw [if_neg (fun y => Or.elim y (fun z => z (by assumption)) (fun z => Bool.false_ne_true (z.symm.trans (by assumption))))])
          all_goals simp only [nrm, X.den, Env.put, Env.pre, reduceIte, Nat.reduceLT, Nat.reduceSub, Nat.reduceAdd, Mem.cds, Frm.cds, endFrame, List.cons_append, List.nil_append, CD.row, List.headD_cons, eH, app_key, Bool.false_eq_true, Bool.true_eq_false]
        · simp only [nrm, X.den, Env.put, Env.pre, reduceIte, Nat.reduceLT, Nat.reduceSub, Nat.reduceAdd, cell_s1, cell_s2, cell_s3, cell_s4, cell_s5, cell_int, a1, a2, len_keys, Mem.cds, List.cons_append, List.nil_append, Bool.not_eq_true', Bool.not_eq_false'] at h4
          replace h4 := key_f h4
          refine den_ret ?_
          first | (exfalso; omega) | skip
          all_goals unfold lookStep
          all_goals repeat (first | rw [if_neg (by omega)] | rw [if_pos (by omega)] | rw [if_pos (by assumption)] | rw [if_neg (by assumption)] | rw [if_neg (ne_true_of_eq_false (by assumption))] | rw [if_pos (Or.inl (by assumption))] | rw [if_pos (Or.inr (by assumption))] | rw [if_neg (fun y => Or.elim y (fun z => z (by assumption)) (fun z => Bool.false_ne_true (z.symm.trans (by assumption))))])
          all_goals simp only [nrm, X.den, Env.put, Env.pre, reduceIte, Nat.reduceLT, Nat.reduceSub, Nat.reduceAdd, Mem.cds, Frm.cds, endFrame, List.cons_append, List.nil_append, CD.row, List.headD_cons, eH, app_key, Bool.false_eq_true, Bool.true_eq_false]
      · simp only [nrm, X.den, Env.put, Env.pre, reduceIte, Nat.reduceLT, Nat.reduceSub, Nat.reduceAdd, cell_s1, cell_s2, cell_s3, cell_s4, cell_s5, cell_int, a1, a2, len_keys, Mem.cds, List.cons_append, List.nil_append, Bool.not_eq_true', Bool.not_eq_false'] at h3
        refine den_fit (by simp only [nrm, X.den, Env.put, Env.pre, reduceIte, Nat.reduceLT, Nat.reduceSub, Nat.reduceAdd, len_slots, len_ints, len_keys, cell_s1, cell_s2, cell_s3, cell_s4, cell_s5, cell_int, a1, a2]; omega) ?_
        refine den_fit (by simp only [nrm, X.den, Env.put, Env.pre, reduceIte, Nat.reduceLT, Nat.reduceSub, Nat.reduceAdd, len_slots, len_ints, len_keys, cell_s1, cell_s2, cell_s3, cell_s4, cell_s5, cell_int, a1, a2]; omega) ?_
        refine den_ite (fun h4 => ?_) (fun h4 => ?_)
        · simp only [nrm, X.den, Env.put, Env.pre, reduceIte, Nat.reduceLT, Nat.reduceSub, Nat.reduceAdd, cell_s1, cell_s2, cell_s3, cell_s4, cell_s5, cell_int, a1, a2, len_keys, Mem.cds, List.cons_append, List.nil_append, Bool.not_eq_true', Bool.not_eq_false'] at h4
          refine den_ret ?_
          first | (exfalso; omega) | skip
          all_goals unfold lookStep
          all_goals repeat (first | rw [if_neg (by omega)] | rw [if_pos (by omega)] | rw [if_pos (by assumption)] | rw [if_neg (by assumption)] | rw [if_neg (ne_true_of_eq_false (by assumption))] | rw [if_pos (Or.inl (by assumption))] | rw [if_pos (Or.inr (by assumption))] | rw [if_neg (fun y => Or.elim y (fun z => z (by assumption)) (fun z => Bool.false_ne_true (z.symm.trans (by assumption))))])
          all_goals simp only [nrm, X.den, Env.put, Env.pre, reduceIte, Nat.reduceLT, Nat.reduceSub, Nat.reduceAdd, Mem.cds, Frm.cds, endFrame, List.cons_append, List.nil_append, CD.row, List.headD_cons, eH, app_key, Bool.false_eq_true, Bool.true_eq_false]
        · simp only [nrm, X.den, Env.put, Env.pre, reduceIte, Nat.reduceLT, Nat.reduceSub, Nat.reduceAdd, cell_s1, cell_s2, cell_s3, cell_s4, cell_s5, cell_int, a1, a2, len_keys, Mem.cds, List.cons_append, List.nil_append, Bool.not_eq_true', Bool.not_eq_false'] at h4
          refine den_ret ?_
          first | (exfalso; omega) | skip
          all_goals unfold lookStep
          all_goals repeat (first | rw [if_neg (by omega)] | rw [if_pos (by omega)] | rw [if_pos (by assumption)] | rw [if_neg (by assumption)] | rw [if_neg (ne_true_of_eq_false (by assumption))] | rw [if_pos (Or.inl (by assumption))] | rw [if_pos (Or.inr (by assumption))] | rw [if_neg (fun y => Or.elim y (fun z => z (by assumption)) (fun z => Bool.false_ne_true (z.symm.trans (by assumption))))])
          all_goals simp only [nrm, X.den, Env.put, Env.pre, reduceIte, Nat.reduceLT, Nat.reduceSub, Nat.reduceAdd, Mem.cds, Frm.cds, endFrame, List.cons_append, List.nil_append, CD.row, List.headD_cons, eH, app_key, Bool.false_eq_true, Bool.true_eq_false]
    · simp only [nrm, X.den, Env.put, Env.pre, reduceIte, Nat.reduceLT, Nat.reduceSub, Nat.reduceAdd, cell_s1, cell_s2, cell_s3, cell_s4, cell_s5, cell_int, a1, a2, len_keys, Mem.cds, List.cons_append, List.nil_append, Bool.not_eq_true', Bool.not_eq_false'] at h2
      refine den_ite (fun h3 => ?_) (fun h3 => ?_)
      · simp only [nrm, X.den, Env.put, Env.pre, reduceIte, Nat.reduceLT, Nat.reduceSub, Nat.reduceAdd, cell_s1, cell_s2, cell_s3, cell_s4, cell_s5, cell_int, a1, a2, len_keys, Mem.cds, List.cons_append, List.nil_append, Bool.not_eq_true', Bool.not_eq_false'] at h3
        refine den_ite (fun h4 => ?_) (fun h4 => ?_)
        · simp only [nrm, X.den, Env.put, Env.pre, reduceIte, Nat.reduceLT, Nat.reduceSub, Nat.reduceAdd, cell_s1, cell_s2, cell_s3, cell_s4, cell_s5, cell_int, a1, a2, len_keys, Mem.cds, List.cons_append, List.nil_append, Bool.not_eq_true', Bool.not_eq_false'] at h4
          refine den_fit (by simp only [nrm, X.den, Env.put, Env.pre, reduceIte, Nat.reduceLT, Nat.reduceSub, Nat.reduceAdd, len_slots, len_ints, len_keys, cell_s1, cell_s2, cell_s3, cell_s4, cell_s5, cell_int, a1, a2]; omega) ?_
          refine den_le (by simp only [nrm, X.den, Env.put, Env.pre, reduceIte, Nat.reduceLT, Nat.reduceSub, Nat.reduceAdd, len_slots, len_ints, len_keys, cell_s1, cell_s2, cell_s3, cell_s4, cell_s5, cell_int, a1, a2]; omega) ?_
          refine den_lt (by simp only [nrm, X.den, Env.put, Env.pre, reduceIte, Nat.reduceLT, Nat.reduceSub, Nat.reduceAdd, len_slots, len_ints, len_keys, cell_s1, cell_s2, cell_s3, cell_s4, cell_s5, cell_int, a1, a2]; omega) ?_
          refine den_ret ?_
          first | (exfalso; omega) | skip
          all_goals unfold lookStep
          all_goals repeat (first | rw [if_neg (by omega)] | rw [if_pos (by omega)] | rw [if_pos (by assumption)] | rw [if_neg (by assumption)] | rw [if_neg (ne_true_of_eq_false (by assumption))] | rw [if_pos (Or.inl (by assumption))] | rw [if_pos (Or.inr (by assumption))] | rw [if_neg (fun y => Or.elim y (fun z => z (by assumption)) (fun z => Bool.false_ne_true (z.symm.trans (by assumption))))])
          all_goals simp only [nrm, X.den, Env.put, Env.pre, reduceIte, Nat.reduceLT, Nat.reduceSub, Nat.reduceAdd, Mem.cds, Frm.cds, endFrame, List.cons_append, List.nil_append, CD.row, List.headD_cons, eH, app_key, Bool.false_eq_true, Bool.true_eq_false, eN (by omega), eK1 (by omega), eK2 (by omega)]
        · simp only [nrm, X.den, Env.put, Env.pre, reduceIte, Nat.reduceLT, Nat.reduceSub, Nat.reduceAdd, cell_s1, cell_s2, cell_s3, cell_s4, cell_s5, cell_int, a1, a2, len_keys, Mem.cds, List.cons_append, List.nil_append, Bool.not_eq_true', Bool.not_eq_false'] at h4
          refine den_ret ?_
          first | (exfalso; omega) | skip
          all_goals unfold lookStep
          all_goals repeat (first | rw [if_neg (by omega)] | rw [if_pos (by omega)] | rw [if_pos (by assumption)] | rw [if_neg (by assumption)] | rw [if_neg (ne_true_of_eq_false (by assumption))] | rw [if_pos (Or.inl (by assumption))] | rw [if_pos (Or.inr (by assumption))] | rw [if_neg (fun y => Or.elim y (fun z => z (by assumption)) (fun z => Bool.false_ne_true (z.symm.trans (by assumption))))])
          all_goals simp only [nrm, X.den, Env.put, Env.pre, reduceIte, Nat.reduceLT, Nat.reduceSub, Nat.reduceAdd, Mem.cds, Frm.cds, endFrame, List.cons_append, List.nil_append, CD.row, List.headD_cons, eH, app_key, Bool.false_eq_true, Bool.true_eq_false]
      · simp only [nrm, X.den, Env.put, Env.pre, reduceIte, Nat.reduceLT, Nat.reduceSub, Nat.reduceAdd, cell_s1, cell_s2, cell_s3, cell_s4, cell_s5, cell_int, a1, a2, len_keys, Mem.cds, List.cons_append, List.nil_append, Bool.not_eq_true', Bool.not_eq_false'] at h3
        refine den_ite (fun h4 => ?_) (fun h4 => ?_)
        · simp only [nrm, X.den, Env.put, Env.pre, reduceIte, Nat.reduceLT, Nat.reduceSub, Nat.reduceAdd, cell_s1, cell_s2, cell_s3, cell_s4, cell_s5, cell_int, a1, a2, len_keys, Mem.cds, List.cons_append, List.nil_append, Bool.not_eq_true', Bool.not_eq_false'] at h4
          refine den_ite (fun h5 => ?_) (fun h5 => ?_)
          · simp only [nrm, X.den, Env.put, Env.pre, reduceIte, Nat.reduceLT, Nat.reduceSub, Nat.reduceAdd, cell_s1, cell_s2, cell_s3, cell_s4, cell_s5, cell_int, a1, a2, len_keys, Mem.cds, List.cons_append, List.nil_append, Bool.not_eq_true', Bool.not_eq_false'] at h5
            refine den_fit (by simp only [nrm, X.den, Env.put, Env.pre, reduceIte, Nat.reduceLT, Nat.reduceSub, Nat.reduceAdd, len_slots, len_ints, len_keys, cell_s1, cell_s2, cell_s3, cell_s4, cell_s5, cell_int, a1, a2]; omega) ?_
            refine den_calle d67 ((hold m (f.cur - 1)).1.cds ++ [.b (hold m (f.cur - 1)).2]) rfl (by simp only [nrm, X.den, Env.put, Env.pre, reduceIte, Nat.reduceLT, Nat.reduceSub, Nat.reduceAdd]; exact pi67 hm (by omega) (by omega)) (by simp only [nrm, X.den, Env.put, Env.pre, reduceIte, Nat.reduceLT, Nat.reduceSub, Nat.reduceAdd, fn67]) ?_
            refine den_ite (fun h6 => ?_) (fun h6 => ?_)
            · simp only [nrm, X.den, Env.put, Env.pre, reduceIte, Nat.reduceLT, Nat.reduceSub, Nat.reduceAdd, cell_s1, cell_s2, cell_s3, cell_s4, cell_s5, cell_int, a1, a2, len_keys, Mem.cds, List.cons_append, List.nil_append, Bool.not_eq_true', Bool.not_eq_false'] at h6
              refine den_ret ?_
              try rw [hold_no h6]
              try rw [lock_no h6]
              first | (exfalso; omega) | skip
              all_goals unfold lookStep
              all_goals repeat (first | rw [if_neg (by omega)] | rw [if_pos (by omega)] | rw [if_pos (by assumption)] | rw [if_neg (by assumption)] | rw [if_neg (ne_true_of_eq_false (by assumption))] | rw [if_pos (Or.inl (by assumption))] | rw [if_pos (Or.inr (by assumption))] | rw [if_neg (fun y => Or.elim y (fun z => z (by assumption)) (fun z => Bool.false_ne_true (z.symm.trans (by assumption))))])
              all_goals simp only [nrm, X.den, Env.put, Env.pre, reduceIte, Nat.reduceLT, Nat.reduceSub, Nat.reduceAdd, Mem.cds, Frm.cds, endFrame, List.cons_append, List.nil_append, CD.row, List.headD_cons, eH, app_key, Bool.false_eq_true, Bool.true_eq_false, h6]
            · simp only [nrm, X.den, Env.put, Env.pre, reduceIte, Nat.reduceLT, Nat.reduceSub, Nat.reduceAdd, cell_s1, cell_s2, cell_s3, cell_s4, cell_s5, cell_int, a1, a2, len_keys, Mem.cds, List.cons_append, List.nil_append, Bool.not_eq_true', Bool.not_eq_false'] at h6
              refine den_ret ?_
              try rw [hold_no h6]
              try rw [lock_no h6]
              first | (exfalso; omega) | skip
              all_goals unfold lookStep
              all_goals repeat (first | rw [if_neg (by omega)] | rw [if_pos (by omega)] | rw [if_pos (by assumption)] | rw [if_neg (by assumption)] | rw [if_neg (ne_true_of_eq_false (by assumption))] | rw [if_pos (Or.inl (by assumption))] | rw [if_pos (Or.inr (by assumption))] | rw [if_neg (fun y => Or.elim y (fun z => z (by assumption)) (fun z => Bool.false_ne_true (z.symm.trans (by assumption))))])
              all_goals simp only [nrm, X.den, Env.put, Env.pre, reduceIte, Nat.reduceLT, Nat.reduceSub, Nat.reduceAdd, Mem.cds, Frm.cds, endFrame, List.cons_append, List.nil_append, CD.row, List.headD_cons, eH, app_key, Bool.false_eq_true, Bool.true_eq_false, h6]
          · simp only [nrm, X.den, Env.put, Env.pre, reduceIte, Nat.reduceLT, Nat.reduceSub, Nat.reduceAdd, cell_s1, cell_s2, cell_s3, cell_s4, cell_s5, cell_int, a1, a2, len_keys, Mem.cds, List.cons_append, List.nil_append, Bool.not_eq_true', Bool.not_eq_false'] at h5
            refine den_ret ?_
            first | (exfalso; omega) | skip
            all_goals unfold lookStep
            all_goals repeat (first | rw [if_neg (by omega)] | rw [if_pos (by omega)] | rw [if_pos (by assumption)] | rw [if_neg (by assumption)] | rw [if_neg (ne_true_of_eq_false (by assumption))] | rw [if_pos (Or.inl (by assumption))] | rw [if_pos (Or.inr (by assumption))] | rw [if_neg (fun y => Or.elim y (fun z => z (by assumption)) (fun z => Bool.false_ne_true (z.symm.trans (by assumption))))])
            all_goals simp only [nrm, X.den, Env.put, Env.pre, reduceIte, Nat.reduceLT, Nat.reduceSub, Nat.reduceAdd, Mem.cds, Frm.cds, endFrame, List.cons_append, List.nil_append, CD.row, List.headD_cons, eH, app_key, Bool.false_eq_true, Bool.true_eq_false]
        · simp only [nrm, X.den, Env.put, Env.pre, reduceIte, Nat.reduceLT, Nat.reduceSub, Nat.reduceAdd, cell_s1, cell_s2, cell_s3, cell_s4, cell_s5, cell_int, a1, a2, len_keys, Mem.cds, List.cons_append, List.nil_append, Bool.not_eq_true', Bool.not_eq_false'] at h4
          refine den_ite (fun h5 => ?_) (fun h5 => ?_)
          · simp only [nrm, X.den, Env.put, Env.pre, reduceIte, Nat.reduceLT, Nat.reduceSub, Nat.reduceAdd, cell_s1, cell_s2, cell_s3, cell_s4, cell_s5, cell_int, a1, a2, len_keys, Mem.cds, List.cons_append, List.nil_append, Bool.not_eq_true', Bool.not_eq_false'] at h5
            refine den_ite (fun h6 => ?_) (fun h6 => ?_)
            · simp only [nrm, X.den, Env.put, Env.pre, reduceIte, Nat.reduceLT, Nat.reduceSub, Nat.reduceAdd, cell_s1, cell_s2, cell_s3, cell_s4, cell_s5, cell_int, a1, a2, len_keys, Mem.cds, List.cons_append, List.nil_append, Bool.not_eq_true', Bool.not_eq_false'] at h6
              refine den_lt (by simp only [nrm, X.den, Env.put, Env.pre, reduceIte, Nat.reduceLT, Nat.reduceSub, Nat.reduceAdd, len_slots, len_ints, len_keys, cell_s1, cell_s2, cell_s3, cell_s4, cell_s5, cell_int, a1, a2]; omega) ?_
              refine den_ite (fun h7 => ?_) (fun h7 => ?_)
              · simp only [nrm, X.den, Env.put, Env.pre, reduceIte, Nat.reduceLT, Nat.reduceSub, Nat.reduceAdd, cell_s1, cell_s2, cell_s3, cell_s4, cell_s5, cell_int, a1, a2, len_keys, Mem.cds, List.cons_append, List.nil_append, Bool.not_eq_true', Bool.not_eq_false'] at h7
                refine den_ret ?_
                try rw [hold_no h7]
                try rw [lock_no h7]
                first | (exfalso; omega) | skip
                all_goals unfold lookStep
                all_goals repeat (first | rw [if_neg (by omega)] | rw [if_pos (by omega)] | rw [if_pos (by assumption)] | rw [if_neg (by assumption)] | rw [if_neg (ne_true_of_eq_false (by assumption))] | rw [if_pos (Or.inl (by assumption))] | rw [if_pos (Or.inr (by assumption))] | rw [if_neg (fun y => Or.elim y (fun z => z (by assumption)) (fun z => Bool.false_ne_true (z.symm.trans (by assumption))))])
                all_goals simp only [nrm, X.den, Env.put, Env.pre, reduceIte, Nat.reduceLT, Nat.reduceSub, Nat.reduceAdd, Mem.cds, Frm.cds, endFrame, List.cons_append, List.nil_append, CD.row, List.headD_cons, eH, app_key, Bool.false_eq_true, Bool.true_eq_false, h7]
              · simp only [nrm, X.den, Env.put, Env.pre, reduceIte, Nat.reduceLT, Nat.reduceSub, Nat.reduceAdd, cell_s1, cell_s2, cell_s3, cell_s4, cell_s5, cell_int, a1, a2, len_keys, Mem.cds, List.cons_append, List.nil_append, Bool.not_eq_true', Bool.not_eq_false'] at h7
                refine den_ite (fun h8 => ?_) (fun h8 => ?_)
                · simp only [nrm, X.den, Env.put, Env.pre, reduceIte, Nat.reduceLT, Nat.reduceSub, Nat.reduceAdd, cell_s1, cell_s2, cell_s3, cell_s4, cell_s5, cell_int, a1, a2, len_keys, Mem.cds, List.cons_append, List.nil_append, Bool.not_eq_true', Bool.not_eq_false'] at h8
                  replace h8 := key_f h8
                  refine den_ret ?_
                  try rw [hold_no h7]
                  try rw [lock_no h7]
                  first | (exfalso; omega) | skip
                  all_goals unfold lookStep
                  all_goals repeat (first | rw [if_neg (by omega)] | rw [if_pos (by omega)] | rw [if_pos (by assumption)] | rw [if_neg (by assumption)] | rw [if_neg (ne_true_of_eq_false (by assumption))] | rw [if_pos (Or.inl (by assumption))] | rw [if_pos (Or.inr (by assumption))] | rw [if_neg (fun y => Or.elim y (fun z => z (by assumption)) (fun z => Bool.false_ne_true (z.symm.trans (by assumption))))])
                  all_goals simp only [nrm, X.den, Env.put, Env.pre, reduceIte, Nat.reduceLT, Nat.reduceSub, Nat.reduceAdd, Mem.cds, Frm.cds, endFrame, List.cons_append, List.nil_append, CD.row, List.headD_cons, eH, app_key, Bool.false_eq_true, Bool.true_eq_false, h7]
                · simp only [nrm, X.den, Env.put, Env.pre, reduceIte, Nat.reduceLT, Nat.reduceSub, Nat.reduceAdd, cell_s1, cell_s2, cell_s3, cell_s4, cell_s5, cell_int, a1, a2, len_keys, Mem.cds, List.cons_append, List.nil_append, Bool.not_eq_true', Bool.not_eq_false'] at h8
                  replace h8 := key_t h8
                  refine den_ite (fun h9 => ?_) (fun h9 => ?_)
                  · simp only [nrm, X.den, Env.put, Env.pre, reduceIte, Nat.reduceLT, Nat.reduceSub, Nat.reduceAdd, cell_s1, cell_s2, cell_s3, cell_s4, cell_s5, cell_int, a1, a2, len_keys, Mem.cds, List.cons_append, List.nil_append, Bool.not_eq_true', Bool.not_eq_false'] at h9
                    refine den_ret ?_
                    try rw [hold_no h7]
                    try rw [lock_no h7]
                    first | (exfalso; omega) | skip
                    all_goals unfold lookStep
                    all_goals repeat (first | rw [if_neg (by omega)] | rw [if_pos (by omega)] | rw [if_pos (by assumption)] | rw [if_neg (by assumption)] | rw [if_neg (ne_true_of_eq_false (by assumption))] | rw [if_pos (Or.inl (by assumption))] | rw [if_pos (Or.inr (by assumption))] | rw [if_neg (fun y => Or.elim y (fun z => z (by assumption)) (fun z => Bool.false_ne_true (z.symm.trans (by assumption))))])
                    all_goals simp only [nrm, X.den, Env.put, Env.pre, reduceIte, Nat.reduceLT, Nat.reduceSub, Nat.reduceAdd, Mem.cds, Frm.cds, endFrame, List.cons_append, List.nil_append, CD.row, List.headD_cons, eH, app_key, Bool.false_eq_true, Bool.true_eq_false, h7]
                  · simp only [nrm, X.den, Env.put, Env.pre, reduceIte, Nat.reduceLT, Nat.reduceSub, Nat.reduceAdd, cell_s1, cell_s2, cell_s3, cell_s4, cell_s5, cell_int, a1, a2, len_keys, Mem.cds, List.cons_append, List.nil_append, Bool.not_eq_true', Bool.not_eq_false'] at h9
                    refine den_ret ?_
                    try rw [hold_no h7]
                    try rw [lock_no h7]
                    first | (exfalso; omega) | skip
                    all_goals unfold lookStep
                    all_goals repeat (first | rw [if_neg (by omega)] | rw [if_pos (by omega)] | rw [if_pos (by assumption)] | rw [if_neg (by assumption)] | rw [if_neg (ne_true_of_eq_false (by assumption))] | rw [if_pos (Or.inl (by assumption))] | rw [if_pos (Or.inr (by assumption))] | rw [if_neg (fun y => Or.elim y (fun z => z (by assumption)) (fun z => Bool.false_ne_true (z.symm.trans (by assumption))))])
                    all_goals simp only [nrm, X.den, Env.put, Env.pre, reduceIte, Nat.reduceLT, Nat.reduceSub, Nat.reduceAdd, Mem.cds, Frm.cds, endFrame, List.cons_append, List.nil_append, CD.row, List.headD_cons, eH, app_key, Bool.false_eq_true, Bool.true_eq_false, h7]
            · simp only [nrm, X.den, Env.put, Env.pre, reduceIte, Nat.reduceLT, Nat.reduceSub, Nat.reduceAdd, cell_s1, cell_s2, cell_s3, cell_s4, cell_s5, cell_int, a1, a2, len_keys, Mem.cds, List.cons_append, List.nil_append, Bool.not_eq_true', Bool.not_eq_false'] at h6
              refine den_ret ?_
              first | (exfalso; omega) | skip
              all_goals unfold lookStep
              all_goals repeat (first | rw [if_neg (by omega)] | rw [if_pos (by omega)] | rw [if_pos (by assumption)] | rw [if_neg (by assumption)] | rw [if_neg (ne_true_of_eq_false (by assumption))] | rw [if_pos (Or.inl (by assumption))] | rw [if_pos (Or.inr (by assumption))] | rw [if_neg (fun y => Or.elim y (fun z => z (by assumption)) (fun z => Bool.false_ne_true (z.symm.trans (by assumption))))])
              all_goals simp only [nrm, X.den, Env.put, Env.pre, reduceIte, Nat.reduceLT, Nat.reduceSub, Nat.reduceAdd, Mem.cds, Frm.cds, endFrame, List.cons_append, List.nil_append, CD.row, List.headD_cons, eH, app_key, Bool.false_eq_true, Bool.true_eq_false]
          · simp only [nrm, X.den, Env.put, Env.pre, reduceIte, Nat.reduceLT, Nat.reduceSub, Nat.reduceAdd, cell_s1, cell_s2, cell_s3, cell_s4, cell_s5, cell_int, a1, a2, len_keys, Mem.cds, List.cons_append, List.nil_append, Bool.not_eq_true', Bool.not_eq_false'] at h5
            refine den_ite (fun h6 => ?_) (fun h6 => ?_)
            · simp only [nrm, X.den, Env.put, Env.pre, reduceIte, Nat.reduceLT, Nat.reduceSub, Nat.reduceAdd, cell_s1, cell_s2, cell_s3, cell_s4, cell_s5, cell_int, a1, a2, len_keys, Mem.cds, List.cons_append, List.nil_append, Bool.not_eq_true', Bool.not_eq_false'] at h6
              refine den_ite (fun h7 => ?_) (fun h7 => ?_)
              · simp only [nrm, X.den, Env.put, Env.pre, reduceIte, Nat.reduceLT, Nat.reduceSub, Nat.reduceAdd, cell_s1, cell_s2, cell_s3, cell_s4, cell_s5, cell_int, a1, a2, len_keys, Mem.cds, List.cons_append, List.nil_append, Bool.not_eq_true', Bool.not_eq_false'] at h7
                refine den_calle d68 (put m f.slot).cds rfl (by simp only [nrm, X.den, Env.put, Env.pre, reduceIte, Nat.reduceLT, Nat.reduceSub, Nat.reduceAdd]; exact pi68 hm (by omega) (by omega)) (by simp only [nrm, X.den, Env.put, Env.pre, reduceIte, Nat.reduceLT, Nat.reduceSub, Nat.reduceAdd, fn68]) ?_
                refine den_ret ?_
                first | (exfalso; omega) | skip
                all_goals unfold lookStep
                all_goals repeat (first | rw [if_neg (by omega)] | rw [if_pos (by omega)] | rw [if_pos (by assumption)] | rw [if_neg (by assumption)] | rw [if_neg (ne_true_of_eq_false (by assumption))] | rw [if_pos (Or.inl (by assumption))] | rw [if_pos (Or.inr (by assumption))] | rw [if_neg (fun y => Or.elim y (fun z => z (by assumption)) (fun z => Bool.false_ne_true (z.symm.trans (by assumption))))])
                all_goals simp only [nrm, X.den, Env.put, Env.pre, reduceIte, Nat.reduceLT, Nat.reduceSub, Nat.reduceAdd, Mem.cds, Frm.cds, endFrame, List.cons_append, List.nil_append, CD.row, List.headD_cons, eH, app_key, Bool.false_eq_true, Bool.true_eq_false]
              · simp only [nrm, X.den, Env.put, Env.pre, reduceIte, Nat.reduceLT, Nat.reduceSub, Nat.reduceAdd, cell_s1, cell_s2, cell_s3, cell_s4, cell_s5, cell_int, a1, a2, len_keys, Mem.cds, List.cons_append, List.nil_append, Bool.not_eq_true', Bool.not_eq_false'] at h7
                refine den_ret ?_
                first | (exfalso; omega) | skip
                all_goals unfold lookStep
                all_goals repeat (first | rw [if_neg (by omega)] | rw [if_pos (by omega)] | rw [if_pos (by assumption)] | rw [if_neg (by assumption)] | rw [if_neg (ne_true_of_eq_false (by assumption))] | rw [if_pos (Or.inl (by assumption))] | rw [if_pos (Or.inr (by assumption))] | rw [if_neg (fun y => Or.elim y (fun z => z (by assumption)) (fun z => Bool.false_ne_true (z.symm.trans (by assumption))))])
                all_goals simp only [nrm, X.den, Env.put, Env.pre, reduceIte, Nat.reduceLT, Nat.reduceSub, Nat.reduceAdd, Mem.cds, Frm.cds, endFrame, List.cons_append, List.nil_append, CD.row, List.headD_cons, eH, app_key, Bool.false_eq_true, Bool.true_eq_false]
            · simp only [nrm, X.den, Env.put, Env.pre, reduceIte, Nat.reduceLT, Nat.reduceSub, Nat.reduceAdd, cell_s1, cell_s2, cell_s3, cell_s4, cell_s5, cell_int, a1, a2, len_keys, Mem.cds, List.cons_append, List.nil_append, Bool.not_eq_true', Bool.not_eq_false'] at h6
              refine den_ite (fun h7 => ?_) (fun h7 => ?_)
              · simp only [nrm, X.den, Env.put, Env.pre, reduceIte, Nat.reduceLT, Nat.reduceSub, Nat.reduceAdd, cell_s1, cell_s2, cell_s3, cell_s4, cell_s5, cell_int, a1, a2, len_keys, Mem.cds, List.cons_append, List.nil_append, Bool.not_eq_true', Bool.not_eq_false'] at h7
                refine den_ite (fun h8 => ?_) (fun h8 => ?_)
                · simp only [nrm, X.den, Env.put, Env.pre, reduceIte, Nat.reduceLT, Nat.reduceSub, Nat.reduceAdd, cell_s1, cell_s2, cell_s3, cell_s4, cell_s5, cell_int, a1, a2, len_keys, Mem.cds, List.cons_append, List.nil_append, Bool.not_eq_true', Bool.not_eq_false'] at h8
                  refine den_calle d68 (put m f.slot).cds rfl (by simp only [nrm, X.den, Env.put, Env.pre, reduceIte, Nat.reduceLT, Nat.reduceSub, Nat.reduceAdd]; exact pi68 hm (by omega) (by omega)) (by simp only [nrm, X.den, Env.put, Env.pre, reduceIte, Nat.reduceLT, Nat.reduceSub, Nat.reduceAdd, fn68]) ?_
                  refine den_ret ?_
                  first | (exfalso; omega) | skip
                  all_goals unfold lookStep
                  all_goals repeat (first | rw [if_neg (by omega)] | rw [if_pos (by omega)] | rw [if_pos (by assumption)] | rw [if_neg (by assumption)] | rw [if_neg (ne_true_of_eq_false (by assumption))] | rw [if_pos (Or.inl (by assumption))] | rw [if_pos (Or.inr (by assumption))] | rw [if_neg (fun y => Or.elim y (fun z => z (by assumption)) (fun z => Bool.false_ne_true (z.symm.trans (by assumption))))])
                  all_goals simp only [nrm, X.den, Env.put, Env.pre, reduceIte, Nat.reduceLT, Nat.reduceSub, Nat.reduceAdd, Mem.cds, Frm.cds, endFrame, List.cons_append, List.nil_append, CD.row, List.headD_cons, eH, app_key, Bool.false_eq_true, Bool.true_eq_false]
                · simp only [nrm, X.den, Env.put, Env.pre, reduceIte, Nat.reduceLT, Nat.reduceSub, Nat.reduceAdd, cell_s1, cell_s2, cell_s3, cell_s4, cell_s5, cell_int, a1, a2, len_keys, Mem.cds, List.cons_append, List.nil_append, Bool.not_eq_true', Bool.not_eq_false'] at h8
                  refine den_ret ?_
                  first | (exfalso; omega) | skip
                  all_goals unfold lookStep
                  all_goals repeat (first | rw [if_neg (by omega)] | rw [if_pos (by omega)] | rw [if_pos (by assumption)] | rw [if_neg (by assumption)] | rw [if_neg (ne_true_of_eq_false (by assumption))] | rw [if_pos (Or.inl (by assumption))] | rw [if_pos (Or.inr (by assumption))] | rw [if_neg (fun y => Or.elim y (fun z => z (by assumption)) (fun z => Bool.false_ne_true (z.symm.trans (by assumption))))])
                  all_goals simp only [nrm, X.den, Env.put, Env.pre, reduceIte, Nat.reduceLT, Nat.reduceSub, Nat.reduceAdd, Mem.cds, Frm.cds, endFrame, List.cons_append, List.nil_append, CD.row, List.headD_cons, eH, app_key, Bool.false_eq_true, Bool.true_eq_false]
              · simp only [nrm, X.den, Env.put, Env.pre, reduceIte, Nat.reduceLT, Nat.reduceSub, Nat.reduceAdd, cell_s1, cell_s2, cell_s3, cell_s4, cell_s5, cell_int, a1, a2, len_keys, Mem.cds, List.cons_append, List.nil_append, Bool.not_eq_true', Bool.not_eq_false'] at h7
                refine den_ret ?_
                first | (exfalso; omega) | skip
                all_goals unfold lookStep
                all_goals repeat (first | rw [if_neg (by omega)] | rw [if_pos (by omega)] | rw [if_pos (by assumption)] | rw [if_neg (by assumption)] | rw [if_neg (ne_true_of_eq_false (by assumption))] | rw [if_pos (Or.inl (by assumption))] | rw [if_pos (Or.inr (by assumption))] | rw [if_neg (fun y => Or.elim y (fun z => z (by assumption)) (fun z => Bool.false_ne_true (z.symm.trans (by assumption))))])
                all_goals simp only [nrm, X.den, Env.put, Env.pre, reduceIte, Nat.reduceLT, Nat.reduceSub, Nat.reduceAdd, Mem.cds, Frm.cds, endFrame, List.cons_append, List.nil_append, CD.row, List.headD_cons, eH, app_key, Bool.false_eq_true, Bool.true_eq_false]
end Go.Proofs.Ytpmamacjepcdmaa

/- Plain laws of memory: what is taken, held and put stays right. -/
namespace Go.Proofs.Ytpmamacjepcdmaa
open Go Go.Sy Go.RowKit

theorem getD_modify {α : Type} [Inhabited α] (f : α → α) : ∀ (l : List α) (a i : Nat), (l.modify a f).getD i default = if a = i ∧ a < l.length then f (l.getD i default) else l.getD i default
  | [], a, i => by simp
  | x :: l, 0, 0 => by simp
  | x :: l, 0, i + 1 => by simp
  | x :: l, a + 1, 0 => by simp
  | x :: l, a + 1, i + 1 => by
    have := getD_modify f l a i
    simp only [List.modify_succ_cons, List.getD_cons_succ, this, List.length_cons, Nat.add_lt_add_iff_right, Nat.add_right_cancel_iff]
theorem all_of_getD {α : Type} [Inhabited α] {P : α → Prop} {l : List α} (h : ∀ i, i < l.length → P (l.getD i default)) : ∀ s ∈ l, P s := fun s hs => by
  obtain ⟨i, hi, rfl⟩ := List.getElem_of_mem hs
  have := h i hi
  rwa [List.getD_eq_getElem?_getD, List.getElem?_eq_getElem hi, Option.getD_some] at this
theorem ext_getD {α : Type} [Inhabited α] {l m : List α} (hl : l.length = m.length) (h : ∀ i, i < l.length → l.getD i default = m.getD i default) : l = m := by
  apply List.ext_getElem hl
  intro i h1 h2
  have := h i h1
  rwa [List.getD_eq_getElem?_getD, List.getD_eq_getElem?_getD, List.getElem?_eq_getElem h1, List.getElem?_eq_getElem h2, Option.getD_some, Option.getD_some] at this
theorem modify_id {α : Type} [Inhabited α] (f : α → α) (l : List α) (a : Nat) (h : f (l.getD a default) = l.getD a default) : l.modify a f = l := by
  refine ext_getD (by simp) fun i _ => ?_
  rw [getD_modify]
  split
  · rename_i hx; rw [← hx.1, h]
  · rfl
theorem refsBy_zero (s : Slot) : refsBy 0 s = s := by unfold refsBy; rw [Int.add_zero]
theorem refsBy_refsBy (a b : Int) (s : Slot) : refsBy a (refsBy b s) = refsBy (b + a) s := by unfold refsBy; simp only [Int.add_assoc]

/-- Memory in which one slot has turned, and what is free. -/
def turned (m : Mem) (a : Nat) (f : Slot → Slot) (free : List Int) : Mem := { m with slots := m.slots.modify a f, free := free }
theorem msl_turned (m : Mem) (a : Nat) (f : Slot → Slot) (free : List Int) (i : Nat) : msl (turned m a f free) i = if a = i ∧ a < m.slots.length then f (msl m i) else msl m i := getD_modify f m.slots a i
theorem turned_length (m : Mem) (a : Nat) (f : Slot → Slot) (free : List Int) : (turned m a f free).slots.length = m.slots.length := by simp [turned]
theorem MemOk.turned {m : Mem} (h : MemOk m) {a : Nat} {f : Slot → Slot} {free : List Int} (ha : a < m.slots.length) (hs : SlotOk m.slots.length m.heads.length (f (msl m a)))
    (hf : ∀ b ∈ free, 0 ≤ b ∧ b < m.slots.length ∧ (if a = b.toNat then (f (msl m a)).refs = 0 else (msl m b.toNat).refs = 0)) (hn : free.Nodup)
    (hl : ∀ i, i < m.slots.length → (if a = i then (f (msl m a)).refs = 0 else (msl m i).refs = 0) → (i : Int) ∈ free) : MemOk (turned m a f free) := by
  have e := turned_length m a f free
  refine ⟨by rw [e]; exact h.ns, h.nh1, h.nh4, h.nl, h.now0, h.now1, ?_, by rw [e]; exact h.head, fun b hb => ?_, hn, fun i hi hr => ?_⟩
  · rw [e]
    refine all_of_getD fun i hi => ?_
    have : i < m.slots.length := by rw [e] at hi; exact hi
    show SlotOk _ _ (msl (Ytpmamacjepcdmaa.turned m a f free) i)
    rw [msl_turned]
    split
    · rename_i hx; rw [← hx.1]; exact hs
    · exact h.sl this
  · obtain ⟨h1, h2, h3⟩ := hf b hb
    refine ⟨h1, by rw [e]; exact h2, ?_⟩
    rw [msl_turned]
    by_cases hx : a = b.toNat
    · rw [if_pos hx] at h3
      rw [if_pos ⟨hx, ha⟩, ← hx]; exact h3
    · rw [if_neg hx] at h3
      rw [if_neg (fun y => hx y.1)]; exact h3
  · rw [e] at hi
    rw [msl_turned] at hr
    refine hl i hi ?_
    by_cases hx : a = i
    · rw [if_pos hx]
      rw [if_pos ⟨hx, ha⟩, ← hx] at hr; exact hr
    · rw [if_neg hx]
      rw [if_neg (fun y => hx y.1)] at hr; exact hr

/-! ### Take -/
theorem free_split {m : Mem} (h : m.free.length ≠ 0) : m.free = m.free.take (m.free.length - 1) ++ [lastFree m] := by
  have h1 : m.free.length - 1 < m.free.length := by omega
  have e : m.free.take (m.free.length - 1 + 1) = m.free := by rw [List.take_of_length_le (by omega)]
  rw [List.take_succ_eq_append_getElem h1] at e
  unfold lastFree
  rw [List.getD_eq_getElem?_getD, List.getElem?_eq_getElem h1, Option.getD_some, e]
theorem take_ok {m : Mem} (h : MemOk m) {k : Key} {till : Int} (hn : m.free.length ≠ 0) (hk : Key.Ok k) (h0 : 0 ≤ till) (h1 : till ≤ 2000000) : MemOk (turned m (lastFree m).toNat (takeSlot k till) (m.free.take (m.free.length - 1))) := by
  have hl := h.free _ (lastFree_mem hn)
  have hlt : (lastFree m).toNat < m.slots.length := by omega
  have hs := h.sl hlt
  have hsp := free_split hn
  have hnd := h.nodup
  rw [hsp] at hnd
  have hnd := List.nodup_append.1 hnd
  have hnot : ∀ b ∈ m.free.take (m.free.length - 1), b ≠ lastFree m := fun b hb => hnd.2.2 b hb (lastFree m) (by simp)
  refine h.turned hlt ⟨?_, ?_, h0, h1, hk, hs.n0, hs.n1⟩ (fun b hb => ?_) hnd.1 (fun i hi hr => ?_)
  · simp [takeSlot]
  · simp [takeSlot]
  · have := h.free b (by rw [hsp]; simp [hb])
    refine ⟨this.1, this.2.1, ?_⟩
    rw [if_neg]
    · exact this.2.2
    · intro e
      exact hnot b hb (by omega)
  · split at hr
    · simp [takeSlot] at hr
    · rename_i hne
      have := h.leak i hi hr
      rw [hsp, List.mem_append, List.mem_singleton] at this
      rcases this with h2 | h2
      · exact h2
      · exact absurd (by omega) hne
theorem taken_eq {m : Mem} (h : MemOk m) {k : Key} {till : Int} (hn : m.free.length ≠ 0) (hk : Key.Ok k) (h0 : 0 ≤ till) (h1 : till ≤ 2000000) : taken m k till = (turned m (lastFree m).toNat (takeSlot k till) (m.free.take (m.free.length - 1)), lastFree m, 0) := by
  have e : take m k till = (turned m (lastFree m).toNat (takeSlot k till) (m.free.take (m.free.length - 1)), lastFree m, 0) := by unfold take; rw [if_neg hn]; rfl
  unfold taken
  rw [(checkMem_iff m).2 h, if_neg (fun x => x rfl), (checkKey_iff k).2 hk, if_neg (fun x => x rfl), if_neg (by omega), e, if_neg (fun x => x rfl)]
theorem taken_full {m : Mem} (h : MemOk m) {k : Key} {till : Int} (hn : m.free.length = 0) (hk : Key.Ok k) (h0 : 0 ≤ till) (h1 : till ≤ 2000000) : taken m k till = (Mem.none, 0, 7) := by
  have e : take m k till = (m, 0, 7) := by unfold take; rw [if_pos hn]
  unfold taken
  rw [(checkMem_iff m).2 h, if_neg (fun x => x rfl), (checkKey_iff k).2 hk, if_neg (fun x => x rfl), if_neg (by omega), e, if_pos (show (7 : Int) ≠ 0 by decide)]
/-- What must be where a slot was taken. -/
theorem taken_inv {m : Mem} {k : Key} {till : Int} (h : (taken m k till).2.2 = 0) : MemOk m ∧ Key.Ok k ∧ 0 ≤ till ∧ till ≤ 2000000 ∧ m.free.length ≠ 0 := by
  unfold taken at h
  split at h
  · rename_i hx; exact absurd h hx
  · rename_i hx
    split at h
    · rename_i hy; exact absurd h hy
    · rename_i hy
      split at h
      · cases h
      · rename_i hz
        split at h
        · rename_i hw; exact absurd h hw
        · rename_i hw
          refine ⟨(checkMem_iff m).1 (by omega), (checkKey_iff k).1 (by omega), by omega, by omega, fun e => ?_⟩
          unfold take at hw
          rw [if_pos e] at hw
          exact hw (show (7 : Int) ≠ 0 by decide)

/-! ### Hold, put -/
theorem held_inv {m : Mem} {a : Int} (h : (held m a).2 = 0) : MemOk m ∧ 0 ≤ a ∧ a < m.slots.length ∧ 1 ≤ (msl m a.toNat).refs ∧ (msl m a.toNat).refs < 1000 := by
  unfold held at h
  split at h
  · rename_i hx; exact absurd h hx
  · rename_i hx
    have hm := (checkMem_iff m).1 (by omega)
    split at h
    · rename_i hy
      have hr := hm.refs hy.1 hy.2
      unfold hold at h
      split at h
      · split at h
        · rename_i hz; cases hz
        · cases h
      · rename_i hz
        exact ⟨hm, hy.1, hy.2, by omega, by omega⟩
    · cases h
theorem held_eq {m : Mem} (hm : MemOk m) {a : Int} (h0 : 0 ≤ a) (h1 : a < m.slots.length) (h2 : 1 ≤ (msl m a.toNat).refs) (h3 : (msl m a.toNat).refs < 1000) : held m a = (turned m a.toNat (refsBy 1) m.free, 0) := by
  have e : hold m a = (turned m a.toNat (refsBy 1) m.free, true) := by
    unfold hold
    rw [if_neg (by omega)]; rfl
  unfold held
  rw [(checkMem_iff m).2 hm, if_neg (fun x => x rfl), if_pos ⟨h0, h1⟩, e, if_pos rfl]
theorem held_late {m : Mem} (hm : MemOk m) {a : Int} (h0 : 0 ≤ a) (h1 : a < m.slots.length) (h2 : (msl m a.toNat).refs = 0 ∨ (msl m a.toNat).refs = 1000) : held m a = (Mem.none, 8) := by
  have e : hold m a = (m, false) := by
    unfold hold
    rw [if_pos h2]
  unfold held
  rw [(checkMem_iff m).2 hm, if_neg (fun x => x rfl), if_pos ⟨h0, h1⟩, e, if_neg (show ¬ false = true by decide)]
/-- Held so many times more (or less), and still held. -/
theorem refs_ok {m : Mem} (hm : MemOk m) {a : Nat} {n : Int} (h1 : a < m.slots.length) (h0 : 1 ≤ (msl m a).refs) (h2 : 1 ≤ (msl m a).refs + n) (h3 : (msl m a).refs + n ≤ 1000) : MemOk (turned m a (refsBy n) m.free) := by
  have hs := hm.sl h1
  refine hm.turned h1 ⟨by show 0 ≤ (msl m a).refs + n; omega, h3, hs.t0, hs.t1, hs.k, hs.n0, hs.n1⟩ (fun b hb => ?_) hm.nodup (fun i hi hr => ?_)
  · have := hm.free b hb
    refine ⟨this.1, this.2.1, ?_⟩
    rw [if_neg (fun e => by rw [e] at h0; omega)]
    exact this.2.2
  · split at hr
    · have hr : (msl m a).refs + n = 0 := hr
      omega
    · exact hm.leak i hi hr
theorem let_eq {m : Mem} (hm : MemOk m) {a : Int} (h0 : 0 ≤ a) (h1 : a < m.slots.length) (h2 : 2 ≤ (msl m a.toNat).refs) : letGo m a = (turned m a.toNat (refsBy (-1)) m.free, 0) := by
  unfold letGo put
  rw [(checkMem_iff m).2 hm, if_neg (fun x => x rfl), if_pos ⟨h0, h1⟩, if_neg (by omega), if_neg (by omega), if_neg (by omega)]
  rfl
theorem let_last {m : Mem} (hm : MemOk m) {a : Int} (h0 : 0 ≤ a) (h1 : a < m.slots.length) (h2 : (msl m a.toNat).refs = 1) : letGo m a = (turned m a.toNat (refsBy (-1)) (m.free ++ [a]), 0) := by
  unfold letGo put
  rw [(checkMem_iff m).2 hm, if_neg (fun x => x rfl), if_pos ⟨h0, h1⟩, if_neg (by omega), if_neg (by omega), if_pos h2]
  rfl
theorem let_late {m : Mem} (hm : MemOk m) {a : Int} (h0 : 0 ≤ a) (h1 : a < m.slots.length) (h2 : (msl m a.toNat).refs = 0) : letGo m a = (Mem.none, 8) := by
  unfold letGo
  rw [(checkMem_iff m).2 hm, if_neg (fun x => x rfl), if_pos ⟨h0, h1⟩, if_pos h2]
theorem freed_ok {m : Mem} (hm : MemOk m) {a : Int} (h0 : 0 ≤ a) (h1 : a < m.slots.length) (h2 : (msl m a.toNat).refs = 1) : MemOk (turned m a.toNat (refsBy (-1)) (m.free ++ [a])) := by
  have hlt : a.toNat < m.slots.length := by omega
  have hs := hm.sl hlt
  have hna : a ∉ m.free := fun h => by have := (hm.free a h).2.2; omega
  refine hm.turned hlt ⟨by show 0 ≤ (msl m a.toNat).refs + -1; omega, by show (msl m a.toNat).refs + -1 ≤ 1000; omega, hs.t0, hs.t1, hs.k, hs.n0, hs.n1⟩ (fun b hb => ?_) ?_ (fun i hi hr => ?_)
  · rcases List.mem_append.1 hb with hb | hb
    · have := hm.free b hb
      refine ⟨this.1, this.2.1, ?_⟩
      rw [if_neg (fun e => by
        have : a = b := by omega
        exact hna (by rw [this]; exact hb))]
      exact this.2.2
    · rw [List.mem_singleton] at hb
      subst hb
      refine ⟨h0, h1, ?_⟩
      rw [if_pos rfl]
      show (msl m b.toNat).refs + -1 = 0
      omega
  · exact List.nodup_append.2 ⟨hm.nodup, by simp, fun x hx y hy => by
      rw [List.mem_singleton] at hy
      subst hy
      intro e
      exact hna (by rw [← e]; exact hx)⟩
  · split at hr
    · rename_i e
      rw [List.mem_append, List.mem_singleton]
      right; omega
    · rw [List.mem_append]
      exact .inl (hm.leak i hi hr)
theorem turned_turned (m : Mem) (a : Nat) (f g : Slot → Slot) (x y : List Int) : turned (turned m a f x) a g y = turned m a (fun s => g (f s)) y := by
  simp only [turned, modify_modify]
theorem turned_refs (m : Mem) (a : Nat) (i j : Int) (x y : List Int) : turned (turned m a (refsBy i) x) a (refsBy j) y = turned m a (refsBy (i + j)) y := by
  rw [turned_turned]
  congr 1
  funext s
  exact refsBy_refsBy j i s
theorem turned_zero (m : Mem) (a : Nat) : turned m a (refsBy 0) m.free = m := by
  simp only [turned]
  rw [modify_id (refsBy 0) m.slots a (refsBy_zero _)]
end Go.Proofs.Ytpmamacjepcdmaa
