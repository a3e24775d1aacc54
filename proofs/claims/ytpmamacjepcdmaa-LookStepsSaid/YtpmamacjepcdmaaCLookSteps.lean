import Derived.Test.YtpmamacjepcdmaaCMemLaws
import Derived.Test.YtpmamacjepcdmaaCTouch
/- Any step of a Look does in any memory what the document says: the contracts of single, looked, fits and the law. -/
namespace Go.Proofs.Ytpmamacjepcdmaa
open Go Go.Sy Go.RowKit
set_option linter.unusedSimpArgs false
set_option linter.unusedVariables false

def sM0 : Mem := ⟨[default, default], [-1], [1, 0], [-1], 0⟩
def sM1 : Mem := ⟨[⟨1, ⟨3, 0⟩, 5, false, 0⟩, default], [-1], [1], [-1], 0⟩
def sM : Mem := ⟨[⟨1, ⟨3, 0⟩, 5, true, -1⟩, default], [1], [1], [-1], 0⟩
theorem sm0 : newMem 2 1 = (sM0, 0) := by decide +kernel
theorem sm1 : taken sM0 ⟨3, 0⟩ 5 = (sM1, 0, 0) := by decide +kernel
theorem sm2 : linked sM1 0 = (sM, 0) := by decide +kernel
theorem sm_ok : MemIn sM := ((checkMem_iff sM).1 (by decide +kernel)).into
theorem fs57 (a b : Int) : d57.fn [.i a, .i b] = (newMem a b).1.cds ++ [.i (newMem a b).2] := rfl
def s180 : Sig := ⟨[], [.agg [.own 52 kS, .own 3 kI, .own 3 kI, .own 3 kI, .int .i64], .one (.bool)]⟩
def d180 : DC := ⟨s180, fun _ => True, fun _ => sM.cds ++ [.b true]⟩
def l180 : List (Nat × Ct) := [(57, d57.ct), (54, d54.ct), (82, d82.ct)]
def z180 : Cx := { T := ttA, C := sigs l180, F := [], hints := [], sig := s180 }
def t180 : Tree :=
 (.call 57 [.int 2, .int 1] 0
 (.call 54 [.var 0, .var 1, .var 2, .var 3, .var 4, .int 3, .int 0, .int 5] 6
 (.call 82 [.var 6, .var 7, .var 8, .var 9, .var 10, .var 11] 13
 (.ite (.eq (.var 5) (.int 0))
  (.ite (.eq (.var 12) (.int 0))
   (.ite (.eq (.var 18) (.int 0))
    (.ite (.eq (.var 11) (.int 0))
     (.ret [.var 13, .var 14, .var 15, .var 16, .var 17, .eq (.len (.var 13)) (.int 2)])
     (.ret [.var 13, .var 14, .var 15, .var 16, .var 17, .bool false]))
    (.ret [.var 13, .var 14, .var 15, .var 16, .var 17, .bool false]))
   (.ret [.var 13, .var 14, .var 15, .var 16, .var 17, .bool false]))
  (.ret [.var 13, .var 14, .var 15, .var 16, .var 17, .bool false])))))
theorem run180 : run z180 6000 [.code (Try.f180.body.getD .skip), .fin (topRet z180 Try.f180.results.toList 50)] { fn := 180, tmps := z180.sig.args0 ++ List.replicate (Try.f180.ntmps - z180.sig.args0.length) (.v (.one .undef)), stk := [], h := z180.sig.h0, nx := z180.sig.ins.length, known := [] } = t180 := by kernel_rfl
theorem ok180 : CtOk Try.prog 180 d180.ct := by
  refine dc_of_tree (d := d180) (Z := z180) (Γ := gam l180) (fn := Try.f180) (c := Try.f180.body.getD .skip) (told_of tok mixed (all_cons ok57 (all_cons ok54 (all_cons ok82 all_nil))) fok_nil) Try.func180 (by kernel_rfl) (by kernel_rfl) rfl run180 fun E hk hp => ?_
  clear hk
  have el : letters E d180.sig.ins.length = [] := rfl
  rw [el] at hp
  rw [el]
  rw [Env.pre_eq el]
  clear el
  simp only [d180]
  unfold t180
  refine den_calle d57 (sM0.cds ++ [.i 0]) rfl trivial (by simp only [nrm, X.den, Env.put, Env.pre, reduceIte, Nat.reduceLT, Nat.reduceSub, Nat.reduceAdd, fs57, sm0]) ?_
  refine den_calle d54 (sM1.cds ++ [.i 0, .i 0]) rfl trivial (by simp only [nrm, X.den, Env.put, Env.pre, reduceIte, Nat.reduceLT, Nat.reduceSub, Nat.reduceAdd, Mem.cds, List.cons_append, List.nil_append, fn54, sm1]) ?_
  refine den_calle d82 (sM.cds ++ [.i 0]) rfl trivial (by simp only [nrm, X.den, Env.put, Env.pre, reduceIte, Nat.reduceLT, Nat.reduceSub, Nat.reduceAdd, Mem.cds, List.cons_append, List.nil_append, fn82, sm2]) ?_
  repeat (refine den_ite (fun _ => ?_) (fun h => absurd h (by simp only [nrm, X.den, Env.put, Env.pre, reduceIte, Nat.reduceLT, Nat.reduceSub, Nat.reduceAdd, Mem.cds, List.cons_append, List.nil_append]; decide)))
  refine den_ret ?_
  simp only [nrm, X.den, Env.put, Env.pre, reduceIte, Nat.reduceLT, Nat.reduceSub, Nat.reduceAdd, Mem.cds, List.cons_append, List.nil_append, len_slots]
  rfl
def s100 : Sig := ⟨[.agg [.fz kS, .fz kI, .fz kI, .fz kI, .int .i64], .agg [.int .i64, .int .i64, .int .i64, .int .i64, .int .i64, .int .i64, .int .i64, .int .i64, .int .i64, .int .i64, .int .i64, .fz kK, .bool, .int .i64]], [.one (.bool)]⟩
def d100 : DC := ⟨s100, fun _ => True, fun l => [.b (decide (checkMem (Mem.of l) = 0 ∧ checkFrame (Mem.of l) (Frm.of (l.drop 5)) = 0))]⟩
theorem fn100 (m : Mem) (f : Frm) : d100.fn [slotsD m.slots, intsD m.heads, intsD m.free, intsD m.locks, .i m.now, .i f.c.kind, .i f.c.k.a, .i f.c.k.b, .i f.c.time, .i f.c.bucket, .i f.c.slot, .i f.pc, .i f.cur, .i f.prev, .i f.slot, .i f.n, keysD f.keys, .b f.done, .i f.e] = [.b (decide (checkMem m = 0 ∧ checkFrame m f = 0))] := by
  simp only [d100, mem_of, mem_eta, List.drop_succ_cons, List.drop_zero, frm_of]
def l100 : List (Nat × Ct) := [(58, d58.ct), (46, d46.ct)]
def z100 : Cx := { T := ttA, C := sigs l100, F := [], hints := [], sig := s100 }
def t100 : Tree :=
 (.call 58 [.var 0, .var 1, .var 2, .var 3, .var 4] 19
 (.ite (.eq (.var 19) (.int 0))
  (.call 46 [.var 0, .var 1, .var 2, .var 3, .var 4, .var 5, .var 6, .var 7, .var 8, .var 9, .var 10, .var 11, .var 12, .var 13, .var 14, .var 15, .var 16, .var 17, .var 18] 20
  (.ret [.eq (.var 20) (.int 0)]))
  (.ret [.bool false])))
theorem run100 : run z100 6000 [.code (Try.f100.body.getD .skip), .fin (topRet z100 Try.f100.results.toList 50)] { fn := 100, tmps := z100.sig.args0 ++ List.replicate (Try.f100.ntmps - z100.sig.args0.length) (.v (.one .undef)), stk := [], h := z100.sig.h0, nx := z100.sig.ins.length, known := [] } = t100 := by kernel_rfl
theorem ok100 : CtOk Try.prog 100 d100.ct := by
  refine dc_of_tree (d := d100) (Z := z100) (Γ := gam l100) (fn := Try.f100) (c := Try.f100.body.getD .skip) (told_of tok mixed (all_cons ok58 (all_cons ok46 all_nil)) fok_nil) Try.func100 (by kernel_rfl) (by kernel_rfl) rfl run100 fun E hk hp => ?_
  obtain ⟨hk0, hk1, hk2, hk3, hk4, hk5, hk6, hk7, hk8, hk9, hk10, hk11, hk12, hk13, hk14, hk15, hk16, hk17, hk18, _⟩ := hk
  obtain ⟨m, e0, e1, e2, e3, e4, b0, b1, b2, b3⟩ := ok_mem (d0 := E 0) (d1 := E 1) (d2 := E 2) (d3 := E 3) (d4 := E 4) hk0 hk1 hk2 hk3 hk4
  obtain ⟨f, e5, e6, e7, e8, e9, e10, e11, e12, e13, e14, e15, e16, e17, e18, b16⟩ := ok_frame (d0 := E 5) (d1 := E 6) (d2 := E 7) (d3 := E 8) (d4 := E 9) (d5 := E 10) (d6 := E 11) (d7 := E 12) (d8 := E 13) (d9 := E 14) (d10 := E 15) (d11 := E 16) (d12 := E 17) (d13 := E 18) hk5 hk6 hk7 hk8 hk9 hk10 hk11 hk12 hk13 hk14 hk15 hk16 hk17 hk18
  have el : letters E d100.sig.ins.length = [slotsD m.slots, intsD m.heads, intsD m.free, intsD m.locks, .i m.now, .i f.c.kind, .i f.c.k.a, .i f.c.k.b, .i f.c.time, .i f.c.bucket, .i f.c.slot, .i f.pc, .i f.cur, .i f.prev, .i f.slot, .i f.n, keysD f.keys, .b f.done, .i f.e] := by
    show [E 0, E 1, E 2, E 3, E 4, E 5, E 6, E 7, E 8, E 9, E 10, E 11, E 12, E 13, E 14, E 15, E 16, E 17, E 18] = _
    rw [e0, e1, e2, e3, e4, e5, e6, e7, e8, e9, e10, e11, e12, e13, e14, e15, e16, e17, e18]
  rw [el] at hp
  rw [el]
  rw [Env.pre_eq el]
  clear el e0 e1 e2 e3 e4 e5 e6 e7 e8 e9 e10 e11 e12 e13 e14 e15 e16 e17 e18
  rw [fn100]
  unfold t100
  refine den_calle d58 [.i (checkMem m)] rfl trivial (by simp only [nrm, X.den, Env.put, Env.pre, reduceIte, Nat.reduceLT, Nat.reduceSub, Nat.reduceAdd, fn58]) (den_ite (fun h => ?_) (fun h => den_ret ?_))
  · simp only [nrm, X.den, Env.put, Env.pre, reduceIte, Nat.reduceLT, Nat.reduceSub, Nat.reduceAdd] at h
    refine den_calle d46 [.i (checkFrame m f)] rfl trivial (by simp only [nrm, X.den, Env.put, Env.pre, reduceIte, Nat.reduceLT, Nat.reduceSub, Nat.reduceAdd, fn46]) (den_ret ?_)
    simp only [nrm, X.den, Env.put, Env.pre, reduceIte, Nat.reduceLT, Nat.reduceSub, Nat.reduceAdd, h, true_and]
    by_cases e : checkFrame m f = 0 <;> simp [e]
  · simp only [nrm, X.den, Env.put, Env.pre, reduceIte, Nat.reduceLT, Nat.reduceSub, Nat.reduceAdd] at h ⊢
    simp [h]
theorem look_fit {m : Mem} {f : Frm} (hm : MemIn m) (hf : FrmOk m f) (hk : f.c.kind = 1) (hd : (lookStep m f).1.done = false) : MemIn (lookStep m f).2 ∧ FrmOk (lookStep m f).2 (lookStep m f).1 ∧ (lookStep m f).1.c.kind = 1 :=
  ⟨lookStep_into hm hf, (lookStep_in hm hf hk).ok hf lookStep_touch.1 hd, by rw [(lookStep_in hm hf hk).c]; exact hk⟩
theorem look_into {m : Mem} {f : Frm} (hm : MemIn m) (hf : FrmOk m f) : MemIn (lookStep m f).2 := lookStep_into hm hf
def lF1 : Frm := newFrame ⟨1, ⟨3, 0⟩, 0, 0, 0⟩
def lF2 : Frm := newFrame ⟨1, ⟨4, 0⟩, 0, 0, 0⟩
def lA : Frm × Mem × Bool := aloneR lookStep 40 lF1 sM
def lB : Frm × Mem × Bool := aloneR lookStep 40 lF2 lA.2.1
theorem lA_ok : lA.2.2 = true ∧ lA.1.e = 0 ∧ lA.1.slot = 0 ∧ checkFrame lA.2.1 lF2 = 0 := by decide +kernel
theorem lB_ok : lB.2.2 = true ∧ lB.1.e = 5 ∧ (msl lB.2.1 0).refs = 2 ∧ lB.2.1.slots.length = 2 := by decide +kernel
theorem lf1_ok : FrmOk sM lF1 := (checkFrame_iff sM lF1).1 (by decide +kernel)
def s99 : Sig := ⟨[], [.one (.bool)]⟩
def d99 : DC := ⟨s99, fun _ => True, fun _ => [.b true]⟩
def l99 : List (Nat × Ct) := [(180, d180.ct), (41, d41.ct), (101, d101.ct)]
noncomputable def z99 : Cx := { T := ttA, C := sigs l99, F := [(113, Try.f113), (181, Try.f181)], hints := [⟨113, 3, false, [(12, .lt)], [(0, 0, .own 52 kS), (0, 1, .own 3 kI), (0, 2, .own 3 kI), (0, 3, .own 3 kI), (0, 4, .lt), (3, 0, .lt), (3, 1, .lt), (3, 2, .lt), (3, 3, .lt), (3, 4, .lt), (3, 5, .lt), (3, 6, .lt), (3, 7, .lt), (3, 8, .lt), (3, 9, .lt), (3, 10, .lt), (3, 11, .fz kK), (3, 12, .lt), (3, 13, .lt)], [], [], 4⟩, ⟨113, 3, false, [(12, .lt)], [(0, 0, .own 52 kS), (0, 1, .own 3 kI), (0, 2, .own 3 kI), (0, 3, .own 3 kI), (0, 4, .lt), (7, 0, .lt), (7, 1, .lt), (7, 2, .lt), (7, 3, .lt), (7, 4, .lt), (7, 5, .lt), (7, 6, .lt), (7, 7, .lt), (7, 8, .lt), (7, 9, .lt), (7, 10, .lt), (7, 11, .fz kK), (7, 12, .lt), (7, 13, .lt)], [], [], 8⟩, ⟨113, 3, false, [(12, .lt)], [(0, 0, .own 52 kS), (0, 1, .own 3 kI), (0, 2, .own 3 kI), (0, 3, .own 3 kI), (0, 4, .lt), (9, 0, .lt), (9, 1, .lt), (9, 2, .lt), (9, 3, .lt), (9, 4, .lt), (9, 5, .lt), (9, 6, .lt), (9, 7, .lt), (9, 8, .lt), (9, 9, .lt), (9, 10, .lt), (9, 11, .fz kK), (9, 12, .lt), (9, 13, .lt)], [], [], 10⟩], sig := s99 }
def t99 : Tree :=
 (.call 180 [] 0
 (.ite (.not (.var 5))
  (.ret [.bool false])
  (.call 41 [.int 1, .int 3, .int 0, .int 0, .int 0, .int 0] 6
  (.loop 20 [.int .i64, .sl 48 [.int .i64, .int .i64, .int .i64, .int .i64, .bool, .int .i64], .sl 8 [.int .i64], .sl 8 [.int .i64], .sl 8 [.int .i64], .int .i64, .int .i64, .int .i64, .int .i64, .int .i64, .int .i64, .int .i64, .int .i64, .int .i64, .int .i64, .int .i64, .int .i64, .sl 16 [.int .i64, .int .i64], .bool, .int .i64] [.int 0, .var 0, .var 1, .var 2, .var 3, .var 4, .var 6, .var 7, .var 8, .var 9, .var 10, .var 11, .var 12, .var 13, .var 14, .var 15, .var 16, .var 17, .var 18, .var 19]
  (.ite (.lt (.var 21) (.int 40))
   (.call 101 [.var 22, .var 23, .var 24, .var 25, .var 26, .var 27, .var 28, .var 29, .var 30, .var 31, .var 32, .var 33, .var 34, .var 35, .var 36, .var 37, .var 38, .var 39, .var 40] 41
   (.ite (.var 58)
    (.call 41 [.int 1, .int 4, .int 0, .int 0, .int 0, .int 0] 60
    (.loop 74 [.int .i64, .sl 48 [.int .i64, .int .i64, .int .i64, .int .i64, .bool, .int .i64], .sl 8 [.int .i64], .sl 8 [.int .i64], .sl 8 [.int .i64], .int .i64, .int .i64, .int .i64, .int .i64, .int .i64, .int .i64, .int .i64, .int .i64, .int .i64, .int .i64, .int .i64, .int .i64, .sl 16 [.int .i64, .int .i64], .bool, .int .i64] [.int 0, .var 41, .var 42, .var 43, .var 44, .var 45, .var 60, .var 61, .var 62, .var 63, .var 64, .var 65, .var 66, .var 67, .var 68, .var 69, .var 70, .var 71, .var 72, .var 73]
    (.ite (.lt (.var 75) (.int 40))
     (.call 101 [.var 76, .var 77, .var 78, .var 79, .var 80, .var 81, .var 82, .var 83, .var 84, .var 85, .var 86, .var 87, .var 88, .var 89, .var 90, .var 91, .var 92, .var 93, .var 94] 95
     (.ite (.var 112)
      (.ite (.eq (.var 59) (.int 0))
       (.ite (.eq (.var 55) (.int 0))
        (.ite (.eq (.var 113) (.int 5))
         (.need (.lt (.int 0) (.len (.var 95)))
         (.ret [.eq (.cell (.var 95) (.int 0) 0) (.int 2)]))
         (.ret [.bool false]))
        (.ret [.bool false]))
       (.ret [.bool false]))
      (.need (.fit (.add (.var 75) (.int 1)))
      (.back 74 [.add (.var 75) (.int 1), .var 95, .var 96, .var 97, .var 98, .var 99, .var 100, .var 101, .var 102, .var 103, .var 104, .var 105, .var 106, .var 107, .var 108, .var 109, .var 110, .var 111, .var 112, .var 113]))))
     (.ret [.bool false]))))
    (.need (.fit (.add (.var 21) (.int 1)))
    (.back 20 [.add (.var 21) (.int 1), .var 41, .var 42, .var 43, .var 44, .var 45, .var 46, .var 47, .var 48, .var 49, .var 50, .var 51, .var 52, .var 53, .var 54, .var 55, .var 56, .var 57, .var 58, .var 59]))))
   (.call 41 [.int 1, .int 4, .int 0, .int 0, .int 0, .int 0] 41
   (.loop 55 [.int .i64, .sl 48 [.int .i64, .int .i64, .int .i64, .int .i64, .bool, .int .i64], .sl 8 [.int .i64], .sl 8 [.int .i64], .sl 8 [.int .i64], .int .i64, .int .i64, .int .i64, .int .i64, .int .i64, .int .i64, .int .i64, .int .i64, .int .i64, .int .i64, .int .i64, .int .i64, .sl 16 [.int .i64, .int .i64], .bool, .int .i64] [.int 0, .var 22, .var 23, .var 24, .var 25, .var 26, .var 41, .var 42, .var 43, .var 44, .var 45, .var 46, .var 47, .var 48, .var 49, .var 50, .var 51, .var 52, .var 53, .var 54]
   (.ite (.lt (.var 56) (.int 40))
    (.call 101 [.var 57, .var 58, .var 59, .var 60, .var 61, .var 62, .var 63, .var 64, .var 65, .var 66, .var 67, .var 68, .var 69, .var 70, .var 71, .var 72, .var 73, .var 74, .var 75] 76
    (.ite (.var 93)
     (.ret [.bool false])
     (.need (.fit (.add (.var 56) (.int 1)))
     (.back 55 [.add (.var 56) (.int 1), .var 76, .var 77, .var 78, .var 79, .var 80, .var 81, .var 82, .var 83, .var 84, .var 85, .var 86, .var 87, .var 88, .var 89, .var 90, .var 91, .var 92, .var 93, .var 94]))))
    (.ret [.bool false])))))))))
theorem run99 : run z99 6000 [.code (Try.f99.body.getD .skip), .fin (topRet z99 Try.f99.results.toList 50)] { fn := 99, tmps := z99.sig.args0 ++ List.replicate (Try.f99.ntmps - z99.sig.args0.length) (.v (.one .undef)), stk := [], h := z99.sig.h0, nx := z99.sig.ins.length, known := [] } = t99 := by kernel_rfl
theorem ok99 : CtOk Try.prog 99 d99.ct := by
  refine dc_of_tree (d := d99) (Z := z99) (Γ := gam l99) (fn := Try.f99) (c := Try.f99.body.getD .skip) (told_of tok mixed (all_cons ok180 (all_cons ok41 (all_cons ok101 all_nil))) (fok_cons (c := Try.f113.body.getD .skip) Try.func113 (by kernel_rfl) (by kernel_rfl) (fok_cons (c := Try.f181.body.getD .skip) Try.func181 (by kernel_rfl) (by kernel_rfl) fok_nil))) Try.func99 (by kernel_rfl) (by kernel_rfl) rfl run99 fun E hk hp => ?_
  clear hk
  have el : letters E d99.sig.ins.length = [] := rfl
  rw [el] at hp
  rw [el]
  rw [Env.pre_eq el]
  clear el
  simp only [d99]
  unfold t99
  refine den_calle d180 (sM.cds ++ [.b true]) rfl trivial rfl ?_
  refine den_iff (by simp only [nrm, X.den, Env.put, Env.pre, reduceIte, Nat.reduceLT, Nat.reduceSub, Nat.reduceAdd, Mem.cds, List.cons_append, List.nil_append]; rfl) ?_
  refine den_calle d41 lF1.cds rfl trivial (by simp only [nrm, X.den, Env.put, Env.pre, reduceIte, Nat.reduceLT, Nat.reduceSub, Nat.reduceAdd, fs41]; rfl) ?_
  refine den_loop (fun ds => ∃ (i : Nat) (x : Mem) (f : Frm), ds = .i i :: (x.cds ++ f.cds) ∧ i ≤ 40 ∧ aloneR lookStep (40 - i) f x = lA ∧ MemIn x ∧ FrmOk x f ∧ f.c.kind = 1) (fun ds => 40 - (ds.getD 0 .u).int.toNat) ⟨0, sM, lF1, ?_, by omega, rfl, sm_ok, lf1_ok, rfl⟩ ?_
  · simp only [nrm, X.den, Env.put, Env.pre, reduceIte, Nat.reduceLT, Nat.reduceSub, Nat.reduceAdd, Mem.cds, Frm.cds, List.cons_append, List.nil_append]; rfl
  rintro ds - ⟨i, x, f, rfl, hi, ht, hx, hf, hk⟩
  simp only [Mem.cds, Frm.cds, List.cons_append, List.nil_append]
  refine den_ite (fun hlt => ?_) (fun hge => ?_)
  · simp only [nrm, X.den, Env.put, Env.pre, reduceIte, Nat.reduceLT, Nat.reduceSub, Nat.reduceAdd] at hlt
    refine den_calle d101 ((lookStep x f).2.cds ++ (lookStep x f).1.cds) rfl (by simp only [nrm, X.den, Env.put, Env.pre, reduceIte, Nat.reduceLT, Nat.reduceSub, Nat.reduceAdd]; exact pi101 hx hf hk) (by simp only [nrm, X.den, Env.put, Env.pre, reduceIte, Nat.reduceLT, Nat.reduceSub, Nat.reduceAdd, fn101]) ?_
    have e1 : 40 - i = 40 - (i + 1) + 1 := by omega
    have hfit := look_fit hx hf hk
    have hin := look_into hx hf
    rw [e1] at ht
    rcases hs : lookStep x f with ⟨g, y⟩
    rw [hs] at hfit hin
    simp only [Mem.cds, Frm.cds, List.cons_append, List.nil_append]
    refine den_ite (fun hd => ?_) (fun hd => ?_)
    · simp only [nrm, X.den, Env.put, Env.pre, reduceIte, Nat.reduceLT, Nat.reduceSub, Nat.reduceAdd] at hd
      rw [alone_end hs hd] at ht
      obtain ⟨k1, k2, k3, k4⟩ := lA_ok
      have eB : lB = aloneR lookStep 40 lF2 y := by unfold lB; rw [← ht]
      rw [← ht] at k1 k2 k3 k4
      refine den_calle d41 lF2.cds rfl trivial (by simp only [nrm, X.den, Env.put, Env.pre, reduceIte, Nat.reduceLT, Nat.reduceSub, Nat.reduceAdd, fs41]; rfl) ?_
      refine den_loop (fun ds => ∃ (i : Nat) (x : Mem) (f : Frm), ds = .i i :: (x.cds ++ f.cds) ∧ i ≤ 40 ∧ aloneR lookStep (40 - i) f x = lB ∧ MemIn x ∧ FrmOk x f ∧ f.c.kind = 1) (fun ds => 40 - (ds.getD 0 .u).int.toNat) ⟨0, y, lF2, ?_, by omega, eB.symm, hin, (checkFrame_iff _ _).1 k4, rfl⟩ ?_
      · simp only [nrm, X.den, Env.put, Env.pre, reduceIte, Nat.reduceLT, Nat.reduceSub, Nat.reduceAdd, Mem.cds, Frm.cds, List.cons_append, List.nil_append]; rfl
      rintro ds - ⟨i, x, f, rfl, hi, ht, hx, hf, hk⟩
      simp only [Mem.cds, Frm.cds, List.cons_append, List.nil_append]
      refine den_ite (fun hlt => ?_) (fun hge => ?_)
      · simp only [nrm, X.den, Env.put, Env.pre, reduceIte, Nat.reduceLT, Nat.reduceSub, Nat.reduceAdd] at hlt
        refine den_calle d101 ((lookStep x f).2.cds ++ (lookStep x f).1.cds) rfl (by simp only [nrm, X.den, Env.put, Env.pre, reduceIte, Nat.reduceLT, Nat.reduceSub, Nat.reduceAdd]; exact pi101 hx hf hk) (by simp only [nrm, X.den, Env.put, Env.pre, reduceIte, Nat.reduceLT, Nat.reduceSub, Nat.reduceAdd, fn101]) ?_
        have e1 : 40 - i = 40 - (i + 1) + 1 := by omega
        have hfit := look_fit hx hf hk
        have hin := look_into hx hf
        rw [e1] at ht
        rcases hs : lookStep x f with ⟨g2, y2⟩
        rw [hs] at hfit hin
        simp only [Mem.cds, Frm.cds, List.cons_append, List.nil_append]
        refine den_ite (fun hd => ?_) (fun hd => ?_)
        · simp only [nrm, X.den, Env.put, Env.pre, reduceIte, Nat.reduceLT, Nat.reduceSub, Nat.reduceAdd] at hd
          rw [alone_end hs hd] at ht
          obtain ⟨j1, j2, j3, j4⟩ := lB_ok
          rw [← ht] at j1 j2 j3 j4
          have k2 : g.e = 0 := k2
          have k3 : g.slot = 0 := k3
          have j2 : g2.e = 5 := j2
          have j3 : (y2.slots.getD 0 default).refs = 2 := j3
          have j4 : y2.slots.length = 2 := j4
          refine den_ift (by simp only [nrm, X.den, Env.put, Env.pre, reduceIte, Nat.reduceLT, Nat.reduceSub, Nat.reduceAdd]; exact k2) (den_ift (by simp only [nrm, X.den, Env.put, Env.pre, reduceIte, Nat.reduceLT, Nat.reduceSub, Nat.reduceAdd]; exact k3) (den_ift (by simp only [nrm, X.den, Env.put, Env.pre, reduceIte, Nat.reduceLT, Nat.reduceSub, Nat.reduceAdd]; exact j2) (den_lt (by simp only [nrm, X.den, Env.put, Env.pre, reduceIte, Nat.reduceLT, Nat.reduceSub, Nat.reduceAdd, len_slots]; omega) (den_ret ?_))))
          simp only [nrm, X.den, Env.put, Env.pre, reduceIte, Nat.reduceLT, Nat.reduceSub, Nat.reduceAdd, cell_s0, Int.toNat_zero, j3]
          rfl
        · simp only [nrm, X.den, Env.put, Env.pre, reduceIte, Nat.reduceLT, Nat.reduceSub, Nat.reduceAdd] at hd
          rw [alone_on hs hd] at ht
          refine den_fit (by simp only [nrm, X.den, Env.put, Env.pre, reduceIte, Nat.reduceLT, Nat.reduceSub, Nat.reduceAdd]; omega) (den_back ⟨⟨i + 1, y2, g2, ?_, by omega, ht, hfit hd⟩, ?_⟩)
          · simp only [nrm, X.den, Env.put, Env.pre, reduceIte, Nat.reduceLT, Nat.reduceSub, Nat.reduceAdd, Mem.cds, Frm.cds, List.cons_append, List.nil_append]; rfl
          · simp only [nrm, X.den, Env.put, Env.pre, reduceIte, Nat.reduceLT, Nat.reduceSub, Nat.reduceAdd]; omega
      · simp only [nrm, X.den, Env.put, Env.pre, reduceIte, Nat.reduceLT, Nat.reduceSub, Nat.reduceAdd] at hge
        rw [show 40 - i = 0 from by omega] at ht
        have := lB_ok.1
        rw [← ht] at this
        cases this
    · simp only [nrm, X.den, Env.put, Env.pre, reduceIte, Nat.reduceLT, Nat.reduceSub, Nat.reduceAdd] at hd
      rw [alone_on hs hd] at ht
      refine den_fit (by simp only [nrm, X.den, Env.put, Env.pre, reduceIte, Nat.reduceLT, Nat.reduceSub, Nat.reduceAdd]; omega) (den_back ⟨⟨i + 1, y, g, ?_, by omega, ht, hfit hd⟩, ?_⟩)
      · simp only [nrm, X.den, Env.put, Env.pre, reduceIte, Nat.reduceLT, Nat.reduceSub, Nat.reduceAdd, Mem.cds, Frm.cds, List.cons_append, List.nil_append]; rfl
      · simp only [nrm, X.den, Env.put, Env.pre, reduceIte, Nat.reduceLT, Nat.reduceSub, Nat.reduceAdd]; omega
  · simp only [nrm, X.den, Env.put, Env.pre, reduceIte, Nat.reduceLT, Nat.reduceSub, Nat.reduceAdd] at hge
    rw [show 40 - i = 0 from by omega] at ht
    have := lA_ok.1
    rw [← ht] at this
    cases this
def s16 : Sig := ⟨[.agg [.fz kS, .fz kI, .fz kI, .fz kI, .int .i64], .agg [.int .i64, .int .i64, .int .i64, .int .i64, .int .i64, .int .i64, .int .i64, .int .i64, .int .i64, .int .i64, .int .i64, .fz kK, .bool, .int .i64]], [.one (.bool)]⟩
def d16 : DC := ⟨s16, fun _ => True, fun _ => [.b true]⟩
def l16 : List (Nat × Ct) := [(99, d99.ct), (100, d100.ct), (62, d62.ct), (101, d101.ct), (102, d102.ct), (47, d47.ct), (60, d60.ct)]
def z16 : Cx := { T := ttA, C := sigs l16, F := [], hints := [], sig := s16 }
def t16 : Tree :=
 (.call 99 [] 19
 (.ite (.not (.var 19))
  (.call 99 [] 20
  (.ret [.var 20]))
  (.call 100 [.var 0, .var 1, .var 2, .var 3, .var 4, .int 1, .var 6, .var 7, .var 8, .var 9, .var 10, .var 11, .var 12, .var 13, .var 14, .var 15, .var 16, .var 17, .var 18] 20
  (.ite (.not (.var 20))
   (.call 99 [] 21
   (.ret [.var 21]))
   (.call 62 [.var 0, .var 1, .var 2, .var 3, .var 4] 21
   (.call 62 [.var 0, .var 1, .var 2, .var 3, .var 4] 26
   (.call 101 [.var 21, .var 22, .var 23, .var 24, .var 25, .int 1, .var 6, .var 7, .var 8, .var 9, .var 10, .var 11, .var 12, .var 13, .var 14, .var 15, .var 16, .var 17, .var 18] 31
   (.call 102 [.var 26, .var 27, .var 28, .var 29, .var 30, .int 1, .var 6, .var 7, .var 8, .var 9, .var 10, .var 11, .var 12, .var 13, .var 14, .var 15, .var 16, .var 17, .var 18] 50
   (.call 47 [.var 36, .var 37, .var 38, .var 39, .var 40, .var 41, .var 42, .var 43, .var 44, .var 45, .var 46, .var 47, .var 48, .var 49, .var 55, .var 56, .var 57, .var 58, .var 59, .var 60, .var 61, .var 62, .var 63, .var 64, .var 65, .var 66, .var 67, .var 68] 69
   (.ite (.var 69)
    (.call 60 [.var 31, .var 32, .var 33, .var 34, .var 35, .var 50, .var 51, .var 52, .var 53, .var 54] 70
    (.ret [.var 70]))
    (.ret [.bool false])))))))))))
theorem run16 : run z16 6000 [.code (Try.f16.body.getD .skip), .fin (topRet z16 Try.f16.results.toList 50)] { fn := 16, tmps := z16.sig.args0 ++ List.replicate (Try.f16.ntmps - z16.sig.args0.length) (.v (.one .undef)), stk := [], h := z16.sig.h0, nx := z16.sig.ins.length, known := [] } = t16 := by kernel_rfl
theorem ok16 : CtOk Try.prog 16 d16.ct := by
  refine dc_of_tree (d := d16) (Z := z16) (Γ := gam l16) (fn := Try.f16) (c := Try.f16.body.getD .skip) (told_of tok mixed (all_cons ok99 (all_cons ok100 (all_cons ok62 (all_cons ok101 (all_cons ok102 (all_cons ok47 (all_cons ok60 all_nil))))))) fok_nil) Try.func16 (by kernel_rfl) (by kernel_rfl) rfl run16 fun E hk hp => ?_
  obtain ⟨hk0, hk1, hk2, hk3, hk4, hk5, hk6, hk7, hk8, hk9, hk10, hk11, hk12, hk13, hk14, hk15, hk16, hk17, hk18, _⟩ := hk
  obtain ⟨m, e0, e1, e2, e3, e4, b0, b1, b2, b3⟩ := ok_mem (d0 := E 0) (d1 := E 1) (d2 := E 2) (d3 := E 3) (d4 := E 4) hk0 hk1 hk2 hk3 hk4
  obtain ⟨f, e5, e6, e7, e8, e9, e10, e11, e12, e13, e14, e15, e16, e17, e18, b16⟩ := ok_frame (d0 := E 5) (d1 := E 6) (d2 := E 7) (d3 := E 8) (d4 := E 9) (d5 := E 10) (d6 := E 11) (d7 := E 12) (d8 := E 13) (d9 := E 14) (d10 := E 15) (d11 := E 16) (d12 := E 17) (d13 := E 18) hk5 hk6 hk7 hk8 hk9 hk10 hk11 hk12 hk13 hk14 hk15 hk16 hk17 hk18
  have el : letters E d16.sig.ins.length = [slotsD m.slots, intsD m.heads, intsD m.free, intsD m.locks, .i m.now, .i f.c.kind, .i f.c.k.a, .i f.c.k.b, .i f.c.time, .i f.c.bucket, .i f.c.slot, .i f.pc, .i f.cur, .i f.prev, .i f.slot, .i f.n, keysD f.keys, .b f.done, .i f.e] := by
    show [E 0, E 1, E 2, E 3, E 4, E 5, E 6, E 7, E 8, E 9, E 10, E 11, E 12, E 13, E 14, E 15, E 16, E 17, E 18] = _
    rw [e0, e1, e2, e3, e4, e5, e6, e7, e8, e9, e10, e11, e12, e13, e14, e15, e16, e17, e18]
  rw [el] at hp
  rw [el]
  rw [Env.pre_eq el]
  clear el e0 e1 e2 e3 e4 e5 e6 e7 e8 e9 e10 e11 e12 e13 e14 e15 e16 e17 e18
  simp only [d16]
  unfold t16
  refine den_calle d99 [.b true] rfl trivial rfl (den_iff rfl ?_)
  obtain ⟨F, hF⟩ : ∃ F : Frm, F = { f with c := { f.c with kind := 1 } } := ⟨_, rfl⟩
  have hk : F.c.kind = 1 := by rw [hF]
  refine den_calle d100 [.b (decide (checkMem m = 0 ∧ checkFrame m F = 0))] rfl trivial (by simp only [nrm, X.den, Env.put, Env.pre, reduceIte, Nat.reduceLT, Nat.reduceSub, Nat.reduceAdd]; rw [hF]; exact fn100 m { f with c := { f.c with kind := 1 } }) (den_ite (fun h => ?_) (fun h => ?_))
  · refine den_calle d99 [.b true] rfl trivial rfl (den_ret ?_)
    simp only [nrm, X.den, Env.put, Env.pre, reduceIte, Nat.reduceLT, Nat.reduceSub, Nat.reduceAdd]
  simp only [nrm, X.den, Env.put, Env.pre, reduceIte, Nat.reduceLT, Nat.reduceSub, Nat.reduceAdd, Bool.not_eq_false', decide_eq_true_eq] at h
  have hm := ((checkMem_iff m).1 h.1).into
  have hf := (checkFrame_iff m F).1 h.2
  refine den_calle d62 m.cds rfl trivial (by simp only [nrm, X.den, Env.put, Env.pre, reduceIte, Nat.reduceLT, Nat.reduceSub, Nat.reduceAdd, fn62]) ?_
  refine den_calle d62 m.cds rfl trivial (by simp only [nrm, X.den, Env.put, Env.pre, reduceIte, Nat.reduceLT, Nat.reduceSub, Nat.reduceAdd, Mem.cds, fn62]) ?_
  refine den_calle d101 ((lookStep m F).2.cds ++ (lookStep m F).1.cds) rfl (by simp only [nrm, X.den, Env.put, Env.pre, reduceIte, Nat.reduceLT, Nat.reduceSub, Nat.reduceAdd, Mem.cds]; have := pi101 hm hf hk; rw [hF] at this; exact this) (by simp only [nrm, X.den, Env.put, Env.pre, reduceIte, Nat.reduceLT, Nat.reduceSub, Nat.reduceAdd, Mem.cds]; rw [hF]; exact fn101 m { f with c := { f.c with kind := 1 } }) ?_
  refine den_calle d102 ((lookStep m F).2.cds ++ (lookStep m F).1.cds) rfl (by simp only [nrm, X.den, Env.put, Env.pre, reduceIte, Nat.reduceLT, Nat.reduceSub, Nat.reduceAdd, Mem.cds]; have := pi102 hm hf hk; rw [hF] at this; exact this) (by simp only [nrm, X.den, Env.put, Env.pre, reduceIte, Nat.reduceLT, Nat.reduceSub, Nat.reduceAdd, Mem.cds]; rw [hF]; exact fn102 m { f with c := { f.c with kind := 1 } }) ?_
  generalize lookStep m F = r
  obtain ⟨g, x⟩ := r
  simp only [Mem.cds, Frm.cds, List.cons_append, List.nil_append]
  refine den_calle d47 [.b true] rfl trivial (by simp only [nrm, X.den, Env.put, Env.pre, reduceIte, Nat.reduceLT, Nat.reduceSub, Nat.reduceAdd, fn47]; simp) (den_ift rfl ?_)
  refine den_calle d60 [.b true] rfl trivial (by simp only [nrm, X.den, Env.put, Env.pre, reduceIte, Nat.reduceLT, Nat.reduceSub, Nat.reduceAdd, fn60]; simp) (den_ret ?_)
  simp only [nrm, X.den, Env.put, Env.pre, reduceIte, Nat.reduceLT, Nat.reduceSub, Nat.reduceAdd]
end Go.Proofs.Ytpmamacjepcdmaa
