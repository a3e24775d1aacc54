import Derived.Test.YtpmamacjepcdmaaCFit
import Derived.Test.YtpmamacjepcdmaaCSweep
/- Closed: swept. -/
namespace Go.Proofs.Ytpmamacjepcdmaa
open Go Go.Sy Go.RowKit
set_option linter.unusedSimpArgs false
set_option linter.unusedVariables false

theorem sweep_fit {m : Mem} {f : Frm} (hm : MemIn m) (hf : FrmOk m f) (hk : (f.c.kind = 4 ∨ f.c.kind = 5)) (hd : ((fun m f => sweepStep m f 1) m f).1.done = false) : MemIn ((fun m f => sweepStep m f 1) m f).2 ∧ FrmOk ((fun m f => sweepStep m f 1) m f).2 ((fun m f => sweepStep m f 1) m f).1 ∧ (((fun m f => sweepStep m f 1) m f).1.c.kind = 4 ∨ ((fun m f => sweepStep m f 1) m f).1.c.kind = 5) :=
  ⟨sweepStep_into 1 hm hf, (sweepStep_in 1 hm hf hk).ok hf (sweepStep_touch 1 hm hf hk) hd, by rw [(sweepStep_in 1 hm hf hk).c]; exact hk⟩
theorem sweep_into {m : Mem} {f : Frm} (hm : MemIn m) (hf : FrmOk m f) (hk : (f.c.kind = 4 ∨ f.c.kind = 5)) : MemIn ((fun m f => sweepStep m f 1) m f).2 := sweepStep_into 1 hm hf
def rF1 : Frm := newFrame ⟨4, ⟨0, 0⟩, 0, 0, 0⟩
def rM1 : Mem := sM
def rR1 : Frm × Mem × Bool := aloneR (fun m f => sweepStep m f 1) 40 rF1 rM1
theorem rok1 : checkMem rM1 = 0 ∧ checkFrame rM1 rF1 = 0 ∧ rR1.2.2 = true ∧ rR1.1.n = 0 := by decide +kernel
def rF2 : Frm := newFrame ⟨5, ⟨0, 0⟩, 0, 0, 0⟩
def rM2 : Mem := rR1.2.1
def rR2 : Frm × Mem × Bool := aloneR (fun m f => sweepStep m f 1) 40 rF2 rM2
theorem rok2 : checkMem rM2 = 0 ∧ checkFrame rM2 rF2 = 0 ∧ rR2.2.2 = true ∧ rR2.1.keys = [⟨3, 0⟩] := by decide +kernel
def rF3 : Frm := newFrame ⟨4, ⟨0, 0⟩, 0, 0, 0⟩
def rM3 : Mem := { rR2.2.1 with now := 5 }
def rR3 : Frm × Mem × Bool := aloneR (fun m f => sweepStep m f 1) 40 rF3 rM3
theorem rok3 : checkMem rM3 = 0 ∧ checkFrame rM3 rF3 = 0 ∧ rR3.2.2 = true ∧ rR3.1.n = 1 ∧ rR3.2.1.free.length = 2 ∧ rR3.2.1.locks = [-1] := by decide +kernel
def s109 : Sig := ⟨[], [.one (.bool)]⟩
def d109 : DC := ⟨s109, fun _ => True, fun _ => [.b true]⟩
def l109 : List (Nat × Ct) := [(180, d180.ct), (41, d41.ct), (110, d110.ct), (155, d155.ct)]
noncomputable def z109 : Cx := { T := ttA, C := sigs l109, F := [(113, Try.f113), (193, Try.f193)], hints := [⟨113, 3, false, [(12, .lt)], [(0, 0, .own 52 kS), (0, 1, .own 3 kI), (0, 2, .own 3 kI), (0, 3, .own 3 kI), (0, 4, .lt), (3, 0, .lt), (3, 1, .lt), (3, 2, .lt), (3, 3, .lt), (3, 4, .lt), (3, 5, .lt), (3, 6, .lt), (3, 7, .lt), (3, 8, .lt), (3, 9, .lt), (3, 10, .lt), (3, 11, .fz kK), (3, 12, .lt), (3, 13, .lt)], [], [], 4⟩, ⟨113, 3, false, [(12, .lt)], [(0, 0, .own 52 kS), (0, 1, .own 3 kI), (0, 2, .own 3 kI), (0, 3, .own 3 kI), (0, 4, .lt), (7, 0, .lt), (7, 1, .lt), (7, 2, .lt), (7, 3, .lt), (7, 4, .lt), (7, 5, .lt), (7, 6, .lt), (7, 7, .lt), (7, 8, .lt), (7, 9, .lt), (7, 10, .lt), (7, 11, .fz kK), (7, 12, .lt), (7, 13, .lt)], [], [], 8⟩, ⟨113, 3, false, [(12, .lt)], [(0, 0, .own 52 kS), (0, 1, .own 3 kI), (0, 2, .own 3 kI), (0, 3, .own 3 kI), (0, 4, .lt), (9, 0, .lt), (9, 1, .lt), (9, 2, .lt), (9, 3, .lt), (9, 4, .lt), (9, 5, .lt), (9, 6, .lt), (9, 7, .lt), (9, 8, .lt), (9, 9, .lt), (9, 10, .lt), (9, 11, .fz kK), (9, 12, .lt), (9, 13, .lt)], [], [], 10⟩, ⟨113, 3, false, [(12, .lt)], [(0, 0, .own 52 kS), (0, 1, .own 3 kI), (0, 2, .own 3 kI), (0, 3, .own 3 kI), (0, 4, .lt), (11, 0, .lt), (11, 1, .lt), (11, 2, .lt), (11, 3, .lt), (11, 4, .lt), (11, 5, .lt), (11, 6, .lt), (11, 7, .lt), (11, 8, .lt), (11, 9, .lt), (11, 10, .lt), (11, 11, .fz kK), (11, 12, .lt), (11, 13, .lt)], [], [], 12⟩, ⟨113, 3, false, [(12, .lt)], [(0, 0, .own 52 kS), (0, 1, .own 3 kI), (0, 2, .own 3 kI), (0, 3, .own 3 kI), (0, 4, .lt), (13, 0, .lt), (13, 1, .lt), (13, 2, .lt), (13, 3, .lt), (13, 4, .lt), (13, 5, .lt), (13, 6, .lt), (13, 7, .lt), (13, 8, .lt), (13, 9, .lt), (13, 10, .lt), (13, 11, .fz kK), (13, 12, .lt), (13, 13, .lt)], [], [], 14⟩, ⟨113, 3, false, [(12, .lt)], [(0, 0, .own 52 kS), (0, 1, .own 3 kI), (0, 2, .own 3 kI), (0, 3, .own 3 kI), (0, 4, .lt), (15, 0, .lt), (15, 1, .lt), (15, 2, .lt), (15, 3, .lt), (15, 4, .lt), (15, 5, .lt), (15, 6, .lt), (15, 7, .lt), (15, 8, .lt), (15, 9, .lt), (15, 10, .lt), (15, 11, .fz kK), (15, 12, .lt), (15, 13, .lt)], [], [], 16⟩], sig := s109 }
def t109 : Tree :=
 (.call 180 [] 0
 (.ite (.not (.var 5))
  (.ret [.bool false])
  (.call 41 [.int 4, .int 0, .int 0, .int 0, .int 0, .int 0] 6
  (.loop 20 [.int .i64, .sl 48 [.int .i64, .int .i64, .int .i64, .int .i64, .bool, .int .i64], .sl 8 [.int .i64], .sl 8 [.int .i64], .sl 8 [.int .i64], .int .i64, .int .i64, .int .i64, .int .i64, .int .i64, .int .i64, .int .i64, .int .i64, .int .i64, .int .i64, .int .i64, .int .i64, .sl 16 [.int .i64, .int .i64], .bool, .int .i64] [.int 0, .var 0, .var 1, .var 2, .var 3, .var 4, .var 6, .var 7, .var 8, .var 9, .var 10, .var 11, .var 12, .var 13, .var 14, .var 15, .var 16, .var 17, .var 18, .var 19]
  (.ite (.lt (.var 21) (.int 40))
   (.call 110 [.var 22, .var 23, .var 24, .var 25, .var 26, .var 27, .var 28, .var 29, .var 30, .var 31, .var 32, .var 33, .var 34, .var 35, .var 36, .var 37, .var 38, .var 39, .var 40, .int 1] 41
   (.ite (.var 58)
    (.call 41 [.int 5, .int 0, .int 0, .int 0, .int 0, .int 0] 60
    (.loop 74 [.int .i64, .sl 48 [.int .i64, .int .i64, .int .i64, .int .i64, .bool, .int .i64], .sl 8 [.int .i64], .sl 8 [.int .i64], .sl 8 [.int .i64], .int .i64, .int .i64, .int .i64, .int .i64, .int .i64, .int .i64, .int .i64, .int .i64, .int .i64, .int .i64, .int .i64, .int .i64, .sl 16 [.int .i64, .int .i64], .bool, .int .i64] [.int 0, .var 41, .var 42, .var 43, .var 44, .var 45, .var 60, .var 61, .var 62, .var 63, .var 64, .var 65, .var 66, .var 67, .var 68, .var 69, .var 70, .var 71, .var 72, .var 73]
    (.ite (.lt (.var 75) (.int 40))
     (.call 110 [.var 76, .var 77, .var 78, .var 79, .var 80, .var 81, .var 82, .var 83, .var 84, .var 85, .var 86, .var 87, .var 88, .var 89, .var 90, .var 91, .var 92, .var 93, .var 94, .int 1] 95
     (.ite (.var 112)
      (.call 41 [.int 4, .int 0, .int 0, .int 0, .int 0, .int 0] 114
      (.loop 128 [.int .i64, .sl 48 [.int .i64, .int .i64, .int .i64, .int .i64, .bool, .int .i64], .sl 8 [.int .i64], .sl 8 [.int .i64], .sl 8 [.int .i64], .int .i64, .int .i64, .int .i64, .int .i64, .int .i64, .int .i64, .int .i64, .int .i64, .int .i64, .int .i64, .int .i64, .int .i64, .sl 16 [.int .i64, .int .i64], .bool, .int .i64] [.int 0, .var 95, .var 96, .var 97, .var 98, .int 5, .var 114, .var 115, .var 116, .var 117, .var 118, .var 119, .var 120, .var 121, .var 122, .var 123, .var 124, .var 125, .var 126, .var 127]
      (.ite (.lt (.var 129) (.int 40))
       (.call 110 [.var 130, .var 131, .var 132, .var 133, .var 134, .var 135, .var 136, .var 137, .var 138, .var 139, .var 140, .var 141, .var 142, .var 143, .var 144, .var 145, .var 146, .var 147, .var 148, .int 1] 149
       (.ite (.var 166)
        (.ite (.eq (.var 56) (.int 0))
         (.call 155 [.var 111, .cons (.int 3) (.cons (.int 0) .row0)] 168
         (.ite (.var 168)
          (.ite (.eq (.var 164) (.int 1))
           (.ite (.eq (.len (.var 151)) (.int 2))
            (.need (.lt (.int 0) (.len (.var 152)))
            (.ret [.eq (.cell (.var 152) (.int 0) 0) (.int (-1))]))
            (.ret [.bool false]))
           (.ret [.bool false]))
          (.ret [.bool false])))
         (.ret [.bool false]))
        (.need (.fit (.add (.var 129) (.int 1)))
        (.back 128 [.add (.var 129) (.int 1), .var 149, .var 150, .var 151, .var 152, .var 153, .var 154, .var 155, .var 156, .var 157, .var 158, .var 159, .var 160, .var 161, .var 162, .var 163, .var 164, .var 165, .var 166, .var 167]))))
       (.ret [.bool false]))))
      (.need (.fit (.add (.var 75) (.int 1)))
      (.back 74 [.add (.var 75) (.int 1), .var 95, .var 96, .var 97, .var 98, .var 99, .var 100, .var 101, .var 102, .var 103, .var 104, .var 105, .var 106, .var 107, .var 108, .var 109, .var 110, .var 111, .var 112, .var 113]))))
     (.call 41 [.int 4, .int 0, .int 0, .int 0, .int 0, .int 0] 95
     (.loop 109 [.int .i64, .sl 48 [.int .i64, .int .i64, .int .i64, .int .i64, .bool, .int .i64], .sl 8 [.int .i64], .sl 8 [.int .i64], .sl 8 [.int .i64], .int .i64, .int .i64, .int .i64, .int .i64, .int .i64, .int .i64, .int .i64, .int .i64, .int .i64, .int .i64, .int .i64, .int .i64, .sl 16 [.int .i64, .int .i64], .bool, .int .i64] [.int 0, .var 76, .var 77, .var 78, .var 79, .int 5, .var 95, .var 96, .var 97, .var 98, .var 99, .var 100, .var 101, .var 102, .var 103, .var 104, .var 105, .var 106, .var 107, .var 108]
     (.ite (.lt (.var 110) (.int 40))
      (.call 110 [.var 111, .var 112, .var 113, .var 114, .var 115, .var 116, .var 117, .var 118, .var 119, .var 120, .var 121, .var 122, .var 123, .var 124, .var 125, .var 126, .var 127, .var 128, .var 129, .int 1] 130
      (.ite (.var 147)
       (.ret [.bool false])
       (.need (.fit (.add (.var 110) (.int 1)))
       (.back 109 [.add (.var 110) (.int 1), .var 130, .var 131, .var 132, .var 133, .var 134, .var 135, .var 136, .var 137, .var 138, .var 139, .var 140, .var 141, .var 142, .var 143, .var 144, .var 145, .var 146, .var 147, .var 148]))))
      (.ret [.bool false])))))))
    (.need (.fit (.add (.var 21) (.int 1)))
    (.back 20 [.add (.var 21) (.int 1), .var 41, .var 42, .var 43, .var 44, .var 45, .var 46, .var 47, .var 48, .var 49, .var 50, .var 51, .var 52, .var 53, .var 54, .var 55, .var 56, .var 57, .var 58, .var 59]))))
   (.call 41 [.int 5, .int 0, .int 0, .int 0, .int 0, .int 0] 41
   (.loop 55 [.int .i64, .sl 48 [.int .i64, .int .i64, .int .i64, .int .i64, .bool, .int .i64], .sl 8 [.int .i64], .sl 8 [.int .i64], .sl 8 [.int .i64], .int .i64, .int .i64, .int .i64, .int .i64, .int .i64, .int .i64, .int .i64, .int .i64, .int .i64, .int .i64, .int .i64, .int .i64, .sl 16 [.int .i64, .int .i64], .bool, .int .i64] [.int 0, .var 22, .var 23, .var 24, .var 25, .var 26, .var 41, .var 42, .var 43, .var 44, .var 45, .var 46, .var 47, .var 48, .var 49, .var 50, .var 51, .var 52, .var 53, .var 54]
   (.ite (.lt (.var 56) (.int 40))
    (.call 110 [.var 57, .var 58, .var 59, .var 60, .var 61, .var 62, .var 63, .var 64, .var 65, .var 66, .var 67, .var 68, .var 69, .var 70, .var 71, .var 72, .var 73, .var 74, .var 75, .int 1] 76
    (.ite (.var 93)
     (.call 41 [.int 4, .int 0, .int 0, .int 0, .int 0, .int 0] 95
     (.loop 109 [.int .i64, .sl 48 [.int .i64, .int .i64, .int .i64, .int .i64, .bool, .int .i64], .sl 8 [.int .i64], .sl 8 [.int .i64], .sl 8 [.int .i64], .int .i64, .int .i64, .int .i64, .int .i64, .int .i64, .int .i64, .int .i64, .int .i64, .int .i64, .int .i64, .int .i64, .int .i64, .sl 16 [.int .i64, .int .i64], .bool, .int .i64] [.int 0, .var 76, .var 77, .var 78, .var 79, .int 5, .var 95, .var 96, .var 97, .var 98, .var 99, .var 100, .var 101, .var 102, .var 103, .var 104, .var 105, .var 106, .var 107, .var 108]
     (.ite (.lt (.var 110) (.int 40))
      (.call 110 [.var 111, .var 112, .var 113, .var 114, .var 115, .var 116, .var 117, .var 118, .var 119, .var 120, .var 121, .var 122, .var 123, .var 124, .var 125, .var 126, .var 127, .var 128, .var 129, .int 1] 130
      (.ite (.var 147)
       (.ret [.bool false])
       (.need (.fit (.add (.var 110) (.int 1)))
       (.back 109 [.add (.var 110) (.int 1), .var 130, .var 131, .var 132, .var 133, .var 134, .var 135, .var 136, .var 137, .var 138, .var 139, .var 140, .var 141, .var 142, .var 143, .var 144, .var 145, .var 146, .var 147, .var 148]))))
      (.ret [.bool false]))))
     (.need (.fit (.add (.var 56) (.int 1)))
     (.back 55 [.add (.var 56) (.int 1), .var 76, .var 77, .var 78, .var 79, .var 80, .var 81, .var 82, .var 83, .var 84, .var 85, .var 86, .var 87, .var 88, .var 89, .var 90, .var 91, .var 92, .var 93, .var 94]))))
    (.call 41 [.int 4, .int 0, .int 0, .int 0, .int 0, .int 0] 76
    (.loop 90 [.int .i64, .sl 48 [.int .i64, .int .i64, .int .i64, .int .i64, .bool, .int .i64], .sl 8 [.int .i64], .sl 8 [.int .i64], .sl 8 [.int .i64], .int .i64, .int .i64, .int .i64, .int .i64, .int .i64, .int .i64, .int .i64, .int .i64, .int .i64, .int .i64, .int .i64, .int .i64, .sl 16 [.int .i64, .int .i64], .bool, .int .i64] [.int 0, .var 57, .var 58, .var 59, .var 60, .int 5, .var 76, .var 77, .var 78, .var 79, .var 80, .var 81, .var 82, .var 83, .var 84, .var 85, .var 86, .var 87, .var 88, .var 89]
    (.ite (.lt (.var 91) (.int 40))
     (.call 110 [.var 92, .var 93, .var 94, .var 95, .var 96, .var 97, .var 98, .var 99, .var 100, .var 101, .var 102, .var 103, .var 104, .var 105, .var 106, .var 107, .var 108, .var 109, .var 110, .int 1] 111
     (.ite (.var 128)
      (.ret [.bool false])
      (.need (.fit (.add (.var 91) (.int 1)))
      (.back 90 [.add (.var 91) (.int 1), .var 111, .var 112, .var 113, .var 114, .var 115, .var 116, .var 117, .var 118, .var 119, .var 120, .var 121, .var 122, .var 123, .var 124, .var 125, .var 126, .var 127, .var 128, .var 129]))))
     (.ret [.bool false]))))))))))))
theorem run109 : run z109 6000 [.code (Try.f109.body.getD .skip), .fin (topRet z109 Try.f109.results.toList 50)] { fn := 109, tmps := z109.sig.args0 ++ List.replicate (Try.f109.ntmps - z109.sig.args0.length) (.v (.one .undef)), stk := [], h := z109.sig.h0, nx := z109.sig.ins.length, known := [] } = t109 := by kernel_rfl
theorem ok109 : CtOk Try.prog 109 d109.ct := by
  refine dc_of_tree (d := d109) (Z := z109) (Γ := gam l109) (fn := Try.f109) (c := Try.f109.body.getD .skip) (told_of tok mixed (all_cons ok180 (all_cons ok41 (all_cons ok110 (all_cons ok155 all_nil)))) (fok_cons (c := Try.f113.body.getD .skip) Try.func113 (by kernel_rfl) (by kernel_rfl) (fok_cons (c := Try.f193.body.getD .skip) Try.func193 (by kernel_rfl) (by kernel_rfl) fok_nil))) Try.func109 (by kernel_rfl) (by kernel_rfl) rfl run109 fun E hk hp => ?_
  clear hk
  have el : letters E d109.sig.ins.length = [] := rfl
  rw [el] at hp
  rw [el]
  rw [Env.pre_eq el]
  clear el
  simp only [d109]
  unfold t109
  refine den_calle d180 (sM.cds ++ [.b true]) rfl trivial rfl ?_
  refine den_iff (by simp only [nrm, X.den, Env.put, Env.pre, reduceIte, Nat.reduceLT, Nat.reduceSub, Nat.reduceAdd, Mem.cds, List.cons_append, List.nil_append]; rfl) ?_
  refine den_calle d41 rF1.cds rfl trivial (by simp only [nrm, X.den, Env.put, Env.pre, reduceIte, Nat.reduceLT, Nat.reduceSub, Nat.reduceAdd, fs41]; rfl) ?_
  refine den_loop (fun ds => ∃ (i : Nat) (x : Mem) (f : Frm), ds = .i i :: (x.cds ++ f.cds) ∧ i ≤ 40 ∧ aloneR (fun m f => sweepStep m f 1) (40 - i) f x = rR1 ∧ MemIn x ∧ FrmOk x f ∧ (f.c.kind = 4 ∨ f.c.kind = 5)) (fun ds => 40 - (ds.getD 0 .u).int.toNat) ⟨0, rM1, rF1, ?_, by omega, rfl, ((checkMem_iff _).1 (rok1.1)).into, (checkFrame_iff _ _).1 (rok1.2.1), .inl rfl⟩ ?_
  · simp only [nrm, X.den, Env.put, Env.pre, reduceIte, Nat.reduceLT, Nat.reduceSub, Nat.reduceAdd, Mem.cds, Frm.cds, List.cons_append, List.nil_append]; rfl
  rintro ds - ⟨i, x, f, rfl, hi, ht, hx, hf, hk⟩
  simp only [Mem.cds, Frm.cds, List.cons_append, List.nil_append]
  refine den_ite (fun hlt => ?_) (fun hge => ?_)
  · simp only [nrm, X.den, Env.put, Env.pre, reduceIte, Nat.reduceLT, Nat.reduceSub, Nat.reduceAdd] at hlt
    refine den_calle d110 (((fun m f => sweepStep m f 1) x f).2.cds ++ ((fun m f => sweepStep m f 1) x f).1.cds) rfl (by simp only [nrm, X.den, Env.put, Env.pre, reduceIte, Nat.reduceLT, Nat.reduceSub, Nat.reduceAdd]; exact pi110 hx hf hk 1) (by simp only [nrm, X.den, Env.put, Env.pre, reduceIte, Nat.reduceLT, Nat.reduceSub, Nat.reduceAdd, fn110]) ?_
    have e1 : 40 - i = 40 - (i + 1) + 1 := by omega
    have hfit := sweep_fit hx hf hk
    have hin := sweep_into hx hf hk
    rw [e1] at ht
    rcases hs : (fun m f => sweepStep m f 1) x f with ⟨g1, y1⟩
    rw [hs] at hfit hin
    simp only [Mem.cds, Frm.cds, List.cons_append, List.nil_append]
    refine den_ite (fun hd => ?_) (fun hd => ?_)
    · simp only [nrm, X.den, Env.put, Env.pre, reduceIte, Nat.reduceLT, Nat.reduceSub, Nat.reduceAdd] at hd
      rw [alone_end hs hd] at ht
      have ht1 := ht
      clear hlt e1 hfit hs hd ht hx hf hk hi
      have eM2 : rM2 = y1 := by show rR1.2.1 = _; rw [← ht1]
      have okk2 := rok2
      rw [eM2] at okk2
      refine den_calle d41 rF2.cds rfl trivial (by simp only [nrm, X.den, Env.put, Env.pre, reduceIte, Nat.reduceLT, Nat.reduceSub, Nat.reduceAdd, fs41]; rfl) ?_
      refine den_loop (fun ds => ∃ (i : Nat) (x : Mem) (f : Frm), ds = .i i :: (x.cds ++ f.cds) ∧ i ≤ 40 ∧ aloneR (fun m f => sweepStep m f 1) (40 - i) f x = rR2 ∧ MemIn x ∧ FrmOk x f ∧ (f.c.kind = 4 ∨ f.c.kind = 5)) (fun ds => 40 - (ds.getD 0 .u).int.toNat) ⟨0, y1, rF2, ?_, by omega, (by show _ = aloneR (fun m f => sweepStep m f 1) 40 rF2 rM2; rw [eM2]), ((checkMem_iff _).1 (okk2.1)).into, (checkFrame_iff _ _).1 (okk2.2.1), .inr rfl⟩ ?_
      · simp only [nrm, X.den, Env.put, Env.pre, reduceIte, Nat.reduceLT, Nat.reduceSub, Nat.reduceAdd, Mem.cds, Frm.cds, List.cons_append, List.nil_append]; rfl
      rintro ds - ⟨i, x, f, rfl, hi, ht, hx, hf, hk⟩
      simp only [Mem.cds, Frm.cds, List.cons_append, List.nil_append]
      refine den_ite (fun hlt => ?_) (fun hge => ?_)
      · simp only [nrm, X.den, Env.put, Env.pre, reduceIte, Nat.reduceLT, Nat.reduceSub, Nat.reduceAdd] at hlt
        refine den_calle d110 (((fun m f => sweepStep m f 1) x f).2.cds ++ ((fun m f => sweepStep m f 1) x f).1.cds) rfl (by simp only [nrm, X.den, Env.put, Env.pre, reduceIte, Nat.reduceLT, Nat.reduceSub, Nat.reduceAdd]; exact pi110 hx hf hk 1) (by simp only [nrm, X.den, Env.put, Env.pre, reduceIte, Nat.reduceLT, Nat.reduceSub, Nat.reduceAdd, fn110]) ?_
        have e1 : 40 - i = 40 - (i + 1) + 1 := by omega
        have hfit := sweep_fit hx hf hk
        have hin := sweep_into hx hf hk
        rw [e1] at ht
        rcases hs : (fun m f => sweepStep m f 1) x f with ⟨g2, y2⟩
        rw [hs] at hfit hin
        simp only [Mem.cds, Frm.cds, List.cons_append, List.nil_append]
        refine den_ite (fun hd => ?_) (fun hd => ?_)
        · simp only [nrm, X.den, Env.put, Env.pre, reduceIte, Nat.reduceLT, Nat.reduceSub, Nat.reduceAdd] at hd
          rw [alone_end hs hd] at ht
          have ht2 := ht
          clear hlt e1 hfit hs hd ht hx hf hk hi
          have eM3 : rM3 = { y2 with now := 5 } := by show { rR2.2.1 with now := 5 } = _; rw [← ht2]
          have okk3 := rok3
          rw [eM3] at okk3
          refine den_calle d41 rF3.cds rfl trivial (by simp only [nrm, X.den, Env.put, Env.pre, reduceIte, Nat.reduceLT, Nat.reduceSub, Nat.reduceAdd, fs41]; rfl) ?_
          refine den_loop (fun ds => ∃ (i : Nat) (x : Mem) (f : Frm), ds = .i i :: (x.cds ++ f.cds) ∧ i ≤ 40 ∧ aloneR (fun m f => sweepStep m f 1) (40 - i) f x = rR3 ∧ MemIn x ∧ FrmOk x f ∧ (f.c.kind = 4 ∨ f.c.kind = 5)) (fun ds => 40 - (ds.getD 0 .u).int.toNat) ⟨0, { y2 with now := 5 }, rF3, ?_, by omega, (by show _ = aloneR (fun m f => sweepStep m f 1) 40 rF3 rM3; rw [eM3]), ((checkMem_iff _).1 (okk3.1)).into, (checkFrame_iff _ _).1 (okk3.2.1), .inl rfl⟩ ?_
          · simp only [nrm, X.den, Env.put, Env.pre, reduceIte, Nat.reduceLT, Nat.reduceSub, Nat.reduceAdd, Mem.cds, Frm.cds, List.cons_append, List.nil_append]; rfl
          rintro ds - ⟨i, x, f, rfl, hi, ht, hx, hf, hk⟩
          simp only [Mem.cds, Frm.cds, List.cons_append, List.nil_append]
          refine den_ite (fun hlt => ?_) (fun hge => ?_)
          · simp only [nrm, X.den, Env.put, Env.pre, reduceIte, Nat.reduceLT, Nat.reduceSub, Nat.reduceAdd] at hlt
            refine den_calle d110 (((fun m f => sweepStep m f 1) x f).2.cds ++ ((fun m f => sweepStep m f 1) x f).1.cds) rfl (by simp only [nrm, X.den, Env.put, Env.pre, reduceIte, Nat.reduceLT, Nat.reduceSub, Nat.reduceAdd]; exact pi110 hx hf hk 1) (by simp only [nrm, X.den, Env.put, Env.pre, reduceIte, Nat.reduceLT, Nat.reduceSub, Nat.reduceAdd, fn110]) ?_
            have e1 : 40 - i = 40 - (i + 1) + 1 := by omega
            have hfit := sweep_fit hx hf hk
            have hin := sweep_into hx hf hk
            rw [e1] at ht
            rcases hs : (fun m f => sweepStep m f 1) x f with ⟨g3, y3⟩
            rw [hs] at hfit hin
            simp only [Mem.cds, Frm.cds, List.cons_append, List.nil_append]
            refine den_ite (fun hd => ?_) (fun hd => ?_)
            · simp only [nrm, X.den, Env.put, Env.pre, reduceIte, Nat.reduceLT, Nat.reduceSub, Nat.reduceAdd] at hd
              rw [alone_end hs hd] at ht
              have ht3 := ht
              clear hlt e1 hfit hs hd ht hx hf hk hi
              have k1 : g1.n = 0 := by have := rok1.2.2.2; rw [← ht1] at this; exact this
              have k2 : g2.keys = [⟨3, 0⟩] := by have := rok2.2.2.2; rw [← ht2] at this; exact this
              have k3 : g3.n = 1 ∧ y3.free.length = 2 ∧ y3.locks = [-1] := by have := rok3.2.2.2; rw [← ht3] at this; exact this
              refine den_ift (by simp only [nrm, X.den, Env.put, Env.pre, reduceIte, Nat.reduceLT, Nat.reduceSub, Nat.reduceAdd]; exact k1) ?_
              refine den_calle d155 [.b true] rfl trivial (by simp only [nrm, X.den, Env.put, Env.pre, reduceIte, Nat.reduceLT, Nat.reduceSub, Nat.reduceAdd, k2]; kernel_rfl) (den_ift rfl (den_ift (by simp only [nrm, X.den, Env.put, Env.pre, reduceIte, Nat.reduceLT, Nat.reduceSub, Nat.reduceAdd]; exact k3.1) (den_ift (by simp only [nrm, X.den, Env.put, Env.pre, reduceIte, Nat.reduceLT, Nat.reduceSub, Nat.reduceAdd, len_ints]; omega) (den_lt (by simp only [nrm, X.den, Env.put, Env.pre, reduceIte, Nat.reduceLT, Nat.reduceSub, Nat.reduceAdd, k3.2.2]; decide) (den_ret ?_)))))
              simp only [nrm, X.den, Env.put, Env.pre, reduceIte, Nat.reduceLT, Nat.reduceSub, Nat.reduceAdd, k3.2.2]
              rfl
            · simp only [nrm, X.den, Env.put, Env.pre, reduceIte, Nat.reduceLT, Nat.reduceSub, Nat.reduceAdd] at hd
              rw [alone_on hs hd] at ht
              refine den_fit (by simp only [nrm, X.den, Env.put, Env.pre, reduceIte, Nat.reduceLT, Nat.reduceSub, Nat.reduceAdd]; omega) (den_back ⟨⟨i + 1, y3, g3, ?_, by omega, ht, hfit hd⟩, ?_⟩)
              · simp only [nrm, X.den, Env.put, Env.pre, reduceIte, Nat.reduceLT, Nat.reduceSub, Nat.reduceAdd, Mem.cds, Frm.cds, List.cons_append, List.nil_append]; rfl
              · simp only [nrm, X.den, Env.put, Env.pre, reduceIte, Nat.reduceLT, Nat.reduceSub, Nat.reduceAdd]; omega
          · simp only [nrm, X.den, Env.put, Env.pre, reduceIte, Nat.reduceLT, Nat.reduceSub, Nat.reduceAdd] at hge
            rw [show 40 - i = 0 from by omega] at ht
            have := rok3.2.2.1
            rw [← ht] at this
            cases this
        · simp only [nrm, X.den, Env.put, Env.pre, reduceIte, Nat.reduceLT, Nat.reduceSub, Nat.reduceAdd] at hd
          rw [alone_on hs hd] at ht
          refine den_fit (by simp only [nrm, X.den, Env.put, Env.pre, reduceIte, Nat.reduceLT, Nat.reduceSub, Nat.reduceAdd]; omega) (den_back ⟨⟨i + 1, y2, g2, ?_, by omega, ht, hfit hd⟩, ?_⟩)
          · simp only [nrm, X.den, Env.put, Env.pre, reduceIte, Nat.reduceLT, Nat.reduceSub, Nat.reduceAdd, Mem.cds, Frm.cds, List.cons_append, List.nil_append]; rfl
          · simp only [nrm, X.den, Env.put, Env.pre, reduceIte, Nat.reduceLT, Nat.reduceSub, Nat.reduceAdd]; omega
      · simp only [nrm, X.den, Env.put, Env.pre, reduceIte, Nat.reduceLT, Nat.reduceSub, Nat.reduceAdd] at hge
        rw [show 40 - i = 0 from by omega] at ht
        have := rok2.2.2.1
        rw [← ht] at this
        cases this
    · simp only [nrm, X.den, Env.put, Env.pre, reduceIte, Nat.reduceLT, Nat.reduceSub, Nat.reduceAdd] at hd
      rw [alone_on hs hd] at ht
      refine den_fit (by simp only [nrm, X.den, Env.put, Env.pre, reduceIte, Nat.reduceLT, Nat.reduceSub, Nat.reduceAdd]; omega) (den_back ⟨⟨i + 1, y1, g1, ?_, by omega, ht, hfit hd⟩, ?_⟩)
      · simp only [nrm, X.den, Env.put, Env.pre, reduceIte, Nat.reduceLT, Nat.reduceSub, Nat.reduceAdd, Mem.cds, Frm.cds, List.cons_append, List.nil_append]; rfl
      · simp only [nrm, X.den, Env.put, Env.pre, reduceIte, Nat.reduceLT, Nat.reduceSub, Nat.reduceAdd]; omega
  · simp only [nrm, X.den, Env.put, Env.pre, reduceIte, Nat.reduceLT, Nat.reduceSub, Nat.reduceAdd] at hge
    rw [show 40 - i = 0 from by omega] at ht
    have := rok1.2.2.1
    rw [← ht] at this
    cases this
end Go.Proofs.Ytpmamacjepcdmaa

/- How many slots are unlike. -/
namespace Go.Proofs.Ytpmamacjepcdmaa
open Go Go.Sy Go.RowKit
set_option linter.unusedSimpArgs false
set_option linter.unusedVariables false

def chN (m o : Mem) : Nat → Nat
  | 0 => 0
  | n + 1 => chN m o n + if msl m n = msl o n then 0 else 1
theorem chN_le (m o : Mem) : ∀ n, chN m o n ≤ n
  | 0 => Nat.le_refl _
  | n + 1 => by
    have := chN_le m o n
    unfold chN
    split <;> omega
theorem chN_zero {m o : Mem} : ∀ {n : Nat}, (∀ j, j < n → msl m j = msl o j) → chN m o n = 0
  | 0, _ => rfl
  | n + 1, h => by
    unfold chN
    rw [if_pos (h n (by omega)), chN_zero fun j hj => h j (by omega)]
theorem chN_one {m o : Mem} {i : Nat} (h : ∀ j, j ≠ i → msl m j = msl o j) : ∀ n, chN m o n ≤ 1
  | 0 => Nat.zero_le _
  | n + 1 => by
    unfold chN
    by_cases e : n = i
    · have z : chN m o n = 0 := chN_zero fun j hj => h j (by omega)
      rw [z]; split <;> omega
    · rw [if_pos (h n e)]; have := chN_one h n; omega
theorem Touch.one {m x : Mem} {b n : Int} (h : Touch m x b n) (k : Nat) : chN m x k ≤ 1 := by
  obtain ⟨i, g, e⟩ := h.sl
  refine chN_one (i := i) (fun j hj => ?_) k
  show m.slots.getD j default = x.slots.getD j default
  rw [e, getD_modify, if_neg (fun y => hj y.1.symm)]
theorem slot_t {s t : Slot} (h : ((s.refs == t.refs) && ((s.k.a == t.k.a) && ((s.k.b == t.k.b) && ((s.till == t.till) && ((s.inn == t.inn) && ((s.next == t.next) && true)))))) = true) : s = t := by
  simp only [Bool.and_true, Bool.and_eq_true, beq_iff_eq] at h
  obtain ⟨a, ⟨b, c⟩, d, e, f⟩ := s
  obtain ⟨a', ⟨b', c'⟩, d', e', f'⟩ := t
  simp only at h
  obtain ⟨rfl, rfl, rfl, rfl, rfl, rfl⟩ := h
  rfl
theorem slot_f {s t : Slot} (h : ((s.refs == t.refs) && ((s.k.a == t.k.a) && ((s.k.b == t.k.b) && ((s.till == t.till) && ((s.inn == t.inn) && ((s.next == t.next) && true)))))) = false) : s ≠ t := fun e => by
  rw [e] at h; simp at h
def s122 : Sig := ⟨[.agg [.fz kS, .fz kI, .fz kI, .fz kI, .int .i64], .agg [.fz kS, .fz kI, .fz kI, .fz kI, .int .i64]], [.one (.int .i64)]⟩
def d122 : DC := ⟨s122, fun l => (Mem.of l).slots.length ≤ (Mem.of (l.drop 5)).slots.length, fun l => [.i (chN (Mem.of l) (Mem.of (l.drop 5)) (Mem.of l).slots.length)]⟩
theorem fn122 (m o : Mem) : d122.fn [slotsD m.slots, intsD m.heads, intsD m.free, intsD m.locks, .i m.now, slotsD o.slots, intsD o.heads, intsD o.free, intsD o.locks, .i o.now] = [.i (chN m o m.slots.length)] := by
  simp only [d122, mem_of, mem_eta, List.drop_succ_cons, List.drop_zero]
theorem pre122 {m o : Mem} (h : m.slots.length ≤ o.slots.length) : d122.pre [slotsD m.slots, intsD m.heads, intsD m.free, intsD m.locks, .i m.now, slotsD o.slots, intsD o.heads, intsD o.free, intsD o.locks, .i o.now] := by
  simp only [d122, mem_of, mem_eta, List.drop_succ_cons, List.drop_zero]
  exact h
def l122 : List (Nat × Ct) := []
def z122 : Cx := { T := ttA, C := sigs l122, F := [], hints := [⟨122, 3, false, [(10, .lt), (5, .lt)], [], [], [], 0⟩], sig := s122 }
def t122 : Tree :=
 (.loop 10 [.int .i64, .int .i64] [.int 0, .int 0]
 (.ite (.lt (.var 12) (.len (.var 0)))
  (.need (.le (.int 0) (.var 12))
  (.need (.lt (.var 12) (.len (.var 5)))
  (.ite (.not (.and (.eq (.cell (.var 0) (.var 12) 0) (.cell (.var 5) (.var 12) 0)) (.and (.eq (.cell (.var 0) (.var 12) 1) (.cell (.var 5) (.var 12) 1)) (.and (.eq (.cell (.var 0) (.var 12) 2) (.cell (.var 5) (.var 12) 2)) (.and (.eq (.cell (.var 0) (.var 12) 3) (.cell (.var 5) (.var 12) 3)) (.and (.beq (.cell (.var 0) (.var 12) 4) (.cell (.var 5) (.var 12) 4)) (.and (.eq (.cell (.var 0) (.var 12) 5) (.cell (.var 5) (.var 12) 5)) (.bool true))))))))
   (.need (.fit (.add (.var 11) (.int 1)))
   (.need (.fit (.add (.var 12) (.int 1)))
   (.back 10 [.add (.var 11) (.int 1), .add (.var 12) (.int 1)])))
   (.need (.fit (.add (.var 12) (.int 1)))
   (.back 10 [.var 11, .add (.var 12) (.int 1)])))))
  (.ret [.var 11])))
theorem run122 : run z122 6000 [.code (Try.f122.body.getD .skip), .fin (topRet z122 Try.f122.results.toList 50)] { fn := 122, tmps := z122.sig.args0 ++ List.replicate (Try.f122.ntmps - z122.sig.args0.length) (.v (.one .undef)), stk := [], h := z122.sig.h0, nx := z122.sig.ins.length, known := [] } = t122 := by kernel_rfl
theorem ok122 : CtOk Try.prog 122 d122.ct := by
  refine dc_of_tree (d := d122) (Z := z122) (Γ := gam l122) (fn := Try.f122) (c := Try.f122.body.getD .skip) (told_of tok mixed all_nil fok_nil) Try.func122 (by kernel_rfl) (by kernel_rfl) rfl run122 fun E hk hp => ?_
  obtain ⟨hk0, hk1, hk2, hk3, hk4, hk5, hk6, hk7, hk8, hk9, _⟩ := hk
  obtain ⟨m, e0, e1, e2, e3, e4, b0, b1, b2, b3⟩ := ok_mem (d0 := E 0) (d1 := E 1) (d2 := E 2) (d3 := E 3) (d4 := E 4) hk0 hk1 hk2 hk3 hk4
  obtain ⟨m2, e5, e6, e7, e8, e9, b5, b6, b7, b8⟩ := ok_mem (d0 := E 5) (d1 := E 6) (d2 := E 7) (d3 := E 8) (d4 := E 9) hk5 hk6 hk7 hk8 hk9
  have el : letters E d122.sig.ins.length = [slotsD m.slots, intsD m.heads, intsD m.free, intsD m.locks, .i m.now, slotsD m2.slots, intsD m2.heads, intsD m2.free, intsD m2.locks, .i m2.now] := by
    show [E 0, E 1, E 2, E 3, E 4, E 5, E 6, E 7, E 8, E 9] = _
    rw [e0, e1, e2, e3, e4, e5, e6, e7, e8, e9]
  rw [el] at hp
  rw [el]
  rw [Env.pre_eq el]
  clear el e0 e1 e2 e3 e4 e5 e6 e7 e8 e9
  rename_i n0
  rw [fn122]
  simp only [d122, mem_of, mem_eta, List.drop_succ_cons, List.drop_zero] at hp
  unfold t122
  refine den_loop (fun ds => ∃ j : Nat, ds = [.i (chN m m2 j), .i j] ∧ j ≤ m.slots.length) (fun ds => m.slots.length - (ds.getD 1 .u).int.toNat) ⟨0, rfl, by omega⟩ ?_
  rintro ds - ⟨j, rfl, hj⟩
  have hle := chN_le m m2 j
  refine den_ite (fun hlt => ?_) (fun hge => den_ret ?_)
  · simp only [nrm, X.den, Env.put, Env.pre, reduceIte, Nat.reduceLT, Nat.reduceSub, Nat.reduceAdd, len_slots] at hlt
    refine den_le (by simp only [nrm, X.den, Env.put, Env.pre, reduceIte, Nat.reduceLT, Nat.reduceSub, Nat.reduceAdd]; omega) (den_lt (by simp only [nrm, X.den, Env.put, Env.pre, reduceIte, Nat.reduceLT, Nat.reduceSub, Nat.reduceAdd, len_slots]; omega) (den_ite (fun h => ?_) (fun h => ?_)))
    · simp only [nrm, X.den, Env.put, Env.pre, reduceIte, Nat.reduceLT, Nat.reduceSub, Nat.reduceAdd, cell_s0, cell_s1, cell_s2, cell_s3, cell_s4, cell_s5, Int.toNat_natCast, Bool.not_eq_true'] at h
      replace h := slot_f (s := msl m j) (t := msl m2 j) h
      refine den_fit (by simp only [nrm, X.den, Env.put, Env.pre, reduceIte, Nat.reduceLT, Nat.reduceSub, Nat.reduceAdd]; omega) (den_fit (by simp only [nrm, X.den, Env.put, Env.pre, reduceIte, Nat.reduceLT, Nat.reduceSub, Nat.reduceAdd]; omega) (den_back ⟨⟨j + 1, ?_, by omega⟩, ?_⟩))
      · simp only [nrm, X.den, Env.put, Env.pre, reduceIte, Nat.reduceLT, Nat.reduceSub, Nat.reduceAdd, chN, if_neg h]; rfl
      · simp only [nrm, X.den, Env.put, Env.pre, reduceIte, Nat.reduceLT, Nat.reduceSub, Nat.reduceAdd]; omega
    · simp only [nrm, X.den, Env.put, Env.pre, reduceIte, Nat.reduceLT, Nat.reduceSub, Nat.reduceAdd, cell_s0, cell_s1, cell_s2, cell_s3, cell_s4, cell_s5, Int.toNat_natCast, Bool.not_eq_false'] at h
      replace h := slot_t (s := msl m j) (t := msl m2 j) h
      refine den_fit (by simp only [nrm, X.den, Env.put, Env.pre, reduceIte, Nat.reduceLT, Nat.reduceSub, Nat.reduceAdd]; omega) (den_back ⟨⟨j + 1, ?_, by omega⟩, ?_⟩)
      · simp only [nrm, X.den, Env.put, Env.pre, reduceIte, Nat.reduceLT, Nat.reduceSub, Nat.reduceAdd, chN, if_pos h]; rfl
      · simp only [nrm, X.den, Env.put, Env.pre, reduceIte, Nat.reduceLT, Nat.reduceSub, Nat.reduceAdd]; omega
  · simp only [nrm, X.den, Env.put, Env.pre, reduceIte, Nat.reduceLT, Nat.reduceSub, Nat.reduceAdd, len_slots] at hge ⊢
    rw [show j = m.slots.length from by omega]
theorem si39 (l : List Int) : d39.fn [intsD l, intsD l] = [.b true] := by
  show [CD.b (decide _)] = _
  simp
theorem fs51 (m : Mem) : d51.fn [slotsD m.slots, intsD m.heads, intsD m.free, intsD m.locks, .i m.now] = [.i (checkMem m)] := by simp only [d51, mem_of, mem_eta]
end Go.Proofs.Ytpmamacjepcdmaa
