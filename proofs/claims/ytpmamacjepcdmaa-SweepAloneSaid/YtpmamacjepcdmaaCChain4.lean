import Derived.Test.YtpmamacjepcdmaaCFit
import Derived.Test.YtpmamacjepcdmaaCSweep
import Derived.Test.YtpmamacjepcdmaaCStep
/- Closed: swept. -/
namespace Go.Proofs.Ytpmamacjepcdmaa
open Go Go.Sy Go.RowKit
set_option linter.unusedSimpArgs false
set_option linter.unusedVariables false

theorem sweep_fit {m : Mem} {f : Frm} (hm : MemIn m) (hf : FrmOk m f) (hk : (f.c.kind = 4 ∨ f.c.kind = 5)) (hd : ((fun m f => sweepStep m f 1) m f).1.done = false) : MemIn ((fun m f => sweepStep m f 1) m f).2 ∧ FrmOk ((fun m f => sweepStep m f 1) m f).2 ((fun m f => sweepStep m f 1) m f).1 ∧ (((fun m f => sweepStep m f 1) m f).1.c.kind = 4 ∨ ((fun m f => sweepStep m f 1) m f).1.c.kind = 5) :=
  ⟨sweepStep_into 1 hm hf, (sweepStep_in 1 hm hf hk).ok hf (sweepStep_touch 1 hm hf hk) hd, by rw [(sweepStep_in 1 hm hf hk).c]; exact hk⟩
theorem sweep_into {m : Mem} {f : Frm} (hm : MemIn m) (hf : FrmOk m f) (hk : (f.c.kind = 4 ∨ f.c.kind = 5)) : MemIn ((fun m f => sweepStep m f 1) m f).2 := sweepStep_into 1 hm hf
def rF1 : Frm := newFrame ⟨4, ⟨0, 0⟩, 0, 0, 0⟩
def rM1 : Mem := sM
def rR1 : Frm × Mem × Bool := aloneR (fun m f => sweepStep m f 1) 40 rF1 rM1
theorem rok1 : checkMem rM1 = 0 ∧ checkFrame rM1 rF1 = 0 ∧ rR1.2.2 = true ∧ rR1.1.n = 0 := by decide +kernel
def rF2 : Frm := newFrame ⟨5, ⟨0, 0⟩, 0, 0, 0⟩
def rM2 : Mem := rR1.2.1
def rR2 : Frm × Mem × Bool := aloneR (fun m f => sweepStep m f 1) 40 rF2 rM2
theorem rok2 : checkMem rM2 = 0 ∧ checkFrame rM2 rF2 = 0 ∧ rR2.2.2 = true ∧ rR2.1.keys = [⟨3, 0⟩] := by decide +kernel
def rF3 : Frm := newFrame ⟨4, ⟨0, 0⟩, 0, 0, 0⟩
def rM3 : Mem := { rR2.2.1 with now := 5 }
def rR3 : Frm × Mem × Bool := aloneR (fun m f => sweepStep m f 1) 40 rF3 rM3
theorem rok3 : checkMem rM3 = 0 ∧ checkFrame rM3 rF3 = 0 ∧ rR3.2.2 = true ∧ rR3.1.n = 1 ∧ rR3.2.1.free.length = 2 ∧ rR3.2.1.locks = [-1] := by decide +kernel
def s109 : Sig := ⟨[], [.one (.bool)]⟩
def d109 : DC := ⟨s109, fun _ => True, fun _ => [.b true]⟩
def l109 : List (Nat × Ct) := [(180, d180.ct), (41, d41.ct), (110, d110.ct), (155, d155.ct)]
noncomputable def z109 : Cx := { T := ttA, C := sigs l109, F := [(113, Try.f113), (193, Try.f193)], hints := [⟨113, 3, false, [(12, .lt)], [(0, 0, .own 52 kS), (0, 1, .own 3 kI), (0, 2, .own 3 kI), (0, 3, .own 3 kI), (0, 4, .lt), (3, 0, .lt), (3, 1, .lt), (3, 2, .lt), (3, 3, .lt), (3, 4, .lt), (3, 5, .lt), (3, 6, .lt), (3, 7, .lt), (3, 8, .lt), (3, 9, .lt), (3, 10, .lt), (3, 11, .fz kK), (3, 12, .lt), (3, 13, .lt)], [], [], 4⟩, ⟨113, 3, false, [(12, .lt)], [(0, 0, .own 52 kS), (0, 1, .own 3 kI), (0, 2, .own 3 kI), (0, 3, .own 3 kI), (0, 4, .lt), (7, 0, .lt), (7, 1, .lt), (7, 2, .lt), (7, 3, .lt), (7, 4, .lt), (7, 5, .lt), (7, 6, .lt), (7, 7, .lt), (7, 8, .lt), (7, 9, .lt), (7, 10, .lt), (7, 11, .fz kK), (7, 12, .lt), (7, 13, .lt)], [], [], 8⟩, ⟨113, 3, false, [(12, .lt)], [(0, 0, .own 52 kS), (0, 1, .own 3 kI), (0, 2, .own 3 kI), (0, 3, .own 3 kI), (0, 4, .lt), (9, 0, .lt), (9, 1, .lt), (9, 2, .lt), (9, 3, .lt), (9, 4, .lt), (9, 5, .lt), (9, 6, .lt), (9, 7, .lt), (9, 8, .lt), (9, 9, .lt), (9, 10, .lt), (9, 11, .fz kK), (9, 12, .lt), (9, 13, .lt)], [], [], 10⟩, ⟨113, 3, false, [(12, .lt)], [(0, 0, .own 52 kS), (0, 1, .own 3 kI), (0, 2, .own 3 kI), (0, 3, .own 3 kI), (0, 4, .lt), (11, 0, .lt), (11, 1, .lt), (11, 2, .lt), (11, 3, .lt), (11, 4, .lt), (11, 5, .lt), (11, 6, .lt), (11, 7, .lt), (11, 8, .lt), (11, 9, .lt), (11, 10, .lt), (11, 11, .fz kK), (11, 12, .lt), (11, 13, .lt)], [], [], 12⟩, ⟨113, 3, false, [(12, .lt)], [(0, 0, .own 52 kS), (0, 1, .own 3 kI), (0, 2, .own 3 kI), (0, 3, .own 3 kI), (0, 4, .lt), (13, 0, .lt), (13, 1, .lt), (13, 2, .lt), (13, 3, .lt), (13, 4, .lt), (13, 5, .lt), (13, 6, .lt), (13, 7, .lt), (13, 8, .lt), (13, 9, .lt), (13, 10, .lt), (13, 11, .fz kK), (13, 12, .lt), (13, 13, .lt)], [], [], 14⟩, ⟨113, 3, false, [(12, .lt)], [(0, 0, .own 52 kS), (0, 1, .own 3 kI), (0, 2, .own 3 kI), (0, 3, .own 3 kI), (0, 4, .lt), (15, 0, .lt), (15, 1, .lt), (15, 2, .lt), (15, 3, .lt), (15, 4, .lt), (15, 5, .lt), (15, 6, .lt), (15, 7, .lt), (15, 8, .lt), (15, 9, .lt), (15, 10, .lt), (15, 11, .fz kK), (15, 12, .lt), (15, 13, .lt)], [], [], 16⟩], sig := s109 }
def t109 : Tree :=
 (.call 180 [] 0
 (.ite (.not (.var 5))
  (.ret [.bool false])
  (.call 41 [.int 4, .int 0, .int 0, .int 0, .int 0, .int 0] 6
  (.loop 20 [.int .i64, .sl 48 [.int .i64, .int .i64, .int .i64, .int .i64, .bool, .int .i64], .sl 8 [.int .i64], .sl 8 [.int .i64], .sl 8 [.int .i64], .int .i64, .int .i64, .int .i64, .int .i64, .int .i64, .int .i64, .int .i64, .int .i64, .int .i64, .int .i64, .int .i64, .int .i64, .sl 16 [.int .i64, .int .i64], .bool, .int .i64] [.int 0, .var 0, .var 1, .var 2, .var 3, .var 4, .var 6, .var 7, .var 8, .var 9, .var 10, .var 11, .var 12, .var 13, .var 14, .var 15, .var 16, .var 17, .var 18, .var 19]
  (.ite (.lt (.var 21) (.int 40))
   (.call 110 [.var 22, .var 23, .var 24, .var 25, .var 26, .var 27, .var 28, .var 29, .var 30, .var 31, .var 32, .var 33, .var 34, .var 35, .var 36, .var 37, .var 38, .var 39, .var 40, .int 1] 41
   (.ite (.var 58)
    (.call 41 [.int 5, .int 0, .int 0, .int 0, .int 0, .int 0] 60
    (.loop 74 [.int .i64, .sl 48 [.int .i64, .int .i64, .int .i64, .int .i64, .bool, .int .i64], .sl 8 [.int .i64], .sl 8 [.int .i64], .sl 8 [.int .i64], .int .i64, .int .i64, .int .i64, .int .i64, .int .i64, .int .i64, .int .i64, .int .i64, .int .i64, .int .i64, .int .i64, .int .i64, .sl 16 [.int .i64, .int .i64], .bool, .int .i64] [.int 0, .var 41, .var 42, .var 43, .var 44, .var 45, .var 60, .var 61, .var 62, .var 63, .var 64, .var 65, .var 66, .var 67, .var 68, .var 69, .var 70, .var 71, .var 72, .var 73]
    (.ite (.lt (.var 75) (.int 40))
     (.call 110 [.var 76, .var 77, .var 78, .var 79, .var 80, .var 81, .var 82, .var 83, .var 84, .var 85, .var 86, .var 87, .var 88, .var 89, .var 90, .var 91, .var 92, .var 93, .var 94, .int 1] 95
     (.ite (.var 112)
      (.call 41 [.int 4, .int 0, .int 0, .int 0, .int 0, .int 0] 114
      (.loop 128 [.int .i64, .sl 48 [.int .i64, .int .i64, .int .i64, .int .i64, .bool, .int .i64], .sl 8 [.int .i64], .sl 8 [.int .i64], .sl 8 [.int .i64], .int .i64, .int .i64, .int .i64, .int .i64, .int .i64, .int .i64, .int .i64, .int .i64, .int .i64, .int .i64, .int .i64, .int .i64, .sl 16 [.int .i64, .int .i64], .bool, .int .i64] [.int 0, .var 95, .var 96, .var 97, .var 98, .int 5, .var 114, .var 115, .var 116, .var 117, .var 118, .var 119, .var 120, .var 121, .var 122, .var 123, .var 124, .var 125, .var 126, .var 127]
      (.ite (.lt (.var 129) (.int 40))
       (.call 110 [.var 130, .var 131, .var 132, .var 133, .var 134, .var 135, .var 136, .var 137, .var 138, .var 139, .var 140, .var 141, .var 142, .var 143, .var 144, .var 145, .var 146, .var 147, .var 148, .int 1] 149
       (.ite (.var 166)
        (.ite (.eq (.var 56) (.int 0))
         (.call 155 [.var 111, .cons (.int 3) (.cons (.int 0) .row0)] 168
         (.ite (.var 168)
          (.ite (.eq (.var 164) (.int 1))
           (.ite (.eq (.len (.var 151)) (.int 2))
            (.need (.lt (.int 0) (.len (.var 152)))
            (.ret [.eq (.cell (.var 152) (.int 0) 0) (.int (-1))]))
            (.ret [.bool false]))
           (.ret [.bool false]))
          (.ret [.bool false])))
         (.ret [.bool false]))
        (.need (.fit (.add (.var 129) (.int 1)))
        (.back 128 [.add (.var 129) (.int 1), .var 149, .var 150, .var 151, .var 152, .var 153, .var 154, .var 155, .var 156, .var 157, .var 158, .var 159, .var 160, .var 161, .var 162, .var 163, .var 164, .var 165, .var 166, .var 167]))))
       (.ret [.bool false]))))
      (.need (.fit (.add (.var 75) (.int 1)))
      (.back 74 [.add (.var 75) (.int 1), .var 95, .var 96, .var 97, .var 98, .var 99, .var 100, .var 101, .var 102, .var 103, .var 104, .var 105, .var 106, .var 107, .var 108, .var 109, .var 110, .var 111, .var 112, .var 113]))))
     (.call 41 [.int 4, .int 0, .int 0, .int 0, .int 0, .int 0] 95
     (.loop 109 [.int .i64, .sl 48 [.int .i64, .int .i64, .int .i64, .int .i64, .bool, .int .i64], .sl 8 [.int .i64], .sl 8 [.int .i64], .sl 8 [.int .i64], .int .i64, .int .i64, .int .i64, .int .i64, .int .i64, .int .i64, .int .i64, .int .i64, .int .i64, .int .i64, .int .i64, .int .i64, .sl 16 [.int .i64, .int .i64], .bool, .int .i64] [.int 0, .var 76, .var 77, .var 78, .var 79, .int 5, .var 95, .var 96, .var 97, .var 98, .var 99, .var 100, .var 101, .var 102, .var 103, .var 104, .var 105, .var 106, .var 107, .var 108]
     (.ite (.lt (.var 110) (.int 40))
      (.call 110 [.var 111, .var 112, .var 113, .var 114, .var 115, .var 116, .var 117, .var 118, .var 119, .var 120, .var 121, .var 122, .var 123, .var 124, .var 125, .var 126, .var 127, .var 128, .var 129, .int 1] 130
      (.ite (.var 147)
       (.ret [.bool false])
       (.need (.fit (.add (.var 110) (.int 1)))
       (.back 109 [.add (.var 110) (.int 1), .var 130, .var 131, .var 132, .var 133, .var 134, .var 135, .var 136, .var 137, .var 138, .var 139, .var 140, .var 141, .var 142, .var 143, .var 144, .var 145, .var 146, .var 147, .var 148]))))
      (.ret [.bool false])))))))
    (.need (.fit (.add (.var 21) (.int 1)))
    (.back 20 [.add (.var 21) (.int 1), .var 41, .var 42, .var 43, .var 44, .var 45, .var 46, .var 47, .var 48, .var 49, .var 50, .var 51, .var 52, .var 53, .var 54, .var 55, .var 56, .var 57, .var 58, .var 59]))))
   (.call 41 [.int 5, .int 0, .int 0, .int 0, .int 0, .int 0] 41
   (.loop 55 [.int .i64, .sl 48 [.int .i64, .int .i64, .int .i64, .int .i64, .bool, .int .i64], .sl 8 [.int .i64], .sl 8 [.int .i64], .sl 8 [.int .i64], .int .i64, .int .i64, .int .i64, .int .i64, .int .i64, .int .i64, .int .i64, .int .i64, .int .i64, .int .i64, .int .i64, .int .i64, .sl 16 [.int .i64, .int .i64], .bool, .int .i64] [.int 0, .var 22, .var 23, .var 24, .var 25, .var 26, .var 41, .var 42, .var 43, .var 44, .var 45, .var 46, .var 47, .var 48, .var 49, .var 50, .var 51, .var 52, .var 53, .var 54]
   (.ite (.lt (.var 56) (.int 40))
    (.call 110 [.var 57, .var 58, .var 59, .var 60, .var 61, .var 62, .var 63, .var 64, .var 65, .var 66, .var 67, .var 68, .var 69, .var 70, .var 71, .var 72, .var 73, .var 74, .var 75, .int 1] 76
    (.ite (.var 93)
     (.call 41 [.int 4, .int 0, .int 0, .int 0, .int 0, .int 0] 95
     (.loop 109 [.int .i64, .sl 48 [.int .i64, .int .i64, .int .i64, .int .i64, .bool, .int .i64], .sl 8 [.int .i64], .sl 8 [.int .i64], .sl 8 [.int .i64], .int .i64, .int .i64, .int .i64, .int .i64, .int .i64, .int .i64, .int .i64, .int .i64, .int .i64, .int .i64, .int .i64, .int .i64, .sl 16 [.int .i64, .int .i64], .bool, .int .i64] [.int 0, .var 76, .var 77, .var 78, .var 79, .int 5, .var 95, .var 96, .var 97, .var 98, .var 99, .var 100, .var 101, .var 102, .var 103, .var 104, .var 105, .var 106, .var 107, .var 108]
     (.ite (.lt (.var 110) (.int 40))
      (.call 110 [.var 111, .var 112, .var 113, .var 114, .var 115, .var 116, .var 117, .var 118, .var 119, .var 120, .var 121, .var 122, .var 123, .var 124, .var 125, .var 126, .var 127, .var 128, .var 129, .int 1] 130
      (.ite (.var 147)
       (.ret [.bool false])
       (.need (.fit (.add (.var 110) (.int 1)))
       (.back 109 [.add (.var 110) (.int 1), .var 130, .var 131, .var 132, .var 133, .var 134, .var 135, .var 136, .var 137, .var 138, .var 139, .var 140, .var 141, .var 142, .var 143, .var 144, .var 145, .var 146, .var 147, .var 148]))))
      (.ret [.bool false]))))
     (.need (.fit (.add (.var 56) (.int 1)))
     (.back 55 [.add (.var 56) (.int 1), .var 76, .var 77, .var 78, .var 79, .var 80, .var 81, .var 82, .var 83, .var 84, .var 85, .var 86, .var 87, .var 88, .var 89, .var 90, .var 91, .var 92, .var 93, .var 94]))))
    (.call 41 [.int 4, .int 0, .int 0, .int 0, .int 0, .int 0] 76
    (.loop 90 [.int .i64, .sl 48 [.int .i64, .int .i64, .int .i64, .int .i64, .bool, .int .i64], .sl 8 [.int .i64], .sl 8 [.int .i64], .sl 8 [.int .i64], .int .i64, .int .i64, .int .i64, .int .i64, .int .i64, .int .i64, .int .i64, .int .i64, .int .i64, .int .i64, .int .i64, .int .i64, .sl 16 [.int .i64, .int .i64], .bool, .int .i64] [.int 0, .var 57, .var 58, .var 59, .var 60, .int 5, .var 76, .var 77, .var 78, .var 79, .var 80, .var 81, .var 82, .var 83, .var 84, .var 85, .var 86, .var 87, .var 88, .var 89]
    (.ite (.lt (.var 91) (.int 40))
     (.call 110 [.var 92, .var 93, .var 94, .var 95, .var 96, .var 97, .var 98, .var 99, .var 100, .var 101, .var 102, .var 103, .var 104, .var 105, .var 106, .var 107, .var 108, .var 109, .var 110, .int 1] 111
     (.ite (.var 128)
      (.ret [.bool false])
      (.need (.fit (.add (.var 91) (.int 1)))
      (.back 90 [.add (.var 91) (.int 1), .var 111, .var 112, .var 113, .var 114, .var 115, .var 116, .var 117, .var 118, .var 119, .var 120, .var 121, .var 122, .var 123, .var 124, .var 125, .var 126, .var 127, .var 128, .var 129]))))
     (.ret [.bool false]))))))))))))
theorem run109 : run z109 6000 [.code (Try.f109.body.getD .skip), .fin (topRet z109 Try.f109.results.toList 50)] { fn := 109, tmps := z109.sig.args0 ++ List.replicate (Try.f109.ntmps - z109.sig.args0.length) (.v (.one .undef)), stk := [], h := z109.sig.h0, nx := z109.sig.ins.length, known := [] } = t109 := by kernel_rfl
theorem ok109 : CtOk Try.prog 109 d109.ct := by
  refine dc_of_tree (d := d109) (Z := z109) (Γ := gam l109) (fn := Try.f109) (c := Try.f109.body.getD .skip) (told_of tok mixed (all_cons ok180 (all_cons ok41 (all_cons ok110 (all_cons ok155 all_nil)))) (fok_cons (c := Try.f113.body.getD .skip) Try.func113 (by kernel_rfl) (by kernel_rfl) (fok_cons (c := Try.f193.body.getD .skip) Try.func193 (by kernel_rfl) (by kernel_rfl) fok_nil))) Try.func109 (by kernel_rfl) (by kernel_rfl) rfl run109 fun E hk hp => ?_
  clear hk
  have el : letters E d109.sig.ins.length = [] := rfl
  rw [el] at hp
  rw [el]
  rw [Env.pre_eq el]
  clear el
  simp only [d109]
  unfold t109
  refine den_calle d180 (sM.cds ++ [.b true]) rfl trivial rfl ?_
  refine den_iff (by simp only [nrm, X.den, Env.put, Env.pre, reduceIte, Nat.reduceLT, Nat.reduceSub, Nat.reduceAdd, Mem.cds, List.cons_append, List.nil_append]; rfl) ?_
  refine den_calle d41 rF1.cds rfl trivial (by simp only [nrm, X.den, Env.put, Env.pre, reduceIte, Nat.reduceLT, Nat.reduceSub, Nat.reduceAdd, fs41]; rfl) ?_
  refine den_loop (fun ds => ∃ (i : Nat) (x : Mem) (f : Frm), ds = .i i :: (x.cds ++ f.cds) ∧ i ≤ 40 ∧ aloneR (fun m f => sweepStep m f 1) (40 - i) f x = rR1 ∧ MemIn x ∧ FrmOk x f ∧ (f.c.kind = 4 ∨ f.c.kind = 5)) (fun ds => 40 - (ds.getD 0 .u).int.toNat) ⟨0, rM1, rF1, ?_, by omega, rfl, ((checkMem_iff _).1 (rok1.1)).into, (checkFrame_iff _ _).1 (rok1.2.1), .inl rfl⟩ ?_
  · simp only [nrm, X.den, Env.put, Env.pre, reduceIte, Nat.reduceLT, Nat.reduceSub, Nat.reduceAdd, Mem.cds, Frm.cds, List.cons_append, List.nil_append]; rfl
  rintro ds - ⟨i, x, f, rfl, hi, ht, hx, hf, hk⟩
  simp only [Mem.cds, Frm.cds, List.cons_append, List.nil_append]
  refine den_ite (fun hlt => ?_) (fun hge => ?_)
  · simp only [nrm, X.den, Env.put, Env.pre, reduceIte, Nat.reduceLT, Nat.reduceSub, Nat.reduceAdd] at hlt
    refine den_calle d110 (((fun m f => sweepStep m f 1) x f).2.cds ++ ((fun m f => sweepStep m f 1) x f).1.cds) rfl (by simp only [nrm, X.den, Env.put, Env.pre, reduceIte, Nat.reduceLT, Nat.reduceSub, Nat.reduceAdd]; exact pi110 hx hf hk 1) (by simp only [nrm, X.den, Env.put, Env.pre, reduceIte, Nat.reduceLT, Nat.reduceSub, Nat.reduceAdd, fn110]) ?_
    have e1 : 40 - i = 40 - (i + 1) + 1 := by omega
    have hfit := sweep_fit hx hf hk
    have hin := sweep_into hx hf hk
    rw [e1] at ht
    rcases hs : (fun m f => sweepStep m f 1) x f with ⟨g1, y1⟩
    rw [hs] at hfit hin
    simp only [Mem.cds, Frm.cds, List.cons_append, List.nil_append]
    refine den_ite (fun hd => ?_) (fun hd => ?_)
    · simp only [nrm, X.den, Env.put, Env.pre, reduceIte, Nat.reduceLT, Nat.reduceSub, Nat.reduceAdd] at hd
      rw [alone_end hs hd] at ht
      have ht1 := ht
      clear hlt e1 hfit hs hd ht hx hf hk hi
      have eM2 : rM2 = y1 := by show rR1.2.1 = _; rw [← ht1]
      have okk2 := rok2
      rw [eM2] at okk2
      refine den_calle d41 rF2.cds rfl trivial (by simp only [nrm, X.den, Env.put, Env.pre, reduceIte, Nat.reduceLT, Nat.reduceSub, Nat.reduceAdd, fs41]; rfl) ?_
      refine den_loop (fun ds => ∃ (i : Nat) (x : Mem) (f : Frm), ds = .i i :: (x.cds ++ f.cds) ∧ i ≤ 40 ∧ aloneR (fun m f => sweepStep m f 1) (40 - i) f x = rR2 ∧ MemIn x ∧ FrmOk x f ∧ (f.c.kind = 4 ∨ f.c.kind = 5)) (fun ds => 40 - (ds.getD 0 .u).int.toNat) ⟨0, y1, rF2, ?_, by omega, (by show _ = aloneR (fun m f => sweepStep m f 1) 40 rF2 rM2; rw [eM2]), ((checkMem_iff _).1 (okk2.1)).into, (checkFrame_iff _ _).1 (okk2.2.1), .inr rfl⟩ ?_
      · simp only [nrm, X.den, Env.put, Env.pre, reduceIte, Nat.reduceLT, Nat.reduceSub, Nat.reduceAdd, Mem.cds, Frm.cds, List.cons_append, List.nil_append]; rfl
      rintro ds - ⟨i, x, f, rfl, hi, ht, hx, hf, hk⟩
      simp only [Mem.cds, Frm.cds, List.cons_append, List.nil_append]
      refine den_ite (fun hlt => ?_) (fun hge => ?_)
      · simp only [nrm, X.den, Env.put, Env.pre, reduceIte, Nat.reduceLT, Nat.reduceSub, Nat.reduceAdd] at hlt
        refine den_calle d110 (((fun m f => sweepStep m f 1) x f).2.cds ++ ((fun m f => sweepStep m f 1) x f).1.cds) rfl (by simp only [nrm, X.den, Env.put, Env.pre, reduceIte, Nat.reduceLT, Nat.reduceSub, Nat.reduceAdd]; exact pi110 hx hf hk 1) (by simp only [nrm, X.den, Env.put, Env.pre, reduceIte, Nat.reduceLT, Nat.reduceSub, Nat.reduceAdd, fn110]) ?_
        have e1 : 40 - i = 40 - (i + 1) + 1 := by omega
        have hfit := sweep_fit hx hf hk
        have hin := sweep_into hx hf hk
        rw [e1] at ht
        rcases hs : (fun m f => sweepStep m f 1) x f with ⟨g2, y2⟩
        rw [hs] at hfit hin
        simp only [Mem.cds, Frm.cds, List.cons_append, List.nil_append]
        refine den_ite (fun hd => ?_) (fun hd => ?_)
        · simp only [nrm, X.den, Env.put, Env.pre, reduceIte, Nat.reduceLT, Nat.reduceSub, Nat.reduceAdd] at hd
          rw [alone_end hs hd] at ht
          have ht2 := ht
          clear hlt e1 hfit hs hd ht hx hf hk hi
          have eM3 : rM3 = { y2 with now := 5 } := by show { rR2.2.1 with now := 5 } = _; rw [← ht2]
          have okk3 := rok3
          rw [eM3] at okk3
          refine den_calle d41 rF3.cds rfl trivial (by simp only [nrm, X.den, Env.put, Env.pre, reduceIte, Nat.reduceLT, Nat.reduceSub, Nat.reduceAdd, fs41]; rfl) ?_
          refine den_loop (fun ds => ∃ (i : Nat) (x : Mem) (f : Frm), ds = .i i :: (x.cds ++ f.cds) ∧ i ≤ 40 ∧ aloneR (fun m f => sweepStep m f 1) (40 - i) f x = rR3 ∧ MemIn x ∧ FrmOk x f ∧ (f.c.kind = 4 ∨ f.c.kind = 5)) (fun ds => 40 - (ds.getD 0 .u).int.toNat) ⟨0, { y2 with now := 5 }, rF3, ?_, by omega, (by show _ = aloneR (fun m f => sweepStep m f 1) 40 rF3 rM3; rw [eM3]), ((checkMem_iff _).1 (okk3.1)).into, (checkFrame_iff _ _).1 (okk3.2.1), .inl rfl⟩ ?_
          · simp only [nrm, X.den, Env.put, Env.pre, reduceIte, Nat.reduceLT, Nat.reduceSub, Nat.reduceAdd, Mem.cds, Frm.cds, List.cons_append, List.nil_append]; rfl
          rintro ds - ⟨i, x, f, rfl, hi, ht, hx, hf, hk⟩
          simp only [Mem.cds, Frm.cds, List.cons_append, List.nil_append]
          refine den_ite (fun hlt => ?_) (fun hge => ?_)
          · simp only [nrm, X.den, Env.put, Env.pre, reduceIte, Nat.reduceLT, Nat.reduceSub, Nat.reduceAdd] at hlt
            refine den_calle d110 (((fun m f => sweepStep m f 1) x f).2.cds ++ ((fun m f => sweepStep m f 1) x f).1.cds) rfl (by simp only [nrm, X.den, Env.put, Env.pre, reduceIte, Nat.reduceLT, Nat.reduceSub, Nat.reduceAdd]; exact pi110 hx hf hk 1) (by simp only [nrm, X.den, Env.put, Env.pre, reduceIte, Nat.reduceLT, Nat.reduceSub, Nat.reduceAdd, fn110]) ?_
            have e1 : 40 - i = 40 - (i + 1) + 1 := by omega
            have hfit := sweep_fit hx hf hk
            have hin := sweep_into hx hf hk
            rw [e1] at ht
            rcases hs : (fun m f => sweepStep m f 1) x f with ⟨g3, y3⟩
            rw [hs] at hfit hin
            simp only [Mem.cds, Frm.cds, List.cons_append, List.nil_append]
            refine den_ite (fun hd => ?_) (fun hd => ?_)
            · simp only [nrm, X.den, Env.put, Env.pre, reduceIte, Nat.reduceLT, Nat.reduceSub, Nat.reduceAdd] at hd
              rw [alone_end hs hd] at ht
              have ht3 := ht
              clear hlt e1 hfit hs hd ht hx hf hk hi
              have k1 : g1.n = 0 := by have := rok1.2.2.2; rw [← ht1] at this; exact this
              have k2 : g2.keys = [⟨3, 0⟩] := by have := rok2.2.2.2; rw [← ht2] at this; exact this
              have k3 : g3.n = 1 ∧ y3.free.length = 2 ∧ y3.locks = [-1] := by have := rok3.2.2.2; rw [← ht3] at this; exact this
              refine den_ift (by simp only [nrm, X.den, Env.put, Env.pre, reduceIte, Nat.reduceLT, Nat.reduceSub, Nat.reduceAdd]; exact k1) ?_
              refine den_calle d155 [.b true] rfl trivial (by simp only [nrm, X.den, Env.put, Env.pre, reduceIte, Nat.reduceLT, Nat.reduceSub, Nat.reduceAdd, k2]; kernel_rfl) (den_ift rfl (den_ift (by simp only [nrm, X.den, Env.put, Env.pre, reduceIte, Nat.reduceLT, Nat.reduceSub, Nat.reduceAdd]; exact k3.1) (den_ift (by simp only [nrm, X.den, Env.put, Env.pre, reduceIte, Nat.reduceLT, Nat.reduceSub, Nat.reduceAdd, len_ints]; omega) (den_lt (by simp only [nrm, X.den, Env.put, Env.pre, reduceIte, Nat.reduceLT, Nat.reduceSub, Nat.reduceAdd, k3.2.2]; decide) (den_ret ?_)))))
              simp only [nrm, X.den, Env.put, Env.pre, reduceIte, Nat.reduceLT, Nat.reduceSub, Nat.reduceAdd, k3.2.2]
              rfl
            · simp only [nrm, X.den, Env.put, Env.pre, reduceIte, Nat.reduceLT, Nat.reduceSub, Nat.reduceAdd] at hd
              rw [alone_on hs hd] at ht
              refine den_fit (by simp only [nrm, X.den, Env.put, Env.pre, reduceIte, Nat.reduceLT, Nat.reduceSub, Nat.reduceAdd]; omega) (den_back ⟨⟨i + 1, y3, g3, ?_, by omega, ht, hfit hd⟩, ?_⟩)
              · simp only [nrm, X.den, Env.put, Env.pre, reduceIte, Nat.reduceLT, Nat.reduceSub, Nat.reduceAdd, Mem.cds, Frm.cds, List.cons_append, List.nil_append]; rfl
              · simp only [nrm, X.den, Env.put, Env.pre, reduceIte, Nat.reduceLT, Nat.reduceSub, Nat.reduceAdd]; omega
          · simp only [nrm, X.den, Env.put, Env.pre, reduceIte, Nat.reduceLT, Nat.reduceSub, Nat.reduceAdd] at hge
            rw [show 40 - i = 0 from by omega] at ht
            have := rok3.2.2.1
            rw [← ht] at this
            cases this
        · simp only [nrm, X.den, Env.put, Env.pre, reduceIte, Nat.reduceLT, Nat.reduceSub, Nat.reduceAdd] at hd
          rw [alone_on hs hd] at ht
          refine den_fit (by simp only [nrm, X.den, Env.put, Env.pre, reduceIte, Nat.reduceLT, Nat.reduceSub, Nat.reduceAdd]; omega) (den_back ⟨⟨i + 1, y2, g2, ?_, by omega, ht, hfit hd⟩, ?_⟩)
          · simp only [nrm, X.den, Env.put, Env.pre, reduceIte, Nat.reduceLT, Nat.reduceSub, Nat.reduceAdd, Mem.cds, Frm.cds, List.cons_append, List.nil_append]; rfl
          · simp only [nrm, X.den, Env.put, Env.pre, reduceIte, Nat.reduceLT, Nat.reduceSub, Nat.reduceAdd]; omega
      · simp only [nrm, X.den, Env.put, Env.pre, reduceIte, Nat.reduceLT, Nat.reduceSub, Nat.reduceAdd] at hge
        rw [show 40 - i = 0 from by omega] at ht
        have := rok2.2.2.1
        rw [← ht] at this
        cases this
    · simp only [nrm, X.den, Env.put, Env.pre, reduceIte, Nat.reduceLT, Nat.reduceSub, Nat.reduceAdd] at hd
      rw [alone_on hs hd] at ht
      refine den_fit (by simp only [nrm, X.den, Env.put, Env.pre, reduceIte, Nat.reduceLT, Nat.reduceSub, Nat.reduceAdd]; omega) (den_back ⟨⟨i + 1, y1, g1, ?_, by omega, ht, hfit hd⟩, ?_⟩)
      · simp only [nrm, X.den, Env.put, Env.pre, reduceIte, Nat.reduceLT, Nat.reduceSub, Nat.reduceAdd, Mem.cds, Frm.cds, List.cons_append, List.nil_append]; rfl
      · simp only [nrm, X.den, Env.put, Env.pre, reduceIte, Nat.reduceLT, Nat.reduceSub, Nat.reduceAdd]; omega
  · simp only [nrm, X.den, Env.put, Env.pre, reduceIte, Nat.reduceLT, Nat.reduceSub, Nat.reduceAdd] at hge
    rw [show 40 - i = 0 from by omega] at ht
    have := rok1.2.2.1
    rw [← ht] at this
    cases this
end Go.Proofs.Ytpmamacjepcdmaa

/- Contracts: flows; a closed fact; ChainTells. -/
namespace Go.Proofs.Ytpmamacjepcdmaa
open Go Go.Sy Go.RowKit
set_option linter.unusedSimpArgs false
set_option linter.unusedVariables false

theorem fn57c (a b : Int) : d57.fn [.i a, .i b] = (newMem a b).1.cds ++ [.i (newMem a b).2] := rfl
theorem none_same : d60.fn [.l [], .l [], .l [], .l [], .i 0, .l [], .l [], .l [], .l [], .i 0] = [.b true] := by
  have := fn60 Mem.none Mem.none
  rw [decide_eq_true rfl] at this
  exact this
theorem self_same (m : Mem) : d60.fn [slotsD m.slots, intsD m.heads, intsD m.free, intsD m.locks, .i m.now, slotsD m.slots, intsD m.heads, intsD m.free, intsD m.locks, .i m.now] = [.b true] := by
  rw [fn60, decide_eq_true rfl]
theorem take_getD {l : List Int} {j : Nat} (h : j < l.length) : l.take (j + 1) = l.take j ++ [l.getD j 0] := by
  rw [List.take_succ_eq_append_getElem h, List.getD_eq_getElem?_getD, List.getElem?_eq_getElem h, Option.getD_some]
def s71 : Sig := ⟨[.agg [.fz kS, .fz kI, .fz kI, .fz kI, .int .i64]], [.one (.own 78 kW), .one (.int .i64)]⟩
def d71 : DC := ⟨s71, fun _ => True, fun l => [flowsD (flowsR (Mem.of l)).1, .i (flowsR (Mem.of l)).2]⟩
theorem fn71 (m : Mem) : d71.fn [slotsD m.slots, intsD m.heads, intsD m.free, intsD m.locks, .i m.now] = [flowsD (flowsR m).1, .i (flowsR m).2] := by simp only [d71, mem_of, mem_eta]
def l71 : List (Nat × Ct) := [(74, d74.ct), (168, d168.ct)]
def z71 : Cx := { T := ttA, C := sigs l71, F := [], hints := [⟨71, 6, false, [(19, .lt), (5, .own 78 kW)], [], [], [], 0⟩, ⟨71, 10, false, [(30, .lt), (5, .own 78 kW)], [], [], [], 0⟩], sig := s71 }
def t71 : Tree :=
 (.call 74 [.var 0, .var 1, .var 2, .var 3, .var 4] 5
 (.ite (.not (.eq (.var 5) (.int 0)))
  (.ret [.nil, .var 5])
  (.loop 6 [.sl 32 [.int .i64, .int .i64, .int .i64, .int .i64], .int .i64] [.nil, .int 0]
  (.ite (.lt (.var 8) (.len (.var 1)))
   (.call 168 [.var 0, .var 1, .var 2, .var 3, .var 4, .var 8] 9
   (.loop 11 [.sl 32 [.int .i64, .int .i64, .int .i64, .int .i64], .int .i64] [.var 7, .int 0]
   (.ite (.lt (.var 13) (.len (.var 9)))
    (.need (.le (.int 0) (.var 13))
    (.need (.le (.int 0) (.cell (.var 9) (.var 13) 0))
    (.need (.lt (.cell (.var 9) (.var 13) 0) (.len (.var 0)))
    (.need (.le (.add (.len (.var 12)) (.int 1)) (.int 4398046511104))
    (.need (.fit (.add (.var 13) (.int 1)))
    (.back 11 [.app (.var 12) (.cons (.cell (.var 0) (.cell (.var 9) (.var 13) 0) 1) (.cons (.cell (.var 0) (.cell (.var 9) (.var 13) 0) 2) (.cons (.cell (.var 9) (.var 13) 0) (.cons (.cell (.var 0) (.cell (.var 9) (.var 13) 0) 3) .row0)))), .add (.var 13) (.int 1)]))))))
    (.need (.fit (.add (.var 8) (.int 1)))
    (.back 6 [.var 12, .add (.var 8) (.int 1)])))))
   (.ret [.var 7, .int 0])))))
theorem run71 : run z71 6000 [.code (Try.f71.body.getD .skip), .fin (topRet z71 Try.f71.results.toList 50)] { fn := 71, tmps := z71.sig.args0 ++ List.replicate (Try.f71.ntmps - z71.sig.args0.length) (.v (.one .undef)), stk := [], h := z71.sig.h0, nx := z71.sig.ins.length, known := [] } = t71 := by kernel_rfl
theorem ok71 : CtOk Try.prog 71 d71.ct := by
  refine dc_of_tree (d := d71) (Z := z71) (Γ := gam l71) (fn := Try.f71) (c := Try.f71.body.getD .skip) (told_of tok mixed (all_cons ok74 (all_cons ok168 all_nil)) fok_nil) Try.func71 (by kernel_rfl) (by kernel_rfl) rfl run71 fun E hk hp => ?_
  obtain ⟨hk0, hk1, hk2, hk3, hk4, _⟩ := hk
  obtain ⟨m, e0, e1, e2, e3, e4, b0, b1, b2, b3⟩ := ok_mem (d0 := E 0) (d1 := E 1) (d2 := E 2) (d3 := E 3) (d4 := E 4) hk0 hk1 hk2 hk3 hk4
  have el : letters E d71.sig.ins.length = [slotsD m.slots, intsD m.heads, intsD m.free, intsD m.locks, .i m.now] := by
    show [E 0, E 1, E 2, E 3, E 4] = _
    rw [e0, e1, e2, e3, e4]
  rw [el] at hp
  rw [el]
  rw [Env.pre_eq el]
  clear el e0 e1 e2 e3 e4
  rw [fn71]
  unfold flowsR
  unfold t71
  refine den_calle d74 [.i (checkChains m)] rfl trivial (by simp only [nrm, X.den, Env.put, Env.pre, reduceIte, Nat.reduceLT, Nat.reduceSub, Nat.reduceAdd, fn74]) (den_ite (fun h => den_ret ?_) (fun h => ?_))
  · simp only [nrm, X.den, Env.put, Env.pre, reduceIte, Nat.reduceLT, Nat.reduceSub, Nat.reduceAdd, Bool.not_eq_true'] at h ⊢
    rw [if_pos h]; rfl
  simp only [nrm, X.den, Env.put, Env.pre, reduceIte, Nat.reduceLT, Nat.reduceSub, Nat.reduceAdd, Bool.not_eq_false'] at h
  rw [if_neg (by omega)]
  have hm := checkChains_mem (by omega : checkChains m = 0)
  have hns := hm.ns
  have hnh := hm.nh4
  refine den_loop (fun ds => ∃ (b : Nat) (acc : List Flow), ds = [flowsD acc, .i b] ∧ b ≤ m.heads.length ∧ acc.length ≤ b * 12 ∧ flowsOf m = flowsFrom m (m.heads.length - b) b acc) (fun ds => m.heads.length - (ds.getD 1 .u).int.toNat) ⟨0, [], rfl, by omega, by simp, rfl⟩ ?_
  rintro ds - ⟨b, acc, rfl, hb, hkl, ht⟩
  refine den_ite (fun hlt => ?_) (fun hge => den_ret ?_)
  · simp only [nrm, X.den, Env.put, Env.pre, reduceIte, Nat.reduceLT, Nat.reduceSub, Nat.reduceAdd, len_ints] at hlt
    have e1 : m.heads.length - b = m.heads.length - (b + 1) + 1 := by omega
    rw [e1] at ht
    refine den_calle d168 [intsD (chainR m b).1, .i (chainR m b).2] rfl ?_ (by simp only [nrm, X.den, Env.put, Env.pre, reduceIte, Nat.reduceLT, Nat.reduceSub, Nat.reduceAdd, fn168]) ?_
    · simp only [nrm, X.den, Env.put, Env.pre, reduceIte, Nat.reduceLT, Nat.reduceSub, Nat.reduceAdd]
      exact pre168 hm (by omega) (by omega)
    obtain ⟨hl, hlm⟩ := chainR_mem hm b
    rw [flowsFrom] at ht
    generalize (chainR m b).1 = l at *
    refine den_loop (fun ds => ∃ (j : Nat) (acc' : List Flow), ds = [flowsD acc', .i j] ∧ j ≤ l.length ∧ acc' = acc ++ (l.take j).map (flowAt m)) (fun ds => l.length - (ds.getD 1 .u).int.toNat) ⟨0, acc, ?_, by omega, by simp⟩ ?_
    · simp only [nrm, X.den, Env.put, Env.pre, reduceIte, Nat.reduceLT, Nat.reduceSub, Nat.reduceAdd]; rfl
    rintro ds - ⟨j, acc', rfl, hj, hs⟩
    have hal : acc'.length = acc.length + j := by rw [hs]; simp; omega
    refine den_ite (fun hlt' => ?_) (fun hge' => ?_)
    · simp only [nrm, X.den, Env.put, Env.pre, reduceIte, Nat.reduceLT, Nat.reduceSub, Nat.reduceAdd, len_ints] at hlt'
      have ha := hlm (l.getD j 0) (getD_mem (by omega))
      have hraw : ((intsD l).rows.getD j []).getD 0 .u = .i (l.getD j 0) := raw_int (by omega)
      have hnx : acc ++ (l.take (j + 1)).map (flowAt m) = acc' ++ [flowAt m (l.getD j 0)] := by
        rw [take_getD (by omega), hs, List.map_append, ← List.append_assoc]; rfl
      generalize hag : l.getD j 0 = a at *
      have hk1 : ((slotsD m.slots).rows.getD a.toNat []).getD 1 .u = .i (msl m a.toNat).k.a := raw_s1 (by omega)
      have hk2 : ((slotsD m.slots).rows.getD a.toNat []).getD 2 .u = .i (msl m a.toNat).k.b := raw_s2 (by omega)
      have hk3 : ((slotsD m.slots).rows.getD a.toNat []).getD 3 .u = .i (msl m a.toNat).till := raw_s3 (by omega)
      refine den_need (by simp only [nrm, X.den, Env.put, Env.pre, reduceIte, Nat.reduceLT, Nat.reduceSub, Nat.reduceAdd]; omega) (den_need (by simp only [nrm, X.den, Env.put, Env.pre, reduceIte, Nat.reduceLT, Nat.reduceSub, Nat.reduceAdd, Int.toNat_natCast, hraw]; omega) (den_need (by simp only [nrm, X.den, Env.put, Env.pre, reduceIte, Nat.reduceLT, Nat.reduceSub, Nat.reduceAdd, Int.toNat_natCast, hraw, len_slots]; omega) (den_le (by simp only [nrm, X.den, Env.put, Env.pre, reduceIte, Nat.reduceLT, Nat.reduceSub, Nat.reduceAdd, len_flows]; omega) (den_fit (by simp only [nrm, X.den, Env.put, Env.pre, reduceIte, Nat.reduceLT, Nat.reduceSub, Nat.reduceAdd]; omega) (den_back ⟨⟨j + 1, _, ?_, by omega, hnx.symm⟩, ?_⟩)))))
      · simp only [nrm, X.den, Env.put, Env.pre, reduceIte, Nat.reduceLT, Nat.reduceSub, Nat.reduceAdd, Int.toNat_natCast, hraw, hk1, hk2, hk3, CD.row, List.headD_cons, app_flow]
        rfl
      · simp only [nrm, X.den, Env.put, Env.pre, reduceIte, Nat.reduceLT, Nat.reduceSub, Nat.reduceAdd]; omega
    · simp only [nrm, X.den, Env.put, Env.pre, reduceIte, Nat.reduceLT, Nat.reduceSub, Nat.reduceAdd, len_ints] at hge'
      have hjl : j = l.length := by omega
      subst hjl
      rw [List.take_length] at hs
      refine den_fit (by simp only [nrm, X.den, Env.put, Env.pre, reduceIte, Nat.reduceLT, Nat.reduceSub, Nat.reduceAdd]; omega) (den_back2 (by decide) ⟨⟨b + 1, acc', ?_, by omega, by omega, ?_⟩, ?_⟩)
      · simp only [nrm, X.den, Env.put, Env.pre, reduceIte, Nat.reduceLT, Nat.reduceSub, Nat.reduceAdd]; rfl
      · rw [ht, hs]
      · simp only [nrm, X.den, Env.put, Env.pre, reduceIte, Nat.reduceLT, Nat.reduceSub, Nat.reduceAdd]; omega
  · simp only [nrm, X.den, Env.put, Env.pre, reduceIte, Nat.reduceLT, Nat.reduceSub, Nat.reduceAdd, len_ints] at hge ⊢
    rw [show m.heads.length - b = 0 from by omega] at ht
    rw [ht]; rfl
def s76 : Sig := ⟨[.agg [.fz kS, .fz kI, .fz kI, .fz kI, .int .i64]], [.one (.own 78 kW)]⟩
def d76 : DC := ⟨s76, fun l => checkChains (Mem.of l) = 0, fun l => [flowsD (flowsOf (Mem.of l))]⟩
theorem fn76 (m : Mem) : d76.fn [slotsD m.slots, intsD m.heads, intsD m.free, intsD m.locks, .i m.now] = [flowsD (flowsOf m)] := by simp only [d76, mem_of, mem_eta]
def l76 : List (Nat × Ct) := [(77, d77.ct)]
def z76 : Cx := { T := ttA, C := sigs l76, F := [], hints := [⟨76, 3, false, [(12, .lt), (3, .own 78 kW)], [], [], [], 0⟩, ⟨76, 7, false, [(23, .lt), (3, .own 78 kW)], [], [], [], 0⟩], sig := s76 }
def t76 : Tree :=
 (.loop 5 [.sl 32 [.int .i64, .int .i64, .int .i64, .int .i64], .int .i64] [.nil, .int 0]
 (.ite (.lt (.var 7) (.len (.var 1)))
  (.call 77 [.var 0, .var 1, .var 2, .var 3, .var 4, .var 7] 8
  (.loop 10 [.sl 32 [.int .i64, .int .i64, .int .i64, .int .i64], .int .i64] [.var 6, .int 0]
  (.ite (.lt (.var 12) (.len (.var 8)))
   (.need (.le (.int 0) (.var 12))
   (.need (.le (.int 0) (.cell (.var 8) (.var 12) 0))
   (.need (.lt (.cell (.var 8) (.var 12) 0) (.len (.var 0)))
   (.need (.le (.add (.len (.var 11)) (.int 1)) (.int 4398046511104))
   (.need (.fit (.add (.var 12) (.int 1)))
   (.back 10 [.app (.var 11) (.cons (.cell (.var 0) (.cell (.var 8) (.var 12) 0) 1) (.cons (.cell (.var 0) (.cell (.var 8) (.var 12) 0) 2) (.cons (.cell (.var 8) (.var 12) 0) (.cons (.cell (.var 0) (.cell (.var 8) (.var 12) 0) 3) .row0)))), .add (.var 12) (.int 1)]))))))
   (.need (.fit (.add (.var 7) (.int 1)))
   (.back 5 [.var 11, .add (.var 7) (.int 1)])))))
  (.ret [.var 6])))
theorem run76 : run z76 6000 [.code (Try.f76.body.getD .skip), .fin (topRet z76 Try.f76.results.toList 50)] { fn := 76, tmps := z76.sig.args0 ++ List.replicate (Try.f76.ntmps - z76.sig.args0.length) (.v (.one .undef)), stk := [], h := z76.sig.h0, nx := z76.sig.ins.length, known := [] } = t76 := by kernel_rfl
theorem ok76 : CtOk Try.prog 76 d76.ct := by
  refine dc_of_tree (d := d76) (Z := z76) (Γ := gam l76) (fn := Try.f76) (c := Try.f76.body.getD .skip) (told_of tok mixed (all_cons ok77 all_nil) fok_nil) Try.func76 (by kernel_rfl) (by kernel_rfl) rfl run76 fun E hk hp => ?_
  obtain ⟨hk0, hk1, hk2, hk3, hk4, _⟩ := hk
  obtain ⟨m, e0, e1, e2, e3, e4, b0, b1, b2, b3⟩ := ok_mem (d0 := E 0) (d1 := E 1) (d2 := E 2) (d3 := E 3) (d4 := E 4) hk0 hk1 hk2 hk3 hk4
  have el : letters E d76.sig.ins.length = [slotsD m.slots, intsD m.heads, intsD m.free, intsD m.locks, .i m.now] := by
    show [E 0, E 1, E 2, E 3, E 4] = _
    rw [e0, e1, e2, e3, e4]
  rw [el] at hp
  rw [el]
  rw [Env.pre_eq el]
  clear el e0 e1 e2 e3 e4
  rw [fn76]
  simp only [d76, mem_of, mem_eta] at hp
  unfold t76
  have hm := checkChains_mem hp
  have hns := hm.ns
  have hnh := hm.nh4
  refine den_loop (fun ds => ∃ (b : Nat) (acc : List Flow), ds = [flowsD acc, .i b] ∧ b ≤ m.heads.length ∧ acc.length ≤ b * 12 ∧ flowsOf m = flowsFrom m (m.heads.length - b) b acc) (fun ds => m.heads.length - (ds.getD 1 .u).int.toNat) ⟨0, [], rfl, by omega, by simp, rfl⟩ ?_
  rintro ds - ⟨b, acc, rfl, hb, hkl, ht⟩
  refine den_ite (fun hlt => ?_) (fun hge => den_ret ?_)
  · simp only [nrm, X.den, Env.put, Env.pre, reduceIte, Nat.reduceLT, Nat.reduceSub, Nat.reduceAdd, len_ints] at hlt
    have e1 : m.heads.length - b = m.heads.length - (b + 1) + 1 := by omega
    rw [e1] at ht
    obtain ⟨l, hc⟩ := checkChains_some hp (b := b) (by omega)
    obtain ⟨q1, q2⟩ := chain77_R hc
    refine den_calle d77 [intsD l, .b true] rfl ?_ (by simp only [nrm, X.den, Env.put, Env.pre, reduceIte, Nat.reduceLT, Nat.reduceSub, Nat.reduceAdd, fn77, q1]) ?_
    · simp only [nrm, X.den, Env.put, Env.pre, reduceIte, Nat.reduceLT, Nat.reduceSub, Nat.reduceAdd]
      exact pre77 hm (by omega) (by omega)
    obtain ⟨hl, hlm⟩ := chainOf_mem hm hc
    rw [flowsFrom, q2] at ht
    dsimp only at ht
    refine den_loop (fun ds => ∃ (j : Nat) (acc' : List Flow), ds = [flowsD acc', .i j] ∧ j ≤ l.length ∧ acc' = acc ++ (l.take j).map (flowAt m)) (fun ds => l.length - (ds.getD 1 .u).int.toNat) ⟨0, acc, ?_, by omega, by simp⟩ ?_
    · simp only [nrm, X.den, Env.put, Env.pre, reduceIte, Nat.reduceLT, Nat.reduceSub, Nat.reduceAdd]; rfl
    rintro ds - ⟨j, acc', rfl, hj, hs⟩
    have hal : acc'.length = acc.length + j := by rw [hs]; simp; omega
    refine den_ite (fun hlt' => ?_) (fun hge' => ?_)
    · simp only [nrm, X.den, Env.put, Env.pre, reduceIte, Nat.reduceLT, Nat.reduceSub, Nat.reduceAdd, len_ints] at hlt'
      have ha := hlm (l.getD j 0) (getD_mem (by omega))
      have hraw : ((intsD l).rows.getD j []).getD 0 .u = .i (l.getD j 0) := raw_int (by omega)
      have hnx : acc ++ (l.take (j + 1)).map (flowAt m) = acc' ++ [flowAt m (l.getD j 0)] := by
        rw [take_getD (by omega), hs, List.map_append, ← List.append_assoc]; rfl
      generalize hag : l.getD j 0 = a at *
      have hk1 : ((slotsD m.slots).rows.getD a.toNat []).getD 1 .u = .i (msl m a.toNat).k.a := raw_s1 (by omega)
      have hk2 : ((slotsD m.slots).rows.getD a.toNat []).getD 2 .u = .i (msl m a.toNat).k.b := raw_s2 (by omega)
      have hk3 : ((slotsD m.slots).rows.getD a.toNat []).getD 3 .u = .i (msl m a.toNat).till := raw_s3 (by omega)
      refine den_need (by simp only [nrm, X.den, Env.put, Env.pre, reduceIte, Nat.reduceLT, Nat.reduceSub, Nat.reduceAdd]; omega) (den_need (by simp only [nrm, X.den, Env.put, Env.pre, reduceIte, Nat.reduceLT, Nat.reduceSub, Nat.reduceAdd, Int.toNat_natCast, hraw]; omega) (den_need (by simp only [nrm, X.den, Env.put, Env.pre, reduceIte, Nat.reduceLT, Nat.reduceSub, Nat.reduceAdd, Int.toNat_natCast, hraw, len_slots]; omega) (den_le (by simp only [nrm, X.den, Env.put, Env.pre, reduceIte, Nat.reduceLT, Nat.reduceSub, Nat.reduceAdd, len_flows]; omega) (den_fit (by simp only [nrm, X.den, Env.put, Env.pre, reduceIte, Nat.reduceLT, Nat.reduceSub, Nat.reduceAdd]; omega) (den_back ⟨⟨j + 1, _, ?_, by omega, hnx.symm⟩, ?_⟩)))))
      · simp only [nrm, X.den, Env.put, Env.pre, reduceIte, Nat.reduceLT, Nat.reduceSub, Nat.reduceAdd, Int.toNat_natCast, hraw, hk1, hk2, hk3, CD.row, List.headD_cons, app_flow]
        rfl
      · simp only [nrm, X.den, Env.put, Env.pre, reduceIte, Nat.reduceLT, Nat.reduceSub, Nat.reduceAdd]; omega
    · simp only [nrm, X.den, Env.put, Env.pre, reduceIte, Nat.reduceLT, Nat.reduceSub, Nat.reduceAdd, len_ints] at hge'
      have hjl : j = l.length := by omega
      subst hjl
      rw [List.take_length] at hs
      refine den_fit (by simp only [nrm, X.den, Env.put, Env.pre, reduceIte, Nat.reduceLT, Nat.reduceSub, Nat.reduceAdd]; omega) (den_back2 (by decide) ⟨⟨b + 1, acc', ?_, by omega, by omega, ?_⟩, ?_⟩)
      · simp only [nrm, X.den, Env.put, Env.pre, reduceIte, Nat.reduceLT, Nat.reduceSub, Nat.reduceAdd]; rfl
      · rw [ht, hs]
      · simp only [nrm, X.den, Env.put, Env.pre, reduceIte, Nat.reduceLT, Nat.reduceSub, Nat.reduceAdd]; omega
  · simp only [nrm, X.den, Env.put, Env.pre, reduceIte, Nat.reduceLT, Nat.reduceSub, Nat.reduceAdd, len_ints] at hge ⊢
    rw [show m.heads.length - b = 0 from by omega] at ht
    rw [ht]; rfl

/-! ### A closed fact -/
def hM0 : Mem := ⟨[default, default], [-1, -2], [1, 0], [-1, -1], 0⟩
def hM1 : Mem := ⟨[⟨1, ⟨1, 2⟩, 5, false, 0⟩, default], [-1, -2], [1], [-1, -1], 0⟩
def hM2 : Mem := ⟨[⟨1, ⟨1, 2⟩, 5, true, -2⟩, default], [-1, 1], [1], [-1, -1], 0⟩
def hM3 : Mem := ⟨[⟨1, ⟨1, 2⟩, 5, true, -2⟩, default], [-1, -2], [1], [-1, -1], 0⟩
theorem h0 : newMem 2 2 = (hM0, 0) := by decide +kernel
theorem h1 : taken hM0 ⟨1, 2⟩ 5 = (hM1, 0, 0) := by decide +kernel
theorem h2 : linked hM1 0 = (hM2, 0) := by decide +kernel
theorem h3 : flowsR hM2 = ([⟨⟨1, 2⟩, 0, 5⟩], 0) := by decide +kernel
theorem h4 : without hM2 ⟨1, 2⟩ = (hM3, 0, 0) := by decide +kernel
theorem h5 : slotsOf hM3 1 = ([], 0) := by decide +kernel
def s73 : Sig := ⟨[], [.one (.bool)]⟩
def d73 : DC := ⟨s73, fun _ => True, fun _ => [.b true]⟩
def l73 : List (Nat × Ct) := [(57, d57.ct), (54, d54.ct), (82, d82.ct), (71, d71.ct), (83, d83.ct), (70, d70.ct), (75, d75.ct)]
def z73 : Cx := { T := ttA, C := sigs l73, F := [], hints := [], sig := s73 }
def t73 : Tree :=
 (.call 57 [.int 2, .int 2] 0
 (.call 54 [.var 0, .var 1, .var 2, .var 3, .var 4, .int 1, .int 2, .int 5] 6
 (.call 82 [.var 6, .var 7, .var 8, .var 9, .var 10, .var 11] 13
 (.call 71 [.var 13, .var 14, .var 15, .var 16, .var 17] 19
 (.call 83 [.var 13, .var 14, .var 15, .var 16, .var 17, .int 1, .int 2] 21
 (.call 70 [.var 21, .var 22, .var 23, .var 24, .var 25, .int 1] 28
 (.ite (.eq (.var 5) (.int 0))
  (.ite (.eq (.var 12) (.int 0))
   (.ite (.eq (.var 18) (.int 0))
    (.ite (.eq (.var 20) (.int 0))
     (.ite (.eq (.var 27) (.int 0))
      (.ite (.eq (.var 29) (.int 0))
       (.call 75 [.var 19, .cons (.int 1) (.cons (.int 2) (.cons (.int 0) (.cons (.int 5) .row0)))] 30
       (.ite (.var 30)
        (.ite (.eq (.var 26) (.int 0))
         (.ite (.eq (.len (.var 28)) (.int 0))
          (.need (.lt (.int 0) (.len (.var 21)))
          (.ite (.cell (.var 21) (.int 0) 4)
           (.ret [.eq (.cell (.var 21) (.int 0) 5) (.int (-2))])
           (.ret [.bool false])))
          (.ret [.bool false]))
         (.ret [.bool false]))
        (.ret [.bool false])))
       (.ret [.bool false]))
      (.ret [.bool false]))
     (.ret [.bool false]))
    (.ret [.bool false]))
   (.ret [.bool false]))
  (.ret [.bool false]))))))))
theorem run73 : run z73 6000 [.code (Try.f73.body.getD .skip), .fin (topRet z73 Try.f73.results.toList 50)] { fn := 73, tmps := z73.sig.args0 ++ List.replicate (Try.f73.ntmps - z73.sig.args0.length) (.v (.one .undef)), stk := [], h := z73.sig.h0, nx := z73.sig.ins.length, known := [] } = t73 := by kernel_rfl
theorem ok73 : CtOk Try.prog 73 d73.ct := by
  refine dc_of_tree (d := d73) (Z := z73) (Γ := gam l73) (fn := Try.f73) (c := Try.f73.body.getD .skip) (told_of tok mixed (all_cons ok57 (all_cons ok54 (all_cons ok82 (all_cons ok71 (all_cons ok83 (all_cons ok70 (all_cons ok75 all_nil))))))) fok_nil) Try.func73 (by kernel_rfl) (by kernel_rfl) rfl run73 fun E hk hp => ?_
  clear hk
  have el : letters E d73.sig.ins.length = [] := rfl
  rw [el] at hp
  rw [el]
  rw [Env.pre_eq el]
  clear el
  simp only [d73]
  unfold t73
  refine den_calle d57 (hM0.cds ++ [.i 0]) rfl trivial (by simp only [nrm, X.den, Env.put, Env.pre, reduceIte, Nat.reduceLT, Nat.reduceSub, Nat.reduceAdd, fn57c, h0]) ?_
  refine den_calle d54 (hM1.cds ++ [.i 0, .i 0]) rfl trivial (by simp only [nrm, X.den, Env.put, Env.pre, reduceIte, Nat.reduceLT, Nat.reduceSub, Nat.reduceAdd, Mem.cds, List.cons_append, List.nil_append, fn54, h1]) ?_
  refine den_calle d82 (hM2.cds ++ [.i 0]) rfl trivial (by simp only [nrm, X.den, Env.put, Env.pre, reduceIte, Nat.reduceLT, Nat.reduceSub, Nat.reduceAdd, Mem.cds, List.cons_append, List.nil_append, fn82, h2]) ?_
  refine den_calle d71 [flowsD [⟨⟨1, 2⟩, 0, 5⟩], .i 0] rfl trivial (by simp only [nrm, X.den, Env.put, Env.pre, reduceIte, Nat.reduceLT, Nat.reduceSub, Nat.reduceAdd, Mem.cds, List.cons_append, List.nil_append, fn71, h3]) ?_
  refine den_calle d83 (hM3.cds ++ [.i 0, .i 0]) rfl trivial (by simp only [nrm, X.den, Env.put, Env.pre, reduceIte, Nat.reduceLT, Nat.reduceSub, Nat.reduceAdd, Mem.cds, List.cons_append, List.nil_append, fn83, h4]) ?_
  refine den_calle d70 [intsD [], .i 0] rfl trivial (by simp only [nrm, X.den, Env.put, Env.pre, reduceIte, Nat.reduceLT, Nat.reduceSub, Nat.reduceAdd, Mem.cds, List.cons_append, List.nil_append, fn70, h5]) ?_
  refine den_ift (by simp only [nrm, X.den, Env.put, Env.pre, reduceIte, Nat.reduceLT, Nat.reduceSub, Nat.reduceAdd, Mem.cds, List.cons_append, List.nil_append]) ?_
  refine den_ift (by simp only [nrm, X.den, Env.put, Env.pre, reduceIte, Nat.reduceLT, Nat.reduceSub, Nat.reduceAdd, Mem.cds, List.cons_append, List.nil_append]) ?_
  refine den_ift (by simp only [nrm, X.den, Env.put, Env.pre, reduceIte, Nat.reduceLT, Nat.reduceSub, Nat.reduceAdd, Mem.cds, List.cons_append, List.nil_append]) ?_
  refine den_ift (by simp only [nrm, X.den, Env.put, Env.pre, reduceIte, Nat.reduceLT, Nat.reduceSub, Nat.reduceAdd, Mem.cds, List.cons_append, List.nil_append]) ?_
  refine den_ift (by simp only [nrm, X.den, Env.put, Env.pre, reduceIte, Nat.reduceLT, Nat.reduceSub, Nat.reduceAdd, Mem.cds, List.cons_append, List.nil_append]) ?_
  refine den_ift (by simp only [nrm, X.den, Env.put, Env.pre, reduceIte, Nat.reduceLT, Nat.reduceSub, Nat.reduceAdd, Mem.cds, List.cons_append, List.nil_append]) ?_
  refine den_calle d75 [.b true] rfl trivial ?_ (den_ift (by simp only [nrm, X.den, Env.put, Env.pre, reduceIte, Nat.reduceLT, Nat.reduceSub, Nat.reduceAdd]) ?_)
  · simp only [nrm, X.den, Env.put, Env.pre, reduceIte, Nat.reduceLT, Nat.reduceSub, Nat.reduceAdd, Mem.cds, List.cons_append, List.nil_append]
    rfl
  refine den_ift (by simp only [nrm, X.den, Env.put, Env.pre, reduceIte, Nat.reduceLT, Nat.reduceSub, Nat.reduceAdd, Mem.cds, List.cons_append, List.nil_append]) ?_
  refine den_ift (by simp only [nrm, X.den, Env.put, Env.pre, reduceIte, Nat.reduceLT, Nat.reduceSub, Nat.reduceAdd, Mem.cds, List.cons_append, List.nil_append, len_ints]; rfl) ?_
  refine den_need (by simp only [nrm, X.den, Env.put, Env.pre, reduceIte, Nat.reduceLT, Nat.reduceSub, Nat.reduceAdd, Mem.cds, List.cons_append, List.nil_append, len_slots]; decide) (den_ift (by simp only [nrm, X.den, Env.put, Env.pre, reduceIte, Nat.reduceLT, Nat.reduceSub, Nat.reduceAdd, Mem.cds, List.cons_append, List.nil_append]; rfl) (den_ret ?_))
  simp only [nrm, X.den, Env.put, Env.pre, reduceIte, Nat.reduceLT, Nat.reduceSub, Nat.reduceAdd, Mem.cds, List.cons_append, List.nil_append]
  rfl
end Go.Proofs.Ytpmamacjepcdmaa
