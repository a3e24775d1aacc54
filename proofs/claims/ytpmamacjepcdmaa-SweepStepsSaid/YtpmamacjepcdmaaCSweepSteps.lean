import Derived.Test.YtpmamacjepcdmaaCFit
import Derived.Test.YtpmamacjepcdmaaCSweep
/- Any step of a Sweep or a List does in any memory what the document says: the contract of swept, and the law. -/
namespace Go.Proofs.Ytpmamacjepcdmaa
open Go Go.Sy Go.RowKit
set_option linter.unusedSimpArgs false
set_option linter.unusedVariables false

theorem sweep_fit {m : Mem} {f : Frm} (hm : MemIn m) (hf : FrmOk m f) (hk : (f.c.kind = 4 ∨ f.c.kind = 5)) (hd : ((fun m f => sweepStep m f 1) m f).1.done = false) : MemIn ((fun m f => sweepStep m f 1) m f).2 ∧ FrmOk ((fun m f => sweepStep m f 1) m f).2 ((fun m f => sweepStep m f 1) m f).1 ∧ (((fun m f => sweepStep m f 1) m f).1.c.kind = 4 ∨ ((fun m f => sweepStep m f 1) m f).1.c.kind = 5) :=
  ⟨sweepStep_into 1 hm hf, (sweepStep_in 1 hm hf hk).ok hf (sweepStep_touch 1 hm hf hk) hd, by rw [(sweepStep_in 1 hm hf hk).c]; exact hk⟩
theorem sweep_into {m : Mem} {f : Frm} (hm : MemIn m) (hf : FrmOk m f) (hk : (f.c.kind = 4 ∨ f.c.kind = 5)) : MemIn ((fun m f => sweepStep m f 1) m f).2 := sweepStep_into 1 hm hf
def rF1 : Frm := newFrame ⟨4, ⟨0, 0⟩, 0, 0, 0⟩
def rM1 : Mem := sM
def rR1 : Frm × Mem × Bool := aloneR (fun m f => sweepStep m f 1) 40 rF1 rM1
theorem rok1 : checkMem rM1 = 0 ∧ checkFrame rM1 rF1 = 0 ∧ rR1.2.2 = true ∧ rR1.1.n = 0 := by decide +kernel
def rF2 : Frm := newFrame ⟨5, ⟨0, 0⟩, 0, 0, 0⟩
def rM2 : Mem := rR1.2.1
def rR2 : Frm × Mem × Bool := aloneR (fun m f => sweepStep m f 1) 40 rF2 rM2
theorem rok2 : checkMem rM2 = 0 ∧ checkFrame rM2 rF2 = 0 ∧ rR2.2.2 = true ∧ rR2.1.keys = [⟨3, 0⟩] := by decide +kernel
def rF3 : Frm := newFrame ⟨4, ⟨0, 0⟩, 0, 0, 0⟩
def rM3 : Mem := { rR2.2.1 with now := 5 }
def rR3 : Frm × Mem × Bool := aloneR (fun m f => sweepStep m f 1) 40 rF3 rM3
theorem rok3 : checkMem rM3 = 0 ∧ checkFrame rM3 rF3 = 0 ∧ rR3.2.2 = true ∧ rR3.1.n = 1 ∧ rR3.2.1.free.length = 2 ∧ rR3.2.1.locks = [-1] := by decide +kernel
def s109 : Sig := ⟨[], [.one (.bool)]⟩
def d109 : DC := ⟨s109, fun _ => True, fun _ => [.b true]⟩
def l109 : List (Nat × Ct) := [(180, d180.ct), (41, d41.ct), (110, d110.ct), (155, d155.ct)]
noncomputable def z109 : Cx := { T := ttA, C := sigs l109, F := [(113, Try.f113), (193, Try.f193)], hints := [⟨113, 3, false, [(12, .lt)], [(0, 0, .own 52 kS), (0, 1, .own 3 kI), (0, 2, .own 3 kI), (0, 3, .own 3 kI), (0, 4, .lt), (3, 0, .lt), (3, 1, .lt), (3, 2, .lt), (3, 3, .lt), (3, 4, .lt), (3, 5, .lt), (3, 6, .lt), (3, 7, .lt), (3, 8, .lt), (3, 9, .lt), (3, 10, .lt), (3, 11, .fz kK), (3, 12, .lt), (3, 13, .lt)], [], [], 4⟩, ⟨113, 3, false, [(12, .lt)], [(0, 0, .own 52 kS), (0, 1, .own 3 kI), (0, 2, .own 3 kI), (0, 3, .own 3 kI), (0, 4, .lt), (7, 0, .lt), (7, 1, .lt), (7, 2, .lt), (7, 3, .lt), (7, 4, .lt), (7, 5, .lt), (7, 6, .lt), (7, 7, .lt), (7, 8, .lt), (7, 9, .lt), (7, 10, .lt), (7, 11, .fz kK), (7, 12, .lt), (7, 13, .lt)], [], [], 8⟩, ⟨113, 3, false, [(12, .lt)], [(0, 0, .own 52 kS), (0, 1, .own 3 kI), (0, 2, .own 3 kI), (0, 3, .own 3 kI), (0, 4, .lt), (9, 0, .lt), (9, 1, .lt), (9, 2, .lt), (9, 3, .lt), (9, 4, .lt), (9, 5, .lt), (9, 6, .lt), (9, 7, .lt), (9, 8, .lt), (9, 9, .lt), (9, 10, .lt), (9, 11, .fz kK), (9, 12, .lt), (9, 13, .lt)], [], [], 10⟩, ⟨113, 3, false, [(12, .lt)], [(0, 0, .own 52 kS), (0, 1, .own 3 kI), (0, 2, .own 3 kI), (0, 3, .own 3 kI), (0, 4, .lt), (11, 0, .lt), (11, 1, .lt), (11, 2, .lt), (11, 3, .lt), (11, 4, .lt), (11, 5, .lt), (11, 6, .lt), (11, 7, .lt), (11, 8, .lt), (11, 9, .lt), (11, 10, .lt), (11, 11, .fz kK), (11, 12, .lt), (11, 13, .lt)], [], [], 12⟩, ⟨113, 3, false, [(12, .lt)], [(0, 0, .own 52 kS), (0, 1, .own 3 kI), (0, 2, .own 3 kI), (0, 3, .own 3 kI), (0, 4, .lt), (13, 0, .lt), (13, 1, .lt), (13, 2, .lt), (13, 3, .lt), (13, 4, .lt), (13, 5, .lt), (13, 6, .lt), (13, 7, .lt), (13, 8, .lt), (13, 9, .lt), (13, 10, .lt), (13, 11, .fz kK), (13, 12, .lt), (13, 13, .lt)], [], [], 14⟩, ⟨113, 3, false, [(12, .lt)], [(0, 0, .own 52 kS), (0, 1, .own 3 kI), (0, 2, .own 3 kI), (0, 3, .own 3 kI), (0, 4, .lt), (15, 0, .lt), (15, 1, .lt), (15, 2, .lt), (15, 3, .lt), (15, 4, .lt), (15, 5, .lt), (15, 6, .lt), (15, 7, .lt), (15, 8, .lt), (15, 9, .lt), (15, 10, .lt), (15, 11, .fz kK), (15, 12, .lt), (15, 13, .lt)], [], [], 16⟩], sig := s109 }
def t109 : Tree :=
 (.call 180 [] 0
 (.ite (.not (.var 5))
  (.ret [.bool false])
  (.call 41 [.int 4, .int 0, .int 0, .int 0, .int 0, .int 0] 6
  (.loop 20 [.int .i64, .sl 48 [.int .i64, .int .i64, .int .i64, .int .i64, .bool, .int .i64], .sl 8 [.int .i64], .sl 8 [.int .i64], .sl 8 [.int .i64], .int .i64, .int .i64, .int .i64, .int .i64, .int .i64, .int .i64, .int .i64, .int .i64, .int .i64, .int .i64, .int .i64, .int .i64, .sl 16 [.int .i64, .int .i64], .bool, .int .i64] [.int 0, .var 0, .var 1, .var 2, .var 3, .var 4, .var 6, .var 7, .var 8, .var 9, .var 10, .var 11, .var 12, .var 13, .var 14, .var 15, .var 16, .var 17, .var 18, .var 19]
  (.ite (.lt (.var 21) (.int 40))
   (.call 110 [.var 22, .var 23, .var 24, .var 25, .var 26, .var 27, .var 28, .var 29, .var 30, .var 31, .var 32, .var 33, .var 34, .var 35, .var 36, .var 37, .var 38, .var 39, .var 40, .int 1] 41
   (.ite (.var 58)
    (.call 41 [.int 5, .int 0, .int 0, .int 0, .int 0, .int 0] 60
    (.loop 74 [.int .i64, .sl 48 [.int .i64, .int .i64, .int .i64, .int .i64, .bool, .int .i64], .sl 8 [.int .i64], .sl 8 [.int .i64], .sl 8 [.int .i64], .int .i64, .int .i64, .int .i64, .int .i64, .int .i64, .int .i64, .int .i64, .int .i64, .int .i64, .int .i64, .int .i64, .int .i64, .sl 16 [.int .i64, .int .i64], .bool, .int .i64] [.int 0, .var 41, .var 42, .var 43, .var 44, .var 45, .var 60, .var 61, .var 62, .var 63, .var 64, .var 65, .var 66, .var 67, .var 68, .var 69, .var 70, .var 71, .var 72, .var 73]
    (.ite (.lt (.var 75) (.int 40))
     (.call 110 [.var 76, .var 77, .var 78, .var 79, .var 80, .var 81, .var 82, .var 83, .var 84, .var 85, .var 86, .var 87, .var 88, .var 89, .var 90, .var 91, .var 92, .var 93, .var 94, .int 1] 95
     (.ite (.var 112)
      (.call 41 [.int 4, .int 0, .int 0, .int 0, .int 0, .int 0] 114
      (.loop 128 [.int .i64, .sl 48 [.int .i64, .int .i64, .int .i64, .int .i64, .bool, .int .i64], .sl 8 [.int .i64], .sl 8 [.int .i64], .sl 8 [.int .i64], .int .i64, .int .i64, .int .i64, .int .i64, .int .i64, .int .i64, .int .i64, .int .i64, .int .i64, .int .i64, .int .i64, .int .i64, .sl 16 [.int .i64, .int .i64], .bool, .int .i64] [.int 0, .var 95, .var 96, .var 97, .var 98, .int 5, .var 114, .var 115, .var 116, .var 117, .var 118, .var 119, .var 120, .var 121, .var 122, .var 123, .var 124, .var 125, .var 126, .var 127]
      (.ite (.lt (.var 129) (.int 40))
       (.call 110 [.var 130, .var 131, .var 132, .var 133, .var 134, .var 135, .var 136, .var 137, .var 138, .var 139, .var 140, .var 141, .var 142, .var 143, .var 144, .var 145, .var 146, .var 147, .var 148, .int 1] 149
       (.ite (.var 166)
        (.ite (.eq (.var 56) (.int 0))
         (.call 155 [.var 111, .cons (.int 3) (.cons (.int 0) .row0)] 168
         (.ite (.var 168)
          (.ite (.eq (.var 164) (.int 1))
           (.ite (.eq (.len (.var 151)) (.int 2))
            (.need (.lt (.int 0) (.len (.var 152)))
            (.ret [.eq (.cell (.var 152) (.int 0) 0) (.int (-1))]))
            (.ret [.bool false]))
           (.ret [.bool false]))
          (.ret [.bool false])))
         (.ret [.bool false]))
        (.need (.fit (.add (.var 129) (.int 1)))
        (.back 128 [.add (.var 129) (.int 1), .var 149, .var 150, .var 151, .var 152, .var 153, .var 154, .var 155, .var 156, .var 157, .var 158, .var 159, .var 160, .var 161, .var 162, .var 163, .var 164, .var 165, .var 166, .var 167]))))
       (.ret [.bool false]))))
      (.need (.fit (.add (.var 75) (.int 1)))
      (.back 74 [.add (.var 75) (.int 1), .var 95, .var 96, .var 97, .var 98, .var 99, .var 100, .var 101, .var 102, .var 103, .var 104, .var 105, .var 106, .var 107, .var 108, .var 109, .var 110, .var 111, .var 112, .var 113]))))
     (.call 41 [.int 4, .int 0, .int 0, .int 0, .int 0, .int 0] 95
     (.loop 109 [.int .i64, .sl 48 [.int .i64, .int .i64, .int .i64, .int .i64, .bool, .int .i64], .sl 8 [.int .i64], .sl 8 [.int .i64], .sl 8 [.int .i64], .int .i64, .int .i64, .int .i64, .int .i64, .int .i64, .int .i64, .int .i64, .int .i64, .int .i64, .int .i64, .int .i64, .int .i64, .sl 16 [.int .i64, .int .i64], .bool, .int .i64] [.int 0, .var 76, .var 77, .var 78, .var 79, .int 5, .var 95, .var 96, .var 97, .var 98, .var 99, .var 100, .var 101, .var 102, .var 103, .var 104, .var 105, .var 106, .var 107, .var 108]
     (.ite (.lt (.var 110) (.int 40))
      (.call 110 [.var 111, .var 112, .var 113, .var 114, .var 115, .var 116, .var 117, .var 118, .var 119, .var 120, .var 121, .var 122, .var 123, .var 124, .var 125, .var 126, .var 127, .var 128, .var 129, .int 1] 130
      (.ite (.var 147)
       (.ret [.bool false])
       (.need (.fit (.add (.var 110) (.int 1)))
       (.back 109 [.add (.var 110) (.int 1), .var 130, .var 131, .var 132, .var 133, .var 134, .var 135, .var 136, .var 137, .var 138, .var 139, .var 140, .var 141, .var 142, .var 143, .var 144, .var 145, .var 146, .var 147, .var 148]))))
      (.ret [.bool false])))))))
    (.need (.fit (.add (.var 21) (.int 1)))
    (.back 20 [.add (.var 21) (.int 1), .var 41, .var 42, .var 43, .var 44, .var 45, .var 46, .var 47, .var 48, .var 49, .var 50, .var 51, .var 52, .var 53, .var 54, .var 55, .var 56, .var 57, .var 58, .var 59]))))
   (.call 41 [.int 5, .int 0, .int 0, .int 0, .int 0, .int 0] 41
   (.loop 55 [.int .i64, .sl 48 [.int .i64, .int .i64, .int .i64, .int .i64, .bool, .int .i64], .sl 8 [.int .i64], .sl 8 [.int .i64], .sl 8 [.int .i64], .int .i64, .int .i64, .int .i64, .int .i64, .int .i64, .int .i64, .int .i64, .int .i64, .int .i64, .int .i64, .int .i64, .int .i64, .sl 16 [.int .i64, .int .i64], .bool, .int .i64] [.int 0, .var 22, .var 23, .var 24, .var 25, .var 26, .var 41, .var 42, .var 43, .var 44, .var 45, .var 46, .var 47, .var 48, .var 49, .var 50, .var 51, .var 52, .var 53, .var 54]
   (.ite (.lt (.var 56) (.int 40))
    (.call 110 [.var 57, .var 58, .var 59, .var 60, .var 61, .var 62, .var 63, .var 64, .var 65, .var 66, .var 67, .var 68, .var 69, .var 70, .var 71, .var 72, .var 73, .var 74, .var 75, .int 1] 76
    (.ite (.var 93)
     (.call 41 [.int 4, .int 0, .int 0, .int 0, .int 0, .int 0] 95
     (.loop 109 [.int .i64, .sl 48 [.int .i64, .int .i64, .int .i64, .int .i64, .bool, .int .i64], .sl 8 [.int .i64], .sl 8 [.int .i64], .sl 8 [.int .i64], .int .i64, .int .i64, .int .i64, .int .i64, .int .i64, .int .i64, .int .i64, .int .i64, .int .i64, .int .i64, .int .i64, .int .i64, .sl 16 [.int .i64, .int .i64], .bool, .int .i64] [.int 0, .var 76, .var 77, .var 78, .var 79, .int 5, .var 95, .var 96, .var 97, .var 98, .var 99, .var 100, .var 101, .var 102, .var 103, .var 104, .var 105, .var 106, .var 107, .var 108]
     (.ite (.lt (.var 110) (.int 40))
      (.call 110 [.var 111, .var 112, .var 113, .var 114, .var 115, .var 116, .var 117, .var 118, .var 119, .var 120, .var 121, .var 122, .var 123, .var 124, .var 125, .var 126, .var 127, .var 128, .var 129, .int 1] 130
      (.ite (.var 147)
       (.ret [.bool false])
       (.need (.fit (.add (.var 110) (.int 1)))
       (.back 109 [.add (.var 110) (.int 1), .var 130, .var 131, .var 132, .var 133, .var 134, .var 135, .var 136, .var 137, .var 138, .var 139, .var 140, .var 141, .var 142, .var 143, .var 144, .var 145, .var 146, .var 147, .var 148]))))
      (.ret [.bool false]))))
     (.need (.fit (.add (.var 56) (.int 1)))
     (.back 55 [.add (.var 56) (.int 1), .var 76, .var 77, .var 78, .var 79, .var 80, .var 81, .var 82, .var 83, .var 84, .var 85, .var 86, .var 87, .var 88, .var 89, .var 90, .var 91, .var 92, .var 93, .var 94]))))
    (.call 41 [.int 4, .int 0, .int 0, .int 0, .int 0, .int 0] 76
    (.loop 90 [.int .i64, .sl 48 [.int .i64, .int .i64, .int .i64, .int .i64, .bool, .int .i64], .sl 8 [.int .i64], .sl 8 [.int .i64], .sl 8 [.int .i64], .int .i64, .int .i64, .int .i64, .int .i64, .int .i64, .int .i64, .int .i64, .int .i64, .int .i64, .int .i64, .int .i64, .int .i64, .sl 16 [.int .i64, .int .i64], .bool, .int .i64] [.int 0, .var 57, .var 58, .var 59, .var 60, .int 5, .var 76, .var 77, .var 78, .var 79, .var 80, .var 81, .var 82, .var 83, .var 84, .var 85, .var 86, .var 87, .var 88, .var 89]
    (.ite (.lt (.var 91) (.int 40))
     (.call 110 [.var 92, .var 93, .var 94, .var 95, .var 96, .var 97, .var 98, .var 99, .var 100, .var 101, .var 102, .var 103, .var 104, .var 105, .var 106, .var 107, .var 108, .var 109, .var 110, .int 1] 111
     (.ite (.var 128)
      (.ret [.bool false])
      (.need (.fit (.add (.var 91) (.int 1)))
      (.back 90 [.add (.var 91) (.int 1), .var 111, .var 112, .var 113, .var 114, .var 115, .var 116, .var 117, .var 118, .var 119, .var 120, .var 121, .var 122, .var 123, .var 124, .var 125, .var 126, .var 127, .var 128, .var 129]))))
     (.ret [.bool false]))))))))))))
theorem run109 : run z109 6000 [.code (Try.f109.body.getD .skip), .fin (topRet z109 Try.f109.results.toList 50)] { fn := 109, tmps := z109.sig.args0 ++ List.replicate (Try.f109.ntmps - z109.sig.args0.length) (.v (.one .undef)), stk := [], h := z109.sig.h0, nx := z109.sig.ins.length, known := [] } = t109 := by kernel_rfl
theorem ok109 : CtOk Try.prog 109 d109.ct := by
  refine dc_of_tree (d := d109) (Z := z109) (Γ := gam l109) (fn := Try.f109) (c := Try.f109.body.getD .skip) (told_of tok mixed (all_cons ok180 (all_cons ok41 (all_cons ok110 (all_cons ok155 all_nil)))) (fok_cons (c := Try.f113.body.getD .skip) Try.func113 (by kernel_rfl) (by kernel_rfl) (fok_cons (c := Try.f193.body.getD .skip) Try.func193 (by kernel_rfl) (by kernel_rfl) fok_nil))) Try.func109 (by kernel_rfl) (by kernel_rfl) rfl run109 fun E hk hp => ?_
  clear hk
  have el : letters E d109.sig.ins.length = [] := rfl
  rw [el] at hp
  rw [el]
  rw [Env.pre_eq el]
  clear el
  simp only [d109]
  unfold t109
  refine den_calle d180 (sM.cds ++ [.b true]) rfl trivial rfl ?_
  refine den_iff (by simp only [nrm, X.den, Env.put, Env.pre, reduceIte, Nat.reduceLT, Nat.reduceSub, Nat.reduceAdd, Mem.cds, List.cons_append, List.nil_append]; rfl) ?_
  refine den_calle d41 rF1.cds rfl trivial (by simp only [nrm, X.den, Env.put, Env.pre, reduceIte, Nat.reduceLT, Nat.reduceSub, Nat.reduceAdd, fs41]; rfl) ?_
  refine den_loop (fun ds => ∃ (i : Nat) (x : Mem) (f : Frm), ds = .i i :: (x.cds ++ f.cds) ∧ i ≤ 40 ∧ aloneR (fun m f => sweepStep m f 1) (40 - i) f x = rR1 ∧ MemIn x ∧ FrmOk x f ∧ (f.c.kind = 4 ∨ f.c.kind = 5)) (fun ds => 40 - (ds.getD 0 .u).int.toNat) ⟨0, rM1, rF1, ?_, by omega, rfl, ((checkMem_iff _).1 (rok1.1)).into, (checkFrame_iff _ _).1 (rok1.2.1), .inl rfl⟩ ?_
  · simp only [nrm, X.den, Env.put, Env.pre, reduceIte, Nat.reduceLT, Nat.reduceSub, Nat.reduceAdd, Mem.cds, Frm.cds, List.cons_append, List.nil_append]; rfl
  rintro ds - ⟨i, x, f, rfl, hi, ht, hx, hf, hk⟩
  simp only [Mem.cds, Frm.cds, List.cons_append, List.nil_append]
  refine den_ite (fun hlt => ?_) (fun hge => ?_)
  · simp only [nrm, X.den, Env.put, Env.pre, reduceIte, Nat.reduceLT, Nat.reduceSub, Nat.reduceAdd] at hlt
    refine den_calle d110 (((fun m f => sweepStep m f 1) x f).2.cds ++ ((fun m f => sweepStep m f 1) x f).1.cds) rfl (by simp only [nrm, X.den, Env.put, Env.pre, reduceIte, Nat.reduceLT, Nat.reduceSub, Nat.reduceAdd]; exact pi110 hx hf hk 1) (by simp only [nrm, X.den, Env.put, Env.pre, reduceIte, Nat.reduceLT, Nat.reduceSub, Nat.reduceAdd, fn110]) ?_
    have e1 : 40 - i = 40 - (i + 1) + 1 := by omega
    have hfit := sweep_fit hx hf hk
    have hin := sweep_into hx hf hk
    rw [e1] at ht
    rcases hs : (fun m f => sweepStep m f 1) x f with ⟨g1, y1⟩
    rw [hs] at hfit hin
    simp only [Mem.cds, Frm.cds, List.cons_append, List.nil_append]
    refine den_ite (fun hd => ?_) (fun hd => ?_)
    · simp only [nrm, X.den, Env.put, Env.pre, reduceIte, Nat.reduceLT, Nat.reduceSub, Nat.reduceAdd] at hd
      rw [alone_end hs hd] at ht
      have ht1 := ht
      clear hlt e1 hfit hs hd ht hx hf hk hi
      have eM2 : rM2 = y1 := by show rR1.2.1 = _; rw [← ht1]
      have okk2 := rok2
      rw [eM2] at okk2
      refine den_calle d41 rF2.cds rfl trivial (by simp only [nrm, X.den, Env.put, Env.pre, reduceIte, Nat.reduceLT, Nat.reduceSub, Nat.reduceAdd, fs41]; rfl) ?_
      refine den_loop (fun ds => ∃ (i : Nat) (x : Mem) (f : Frm), ds = .i i :: (x.cds ++ f.cds) ∧ i ≤ 40 ∧ aloneR (fun m f => sweepStep m f 1) (40 - i) f x = rR2 ∧ MemIn x ∧ FrmOk x f ∧ (f.c.kind = 4 ∨ f.c.kind = 5)) (fun ds => 40 - (ds.getD 0 .u).int.toNat) ⟨0, y1, rF2, ?_, by omega, (by show _ = aloneR (fun m f => sweepStep m f 1) 40 rF2 rM2; rw [eM2]), ((checkMem_iff _).1 (okk2.1)).into, (checkFrame_iff _ _).1 (okk2.2.1), .inr rfl⟩ ?_
      · simp only [nrm, X.den, Env.put, Env.pre, reduceIte, Nat.reduceLT, Nat.reduceSub, Nat.reduceAdd, Mem.cds, Frm.cds, List.cons_append, List.nil_append]; rfl
      rintro ds - ⟨i, x, f, rfl, hi, ht, hx, hf, hk⟩
      simp only [Mem.cds, Frm.cds, List.cons_append, List.nil_append]
      refine den_ite (fun hlt => ?_) (fun hge => ?_)
      · simp only [nrm, X.den, Env.put, Env.pre, reduceIte, Nat.reduceLT, Nat.reduceSub, Nat.reduceAdd] at hlt
        refine den_calle d110 (((fun m f => sweepStep m f 1) x f).2.cds ++ ((fun m f => sweepStep m f 1) x f).1.cds) rfl (by simp only [nrm, X.den, Env.put, Env.pre, reduceIte, Nat.reduceLT, Nat.reduceSub, Nat.reduceAdd]; exact pi110 hx hf hk 1) (by simp only [nrm, X.den, Env.put, Env.pre, reduceIte, Nat.reduceLT, Nat.reduceSub, Nat.reduceAdd, fn110]) ?_
        have e1 : 40 - i = 40 - (i + 1) + 1 := by omega
        have hfit := sweep_fit hx hf hk
        have hin := sweep_into hx hf hk
        rw [e1] at ht
        rcases hs : (fun m f => sweepStep m f 1) x f with ⟨g2, y2⟩
        rw [hs] at hfit hin
        simp only [Mem.cds, Frm.cds, List.cons_append, List.nil_append]
        refine den_ite (fun hd => ?_) (fun hd => ?_)
        · simp only [nrm, X.den, Env.put, Env.pre, reduceIte, Nat.reduceLT, Nat.reduceSub, Nat.reduceAdd] at hd
          rw [alone_end hs hd] at ht
          have ht2 := ht
          clear hlt e1 hfit hs hd ht hx hf hk hi
          have eM3 : rM3 = { y2 with now := 5 } := by show { rR2.2.1 with now := 5 } = _; rw [← ht2]
          have okk3 := rok3
          rw [eM3] at okk3
          refine den_calle d41 rF3.cds rfl trivial (by simp only [nrm, X.den, Env.put, Env.pre, reduceIte, Nat.reduceLT, Nat.reduceSub, Nat.reduceAdd, fs41]; rfl) ?_
          refine den_loop (fun ds => ∃ (i : Nat) (x : Mem) (f : Frm), ds = .i i :: (x.cds ++ f.cds) ∧ i ≤ 40 ∧ aloneR (fun m f => sweepStep m f 1) (40 - i) f x = rR3 ∧ MemIn x ∧ FrmOk x f ∧ (f.c.kind = 4 ∨ f.c.kind = 5)) (fun ds => 40 - (ds.getD 0 .u).int.toNat) ⟨0, { y2 with now := 5 }, rF3, ?_, by omega, (by show _ = aloneR (fun m f => sweepStep m f 1) 40 rF3 rM3; rw [eM3]), ((checkMem_iff _).1 (okk3.1)).into, (checkFrame_iff _ _).1 (okk3.2.1), .inl rfl⟩ ?_
          · simp only [nrm, X.den, Env.put, Env.pre, reduceIte, Nat.reduceLT, Nat.reduceSub, Nat.reduceAdd, Mem.cds, Frm.cds, List.cons_append, List.nil_append]; rfl
          rintro ds - ⟨i, x, f, rfl, hi, ht, hx, hf, hk⟩
          simp only [Mem.cds, Frm.cds, List.cons_append, List.nil_append]
          refine den_ite (fun hlt => ?_) (fun hge => ?_)
          · simp only [nrm, X.den, Env.put, Env.pre, reduceIte, Nat.reduceLT, Nat.reduceSub, Nat.reduceAdd] at hlt
            refine den_calle d110 (((fun m f => sweepStep m f 1) x f).2.cds ++ ((fun m f => sweepStep m f 1) x f).1.cds) rfl (by simp only [nrm, X.den, Env.put, Env.pre, reduceIte, Nat.reduceLT, Nat.reduceSub, Nat.reduceAdd]; exact pi110 hx hf hk 1) (by simp only [nrm, X.den, Env.put, Env.pre, reduceIte, Nat.reduceLT, Nat.reduceSub, Nat.reduceAdd, fn110]) ?_
            have e1 : 40 - i = 40 - (i + 1) + 1 := by omega
            have hfit := sweep_fit hx hf hk
            have hin := sweep_into hx hf hk
            rw [e1] at ht
            rcases hs : (fun m f => sweepStep m f 1) x f with ⟨g3, y3⟩
            rw [hs] at hfit hin
            simp only [Mem.cds, Frm.cds, List.cons_append, List.nil_append]
            refine den_ite (fun hd => ?_) (fun hd => ?_)
            · simp only [nrm, X.den, Env.put, Env.pre, reduceIte, Nat.reduceLT, Nat.reduceSub, Nat.reduceAdd] at hd
              rw [alone_end hs hd] at ht
              have ht3 := ht
              clear hlt e1 hfit hs hd ht hx hf hk hi
              have k1 : g1.n = 0 := by have := rok1.2.2.2; rw [← ht1] at this; exact this
              have k2 : g2.keys = [⟨3, 0⟩] := by have := rok2.2.2.2; rw [← ht2] at this; exact this
              have k3 : g3.n = 1 ∧ y3.free.length = 2 ∧ y3.locks = [-1] := by have := rok3.2.2.2; rw [← ht3] at this; exact this
              refine den_ift (by simp only [nrm, X.den, Env.put, Env.pre, reduceIte, Nat.reduceLT, Nat.reduceSub, Nat.reduceAdd]; exact k1) ?_
              refine den_calle d155 [.b true] rfl trivial (by simp only [nrm, X.den, Env.put, Env.pre, reduceIte, Nat.reduceLT, Nat.reduceSub, Nat.reduceAdd, k2]; kernel_rfl) (den_ift rfl (den_ift (by simp only [nrm, X.den, Env.put, Env.pre, reduceIte, Nat.reduceLT, Nat.reduceSub, Nat.reduceAdd]; exact k3.1) (den_ift (by simp only [nrm, X.den, Env.put, Env.pre, reduceIte, Nat.reduceLT, Nat.reduceSub, Nat.reduceAdd, len_ints]; omega) (den_lt (by simp only [nrm, X.den, Env.put, Env.pre, reduceIte, Nat.reduceLT, Nat.reduceSub, Nat.reduceAdd, k3.2.2]; decide) (den_ret ?_)))))
              simp only [nrm, X.den, Env.put, Env.pre, reduceIte, Nat.reduceLT, Nat.reduceSub, Nat.reduceAdd, k3.2.2]
              rfl
            · simp only [nrm, X.den, Env.put, Env.pre, reduceIte, Nat.reduceLT, Nat.reduceSub, Nat.reduceAdd] at hd
              rw [alone_on hs hd] at ht
              refine den_fit (by simp only [nrm, X.den, Env.put, Env.pre, reduceIte, Nat.reduceLT, Nat.reduceSub, Nat.reduceAdd]; omega) (den_back ⟨⟨i + 1, y3, g3, ?_, by omega, ht, hfit hd⟩, ?_⟩)
              · simp only [nrm, X.den, Env.put, Env.pre, reduceIte, Nat.reduceLT, Nat.reduceSub, Nat.reduceAdd, Mem.cds, Frm.cds, List.cons_append, List.nil_append]; rfl
              · simp only [nrm, X.den, Env.put, Env.pre, reduceIte, Nat.reduceLT, Nat.reduceSub, Nat.reduceAdd]; omega
          · simp only [nrm, X.den, Env.put, Env.pre, reduceIte, Nat.reduceLT, Nat.reduceSub, Nat.reduceAdd] at hge
            rw [show 40 - i = 0 from by omega] at ht
            have := rok3.2.2.1
            rw [← ht] at this
            cases this
        · simp only [nrm, X.den, Env.put, Env.pre, reduceIte, Nat.reduceLT, Nat.reduceSub, Nat.reduceAdd] at hd
          rw [alone_on hs hd] at ht
          refine den_fit (by simp only [nrm, X.den, Env.put, Env.pre, reduceIte, Nat.reduceLT, Nat.reduceSub, Nat.reduceAdd]; omega) (den_back ⟨⟨i + 1, y2, g2, ?_, by omega, ht, hfit hd⟩, ?_⟩)
          · simp only [nrm, X.den, Env.put, Env.pre, reduceIte, Nat.reduceLT, Nat.reduceSub, Nat.reduceAdd, Mem.cds, Frm.cds, List.cons_append, List.nil_append]; rfl
          · simp only [nrm, X.den, Env.put, Env.pre, reduceIte, Nat.reduceLT, Nat.reduceSub, Nat.reduceAdd]; omega
      · simp only [nrm, X.den, Env.put, Env.pre, reduceIte, Nat.reduceLT, Nat.reduceSub, Nat.reduceAdd] at hge
        rw [show 40 - i = 0 from by omega] at ht
        have := rok2.2.2.1
        rw [← ht] at this
        cases this
    · simp only [nrm, X.den, Env.put, Env.pre, reduceIte, Nat.reduceLT, Nat.reduceSub, Nat.reduceAdd] at hd
      rw [alone_on hs hd] at ht
      refine den_fit (by simp only [nrm, X.den, Env.put, Env.pre, reduceIte, Nat.reduceLT, Nat.reduceSub, Nat.reduceAdd]; omega) (den_back ⟨⟨i + 1, y1, g1, ?_, by omega, ht, hfit hd⟩, ?_⟩)
      · simp only [nrm, X.den, Env.put, Env.pre, reduceIte, Nat.reduceLT, Nat.reduceSub, Nat.reduceAdd, Mem.cds, Frm.cds, List.cons_append, List.nil_append]; rfl
      · simp only [nrm, X.den, Env.put, Env.pre, reduceIte, Nat.reduceLT, Nat.reduceSub, Nat.reduceAdd]; omega
  · simp only [nrm, X.den, Env.put, Env.pre, reduceIte, Nat.reduceLT, Nat.reduceSub, Nat.reduceAdd] at hge
    rw [show 40 - i = 0 from by omega] at ht
    have := rok1.2.2.1
    rw [← ht] at this
    cases this
def s19 : Sig := ⟨[.agg [.fz kS, .fz kI, .fz kI, .fz kI, .int .i64], .agg [.int .i64, .int .i64, .int .i64, .int .i64, .int .i64, .int .i64, .int .i64, .int .i64, .int .i64, .int .i64, .int .i64, .fz kK, .bool, .int .i64], .one (.int .i64), .one (.bool)], [.one (.bool)]⟩
def d19 : DC := ⟨s19, fun _ => True, fun _ => [.b true]⟩
def l19 : List (Nat × Ct) := [(109, d109.ct), (100, d100.ct), (62, d62.ct), (110, d110.ct), (111, d111.ct), (47, d47.ct), (60, d60.ct)]
def z19 : Cx := { T := ttA, C := sigs l19, F := [], hints := [], sig := s19 }
def t19 : Tree :=
 (.ite (.var 20)
  (.call 109 [] 21
  (.ite (.not (.var 21))
   (.call 109 [] 22
   (.ret [.var 22]))
   (.call 100 [.var 0, .var 1, .var 2, .var 3, .var 4, .int 5, .var 6, .var 7, .var 8, .var 9, .var 10, .var 11, .var 12, .var 13, .var 14, .var 15, .var 16, .var 17, .var 18] 22
   (.ite (.not (.var 22))
    (.call 109 [] 23
    (.ret [.var 23]))
    (.call 62 [.var 0, .var 1, .var 2, .var 3, .var 4] 23
    (.call 62 [.var 0, .var 1, .var 2, .var 3, .var 4] 28
    (.call 110 [.var 23, .var 24, .var 25, .var 26, .var 27, .int 5, .var 6, .var 7, .var 8, .var 9, .var 10, .var 11, .var 12, .var 13, .var 14, .var 15, .var 16, .var 17, .var 18, .var 19] 33
    (.call 111 [.var 28, .var 29, .var 30, .var 31, .var 32, .int 5, .var 6, .var 7, .var 8, .var 9, .var 10, .var 11, .var 12, .var 13, .var 14, .var 15, .var 16, .var 17, .var 18, .var 19] 52
    (.call 47 [.var 38, .var 39, .var 40, .var 41, .var 42, .var 43, .var 44, .var 45, .var 46, .var 47, .var 48, .var 49, .var 50, .var 51, .var 57, .var 58, .var 59, .var 60, .var 61, .var 62, .var 63, .var 64, .var 65, .var 66, .var 67, .var 68, .var 69, .var 70] 71
    (.ite (.var 71)
     (.call 60 [.var 33, .var 34, .var 35, .var 36, .var 37, .var 52, .var 53, .var 54, .var 55, .var 56] 72
     (.ret [.var 72]))
     (.ret [.bool false])))))))))))
  (.call 109 [] 21
  (.ite (.not (.var 21))
   (.call 109 [] 22
   (.ret [.var 22]))
   (.call 100 [.var 0, .var 1, .var 2, .var 3, .var 4, .int 4, .var 6, .var 7, .var 8, .var 9, .var 10, .var 11, .var 12, .var 13, .var 14, .var 15, .var 16, .var 17, .var 18] 22
   (.ite (.not (.var 22))
    (.call 109 [] 23
    (.ret [.var 23]))
    (.call 62 [.var 0, .var 1, .var 2, .var 3, .var 4] 23
    (.call 62 [.var 0, .var 1, .var 2, .var 3, .var 4] 28
    (.call 110 [.var 23, .var 24, .var 25, .var 26, .var 27, .int 4, .var 6, .var 7, .var 8, .var 9, .var 10, .var 11, .var 12, .var 13, .var 14, .var 15, .var 16, .var 17, .var 18, .var 19] 33
    (.call 111 [.var 28, .var 29, .var 30, .var 31, .var 32, .int 4, .var 6, .var 7, .var 8, .var 9, .var 10, .var 11, .var 12, .var 13, .var 14, .var 15, .var 16, .var 17, .var 18, .var 19] 52
    (.call 47 [.var 38, .var 39, .var 40, .var 41, .var 42, .var 43, .var 44, .var 45, .var 46, .var 47, .var 48, .var 49, .var 50, .var 51, .var 57, .var 58, .var 59, .var 60, .var 61, .var 62, .var 63, .var 64, .var 65, .var 66, .var 67, .var 68, .var 69, .var 70] 71
    (.ite (.var 71)
     (.call 60 [.var 33, .var 34, .var 35, .var 36, .var 37, .var 52, .var 53, .var 54, .var 55, .var 56] 72
     (.ret [.var 72]))
     (.ret [.bool false]))))))))))))
theorem run19 : run z19 6000 [.code (Try.f19.body.getD .skip), .fin (topRet z19 Try.f19.results.toList 50)] { fn := 19, tmps := z19.sig.args0 ++ List.replicate (Try.f19.ntmps - z19.sig.args0.length) (.v (.one .undef)), stk := [], h := z19.sig.h0, nx := z19.sig.ins.length, known := [] } = t19 := by kernel_rfl
theorem ok19 : CtOk Try.prog 19 d19.ct := by
  refine dc_of_tree (d := d19) (Z := z19) (Γ := gam l19) (fn := Try.f19) (c := Try.f19.body.getD .skip) (told_of tok mixed (all_cons ok109 (all_cons ok100 (all_cons ok62 (all_cons ok110 (all_cons ok111 (all_cons ok47 (all_cons ok60 all_nil))))))) fok_nil) Try.func19 (by kernel_rfl) (by kernel_rfl) rfl run19 fun E hk hp => ?_
  obtain ⟨hk0, hk1, hk2, hk3, hk4, hk5, hk6, hk7, hk8, hk9, hk10, hk11, hk12, hk13, hk14, hk15, hk16, hk17, hk18, hk19, hk20, _⟩ := hk
  obtain ⟨m, e0, e1, e2, e3, e4, b0, b1, b2, b3⟩ := ok_mem (d0 := E 0) (d1 := E 1) (d2 := E 2) (d3 := E 3) (d4 := E 4) hk0 hk1 hk2 hk3 hk4
  obtain ⟨f, e5, e6, e7, e8, e9, e10, e11, e12, e13, e14, e15, e16, e17, e18, b16⟩ := ok_frame (d0 := E 5) (d1 := E 6) (d2 := E 7) (d3 := E 8) (d4 := E 9) (d5 := E 10) (d6 := E 11) (d7 := E 12) (d8 := E 13) (d9 := E 14) (d10 := E 15) (d11 := E 16) (d12 := E 17) (d13 := E 18) hk5 hk6 hk7 hk8 hk9 hk10 hk11 hk12 hk13 hk14 hk15 hk16 hk17 hk18
  obtain ⟨x, e19⟩ := ok_int (d := E 19) hk19
  obtain ⟨b, e20⟩ := ok_bool (d := E 20) hk20
  have el : letters E d19.sig.ins.length = [slotsD m.slots, intsD m.heads, intsD m.free, intsD m.locks, .i m.now, .i f.c.kind, .i f.c.k.a, .i f.c.k.b, .i f.c.time, .i f.c.bucket, .i f.c.slot, .i f.pc, .i f.cur, .i f.prev, .i f.slot, .i f.n, keysD f.keys, .b f.done, .i f.e, .i x, .b b] := by
    show [E 0, E 1, E 2, E 3, E 4, E 5, E 6, E 7, E 8, E 9, E 10, E 11, E 12, E 13, E 14, E 15, E 16, E 17, E 18, E 19, E 20] = _
    rw [e0, e1, e2, e3, e4, e5, e6, e7, e8, e9, e10, e11, e12, e13, e14, e15, e16, e17, e18, e19, e20]
  rw [el] at hp
  rw [el]
  rw [Env.pre_eq el]
  clear el e0 e1 e2 e3 e4 e5 e6 e7 e8 e9 e10 e11 e12 e13 e14 e15 e16 e17 e18 e19 e20
  simp only [d19]
  unfold t19
  refine den_ite (fun h => ?_) (fun h => ?_)
  · skip
    refine den_calle d109 [.b true] rfl trivial rfl (den_iff rfl ?_)
    obtain ⟨F, hF⟩ : ∃ F : Frm, F = { f with c := { f.c with kind := 5 } } := ⟨_, rfl⟩
    have hk : (F.c.kind = 4 ∨ F.c.kind = 5) := by first | (rw [hF]; done) | (rw [hF]; exact .inl rfl) | (rw [hF]; exact .inr rfl)
    refine den_calle d100 [.b (decide (checkMem m = 0 ∧ checkFrame m F = 0))] rfl trivial (by simp only [nrm, X.den, Env.put, Env.pre, reduceIte, Nat.reduceLT, Nat.reduceSub, Nat.reduceAdd]; rw [hF]; exact fn100 m { f with c := { f.c with kind := 5 } }) (den_ite (fun h => ?_) (fun h => ?_))
    · refine den_calle d109 [.b true] rfl trivial rfl (den_ret ?_)
      simp only [nrm, X.den, Env.put, Env.pre, reduceIte, Nat.reduceLT, Nat.reduceSub, Nat.reduceAdd]
    simp only [nrm, X.den, Env.put, Env.pre, reduceIte, Nat.reduceLT, Nat.reduceSub, Nat.reduceAdd, Bool.not_eq_false', decide_eq_true_eq] at h
    have hm := ((checkMem_iff m).1 h.1).into
    have hf := (checkFrame_iff m F).1 h.2
    refine den_calle d62 m.cds rfl trivial (by simp only [nrm, X.den, Env.put, Env.pre, reduceIte, Nat.reduceLT, Nat.reduceSub, Nat.reduceAdd, fn62]) ?_
    refine den_calle d62 m.cds rfl trivial (by simp only [nrm, X.den, Env.put, Env.pre, reduceIte, Nat.reduceLT, Nat.reduceSub, Nat.reduceAdd, Mem.cds, fn62]) ?_
    refine den_calle d110 ((sweepStep m F x).2.cds ++ (sweepStep m F x).1.cds) rfl (by simp only [nrm, X.den, Env.put, Env.pre, reduceIte, Nat.reduceLT, Nat.reduceSub, Nat.reduceAdd, Mem.cds]; have := pi110 hm hf hk x; rw [hF] at this; exact this) (by simp only [nrm, X.den, Env.put, Env.pre, reduceIte, Nat.reduceLT, Nat.reduceSub, Nat.reduceAdd, Mem.cds]; rw [hF]; exact fn110 m { f with c := { f.c with kind := 5 } } x) ?_
    refine den_calle d111 ((sweepStep m F x).2.cds ++ (sweepStep m F x).1.cds) rfl (by simp only [nrm, X.den, Env.put, Env.pre, reduceIte, Nat.reduceLT, Nat.reduceSub, Nat.reduceAdd, Mem.cds]; have := pi111 hm hf hk x; rw [hF] at this; exact this) (by simp only [nrm, X.den, Env.put, Env.pre, reduceIte, Nat.reduceLT, Nat.reduceSub, Nat.reduceAdd, Mem.cds]; rw [hF]; exact fn111 m { f with c := { f.c with kind := 5 } } x) ?_
    generalize sweepStep m F x = r
    obtain ⟨g, y⟩ := r
    simp only [Mem.cds, Frm.cds, List.cons_append, List.nil_append]
    refine den_calle d47 [.b true] rfl trivial (by simp only [nrm, X.den, Env.put, Env.pre, reduceIte, Nat.reduceLT, Nat.reduceSub, Nat.reduceAdd, fn47]; simp) (den_ift rfl ?_)
    refine den_calle d60 [.b true] rfl trivial (by simp only [nrm, X.den, Env.put, Env.pre, reduceIte, Nat.reduceLT, Nat.reduceSub, Nat.reduceAdd, fn60]; simp) (den_ret ?_)
    simp only [nrm, X.den, Env.put, Env.pre, reduceIte, Nat.reduceLT, Nat.reduceSub, Nat.reduceAdd]
  · skip
    refine den_calle d109 [.b true] rfl trivial rfl (den_iff rfl ?_)
    obtain ⟨F, hF⟩ : ∃ F : Frm, F = { f with c := { f.c with kind := 4 } } := ⟨_, rfl⟩
    have hk : (F.c.kind = 4 ∨ F.c.kind = 5) := by first | (rw [hF]; done) | (rw [hF]; exact .inl rfl) | (rw [hF]; exact .inr rfl)
    refine den_calle d100 [.b (decide (checkMem m = 0 ∧ checkFrame m F = 0))] rfl trivial (by simp only [nrm, X.den, Env.put, Env.pre, reduceIte, Nat.reduceLT, Nat.reduceSub, Nat.reduceAdd]; rw [hF]; exact fn100 m { f with c := { f.c with kind := 4 } }) (den_ite (fun h => ?_) (fun h => ?_))
    · refine den_calle d109 [.b true] rfl trivial rfl (den_ret ?_)
      simp only [nrm, X.den, Env.put, Env.pre, reduceIte, Nat.reduceLT, Nat.reduceSub, Nat.reduceAdd]
    simp only [nrm, X.den, Env.put, Env.pre, reduceIte, Nat.reduceLT, Nat.reduceSub, Nat.reduceAdd, Bool.not_eq_false', decide_eq_true_eq] at h
    have hm := ((checkMem_iff m).1 h.1).into
    have hf := (checkFrame_iff m F).1 h.2
    refine den_calle d62 m.cds rfl trivial (by simp only [nrm, X.den, Env.put, Env.pre, reduceIte, Nat.reduceLT, Nat.reduceSub, Nat.reduceAdd, fn62]) ?_
    refine den_calle d62 m.cds rfl trivial (by simp only [nrm, X.den, Env.put, Env.pre, reduceIte, Nat.reduceLT, Nat.reduceSub, Nat.reduceAdd, Mem.cds, fn62]) ?_
    refine den_calle d110 ((sweepStep m F x).2.cds ++ (sweepStep m F x).1.cds) rfl (by simp only [nrm, X.den, Env.put, Env.pre, reduceIte, Nat.reduceLT, Nat.reduceSub, Nat.reduceAdd, Mem.cds]; have := pi110 hm hf hk x; rw [hF] at this; exact this) (by simp only [nrm, X.den, Env.put, Env.pre, reduceIte, Nat.reduceLT, Nat.reduceSub, Nat.reduceAdd, Mem.cds]; rw [hF]; exact fn110 m { f with c := { f.c with kind := 4 } } x) ?_
    refine den_calle d111 ((sweepStep m F x).2.cds ++ (sweepStep m F x).1.cds) rfl (by simp only [nrm, X.den, Env.put, Env.pre, reduceIte, Nat.reduceLT, Nat.reduceSub, Nat.reduceAdd, Mem.cds]; have := pi111 hm hf hk x; rw [hF] at this; exact this) (by simp only [nrm, X.den, Env.put, Env.pre, reduceIte, Nat.reduceLT, Nat.reduceSub, Nat.reduceAdd, Mem.cds]; rw [hF]; exact fn111 m { f with c := { f.c with kind := 4 } } x) ?_
    generalize sweepStep m F x = r
    obtain ⟨g, y⟩ := r
    simp only [Mem.cds, Frm.cds, List.cons_append, List.nil_append]
    refine den_calle d47 [.b true] rfl trivial (by simp only [nrm, X.den, Env.put, Env.pre, reduceIte, Nat.reduceLT, Nat.reduceSub, Nat.reduceAdd, fn47]; simp) (den_ift rfl ?_)
    refine den_calle d60 [.b true] rfl trivial (by simp only [nrm, X.den, Env.put, Env.pre, reduceIte, Nat.reduceLT, Nat.reduceSub, Nat.reduceAdd, fn60]; simp) (den_ret ?_)
    simp only [nrm, X.den, Env.put, Env.pre, reduceIte, Nat.reduceLT, Nat.reduceSub, Nat.reduceAdd]
end Go.Proofs.Ytpmamacjepcdmaa
