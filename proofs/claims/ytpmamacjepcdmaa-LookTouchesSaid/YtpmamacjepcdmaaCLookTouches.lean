import Derived.Test.YtpmamacjepcdmaaCFit
import Derived.Test.YtpmamacjepcdmaaCLooked
/- How many slots are unlike. -/
namespace Go.Proofs.Ytpmamacjepcdmaa
open Go Go.Sy Go.RowKit
set_option linter.unusedSimpArgs false
set_option linter.unusedVariables false

def chN (m o : Mem) : Nat → Nat
  | 0 => 0
  | n + 1 => chN m o n + if msl m n = msl o n then 0 else 1
theorem chN_le (m o : Mem) : ∀ n, chN m o n ≤ n
  | 0 => Nat.le_refl _
  | n + 1 => by
    have := chN_le m o n
    unfold chN
    split <;> omega
theorem chN_zero {m o : Mem} : ∀ {n : Nat}, (∀ j, j < n → msl m j = msl o j) → chN m o n = 0
  | 0, _ => rfl
  | n + 1, h => by
    unfold chN
    rw [if_pos (h n (by omega)), chN_zero fun j hj => h j (by omega)]
theorem chN_one {m o : Mem} {i : Nat} (h : ∀ j, j ≠ i → msl m j = msl o j) : ∀ n, chN m o n ≤ 1
  | 0 => Nat.zero_le _
  | n + 1 => by
    unfold chN
    by_cases e : n = i
    · have z : chN m o n = 0 := chN_zero fun j hj => h j (by omega)
      rw [z]; split <;> omega
    · rw [if_pos (h n e)]; have := chN_one h n; omega
theorem Touch.one {m x : Mem} {b n : Int} (h : Touch m x b n) (k : Nat) : chN m x k ≤ 1 := by
  obtain ⟨i, g, e⟩ := h.sl
  refine chN_one (i := i) (fun j hj => ?_) k
  show m.slots.getD j default = x.slots.getD j default
  rw [e, getD_modify, if_neg (fun y => hj y.1.symm)]
theorem slot_t {s t : Slot} (h : ((s.refs == t.refs) && ((s.k.a == t.k.a) && ((s.k.b == t.k.b) && ((s.till == t.till) && ((s.inn == t.inn) && ((s.next == t.next) && true)))))) = true) : s = t := by
  simp only [Bool.and_true, Bool.and_eq_true, beq_iff_eq] at h
  obtain ⟨a, ⟨b, c⟩, d, e, f⟩ := s
  obtain ⟨a', ⟨b', c'⟩, d', e', f'⟩ := t
  simp only at h
  obtain ⟨rfl, rfl, rfl, rfl, rfl, rfl⟩ := h
  rfl
theorem slot_f {s t : Slot} (h : ((s.refs == t.refs) && ((s.k.a == t.k.a) && ((s.k.b == t.k.b) && ((s.till == t.till) && ((s.inn == t.inn) && ((s.next == t.next) && true)))))) = false) : s ≠ t := fun e => by
  rw [e] at h; simp at h
def s122 : Sig := ⟨[.agg [.fz kS, .fz kI, .fz kI, .fz kI, .int .i64], .agg [.fz kS, .fz kI, .fz kI, .fz kI, .int .i64]], [.one (.int .i64)]⟩
def d122 : DC := ⟨s122, fun l => (Mem.of l).slots.length ≤ (Mem.of (l.drop 5)).slots.length, fun l => [.i (chN (Mem.of l) (Mem.of (l.drop 5)) (Mem.of l).slots.length)]⟩
theorem fn122 (m o : Mem) : d122.fn [slotsD m.slots, intsD m.heads, intsD m.free, intsD m.locks, .i m.now, slotsD o.slots, intsD o.heads, intsD o.free, intsD o.locks, .i o.now] = [.i (chN m o m.slots.length)] := by
  simp only [d122, mem_of, mem_eta, List.drop_succ_cons, List.drop_zero]
theorem pre122 {m o : Mem} (h : m.slots.length ≤ o.slots.length) : d122.pre [slotsD m.slots, intsD m.heads, intsD m.free, intsD m.locks, .i m.now, slotsD o.slots, intsD o.heads, intsD o.free, intsD o.locks, .i o.now] := by
  simp only [d122, mem_of, mem_eta, List.drop_succ_cons, List.drop_zero]
  exact h
def l122 : List (Nat × Ct) := []
def z122 : Cx := { T := ttA, C := sigs l122, F := [], hints := [⟨122, 3, false, [(10, .lt), (5, .lt)], [], [], [], 0⟩], sig := s122 }
def t122 : Tree :=
 (.loop 10 [.int .i64, .int .i64] [.int 0, .int 0]
 (.ite (.lt (.var 12) (.len (.var 0)))
  (.need (.le (.int 0) (.var 12))
  (.need (.lt (.var 12) (.len (.var 5)))
  (.ite (.not (.and (.eq (.cell (.var 0) (.var 12) 0) (.cell (.var 5) (.var 12) 0)) (.and (.eq (.cell (.var 0) (.var 12) 1) (.cell (.var 5) (.var 12) 1)) (.and (.eq (.cell (.var 0) (.var 12) 2) (.cell (.var 5) (.var 12) 2)) (.and (.eq (.cell (.var 0) (.var 12) 3) (.cell (.var 5) (.var 12) 3)) (.and (.beq (.cell (.var 0) (.var 12) 4) (.cell (.var 5) (.var 12) 4)) (.and (.eq (.cell (.var 0) (.var 12) 5) (.cell (.var 5) (.var 12) 5)) (.bool true))))))))
   (.need (.fit (.add (.var 11) (.int 1)))
   (.need (.fit (.add (.var 12) (.int 1)))
   (.back 10 [.add (.var 11) (.int 1), .add (.var 12) (.int 1)])))
   (.need (.fit (.add (.var 12) (.int 1)))
   (.back 10 [.var 11, .add (.var 12) (.int 1)])))))
  (.ret [.var 11])))
theorem run122 : run z122 6000 [.code (Try.f122.body.getD .skip), .fin (topRet z122 Try.f122.results.toList 50)] { fn := 122, tmps := z122.sig.args0 ++ List.replicate (Try.f122.ntmps - z122.sig.args0.length) (.v (.one .undef)), stk := [], h := z122.sig.h0, nx := z122.sig.ins.length, known := [] } = t122 := by kernel_rfl
theorem ok122 : CtOk Try.prog 122 d122.ct := by
  refine dc_of_tree (d := d122) (Z := z122) (Γ := gam l122) (fn := Try.f122) (c := Try.f122.body.getD .skip) (told_of tok mixed all_nil fok_nil) Try.func122 (by kernel_rfl) (by kernel_rfl) rfl run122 fun E hk hp => ?_
  obtain ⟨hk0, hk1, hk2, hk3, hk4, hk5, hk6, hk7, hk8, hk9, _⟩ := hk
  obtain ⟨m, e0, e1, e2, e3, e4, b0, b1, b2, b3⟩ := ok_mem (d0 := E 0) (d1 := E 1) (d2 := E 2) (d3 := E 3) (d4 := E 4) hk0 hk1 hk2 hk3 hk4
  obtain ⟨m2, e5, e6, e7, e8, e9, b5, b6, b7, b8⟩ := ok_mem (d0 := E 5) (d1 := E 6) (d2 := E 7) (d3 := E 8) (d4 := E 9) hk5 hk6 hk7 hk8 hk9
  have el : letters E d122.sig.ins.length = [slotsD m.slots, intsD m.heads, intsD m.free, intsD m.locks, .i m.now, slotsD m2.slots, intsD m2.heads, intsD m2.free, intsD m2.locks, .i m2.now] := by
    show [E 0, E 1, E 2, E 3, E 4, E 5, E 6, E 7, E 8, E 9] = _
    rw [e0, e1, e2, e3, e4, e5, e6, e7, e8, e9]
  rw [el] at hp
  rw [el]
  rw [Env.pre_eq el]
  clear el e0 e1 e2 e3 e4 e5 e6 e7 e8 e9
  rename_i n0
  rw [fn122]
  simp only [d122, mem_of, mem_eta, List.drop_succ_cons, List.drop_zero] at hp
  unfold t122
  refine den_loop (fun ds => ∃ j : Nat, ds = [.i (chN m m2 j), .i j] ∧ j ≤ m.slots.length) (fun ds => m.slots.length - (ds.getD 1 .u).int.toNat) ⟨0, rfl, by omega⟩ ?_
  rintro ds - ⟨j, rfl, hj⟩
  have hle := chN_le m m2 j
  refine den_ite (fun hlt => ?_) (fun hge => den_ret ?_)
  · simp only [nrm, X.den, Env.put, Env.pre, reduceIte, Nat.reduceLT, Nat.reduceSub, Nat.reduceAdd, len_slots] at hlt
    refine den_le (by simp only [nrm, X.den, Env.put, Env.pre, reduceIte, Nat.reduceLT, Nat.reduceSub, Nat.reduceAdd]; omega) (den_lt (by simp only [nrm, X.den, Env.put, Env.pre, reduceIte, Nat.reduceLT, Nat.reduceSub, Nat.reduceAdd, len_slots]; omega) (den_ite (fun h => ?_) (fun h => ?_)))
    · simp only [nrm, X.den, Env.put, Env.pre, reduceIte, Nat.reduceLT, Nat.reduceSub, Nat.reduceAdd, cell_s0, cell_s1, cell_s2, cell_s3, cell_s4, cell_s5, Int.toNat_natCast, Bool.not_eq_true'] at h
      replace h := slot_f (s := msl m j) (t := msl m2 j) h
      refine den_fit (by simp only [nrm, X.den, Env.put, Env.pre, reduceIte, Nat.reduceLT, Nat.reduceSub, Nat.reduceAdd]; omega) (den_fit (by simp only [nrm, X.den, Env.put, Env.pre, reduceIte, Nat.reduceLT, Nat.reduceSub, Nat.reduceAdd]; omega) (den_back ⟨⟨j + 1, ?_, by omega⟩, ?_⟩))
      · simp only [nrm, X.den, Env.put, Env.pre, reduceIte, Nat.reduceLT, Nat.reduceSub, Nat.reduceAdd, chN, if_neg h]; rfl
      · simp only [nrm, X.den, Env.put, Env.pre, reduceIte, Nat.reduceLT, Nat.reduceSub, Nat.reduceAdd]; omega
    · simp only [nrm, X.den, Env.put, Env.pre, reduceIte, Nat.reduceLT, Nat.reduceSub, Nat.reduceAdd, cell_s0, cell_s1, cell_s2, cell_s3, cell_s4, cell_s5, Int.toNat_natCast, Bool.not_eq_false'] at h
      replace h := slot_t (s := msl m j) (t := msl m2 j) h
      refine den_fit (by simp only [nrm, X.den, Env.put, Env.pre, reduceIte, Nat.reduceLT, Nat.reduceSub, Nat.reduceAdd]; omega) (den_back ⟨⟨j + 1, ?_, by omega⟩, ?_⟩)
      · simp only [nrm, X.den, Env.put, Env.pre, reduceIte, Nat.reduceLT, Nat.reduceSub, Nat.reduceAdd, chN, if_pos h]; rfl
      · simp only [nrm, X.den, Env.put, Env.pre, reduceIte, Nat.reduceLT, Nat.reduceSub, Nat.reduceAdd]; omega
  · simp only [nrm, X.den, Env.put, Env.pre, reduceIte, Nat.reduceLT, Nat.reduceSub, Nat.reduceAdd, len_slots] at hge ⊢
    rw [show j = m.slots.length from by omega]
theorem si39 (l : List Int) : d39.fn [intsD l, intsD l] = [.b true] := by
  show [CD.b (decide _)] = _
  simp
theorem fs51 (m : Mem) : d51.fn [slotsD m.slots, intsD m.heads, intsD m.free, intsD m.locks, .i m.now] = [.i (checkMem m)] := by simp only [d51, mem_of, mem_eta]
end Go.Proofs.Ytpmamacjepcdmaa

/- A step of a Look changes no chain, no lock, no key, nothing that stands behind a slot: but how often one slot is held, and whether it is free. -/
namespace Go.Proofs.Ytpmamacjepcdmaa
open Go Go.Sy Go.RowKit
set_option linter.unusedSimpArgs false
set_option linter.unusedVariables false

def Next (m x : Mem) : Prop := ∀ i : Nat, (msl x i).next = (msl m i).next
theorem next_modify {m x : Mem} {i : Nat} {g : Slot → Slot} (h : x.slots = m.slots.modify i g) (hg : ∀ s, (g s).next = s.next) : Next m x := fun j => by
  have e : msl x j = if i = j ∧ i < m.slots.length then g (msl m j) else msl m j := by
    show x.slots.getD j default = _
    rw [h]; exact getD_modify g m.slots i j
  rw [e]
  split
  · exact hg _
  · rfl
theorem lookStep_next (m : Mem) (f : Frm) : Next m (lookStep m f).2 := by
  have hh : ∀ a, Next m (hold m a).1 := fun a => by
    unfold hold
    split
    · exact fun _ => rfl
    · exact next_modify rfl fun _ => rfl
  have hp : ∀ a, Next m (put m a) := fun a => by
    unfold put
    split
    · exact fun _ => rfl
    · split <;> exact next_modify rfl fun _ => rfl
  unfold lookStep
  repeat' split
  all_goals first
    | exact fun _ => rfl
    | exact hh _
    | exact hp _
def s24 : Sig := ⟨[.agg [.fz kS, .fz kI, .fz kI, .fz kI, .int .i64], .agg [.int .i64, .int .i64, .int .i64, .int .i64, .int .i64, .int .i64, .int .i64, .int .i64, .int .i64, .int .i64, .int .i64, .fz kK, .bool, .int .i64]], [.one (.bool)]⟩
def d24 : DC := ⟨s24, fun _ => True, fun _ => [.b true]⟩
def l24 : List (Nat × Ct) := [(99, d99.ct), (100, d100.ct), (62, d62.ct), (101, d101.ct), (39, d39.ct), (122, d122.ct), (51, d51.ct), (43, d43.ct)]
def z24 : Cx := { T := ttA, C := sigs l24, F := [], hints := [⟨24, 9, false, [(70, .lt)], [], [], [], 0⟩], sig := s24 }
def t24 : Tree :=
 (.call 99 [] 19
 (.ite (.not (.var 19))
  (.call 99 [] 20
  (.ret [.var 20]))
  (.call 100 [.var 0, .var 1, .var 2, .var 3, .var 4, .int 1, .var 6, .var 7, .var 8, .var 9, .var 10, .var 11, .var 12, .var 13, .var 14, .var 15, .var 16, .var 17, .var 18] 20
  (.ite (.not (.var 20))
   (.call 99 [] 21
   (.ret [.var 21]))
   (.call 62 [.var 0, .var 1, .var 2, .var 3, .var 4] 21
   (.call 101 [.var 21, .var 22, .var 23, .var 24, .var 25, .int 1, .var 6, .var 7, .var 8, .var 9, .var 10, .var 11, .var 12, .var 13, .var 14, .var 15, .var 16, .var 17, .var 18] 26
   (.call 39 [.var 27, .var 1] 45
   (.ite (.not (.var 45))
    (.ret [.bool false])
    (.call 39 [.var 29, .var 3] 46
    (.ite (.not (.var 46))
     (.ret [.bool false])
     (.ite (.not (.eq (.var 30) (.var 4)))
      (.ret [.bool false])
      (.ite (.not (.eq (.len (.var 26)) (.len (.var 0))))
       (.ret [.bool false])
       (.call 122 [.var 0, .var 1, .var 2, .var 3, .var 4, .var 26, .var 27, .var 28, .var 29, .var 30] 47
       (.ite (.lt (.int 1) (.var 47))
        (.ret [.bool false])
        (.ite (.not (.and (.eq (.var 31) (.int 1)) (.and (.eq (.var 32) (.var 6)) (.and (.eq (.var 33) (.var 7)) (.and (.eq (.var 34) (.var 8)) (.and (.eq (.var 35) (.var 9)) (.and (.eq (.var 36) (.var 10)) (.bool true))))))))
         (.ret [.bool false])
         (.loop 48 [.int .i64] [.int 0]
         (.ite (.lt (.var 49) (.len (.var 26)))
          (.need (.le (.int 0) (.var 49))
          (.need (.lt (.var 49) (.len (.var 0)))
          (.ite (.not (.and (.eq (.cell (.var 26) (.var 49) 1) (.cell (.var 0) (.var 49) 1)) (.and (.eq (.cell (.var 26) (.var 49) 2) (.cell (.var 0) (.var 49) 2)) (.and (.eq (.cell (.var 26) (.var 49) 3) (.cell (.var 0) (.var 49) 3)) (.and (.beq (.cell (.var 26) (.var 49) 4) (.cell (.var 0) (.var 49) 4)) (.and (.eq (.cell (.var 26) (.var 49) 5) (.cell (.var 0) (.var 49) 5)) (.bool true)))))))
           (.ret [.bool false])
           (.need (.fit (.add (.var 49) (.int 1)))
           (.back 48 [.add (.var 49) (.int 1)])))))
          (.call 51 [.var 26, .var 27, .var 28, .var 29, .var 30] 50
          (.ite (.eq (.var 50) (.int 0))
           (.ite (.var 43)
            (.ret [.bool true])
            (.call 43 [.var 26, .var 27, .var 28, .var 29, .var 30, .var 31, .var 32, .var 33, .var 34, .var 35, .var 36, .var 37, .var 38, .var 39, .var 40, .var 41, .var 42, .var 43, .var 44] 51
            (.ret [.eq (.var 51) (.int 0)])))
           (.ret [.bool false]))))))))))))))))))))
theorem run24 : run z24 6000 [.code (Try.f24.body.getD .skip), .fin (topRet z24 Try.f24.results.toList 50)] { fn := 24, tmps := z24.sig.args0 ++ List.replicate (Try.f24.ntmps - z24.sig.args0.length) (.v (.one .undef)), stk := [], h := z24.sig.h0, nx := z24.sig.ins.length, known := [] } = t24 := by kernel_rfl
theorem ok24 : CtOk Try.prog 24 d24.ct := by
  refine dc_of_tree (d := d24) (Z := z24) (Γ := gam l24) (fn := Try.f24) (c := Try.f24.body.getD .skip) (told_of tok mixed (all_cons ok99 (all_cons ok100 (all_cons ok62 (all_cons ok101 (all_cons ok39 (all_cons ok122 (all_cons ok51 (all_cons ok43 all_nil)))))))) fok_nil) Try.func24 (by kernel_rfl) (by kernel_rfl) rfl run24 fun E hk hp => ?_
  obtain ⟨hk0, hk1, hk2, hk3, hk4, hk5, hk6, hk7, hk8, hk9, hk10, hk11, hk12, hk13, hk14, hk15, hk16, hk17, hk18, _⟩ := hk
  obtain ⟨m, e0, e1, e2, e3, e4, b0, b1, b2, b3⟩ := ok_mem (d0 := E 0) (d1 := E 1) (d2 := E 2) (d3 := E 3) (d4 := E 4) hk0 hk1 hk2 hk3 hk4
  obtain ⟨f, e5, e6, e7, e8, e9, e10, e11, e12, e13, e14, e15, e16, e17, e18, b16⟩ := ok_frame (d0 := E 5) (d1 := E 6) (d2 := E 7) (d3 := E 8) (d4 := E 9) (d5 := E 10) (d6 := E 11) (d7 := E 12) (d8 := E 13) (d9 := E 14) (d10 := E 15) (d11 := E 16) (d12 := E 17) (d13 := E 18) hk5 hk6 hk7 hk8 hk9 hk10 hk11 hk12 hk13 hk14 hk15 hk16 hk17 hk18
  have el : letters E d24.sig.ins.length = [slotsD m.slots, intsD m.heads, intsD m.free, intsD m.locks, .i m.now, .i f.c.kind, .i f.c.k.a, .i f.c.k.b, .i f.c.time, .i f.c.bucket, .i f.c.slot, .i f.pc, .i f.cur, .i f.prev, .i f.slot, .i f.n, keysD f.keys, .b f.done, .i f.e] := by
    show [E 0, E 1, E 2, E 3, E 4, E 5, E 6, E 7, E 8, E 9, E 10, E 11, E 12, E 13, E 14, E 15, E 16, E 17, E 18] = _
    rw [e0, e1, e2, e3, e4, e5, e6, e7, e8, e9, e10, e11, e12, e13, e14, e15, e16, e17, e18]
  rw [el] at hp
  rw [el]
  rw [Env.pre_eq el]
  clear el e0 e1 e2 e3 e4 e5 e6 e7 e8 e9 e10 e11 e12 e13 e14 e15 e16 e17 e18
  simp only [d24]
  unfold t24
  refine den_calle d99 [.b true] rfl trivial rfl (den_iff rfl ?_)
  obtain ⟨F, hF⟩ : ∃ F : Frm, F = { f with c := { f.c with kind := 1 } } := ⟨_, rfl⟩
  have hk : F.c.kind = 1 := by rw [hF]
  refine den_calle d100 [.b (decide (checkMem m = 0 ∧ checkFrame m F = 0))] rfl trivial (by simp only [nrm, X.den, Env.put, Env.pre, reduceIte, Nat.reduceLT, Nat.reduceSub, Nat.reduceAdd]; rw [hF]; exact fn100 m { f with c := { f.c with kind := 1 } }) (den_ite (fun h => ?_) (fun h => ?_))
  · refine den_calle d99 [.b true] rfl trivial rfl (den_ret ?_)
    simp only [nrm, X.den, Env.put, Env.pre, reduceIte, Nat.reduceLT, Nat.reduceSub, Nat.reduceAdd]
  simp only [nrm, X.den, Env.put, Env.pre, reduceIte, Nat.reduceLT, Nat.reduceSub, Nat.reduceAdd, Bool.not_eq_false', decide_eq_true_eq] at h
  have hm := (checkMem_iff m).1 h.1
  have hns := hm.ns
  have hf := (checkFrame_iff m F).1 h.2
  have hI := lookStep_in hm.into hf hk
  obtain ⟨hT, hK, hH, hL⟩ := lookStep_touch (m := m) (f := F)
  have hM := lookStep_mem hm hf
  have hN := lookStep_next m F
  refine den_calle d62 m.cds rfl trivial (by simp only [nrm, X.den, Env.put, Env.pre, reduceIte, Nat.reduceLT, Nat.reduceSub, Nat.reduceAdd, fn62]) ?_
  refine den_calle d101 ((lookStep m F).2.cds ++ (lookStep m F).1.cds) rfl (by simp only [nrm, X.den, Env.put, Env.pre, reduceIte, Nat.reduceLT, Nat.reduceSub, Nat.reduceAdd, Mem.cds]; have := pi101 hm.into hf hk; rw [hF] at this; exact this) (by simp only [nrm, X.den, Env.put, Env.pre, reduceIte, Nat.reduceLT, Nat.reduceSub, Nat.reduceAdd, Mem.cds]; rw [hF]; exact fn101 m { f with c := { f.c with kind := 1 } }) ?_
  have hO : (lookStep m F).1.done = false → checkFrame (lookStep m F).2 (lookStep m F).1 = 0 := fun hd => (checkFrame_iff _ _).2 (hI.ok hf hT hd)
  generalize lookStep m F = r at hI hT hK hH hL hM hN hO
  obtain ⟨g, y⟩ := r
  simp only [Mem.cds, Frm.cds, List.cons_append, List.nil_append] at hI hT hK hH hL hM hN hO ⊢
  have hlen := hT.len
  have hc := hI.c
  have hone := hT.one m.slots.length
  refine den_calle d39 [.b true] rfl trivial (by simp only [nrm, X.den, Env.put, Env.pre, reduceIte, Nat.reduceLT, Nat.reduceSub, Nat.reduceAdd, hH]; exact si39 _) (den_iff rfl ?_)
  refine den_calle d39 [.b true] rfl trivial (by simp only [nrm, X.den, Env.put, Env.pre, reduceIte, Nat.reduceLT, Nat.reduceSub, Nat.reduceAdd, hL]; exact si39 _) (den_iff rfl ?_)
  refine den_iff (by simp only [nrm, X.den, Env.put, Env.pre, reduceIte, Nat.reduceLT, Nat.reduceSub, Nat.reduceAdd, hT.now, beq_self_eq_true, Bool.not_true]) ?_
  refine den_iff (by simp only [nrm, X.den, Env.put, Env.pre, reduceIte, Nat.reduceLT, Nat.reduceSub, Nat.reduceAdd, len_slots, hlen, beq_self_eq_true, Bool.not_true]) ?_
  refine den_calle d122 [.i (chN m y m.slots.length)] rfl (by simp only [nrm, X.den, Env.put, Env.pre, reduceIte, Nat.reduceLT, Nat.reduceSub, Nat.reduceAdd]; exact pre122 (by omega)) (by simp only [nrm, X.den, Env.put, Env.pre, reduceIte, Nat.reduceLT, Nat.reduceSub, Nat.reduceAdd, fn122]) ?_
  refine den_iff (by simp only [nrm, X.den, Env.put, Env.pre, reduceIte, Nat.reduceLT, Nat.reduceSub, Nat.reduceAdd]; omega) ?_
  refine den_iff (by simp only [nrm, X.den, Env.put, Env.pre, reduceIte, Nat.reduceLT, Nat.reduceSub, Nat.reduceAdd, hc, hF]; simp) ?_
  refine den_loop (fun ds => ∃ j : Nat, ds = [.i j] ∧ j ≤ m.slots.length) (fun ds => m.slots.length - (ds.getD 0 .u).int.toNat) ⟨0, rfl, by omega⟩ ?_
  rintro ds - ⟨j, rfl, hj⟩
  refine den_ite (fun hlt => ?_) (fun hge => ?_)
  · simp only [nrm, X.den, Env.put, Env.pre, reduceIte, Nat.reduceLT, Nat.reduceSub, Nat.reduceAdd, len_slots] at hlt
    have k1 : (y.slots.getD j default).k = (m.slots.getD j default).k := (hK j).1
    have k2 : (y.slots.getD j default).till = (m.slots.getD j default).till := (hK j).2.1
    have k3 : (y.slots.getD j default).inn = (m.slots.getD j default).inn := (hK j).2.2
    have k4 : (y.slots.getD j default).next = (m.slots.getD j default).next := hN j
    refine den_le (by simp only [nrm, X.den, Env.put, Env.pre, reduceIte, Nat.reduceLT, Nat.reduceSub, Nat.reduceAdd]; omega) (den_lt (by simp only [nrm, X.den, Env.put, Env.pre, reduceIte, Nat.reduceLT, Nat.reduceSub, Nat.reduceAdd, len_slots]; omega) (den_iff (by simp only [nrm, X.den, Env.put, Env.pre, reduceIte, Nat.reduceLT, Nat.reduceSub, Nat.reduceAdd, cell_s1, cell_s2, cell_s3, cell_s4, cell_s5, Int.toNat_natCast, k1, k2, k3, k4]; simp) (den_fit (by simp only [nrm, X.den, Env.put, Env.pre, reduceIte, Nat.reduceLT, Nat.reduceSub, Nat.reduceAdd]; omega) (den_back ⟨⟨j + 1, ?_, by omega⟩, ?_⟩))))
    · simp only [nrm, X.den, Env.put, Env.pre, reduceIte, Nat.reduceLT, Nat.reduceSub, Nat.reduceAdd]; rfl
    · simp only [nrm, X.den, Env.put, Env.pre, reduceIte, Nat.reduceLT, Nat.reduceSub, Nat.reduceAdd]; omega
  refine den_calle d51 [.i 0] rfl trivial (by simp only [nrm, X.den, Env.put, Env.pre, reduceIte, Nat.reduceLT, Nat.reduceSub, Nat.reduceAdd, fs51, (checkMem_iff y).2 hM]) (den_ift rfl (den_ite (fun hd => den_ret ?_) (fun hd => ?_)))
  · simp only [nrm, X.den, Env.put, Env.pre, reduceIte, Nat.reduceLT, Nat.reduceSub, Nat.reduceAdd]
  · simp only [nrm, X.den, Env.put, Env.pre, reduceIte, Nat.reduceLT, Nat.reduceSub, Nat.reduceAdd] at hd
    refine den_calle d43 [.i 0] rfl trivial (by simp only [nrm, X.den, Env.put, Env.pre, reduceIte, Nat.reduceLT, Nat.reduceSub, Nat.reduceAdd, fs43, hO hd]) (den_ret ?_)
    simp only [nrm, X.den, Env.put, Env.pre, reduceIte, Nat.reduceLT, Nat.reduceSub, Nat.reduceAdd]; rfl
end Go.Proofs.Ytpmamacjepcdmaa
