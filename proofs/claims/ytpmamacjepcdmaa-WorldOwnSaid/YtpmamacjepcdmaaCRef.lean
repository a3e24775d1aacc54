import Derived.Test.YtpmamacjepcdmaaCMem2
namespace Go.Proofs.Ytpmamacjepcdmaa
open Go Go.Sy Go.RowKit
set_option linter.unusedSimpArgs false
set_option linter.unusedVariables false
theorem lastFree_mem {m : Mem} (h : m.free.length ≠ 0) : lastFree m ∈ m.free := getD_mem (by omega)
theorem nodup_length {l : List Int} {n : Nat} (hd : l.Nodup) (h : ∀ a ∈ l, 0 ≤ a ∧ a < n) : l.length ≤ n := by
  have h1 : (l.map Int.toNat).Nodup := by
    refine List.pairwise_map.2 (List.Pairwise.imp_of_mem ?_ hd)
    intro a b ha hb hab e
    have := h a ha
    have := h b hb
    exact hab (by omega)
  have h2 : (l.map Int.toNat) ⊆ List.range n := fun x hx => by
    obtain ⟨a, ha, rfl⟩ := List.mem_map.1 hx
    have := h a ha
    exact List.mem_range.2 (by omega)
  have := h1.length_le_of_subset h2
  simpa using this
theorem MemOk.nf {m : Mem} (h : MemOk m) : m.free.length ≤ 12 := by
  have h1 := nodup_length h.nodup fun a ha => ⟨(h.free a ha).1, (h.free a ha).2.1⟩
  have := h.ns
  omega
theorem MemOk.refs {m : Mem} (h : MemOk m) {a : Int} (h1 : 0 ≤ a) (h2 : a < m.slots.length) : 0 ≤ (msl m a.toNat).refs ∧ (msl m a.toNat).refs ≤ 1000 := by
  have := h.sl (i := a.toNat) (by omega)
  exact ⟨this.r0, this.r1⟩
theorem mem_eq {a b : Mem} (h1 : a.slots = b.slots) (h2 : a.heads = b.heads) (h3 : a.free = b.free) (h4 : a.locks = b.locks) (h5 : a.now = b.now) : a = b := by
  obtain ⟨a1, a2, a3, a4, a5⟩ := a
  obtain ⟨b1, b2, b3, b4, b5⟩ := b
  cases h1; cases h2; cases h3; cases h4; cases h5; rfl
def s59 : Sig := ⟨[.agg [.fz kS, .fz kI, .fz kI, .fz kI, .int .i64], .agg [.fz kS, .fz kI, .fz kI, .fz kI, .int .i64]], [.one (.bool)]⟩
def d59 : DC := ⟨s59, fun _ => True, fun l => [.b (decide (Mem.of l = Mem.of (l.drop 5)))]⟩
theorem fn59 (m o : Mem) : d59.fn [slotsD m.slots, intsD m.heads, intsD m.free, intsD m.locks, .i m.now, slotsD o.slots, intsD o.heads, intsD o.free, intsD o.locks, .i o.now] = [.b (decide (m = o))] := by
  simp only [d59, mem_of, mem_eta, List.drop_succ_cons, List.drop_zero]
def l59 : List (Nat × Ct) := [(164, d164.ct), (39, d39.ct)]
def z59 : Cx := { T := ttA, C := sigs l59, F := [], hints := [], sig := s59 }
def t59 : Tree :=
 (.call 164 [.var 0, .var 5] 10
 (.ite (.var 10)
 (.call 39 [.var 1, .var 6] 11
 (.ite (.var 11)
 (.call 39 [.var 2, .var 7] 12
 (.ite (.var 12)
 (.call 39 [.var 3, .var 8] 13
 (.ite (.var 13)
 (.ret [.eq (.var 4) (.var 9)])
 (.ret [.bool false])))
 (.ret [.bool false])))
 (.ret [.bool false])))
 (.ret [.bool false])))
theorem run59 : run z59 6000 [.code (Try.f59.body.getD .skip), .fin (topRet z59 Try.f59.results.toList 50)] { fn := 59, tmps := z59.sig.args0 ++ List.replicate (Try.f59.ntmps - z59.sig.args0.length) (.v (.one .undef)), stk := [], h := z59.sig.h0, nx := z59.sig.ins.length, known := [] } = t59 := by kernel_rfl
theorem ok59 : CtOk Try.prog 59 d59.ct := by
  refine dc_of_tree (d := d59) (Z := z59) (Γ := gam l59) (fn := Try.f59) (c := Try.f59.body.getD .skip) (told_of tok mixed (all_cons ok164 (all_cons ok39 all_nil)) fok_nil) Try.func59 (by kernel_rfl) (by kernel_rfl) rfl run59 fun E hk hp => ?_
  obtain ⟨hk0, hk1, hk2, hk3, hk4, hk5, hk6, hk7, hk8, hk9, _⟩ := hk
  obtain ⟨m, e0, e1, e2, e3, e4, b0, b1, b2, b3⟩ := ok_mem (d0 := E 0) (d1 := E 1) (d2 := E 2) (d3 := E 3) (d4 := E 4) hk0 hk1 hk2 hk3 hk4
  obtain ⟨m2, e5, e6, e7, e8, e9, b5, b6, b7, b8⟩ := ok_mem (d0 := E 5) (d1 := E 6) (d2 := E 7) (d3 := E 8) (d4 := E 9) hk5 hk6 hk7 hk8 hk9
  have el : letters E d59.sig.ins.length = [slotsD m.slots, intsD m.heads, intsD m.free, intsD m.locks, .i m.now, slotsD m2.slots, intsD m2.heads, intsD m2.free, intsD m2.locks, .i m2.now] := by
    show [E 0, E 1, E 2, E 3, E 4, E 5, E 6, E 7, E 8, E 9] = _
    rw [e0, e1, e2, e3, e4, e5, e6, e7, e8, e9]
  rw [el] at hp
  rw [el]
  rw [Env.pre_eq el]
  clear el e0 e1 e2 e3 e4 e5 e6 e7 e8 e9
  rw [fn59]
  unfold t59
  refine den_calle d164 [.b (decide (m.slots = m2.slots))] rfl trivial (by simp only [nrm, X.den, Env.put, Env.pre, reduceIte, Nat.reduceLT, Nat.reduceSub, Nat.reduceAdd, d164, slots_slotsD]) (den_ite (fun h1 => ?_) (fun h => den_ret ?_))
  case refine_2 =>
    simp only [nrm, X.den, Env.put, Env.pre, reduceIte, Nat.reduceLT, Nat.reduceSub, Nat.reduceAdd] at h ⊢
    rw [decide_eq_false (fun e => h (by rw [e]))]
  refine den_calle d39 [.b (decide (m.heads = m2.heads))] rfl trivial (by simp only [nrm, X.den, Env.put, Env.pre, reduceIte, Nat.reduceLT, Nat.reduceSub, Nat.reduceAdd, d39, ints_intsD]) (den_ite (fun h2 => ?_) (fun h => den_ret ?_))
  case refine_2 =>
    simp only [nrm, X.den, Env.put, Env.pre, reduceIte, Nat.reduceLT, Nat.reduceSub, Nat.reduceAdd] at h ⊢
    rw [decide_eq_false (fun e => h (by rw [e]))]
  refine den_calle d39 [.b (decide (m.free = m2.free))] rfl trivial (by simp only [nrm, X.den, Env.put, Env.pre, reduceIte, Nat.reduceLT, Nat.reduceSub, Nat.reduceAdd, d39, ints_intsD]) (den_ite (fun h3 => ?_) (fun h => den_ret ?_))
  case refine_2 =>
    simp only [nrm, X.den, Env.put, Env.pre, reduceIte, Nat.reduceLT, Nat.reduceSub, Nat.reduceAdd] at h ⊢
    rw [decide_eq_false (fun e => h (by rw [e]))]
  refine den_calle d39 [.b (decide (m.locks = m2.locks))] rfl trivial (by simp only [nrm, X.den, Env.put, Env.pre, reduceIte, Nat.reduceLT, Nat.reduceSub, Nat.reduceAdd, d39, ints_intsD]) (den_ite (fun h4 => den_ret ?_) (fun h => den_ret ?_))
  case refine_2 =>
    simp only [nrm, X.den, Env.put, Env.pre, reduceIte, Nat.reduceLT, Nat.reduceSub, Nat.reduceAdd] at h ⊢
    rw [decide_eq_false (fun e => h (by rw [e]))]
  simp only [nrm, X.den, Env.put, Env.pre, reduceIte, Nat.reduceLT, Nat.reduceSub, Nat.reduceAdd] at h1 h2 h3 h4 ⊢
  congr 2
  by_cases h5 : m.now = m2.now
  · rw [decide_eq_true (mem_eq h1 h2 h3 h4 h5)]
    simp [h5]
  · rw [decide_eq_false (fun e => h5 (by rw [e]))]
    simp [h5]
end Go.Proofs.Ytpmamacjepcdmaa

namespace Go.Proofs.Ytpmamacjepcdmaa
open Go Go.Sy Go.RowKit
set_option linter.unusedSimpArgs false
set_option linter.unusedVariables false
theorem den_ift {Γ : Gam} {R : List CD → Prop} {E : Env} {J : JJ} {b : X} {t e : Tree} (h : (b.den E).bool = true) (ht : t.den Γ R E J) : (Tree.ite b t e).den Γ R E J := ⟨fun _ => ht, fun h' => by rw [h] at h'; cases h'⟩
theorem den_iff {Γ : Gam} {R : List CD → Prop} {E : Env} {J : JJ} {b : X} {t e : Tree} (h : (b.den E).bool = false) (ht : e.den Γ R E J) : (Tree.ite b t e).den Γ R E J := ⟨fun h' => by rw [h] at h'; (cases h'), fun _ => ht⟩
def s47 : Sig := ⟨[.agg [.int .i64, .int .i64, .int .i64, .int .i64, .int .i64, .int .i64, .int .i64, .int .i64, .int .i64, .int .i64, .int .i64, .fz kK, .bool, .int .i64], .agg [.int .i64, .int .i64, .int .i64, .int .i64, .int .i64, .int .i64, .int .i64, .int .i64, .int .i64, .int .i64, .int .i64, .fz kK, .bool, .int .i64]], [.one (.bool)]⟩
def d47 : DC := ⟨s47, fun _ => True, fun l => [.b (decide (Frm.of l = Frm.of (l.drop 14)))]⟩
theorem fn47 (f o : Frm) : d47.fn [.i f.c.kind, .i f.c.k.a, .i f.c.k.b, .i f.c.time, .i f.c.bucket, .i f.c.slot, .i f.pc, .i f.cur, .i f.prev, .i f.slot, .i f.n, keysD f.keys, .b f.done, .i f.e,
    .i o.c.kind, .i o.c.k.a, .i o.c.k.b, .i o.c.time, .i o.c.bucket, .i o.c.slot, .i o.pc, .i o.cur, .i o.prev, .i o.slot, .i o.n, keysD o.keys, .b o.done, .i o.e] = [.b (decide (f = o))] := by
  simp only [d47, frm_of, List.drop_succ_cons, List.drop_zero]
theorem Frm.ext_iff' (f o : Frm) : f = o ↔ (f.c.kind = o.c.kind ∧ f.c.k.a = o.c.k.a ∧ f.c.k.b = o.c.k.b ∧ f.c.time = o.c.time ∧ f.c.bucket = o.c.bucket ∧ f.c.slot = o.c.slot) ∧ f.pc = o.pc ∧ f.cur = o.cur ∧ f.prev = o.prev ∧ f.slot = o.slot ∧ f.n = o.n ∧ f.keys = o.keys ∧ f.done = o.done ∧ f.e = o.e := by
  obtain ⟨⟨a1, ⟨a2, a3⟩, a4, a5, a6⟩, b, c, d, e, g, h, i, j⟩ := f
  obtain ⟨⟨a1', ⟨a2', a3'⟩, a4', a5', a6'⟩, b', c', d', e', g', h', i', j'⟩ := o
  simp only [Frm.mk.injEq, Cal.mk.injEq, Key.mk.injEq, and_assoc]
def l47 : List (Nat × Ct) := [(155, d155.ct)]
def z47 : Cx := { T := ttA, C := sigs l47, F := [], hints := [], sig := s47 }
def t47 : Tree :=
 (.ite (.and (.eq (.var 0) (.var 14)) (.and (.eq (.var 1) (.var 15)) (.and (.eq (.var 2) (.var 16)) (.and (.eq (.var 3) (.var 17)) (.and (.eq (.var 4) (.var 18)) (.and (.eq (.var 5) (.var 19)) (.bool true)))))))
 (.ite (.eq (.var 6) (.var 20))
 (.ite (.eq (.var 7) (.var 21))
 (.ite (.eq (.var 8) (.var 22))
 (.ite (.eq (.var 9) (.var 23))
 (.ite (.eq (.var 10) (.var 24))
 (.call 155 [.var 11, .var 25] 28
 (.ite (.var 28)
 (.ite (.beq (.var 12) (.var 26))
 (.ret [.eq (.var 13) (.var 27)])
 (.ret [.bool false]))
 (.ret [.bool false])))
 (.ret [.bool false]))
 (.ret [.bool false]))
 (.ret [.bool false]))
 (.ret [.bool false]))
 (.ret [.bool false]))
 (.ret [.bool false]))
theorem run47 : run z47 6000 [.code (Try.f47.body.getD .skip), .fin (topRet z47 Try.f47.results.toList 50)] { fn := 47, tmps := z47.sig.args0 ++ List.replicate (Try.f47.ntmps - z47.sig.args0.length) (.v (.one .undef)), stk := [], h := z47.sig.h0, nx := z47.sig.ins.length, known := [] } = t47 := by kernel_rfl
theorem ok47 : CtOk Try.prog 47 d47.ct := by
  refine dc_of_tree (d := d47) (Z := z47) (Γ := gam l47) (fn := Try.f47) (c := Try.f47.body.getD .skip) (told_of tok mixed (all_cons ok155 all_nil) fok_nil) Try.func47 (by kernel_rfl) (by kernel_rfl) rfl run47 fun E hk hp => ?_
  obtain ⟨hk0, hk1, hk2, hk3, hk4, hk5, hk6, hk7, hk8, hk9, hk10, hk11, hk12, hk13, hk14, hk15, hk16, hk17, hk18, hk19, hk20, hk21, hk22, hk23, hk24, hk25, hk26, hk27, _⟩ := hk
  obtain ⟨f, e0, e1, e2, e3, e4, e5, e6, e7, e8, e9, e10, e11, e12, e13, b11⟩ := ok_frame (d0 := E 0) (d1 := E 1) (d2 := E 2) (d3 := E 3) (d4 := E 4) (d5 := E 5) (d6 := E 6) (d7 := E 7) (d8 := E 8) (d9 := E 9) (d10 := E 10) (d11 := E 11) (d12 := E 12) (d13 := E 13) hk0 hk1 hk2 hk3 hk4 hk5 hk6 hk7 hk8 hk9 hk10 hk11 hk12 hk13
  obtain ⟨f2, e14, e15, e16, e17, e18, e19, e20, e21, e22, e23, e24, e25, e26, e27, b25⟩ := ok_frame (d0 := E 14) (d1 := E 15) (d2 := E 16) (d3 := E 17) (d4 := E 18) (d5 := E 19) (d6 := E 20) (d7 := E 21) (d8 := E 22) (d9 := E 23) (d10 := E 24) (d11 := E 25) (d12 := E 26) (d13 := E 27) hk14 hk15 hk16 hk17 hk18 hk19 hk20 hk21 hk22 hk23 hk24 hk25 hk26 hk27
  have el : letters E d47.sig.ins.length = [.i f.c.kind, .i f.c.k.a, .i f.c.k.b, .i f.c.time, .i f.c.bucket, .i f.c.slot, .i f.pc, .i f.cur, .i f.prev, .i f.slot, .i f.n, keysD f.keys, .b f.done, .i f.e, .i f2.c.kind, .i f2.c.k.a, .i f2.c.k.b, .i f2.c.time, .i f2.c.bucket, .i f2.c.slot, .i f2.pc, .i f2.cur, .i f2.prev, .i f2.slot, .i f2.n, keysD f2.keys, .b f2.done, .i f2.e] := by
    show [E 0, E 1, E 2, E 3, E 4, E 5, E 6, E 7, E 8, E 9, E 10, E 11, E 12, E 13, E 14, E 15, E 16, E 17, E 18, E 19, E 20, E 21, E 22, E 23, E 24, E 25, E 26, E 27] = _
    rw [e0, e1, e2, e3, e4, e5, e6, e7, e8, e9, e10, e11, e12, e13, e14, e15, e16, e17, e18, e19, e20, e21, e22, e23, e24, e25, e26, e27]
  rw [el] at hp
  rw [el]
  rw [Env.pre_eq el]
  clear el e0 e1 e2 e3 e4 e5 e6 e7 e8 e9 e10 e11 e12 e13 e14 e15 e16 e17 e18 e19 e20 e21 e22 e23 e24 e25 e26 e27
  rw [fn47]
  unfold t47
  have no : ∀ {p : Prop} [Decidable p], ¬ p → [CD.b false] = [CD.b (decide p)] := fun h => by rw [decide_eq_false h]
  refine den_ite (fun h1 => den_ite (fun h2 => den_ite (fun h3 => den_ite (fun h4 => den_ite (fun h5 => den_ite (fun h6 => ?_) (fun h6 => den_ret (no ?_))) (fun h5 => den_ret (no ?_))) (fun h4 => den_ret (no ?_))) (fun h3 => den_ret (no ?_))) (fun h2 => den_ret (no ?_))) (fun h1 => den_ret (no ?_))
  all_goals simp only [nrm, X.den, Env.put, Env.pre, reduceIte, Nat.reduceLT, Nat.reduceSub, Nat.reduceAdd, Bool.and_eq_true, Bool.and_eq_false_iff, and_true, or_false, decide_eq_true_eq, decide_eq_false_iff_not, Bool.true_eq_false] at *
  case refine_2 | refine_3 | refine_4 | refine_5 | refine_6 | refine_7 =>
    rw [Frm.ext_iff']
    intro hx
    omega
  refine den_calle d155 [.b (decide (f.keys = f2.keys))] rfl trivial (by simp only [nrm, X.den, Env.put, Env.pre, reduceIte, Nat.reduceLT, Nat.reduceSub, Nat.reduceAdd, d155, keys_keysD]) (den_ite (fun h7 => den_ite (fun h8 => den_ret ?_) (fun h8 => den_ret (no ?_))) (fun h7 => den_ret (no ?_)))
  · simp only [nrm, X.den, Env.put, Env.pre, reduceIte, Nat.reduceLT, Nat.reduceSub, Nat.reduceAdd] at h7 h8 ⊢
    congr 2
    by_cases he : f.e = f2.e
    · rw [decide_eq_true ((Frm.ext_iff' f f2).2 ⟨h1, h2, h3, h4, h5, h6, h7, h8, he⟩), beq_iff_eq.2 he]
    · rw [decide_eq_false (fun hx => he (by rw [hx])), beq_eq_false_iff_ne.2 he]
  · simp only [nrm, X.den, Env.put, Env.pre, reduceIte, Nat.reduceLT, Nat.reduceSub, Nat.reduceAdd] at h8
    rintro rfl
    exact h8 rfl
  · simp only [nrm, X.den, Env.put, Env.pre, reduceIte, Nat.reduceLT, Nat.reduceSub, Nat.reduceAdd] at h7
    rintro rfl
    exact h7 rfl
end Go.Proofs.Ytpmamacjepcdmaa
