/- Walks: key.Parse, a text a way through (printed by a program of ours). -/
import Derived.Test.YtpmamacjepcdmaaDoorWalkC
namespace Go.Proofs.YtpmamacjepcdmaaDoor
open Go Go.Proofs Go.RowKit
set_option maxRecDepth 100000 in
theorem parse_many (s : ByteArray) (hs : 20 < s.size) (hm : s.size ≤ 9223372036854775807) (w : World) : Calls Tryd.prog 8 #[.string s] w fun e w' => e = .returned (.tuple #[keyV 0 0, .int .i64 2]) ∧ Below w.heap.size w w' := by
  go_enter Tryd.func8, Tryd.ntmps8
  go_wp2
  (try simp only [Exit.inBlock, Exit.then])
  refine bodyPost_ret (v := .tuple #[keyV 0 0, .int .i64 2]) ?_ rfl ⟨rfl, ?_⟩
  · rw [results_cell_tmp rfl]
    go_simp
    try rfl
  · (repeat' (first | exact Below.refl _ _ | refine Below.drew ?_ | refine Below.setCell ?_ (by simp) _ | refine Below.alloc ?_ (by simp <;> omega) _))
set_option maxRecDepth 100000 in
set_option maxHeartbeats 1000000 in
theorem parse_pbad (s p q : ByteArray) (hs : s.size ≤ 20) (w : World) (hl : Laid w) (hp : bytes (sides s.data.toList).1 = p) (hq : bytes (sides s.data.toList).2.1 = q) (o : Bool) (ho : (sides s.data.toList).2.2 = o) (hps : p.size ≤ 20) (_hqs : q.size ≤ 20)
    (hv : ∀ v, Lib.atoiAll p.data.toList ≠ .ok v) : Calls Tryd.prog 8 #[.string s] w fun e w' => e = .returned (.tuple #[keyV 0 0, .int .i64 1]) ∧ Below w.heap.size w w' := by
  have i0 : ∀ (x y : ByteArray) w, (Instr.index 44 (.agg #[.string x, .string y]) (.int .i64 0)).run Tryd.prog w = .ok (.string x) w := fun _ _ _ => by kernel_rfl
  have i1 : ∀ (x y : ByteArray) w, (Instr.index 44 (.agg #[.string x, .string y]) (.int .i64 1)).run Tryd.prog w = .ok (.string y) w := fun _ _ _ => by kernel_rfl
  have hw0 : Below w.heap.size w (w.alloc (.cells #[.int .i64 0, .int .i64 0] 23)) := (Below.refl _ w).alloc (Nat.le_refl _) _
  have hR0 := At2.new w 0 0 23
  go_enter Tryd.func8, Tryd.ntmps8
  go_wp2_with (go_at_call 17; refine (cut_any s hs _ (hl.below hw0)).mono ?_)
  rintro e w1 ⟨rfl, hb1⟩
  rw [hp, hq, ho]
  have hA : w.heap.size ≠ w1.heap.size := by have := hb1.size; simp at this; omega
  have hR1 := (hR0.below hb1).below ((Below.refl _ w1).alloc (Nat.le_refl _) (.cells #[.int .i64 0, .int .i64 0] 43))
  have hN1 := At2.new w1 0 0 43
  have hB1 : Below w.heap.size w (w1.alloc (.cells #[.int .i64 0, .int .i64 0] 43)) := hw0.trans ((hb1.alloc hb1.size _).mono (by simp))
  have hA' : w.heap.size ≤ w1.heap.size := Nat.le_trans hw0.size hb1.size
  generalize hn1 : w1.heap.size = A at *
  go_wp2
  refine wp_loop_rounds 3 ?_
  rw [rounds_succ]
  clear hR0 hb1
  generalize hW1 : w1.alloc (.cells #[.int .i64 0, .int .i64 0] 43) = W1 at *
  go_wp2_with (go_at_call 18; refine (atoi_bad p hps hv _ (hl.below hB1)).mono ?_)
  rintro e w2 ⟨n, N, rfl, hb2⟩
  have hB2 : Below w.heap.size w w2 := hB1.trans (hb2.mono hB1.size)
  have hR2 := hR1.below hb2
  obtain ⟨c0, c1, f0, f1⟩ := id hR2
  go_wp2
  (try simp only [Exit.inBlock, Exit.then])
  refine bodyPost_ret (v := .tuple #[keyV 0 0, .int .i64 1]) ?_ rfl ⟨rfl, ?_⟩
  · obtain ⟨s0, s1, _, _⟩ := (hR2.set0 0).set1 0
    rw [results_cell_tmp rfl]
    go_simp
    rfl
  · exact (hB2.setCell (Nat.le_refl _) _).setCell (Nat.le_refl _) _
set_option maxRecDepth 100000 in
set_option maxHeartbeats 1000000 in
theorem parse_pne (s p q : ByteArray) (hs : s.size ≤ 20) (w : World) (hl : Laid w) (hp : bytes (sides s.data.toList).1 = p) (hq : bytes (sides s.data.toList).2.1 = q) (o : Bool) (ho : (sides s.data.toList).2.2 = o) (hps : p.size ≤ 20) (_hqs : q.size ≤ 20)
    (v : Int) (hv : Lib.atoiAll p.data.toList = .ok v) (hvp : bytes (Lib.itoa v) ≠ p) : Calls Tryd.prog 8 #[.string s] w fun e w' => e = .returned (.tuple #[keyV 0 0, .int .i64 1]) ∧ Below w.heap.size w w' := by
  have i0 : ∀ (x y : ByteArray) w, (Instr.index 44 (.agg #[.string x, .string y]) (.int .i64 0)).run Tryd.prog w = .ok (.string x) w := fun _ _ _ => by kernel_rfl
  have i1 : ∀ (x y : ByteArray) w, (Instr.index 44 (.agg #[.string x, .string y]) (.int .i64 1)).run Tryd.prog w = .ok (.string y) w := fun _ _ _ => by kernel_rfl
  have hw0 : Below w.heap.size w (w.alloc (.cells #[.int .i64 0, .int .i64 0] 23)) := (Below.refl _ w).alloc (Nat.le_refl _) _
  have hR0 := At2.new w 0 0 23
  go_enter Tryd.func8, Tryd.ntmps8
  go_wp2_with (go_at_call 17; refine (cut_any s hs _ (hl.below hw0)).mono ?_)
  rintro e w1 ⟨rfl, hb1⟩
  rw [hp, hq, ho]
  have hA : w.heap.size ≠ w1.heap.size := by have := hb1.size; simp at this; omega
  have hR1 := (hR0.below hb1).below ((Below.refl _ w1).alloc (Nat.le_refl _) (.cells #[.int .i64 0, .int .i64 0] 43))
  have hN1 := At2.new w1 0 0 43
  have hB1 : Below w.heap.size w (w1.alloc (.cells #[.int .i64 0, .int .i64 0] 43)) := hw0.trans ((hb1.alloc hb1.size _).mono (by simp))
  have hA' : w.heap.size ≤ w1.heap.size := Nat.le_trans hw0.size hb1.size
  generalize hn1 : w1.heap.size = A at *
  go_wp2
  refine wp_loop_rounds 3 ?_
  rw [rounds_succ]
  clear hR0 hb1
  generalize hW1 : w1.alloc (.cells #[.int .i64 0, .int .i64 0] 43) = W1 at *
  have hd := str_ne hvp
  obtain ⟨v0, v1⟩ := Lib.atoiAll_bounds hv
  go_wp2_with (go_at_call 18; refine (atoi_ok p hps v hv _).mono ?_)
  rintro e w2 ⟨rfl, hb2⟩
  have hB2 : Below w.heap.size w w2 := hB1.trans (hb2.mono hB1.size)
  go_wp2_with (go_at_call 16; refine (itoa_any v (by omega) (by omega) _ (hl.below hB2)).mono ?_)
  rintro e w3 ⟨rfl, hb3⟩
  have hB3 : Below w.heap.size w w3 := hB2.trans (hb3.mono hB2.size)
  have hR3 := (hR1.below hb2).below hb3
  obtain ⟨c0, c1, f0, f1⟩ := id hR3
  go_wp2
  (try simp only [Exit.inBlock, Exit.then])
  refine bodyPost_ret (v := .tuple #[keyV 0 0, .int .i64 1]) ?_ rfl ⟨rfl, ?_⟩
  · obtain ⟨s0, s1, _, _⟩ := (hR3.set0 0).set1 0
    rw [results_cell_tmp rfl]
    go_simp
    rfl
  · exact (hB3.setCell (Nat.le_refl _) _).setCell (Nat.le_refl _) _
set_option maxRecDepth 100000 in
set_option maxHeartbeats 1000000 in
theorem parse_qbad (s p q : ByteArray) (hs : s.size ≤ 20) (w : World) (hl : Laid w) (hp : bytes (sides s.data.toList).1 = p) (hq : bytes (sides s.data.toList).2.1 = q) (o : Bool) (ho : (sides s.data.toList).2.2 = o) (hps : p.size ≤ 20) (hqs : q.size ≤ 20)
    (v : Int) (hv : Lib.atoiAll p.data.toList = .ok v) (hvp : bytes (Lib.itoa v) = p) (hu : ∀ u, Lib.atoiAll q.data.toList ≠ .ok u) : Calls Tryd.prog 8 #[.string s] w fun e w' => e = .returned (.tuple #[keyV 0 0, .int .i64 1]) ∧ Below w.heap.size w w' := by
  have i0 : ∀ (x y : ByteArray) w, (Instr.index 44 (.agg #[.string x, .string y]) (.int .i64 0)).run Tryd.prog w = .ok (.string x) w := fun _ _ _ => by kernel_rfl
  have i1 : ∀ (x y : ByteArray) w, (Instr.index 44 (.agg #[.string x, .string y]) (.int .i64 1)).run Tryd.prog w = .ok (.string y) w := fun _ _ _ => by kernel_rfl
  have hw0 : Below w.heap.size w (w.alloc (.cells #[.int .i64 0, .int .i64 0] 23)) := (Below.refl _ w).alloc (Nat.le_refl _) _
  have hR0 := At2.new w 0 0 23
  go_enter Tryd.func8, Tryd.ntmps8
  go_wp2_with (go_at_call 17; refine (cut_any s hs _ (hl.below hw0)).mono ?_)
  rintro e w1 ⟨rfl, hb1⟩
  rw [hp, hq, ho]
  have hA : w.heap.size ≠ w1.heap.size := by have := hb1.size; simp at this; omega
  have hR1 := (hR0.below hb1).below ((Below.refl _ w1).alloc (Nat.le_refl _) (.cells #[.int .i64 0, .int .i64 0] 43))
  have hN1 := At2.new w1 0 0 43
  have hB1 : Below w.heap.size w (w1.alloc (.cells #[.int .i64 0, .int .i64 0] 43)) := hw0.trans ((hb1.alloc hb1.size _).mono (by simp))
  have hA' : w.heap.size ≤ w1.heap.size := Nat.le_trans hw0.size hb1.size
  generalize hn1 : w1.heap.size = A at *
  go_wp2
  refine wp_loop_rounds 3 ?_
  rw [rounds_succ]
  clear hR0 hb1
  generalize hW1 : w1.alloc (.cells #[.int .i64 0, .int .i64 0] 43) = W1 at *
  obtain ⟨v0, v1⟩ := Lib.atoiAll_bounds hv
  go_wp2_with (go_at_call 18; refine (atoi_ok p hps v hv _).mono ?_)
  rintro e w2 ⟨rfl, hb2⟩
  have hB2 : Below w.heap.size w w2 := hB1.trans (hb2.mono hB1.size)
  go_wp2_with (go_at_call 16; refine (itoa_any v (by omega) (by omega) _ (hl.below hB2)).mono ?_)
  rintro e w3 ⟨rfl, hb3⟩
  have hB3 : Below w.heap.size w w3 := hB2.trans (hb3.mono hB2.size)
  rw [hvp]
  have hR3 := (hR1.below hb2).below hb3
  have hN3 := (hN1.below hb2).below hb3
  obtain ⟨c0, c1, f0, f1⟩ := id hN3
  go_wp2
  have hB4 : Below w.heap.size w (w3.setCell ⟨A, 0, none⟩ (.int .i64 v)) := hB3.setCell hA' _
  have hR4 := hR3.other hA 0 v
  have hN4 := hN3.set0 v
  generalize hW4 : w3.setCell ⟨A, 0, none⟩ (.int .i64 v) = W4 at *
  clear c0 c1 f0 f1 hR3 hN3 hR1 hN1
  rw [rounds_succ]
  go_wp2_with (go_at_call 18; refine (atoi_bad q hqs hu _ (hl.below hB4)).mono ?_)
  rintro e w5 ⟨n, N, rfl, hb5⟩
  have hB5 : Below w.heap.size w w5 := hB4.trans (hb5.mono hB4.size)
  have hR5 := hR4.below hb5
  obtain ⟨c0, c1, f0, f1⟩ := id hR5
  go_wp2
  (try simp only [Exit.inBlock, Exit.then])
  refine bodyPost_ret (v := .tuple #[keyV 0 0, .int .i64 1]) ?_ rfl ⟨rfl, ?_⟩
  · obtain ⟨s0, s1, _, _⟩ := (hR5.set0 0).set1 0
    rw [results_cell_tmp rfl]
    go_simp
    rfl
  · exact (hB5.setCell (Nat.le_refl _) _).setCell (Nat.le_refl _) _
set_option maxRecDepth 100000 in
set_option maxHeartbeats 1000000 in
theorem parse_qne (s p q : ByteArray) (hs : s.size ≤ 20) (w : World) (hl : Laid w) (hp : bytes (sides s.data.toList).1 = p) (hq : bytes (sides s.data.toList).2.1 = q) (o : Bool) (ho : (sides s.data.toList).2.2 = o) (hps : p.size ≤ 20) (hqs : q.size ≤ 20)
    (v : Int) (hv : Lib.atoiAll p.data.toList = .ok v) (hvp : bytes (Lib.itoa v) = p) (u : Int) (hu : Lib.atoiAll q.data.toList = .ok u) (huq : bytes (Lib.itoa u) ≠ q) : Calls Tryd.prog 8 #[.string s] w fun e w' => e = .returned (.tuple #[keyV 0 0, .int .i64 1]) ∧ Below w.heap.size w w' := by
  have i0 : ∀ (x y : ByteArray) w, (Instr.index 44 (.agg #[.string x, .string y]) (.int .i64 0)).run Tryd.prog w = .ok (.string x) w := fun _ _ _ => by kernel_rfl
  have i1 : ∀ (x y : ByteArray) w, (Instr.index 44 (.agg #[.string x, .string y]) (.int .i64 1)).run Tryd.prog w = .ok (.string y) w := fun _ _ _ => by kernel_rfl
  have hw0 : Below w.heap.size w (w.alloc (.cells #[.int .i64 0, .int .i64 0] 23)) := (Below.refl _ w).alloc (Nat.le_refl _) _
  have hR0 := At2.new w 0 0 23
  go_enter Tryd.func8, Tryd.ntmps8
  go_wp2_with (go_at_call 17; refine (cut_any s hs _ (hl.below hw0)).mono ?_)
  rintro e w1 ⟨rfl, hb1⟩
  rw [hp, hq, ho]
  have hA : w.heap.size ≠ w1.heap.size := by have := hb1.size; simp at this; omega
  have hR1 := (hR0.below hb1).below ((Below.refl _ w1).alloc (Nat.le_refl _) (.cells #[.int .i64 0, .int .i64 0] 43))
  have hN1 := At2.new w1 0 0 43
  have hB1 : Below w.heap.size w (w1.alloc (.cells #[.int .i64 0, .int .i64 0] 43)) := hw0.trans ((hb1.alloc hb1.size _).mono (by simp))
  have hA' : w.heap.size ≤ w1.heap.size := Nat.le_trans hw0.size hb1.size
  generalize hn1 : w1.heap.size = A at *
  go_wp2
  refine wp_loop_rounds 3 ?_
  rw [rounds_succ]
  clear hR0 hb1
  generalize hW1 : w1.alloc (.cells #[.int .i64 0, .int .i64 0] 43) = W1 at *
  obtain ⟨v0, v1⟩ := Lib.atoiAll_bounds hv
  go_wp2_with (go_at_call 18; refine (atoi_ok p hps v hv _).mono ?_)
  rintro e w2 ⟨rfl, hb2⟩
  have hB2 : Below w.heap.size w w2 := hB1.trans (hb2.mono hB1.size)
  go_wp2_with (go_at_call 16; refine (itoa_any v (by omega) (by omega) _ (hl.below hB2)).mono ?_)
  rintro e w3 ⟨rfl, hb3⟩
  have hB3 : Below w.heap.size w w3 := hB2.trans (hb3.mono hB2.size)
  rw [hvp]
  have hR3 := (hR1.below hb2).below hb3
  have hN3 := (hN1.below hb2).below hb3
  obtain ⟨c0, c1, f0, f1⟩ := id hN3
  go_wp2
  have hB4 : Below w.heap.size w (w3.setCell ⟨A, 0, none⟩ (.int .i64 v)) := hB3.setCell hA' _
  have hR4 := hR3.other hA 0 v
  have hN4 := hN3.set0 v
  generalize hW4 : w3.setCell ⟨A, 0, none⟩ (.int .i64 v) = W4 at *
  clear c0 c1 f0 f1 hR3 hN3 hR1 hN1
  rw [rounds_succ]
  have hd := str_ne huq
  obtain ⟨u0, u1⟩ := Lib.atoiAll_bounds hu
  go_wp2_with (go_at_call 18; refine (atoi_ok q hqs u hu _).mono ?_)
  rintro e w5 ⟨rfl, hb5⟩
  have hB5 : Below w.heap.size w w5 := hB4.trans (hb5.mono hB4.size)
  go_wp2_with (go_at_call 16; refine (itoa_any u (by omega) (by omega) _ (hl.below hB5)).mono ?_)
  rintro e w6 ⟨rfl, hb6⟩
  have hB6 : Below w.heap.size w w6 := hB5.trans (hb6.mono hB5.size)
  have hR6 := (hR4.below hb5).below hb6
  obtain ⟨c0, c1, f0, f1⟩ := id hR6
  go_wp2
  (try simp only [Exit.inBlock, Exit.then])
  refine bodyPost_ret (v := .tuple #[keyV 0 0, .int .i64 1]) ?_ rfl ⟨rfl, ?_⟩
  · obtain ⟨s0, s1, _, _⟩ := (hR6.set0 0).set1 0
    rw [results_cell_tmp rfl]
    go_simp
    rfl
  · exact (hB6.setCell (Nat.le_refl _) _).setCell (Nat.le_refl _) _
set_option maxRecDepth 100000 in
set_option maxHeartbeats 1000000 in
theorem parse_off (s p q : ByteArray) (hs : s.size ≤ 20) (w : World) (hl : Laid w) (hp : bytes (sides s.data.toList).1 = p) (hq : bytes (sides s.data.toList).2.1 = q) (ho : (sides s.data.toList).2.2 = false) (hps : p.size ≤ 20) (hqs : q.size ≤ 20)
    (v : Int) (hv : Lib.atoiAll p.data.toList = .ok v) (hvp : bytes (Lib.itoa v) = p) (u : Int) (hu : Lib.atoiAll q.data.toList = .ok u) (huq : bytes (Lib.itoa u) = q) : Calls Tryd.prog 8 #[.string s] w fun e w' => e = .returned (.tuple #[keyV 0 0, .int .i64 1]) ∧ Below w.heap.size w w' := by
  have i0 : ∀ (x y : ByteArray) w, (Instr.index 44 (.agg #[.string x, .string y]) (.int .i64 0)).run Tryd.prog w = .ok (.string x) w := fun _ _ _ => by kernel_rfl
  have i1 : ∀ (x y : ByteArray) w, (Instr.index 44 (.agg #[.string x, .string y]) (.int .i64 1)).run Tryd.prog w = .ok (.string y) w := fun _ _ _ => by kernel_rfl
  have hw0 : Below w.heap.size w (w.alloc (.cells #[.int .i64 0, .int .i64 0] 23)) := (Below.refl _ w).alloc (Nat.le_refl _) _
  have hR0 := At2.new w 0 0 23
  go_enter Tryd.func8, Tryd.ntmps8
  go_wp2_with (go_at_call 17; refine (cut_any s hs _ (hl.below hw0)).mono ?_)
  rintro e w1 ⟨rfl, hb1⟩
  rw [hp, hq, ho]
  have hA : w.heap.size ≠ w1.heap.size := by have := hb1.size; simp at this; omega
  have hR1 := (hR0.below hb1).below ((Below.refl _ w1).alloc (Nat.le_refl _) (.cells #[.int .i64 0, .int .i64 0] 43))
  have hN1 := At2.new w1 0 0 43
  have hB1 : Below w.heap.size w (w1.alloc (.cells #[.int .i64 0, .int .i64 0] 43)) := hw0.trans ((hb1.alloc hb1.size _).mono (by simp))
  have hA' : w.heap.size ≤ w1.heap.size := Nat.le_trans hw0.size hb1.size
  generalize hn1 : w1.heap.size = A at *
  go_wp2
  refine wp_loop_rounds 3 ?_
  rw [rounds_succ]
  clear hR0 hb1
  generalize hW1 : w1.alloc (.cells #[.int .i64 0, .int .i64 0] 43) = W1 at *
  obtain ⟨v0, v1⟩ := Lib.atoiAll_bounds hv
  go_wp2_with (go_at_call 18; refine (atoi_ok p hps v hv _).mono ?_)
  rintro e w2 ⟨rfl, hb2⟩
  have hB2 : Below w.heap.size w w2 := hB1.trans (hb2.mono hB1.size)
  go_wp2_with (go_at_call 16; refine (itoa_any v (by omega) (by omega) _ (hl.below hB2)).mono ?_)
  rintro e w3 ⟨rfl, hb3⟩
  have hB3 : Below w.heap.size w w3 := hB2.trans (hb3.mono hB2.size)
  rw [hvp]
  have hR3 := (hR1.below hb2).below hb3
  have hN3 := (hN1.below hb2).below hb3
  obtain ⟨c0, c1, f0, f1⟩ := id hN3
  go_wp2
  have hB4 : Below w.heap.size w (w3.setCell ⟨A, 0, none⟩ (.int .i64 v)) := hB3.setCell hA' _
  have hR4 := hR3.other hA 0 v
  have hN4 := hN3.set0 v
  generalize hW4 : w3.setCell ⟨A, 0, none⟩ (.int .i64 v) = W4 at *
  clear c0 c1 f0 f1 hR3 hN3 hR1 hN1
  rw [rounds_succ]
  obtain ⟨u0, u1⟩ := Lib.atoiAll_bounds hu
  go_wp2_with (go_at_call 18; refine (atoi_ok q hqs u hu _).mono ?_)
  rintro e w5 ⟨rfl, hb5⟩
  have hB5 : Below w.heap.size w w5 := hB4.trans (hb5.mono hB4.size)
  go_wp2_with (go_at_call 16; refine (itoa_any u (by omega) (by omega) _ (hl.below hB5)).mono ?_)
  rintro e w6 ⟨rfl, hb6⟩
  have hB6 : Below w.heap.size w w6 := hB5.trans (hb6.mono hB5.size)
  rw [huq]
  have hR6 := (hR4.below hb5).below hb6
  have hN6 := (hN4.below hb5).below hb6
  obtain ⟨c0, c1, f0, f1⟩ := id hN6
  go_wp2
  have hB7 : Below w.heap.size w (w6.setCell ⟨A, 1, none⟩ (.int .i64 u)) := hB6.setCell hA' _
  have hR7 := hR6.other hA 1 u
  have hN7 := hN6.set1 u
  generalize hW7 : w6.setCell ⟨A, 1, none⟩ (.int .i64 u) = W7 at *
  clear c0 c1 f0 f1 hR6 hN6 hR4 hN4
  obtain ⟨c0, c1, f0, f1⟩ := hN7
  rw [rounds_succ]
  have one : ∀ o1, Below W7.heap.size W7 (W7.alloc o1) := fun o1 => (Below.refl _ W7).alloc (Nat.le_refl _) o1
  have r0 := fun o1 => (hR7.below (one o1)).c0
  have r1 := fun o1 => (hR7.below (one o1)).c1
  have g0 := fun o1 => (hR7.below (one o1)).f0
  have g1 := fun o1 => (hR7.below (one o1)).f1
  go_wp2
  (try simp only [Exit.inBlock, Exit.then])
  refine bodyPost_ret (v := .tuple #[keyV 0 0, .int .i64 1]) ?_ rfl ⟨rfl, ?_⟩
  · obtain ⟨s0, s1, _, _⟩ := ((hR7.below (one (.cells #[.int .i64 v, .int .i64 u] 23))).set0 0).set1 0
    rw [results_cell_tmp rfl]
    go_simp
    rfl
  · exact (((hB7.trans ((one _).mono hB7.size))).setCell (Nat.le_refl _) _).setCell (Nat.le_refl _) _
set_option maxRecDepth 100000 in
set_option maxHeartbeats 1000000 in
theorem parse_range (s p q : ByteArray) (hs : s.size ≤ 20) (w : World) (hl : Laid w) (hp : bytes (sides s.data.toList).1 = p) (hq : bytes (sides s.data.toList).2.1 = q) (ho : (sides s.data.toList).2.2 = true) (hps : p.size ≤ 20) (hqs : q.size ≤ 20)
    (v : Int) (hv : Lib.atoiAll p.data.toList = .ok v) (hvp : bytes (Lib.itoa v) = p) (u : Int) (hu : Lib.atoiAll q.data.toList = .ok u) (huq : bytes (Lib.itoa u) = q) (hk : chk v u = 3) : Calls Tryd.prog 8 #[.string s] w fun e w' => e = .returned (.tuple #[keyV 0 0, .int .i64 3]) ∧ Below w.heap.size w w' := by
  have i0 : ∀ (x y : ByteArray) w, (Instr.index 44 (.agg #[.string x, .string y]) (.int .i64 0)).run Tryd.prog w = .ok (.string x) w := fun _ _ _ => by kernel_rfl
  have i1 : ∀ (x y : ByteArray) w, (Instr.index 44 (.agg #[.string x, .string y]) (.int .i64 1)).run Tryd.prog w = .ok (.string y) w := fun _ _ _ => by kernel_rfl
  have hw0 : Below w.heap.size w (w.alloc (.cells #[.int .i64 0, .int .i64 0] 23)) := (Below.refl _ w).alloc (Nat.le_refl _) _
  have hR0 := At2.new w 0 0 23
  go_enter Tryd.func8, Tryd.ntmps8
  go_wp2_with (go_at_call 17; refine (cut_any s hs _ (hl.below hw0)).mono ?_)
  rintro e w1 ⟨rfl, hb1⟩
  rw [hp, hq, ho]
  have hA : w.heap.size ≠ w1.heap.size := by have := hb1.size; simp at this; omega
  have hR1 := (hR0.below hb1).below ((Below.refl _ w1).alloc (Nat.le_refl _) (.cells #[.int .i64 0, .int .i64 0] 43))
  have hN1 := At2.new w1 0 0 43
  have hB1 : Below w.heap.size w (w1.alloc (.cells #[.int .i64 0, .int .i64 0] 43)) := hw0.trans ((hb1.alloc hb1.size _).mono (by simp))
  have hA' : w.heap.size ≤ w1.heap.size := Nat.le_trans hw0.size hb1.size
  generalize hn1 : w1.heap.size = A at *
  go_wp2
  refine wp_loop_rounds 3 ?_
  rw [rounds_succ]
  clear hR0 hb1
  generalize hW1 : w1.alloc (.cells #[.int .i64 0, .int .i64 0] 43) = W1 at *
  obtain ⟨v0, v1⟩ := Lib.atoiAll_bounds hv
  go_wp2_with (go_at_call 18; refine (atoi_ok p hps v hv _).mono ?_)
  rintro e w2 ⟨rfl, hb2⟩
  have hB2 : Below w.heap.size w w2 := hB1.trans (hb2.mono hB1.size)
  go_wp2_with (go_at_call 16; refine (itoa_any v (by omega) (by omega) _ (hl.below hB2)).mono ?_)
  rintro e w3 ⟨rfl, hb3⟩
  have hB3 : Below w.heap.size w w3 := hB2.trans (hb3.mono hB2.size)
  rw [hvp]
  have hR3 := (hR1.below hb2).below hb3
  have hN3 := (hN1.below hb2).below hb3
  obtain ⟨c0, c1, f0, f1⟩ := id hN3
  go_wp2
  have hB4 : Below w.heap.size w (w3.setCell ⟨A, 0, none⟩ (.int .i64 v)) := hB3.setCell hA' _
  have hR4 := hR3.other hA 0 v
  have hN4 := hN3.set0 v
  generalize hW4 : w3.setCell ⟨A, 0, none⟩ (.int .i64 v) = W4 at *
  clear c0 c1 f0 f1 hR3 hN3 hR1 hN1
  rw [rounds_succ]
  obtain ⟨u0, u1⟩ := Lib.atoiAll_bounds hu
  go_wp2_with (go_at_call 18; refine (atoi_ok q hqs u hu _).mono ?_)
  rintro e w5 ⟨rfl, hb5⟩
  have hB5 : Below w.heap.size w w5 := hB4.trans (hb5.mono hB4.size)
  go_wp2_with (go_at_call 16; refine (itoa_any u (by omega) (by omega) _ (hl.below hB5)).mono ?_)
  rintro e w6 ⟨rfl, hb6⟩
  have hB6 : Below w.heap.size w w6 := hB5.trans (hb6.mono hB5.size)
  rw [huq]
  have hR6 := (hR4.below hb5).below hb6
  have hN6 := (hN4.below hb5).below hb6
  obtain ⟨c0, c1, f0, f1⟩ := id hN6
  go_wp2
  have hB7 : Below w.heap.size w (w6.setCell ⟨A, 1, none⟩ (.int .i64 u)) := hB6.setCell hA' _
  have hR7 := hR6.other hA 1 u
  have hN7 := hN6.set1 u
  generalize hW7 : w6.setCell ⟨A, 1, none⟩ (.int .i64 u) = W7 at *
  clear c0 c1 f0 f1 hR6 hN6 hR4 hN4
  obtain ⟨c0, c1, f0, f1⟩ := hN7
  rw [rounds_succ]
  have two : ∀ o1 o2, Below W7.heap.size W7 ((W7.alloc o1).alloc o2) := fun o1 o2 => ((Below.refl _ W7).alloc (Nat.le_refl _) o1).alloc (by simp) o2
  have r0 := fun o1 o2 => (hR7.below (two o1 o2)).c0
  have r1 := fun o1 o2 => (hR7.below (two o1 o2)).c1
  have g0 := fun o1 o2 => (hR7.below (two o1 o2)).f0
  have g1 := fun o1 o2 => (hR7.below (two o1 o2)).f1
  go_wp2_with (go_at_call 11; refine (check_walk v u _).mono ?_; rintro e w' ⟨rfl, rfl⟩; rw [hk])
  (try simp only [Exit.inBlock, Exit.then])
  refine bodyPost_ret (v := .tuple #[keyV 0 0, .int .i64 3]) ?_ rfl ⟨rfl, ?_⟩
  · obtain ⟨s0, s1, _, _⟩ := ((hR7.below (two (.cells #[.int .i64 v, .int .i64 u] 23) (.cells #[.int .i64 v, .int .i64 u] 23))).set0 0).set1 0
    rw [results_cell_tmp rfl]
    go_simp
    rfl
  · exact (((hB7.trans ((two _ _).mono hB7.size))).setCell (Nat.le_refl _) _).setCell (Nat.le_refl _) _
set_option maxRecDepth 100000 in
set_option maxHeartbeats 1000000 in
theorem parse_ok (s p q : ByteArray) (hs : s.size ≤ 20) (w : World) (hl : Laid w) (hp : bytes (sides s.data.toList).1 = p) (hq : bytes (sides s.data.toList).2.1 = q) (ho : (sides s.data.toList).2.2 = true) (hps : p.size ≤ 20) (hqs : q.size ≤ 20)
    (v : Int) (hv : Lib.atoiAll p.data.toList = .ok v) (hvp : bytes (Lib.itoa v) = p) (u : Int) (hu : Lib.atoiAll q.data.toList = .ok u) (huq : bytes (Lib.itoa u) = q) (hk : chk v u = 0) : Calls Tryd.prog 8 #[.string s] w fun e w' => e = .returned (.tuple #[keyV v u, .int .i64 0]) ∧ Below w.heap.size w w' := by
  have i0 : ∀ (x y : ByteArray) w, (Instr.index 44 (.agg #[.string x, .string y]) (.int .i64 0)).run Tryd.prog w = .ok (.string x) w := fun _ _ _ => by kernel_rfl
  have i1 : ∀ (x y : ByteArray) w, (Instr.index 44 (.agg #[.string x, .string y]) (.int .i64 1)).run Tryd.prog w = .ok (.string y) w := fun _ _ _ => by kernel_rfl
  have hw0 : Below w.heap.size w (w.alloc (.cells #[.int .i64 0, .int .i64 0] 23)) := (Below.refl _ w).alloc (Nat.le_refl _) _
  have hR0 := At2.new w 0 0 23
  go_enter Tryd.func8, Tryd.ntmps8
  go_wp2_with (go_at_call 17; refine (cut_any s hs _ (hl.below hw0)).mono ?_)
  rintro e w1 ⟨rfl, hb1⟩
  rw [hp, hq, ho]
  have hA : w.heap.size ≠ w1.heap.size := by have := hb1.size; simp at this; omega
  have hR1 := (hR0.below hb1).below ((Below.refl _ w1).alloc (Nat.le_refl _) (.cells #[.int .i64 0, .int .i64 0] 43))
  have hN1 := At2.new w1 0 0 43
  have hB1 : Below w.heap.size w (w1.alloc (.cells #[.int .i64 0, .int .i64 0] 43)) := hw0.trans ((hb1.alloc hb1.size _).mono (by simp))
  have hA' : w.heap.size ≤ w1.heap.size := Nat.le_trans hw0.size hb1.size
  generalize hn1 : w1.heap.size = A at *
  go_wp2
  refine wp_loop_rounds 3 ?_
  rw [rounds_succ]
  clear hR0 hb1
  generalize hW1 : w1.alloc (.cells #[.int .i64 0, .int .i64 0] 43) = W1 at *
  obtain ⟨v0, v1⟩ := Lib.atoiAll_bounds hv
  go_wp2_with (go_at_call 18; refine (atoi_ok p hps v hv _).mono ?_)
  rintro e w2 ⟨rfl, hb2⟩
  have hB2 : Below w.heap.size w w2 := hB1.trans (hb2.mono hB1.size)
  go_wp2_with (go_at_call 16; refine (itoa_any v (by omega) (by omega) _ (hl.below hB2)).mono ?_)
  rintro e w3 ⟨rfl, hb3⟩
  have hB3 : Below w.heap.size w w3 := hB2.trans (hb3.mono hB2.size)
  rw [hvp]
  have hR3 := (hR1.below hb2).below hb3
  have hN3 := (hN1.below hb2).below hb3
  obtain ⟨c0, c1, f0, f1⟩ := id hN3
  go_wp2
  have hB4 : Below w.heap.size w (w3.setCell ⟨A, 0, none⟩ (.int .i64 v)) := hB3.setCell hA' _
  have hR4 := hR3.other hA 0 v
  have hN4 := hN3.set0 v
  generalize hW4 : w3.setCell ⟨A, 0, none⟩ (.int .i64 v) = W4 at *
  clear c0 c1 f0 f1 hR3 hN3 hR1 hN1
  rw [rounds_succ]
  obtain ⟨u0, u1⟩ := Lib.atoiAll_bounds hu
  go_wp2_with (go_at_call 18; refine (atoi_ok q hqs u hu _).mono ?_)
  rintro e w5 ⟨rfl, hb5⟩
  have hB5 : Below w.heap.size w w5 := hB4.trans (hb5.mono hB4.size)
  go_wp2_with (go_at_call 16; refine (itoa_any u (by omega) (by omega) _ (hl.below hB5)).mono ?_)
  rintro e w6 ⟨rfl, hb6⟩
  have hB6 : Below w.heap.size w w6 := hB5.trans (hb6.mono hB5.size)
  rw [huq]
  have hR6 := (hR4.below hb5).below hb6
  have hN6 := (hN4.below hb5).below hb6
  obtain ⟨c0, c1, f0, f1⟩ := id hN6
  go_wp2
  have hB7 : Below w.heap.size w (w6.setCell ⟨A, 1, none⟩ (.int .i64 u)) := hB6.setCell hA' _
  have hR7 := hR6.other hA 1 u
  have hN7 := hN6.set1 u
  generalize hW7 : w6.setCell ⟨A, 1, none⟩ (.int .i64 u) = W7 at *
  clear c0 c1 f0 f1 hR6 hN6 hR4 hN4
  obtain ⟨c0, c1, f0, f1⟩ := hN7
  rw [rounds_succ]
  have two : ∀ o1 o2, Below W7.heap.size W7 ((W7.alloc o1).alloc o2) := fun o1 o2 => ((Below.refl _ W7).alloc (Nat.le_refl _) o1).alloc (by simp) o2
  have r0 := fun o1 o2 => (hR7.below (two o1 o2)).c0
  have r1 := fun o1 o2 => (hR7.below (two o1 o2)).c1
  have g0 := fun o1 o2 => (hR7.below (two o1 o2)).f0
  have g1 := fun o1 o2 => (hR7.below (two o1 o2)).f1
  go_wp2_with (go_at_call 11; refine (check_walk v u _).mono ?_; rintro e w' ⟨rfl, rfl⟩; rw [hk])
  (try simp only [Exit.inBlock, Exit.then])
  refine bodyPost_ret (v := .tuple #[keyV v u, .int .i64 0]) ?_ rfl ⟨rfl, ?_⟩
  · obtain ⟨s0, s1, _, _⟩ := ((hR7.below (two (.cells #[.int .i64 v, .int .i64 u] 23) (.cells #[.int .i64 v, .int .i64 u] 23))).set0 v).set1 u
    rw [results_cell_tmp rfl]
    go_simp
    rfl
  · exact (((hB7.trans ((two _ _).mono hB7.size))).setCell (Nat.le_refl _) _).setCell (Nat.le_refl _) _
end Go.Proofs.YtpmamacjepcdmaaDoor
