/- Walk: the law KeyApart. -/
import Derived.Test.YtpmamacjepcdmaaDoorPlain
import Derived.Deep.RegionHeld3
namespace Go.Proofs.YtpmamacjepcdmaaDoor
open Go Go.Proofs Go.RowKit
theorem turn_held {w u : World} {A N : Nat} {a b x y : Int} (h : u.cell? ⟨A, 0, none⟩ = some (.int .i64 a) ∧ u.cell? ⟨A, 1, none⟩ = some (.int .i64 b) ∧ u.cell? ⟨N, 0, none⟩ = some (.int .i64 x) ∧ u.cell? ⟨N, 1, none⟩ = some (.int .i64 y) ∧ Below w.heap.size w u) :
    Calls Tryd.prog 12 #[.agg #[.int .i64 a, .int .i64 b]] u fun e w' => e = .returned (.agg #[.int .i64 b, .int .i64 a]) ∧ (w'.cell? ⟨A, 0, none⟩ = some (.int .i64 a) ∧ w'.cell? ⟨A, 1, none⟩ = some (.int .i64 b) ∧ w'.cell? ⟨N, 0, none⟩ = some (.int .i64 x) ∧ w'.cell? ⟨N, 1, none⟩ = some (.int .i64 y) ∧ Below w.heap.size w w') :=
  (turn_walk a b u).mono fun _ _ ⟨he, hb⟩ => ⟨he, cell_below hb h.1, cell_below hb h.2.1, cell_below hb h.2.2.1, cell_below hb h.2.2.2.1, Below.thenB h.2.2.2.2 hb⟩
set_option maxRecDepth 100000 in
set_option maxHeartbeats 2000000 in
theorem apart_two (a b c d : Int) (S T U : ByteArray) (w : World) (hl : Laid w) (hP : Gives 7 #[.agg #[.int .i64 a, .int .i64 b]] (.tuple #[.string S, .int .i64 0])) (hC : Gives 7 #[.agg #[.int .i64 c, .int .i64 d]] (.tuple #[.string T, .int .i64 0])) (hU : Gives 7 #[.agg #[.int .i64 b, .int .i64 a]] (.tuple #[.string U, .int .i64 0])) (hX : Gives 8 #[.string U] (.tuple #[.agg #[.int .i64 b, .int .i64 a], .int .i64 0])) (hST : S ≠ T) (hac : a ≠ c) (hab : a ≠ b) (hUS : U ≠ S) :
    Calls Tryd.prog 5 #[.agg #[.int .i64 a, .int .i64 b], .agg #[.int .i64 c, .int .i64 d]] w fun e w' => e = .returned (.bool true) ∧ Below w.heap.size w w' := by
  have q1 := str_ne hST
  have q2 := str_ne hUS
  have hB := below2 w (.cells #[.int .i64 a, .int .i64 b] 23) (.cells #[.int .i64 c, .int .i64 d] 23)
  have hR := (At2.new w a b 23).below (below1 _ (.cells #[.int .i64 c, .int .i64 d] 23))
  have hQ := At2.new (w.alloc (.cells #[.int .i64 a, .int .i64 b] 23)) c d 23
  rw [show (w.alloc (.cells #[.int .i64 a, .int .i64 b] 23)).heap.size = w.heap.size + 1 by simp] at hQ
  have hlw := hl.below hB
  go_enter Tryd.func5, Tryd.ntmps5
  go_wp2_with fail
  refine (hP _ hlw).mono ?_
  rintro e w1 ⟨rfl, hb⟩
  try clear c0 c1 f0 f1
  try clear e0 e1 g0 g1
  replace hB := Below.thenB hB hb
  replace hR := hR.below hb
  replace hQ := hQ.below hb
  replace hlw := hl.below hB
  obtain ⟨c0, c1, f0, f1⟩ := id hR
  obtain ⟨e0, e1, g0, g1⟩ := id hQ
  go_wp2_with fail
  refine (hC _ hlw).mono ?_
  rintro e w1 ⟨rfl, hb⟩
  try clear c0 c1 f0 f1
  try clear e0 e1 g0 g1
  replace hB := Below.thenB hB hb
  replace hR := hR.below hb
  replace hQ := hQ.below hb
  replace hlw := hl.below hB
  obtain ⟨c0, c1, f0, f1⟩ := id hR
  obtain ⟨e0, e1, g0, g1⟩ := id hQ
  go_wp2_with fail
  refine (keyed_walk _).mono ?_
  rintro e w1 ⟨rfl, hb⟩
  try clear c0 c1 f0 f1
  try clear e0 e1 g0 g1
  replace hB := Below.thenB hB hb
  replace hR := hR.below hb
  replace hQ := hQ.below hb
  replace hlw := hl.below hB
  obtain ⟨c0, c1, f0, f1⟩ := id hR
  obtain ⟨e0, e1, g0, g1⟩ := id hQ
  go_wp2_with fail
  refine (turn_walk a b _).mono ?_
  rintro e w1 ⟨rfl, hb⟩
  try clear c0 c1 f0 f1
  try clear e0 e1 g0 g1
  replace hB := Below.thenB hB hb
  replace hR := hR.below hb
  replace hQ := hQ.below hb
  replace hlw := hl.below hB
  obtain ⟨c0, c1, f0, f1⟩ := id hR
  obtain ⟨e0, e1, g0, g1⟩ := id hQ
  go_wp2_with fail
  refine (hU _ hlw).mono ?_
  rintro e w1 ⟨rfl, hb⟩
  try clear c0 c1 f0 f1
  try clear e0 e1 g0 g1
  replace hB := Below.thenB hB hb
  replace hR := hR.below hb
  replace hQ := hQ.below hb
  replace hlw := hl.below hB
  obtain ⟨c0, c1, f0, f1⟩ := id hR
  obtain ⟨e0, e1, g0, g1⟩ := id hQ
  go_wp2_with fail
  refine (hX _ hlw).mono ?_
  rintro e w1 ⟨rfl, hb⟩
  try clear c0 c1 f0 f1
  try clear e0 e1 g0 g1
  replace hB := Below.thenB hB hb
  replace hR := hR.below hb
  replace hQ := hQ.below hb
  replace hlw := hl.below hB
  obtain ⟨c0, c1, f0, f1⟩ := id hR
  obtain ⟨e0, e1, g0, g1⟩ := id hQ
  have hN := At2.new w1 b a 23
  replace hB := hB.alloc hB.size (.cells #[.int .i64 b, .int .i64 a] 23)
  replace hR := hR.below (below1 _ (.cells #[.int .i64 b, .int .i64 a] 23))
  clear c0 c1 f0 f1 e0 e1 g0 g1
  obtain ⟨c0, c1, f0, f1⟩ := id hR
  obtain ⟨n0, n1, m0, m1⟩ := id hN
  generalize hN1 : w1.heap.size = N at *
  go_wp2_with fail
  generalize hW1 : w1.alloc (.cells #[.int .i64 b, .int .i64 a] 23) = W1 at *
  go_region_held3 (fun u => u.cell? ⟨w.heap.size, 0, none⟩ = some (.int .i64 a) ∧ u.cell? ⟨w.heap.size, 1, none⟩ = some (.int .i64 b) ∧ u.cell? ⟨N, 0, none⟩ = some (.int .i64 b) ∧ u.cell? ⟨N, 1, none⟩ = some (.int .i64 a) ∧ Below w.heap.size w u) (first | assumption | exact ⟨c0, c1, n0, n1, hB⟩ | exact ⟨c0, c1, n0, n1, hB.drew⟩ | go_keep) (first | (go_at_call 12; refine (turn_held (by assumption)).mono ?_; rintro e w' ⟨rfl, hS⟩))
  go_wp2
  go_ret
  rename_i hS
  refine ⟨?_, hS.2.2.2.2⟩
  first | rfl | (simp [hab]) | simp
set_option maxRecDepth 100000 in
set_option maxHeartbeats 2000000 in
theorem apart_three (a b d : Int) (S T U : ByteArray) (w : World) (hl : Laid w) (hP : Gives 7 #[.agg #[.int .i64 a, .int .i64 b]] (.tuple #[.string S, .int .i64 0])) (hC : Gives 7 #[.agg #[.int .i64 a, .int .i64 d]] (.tuple #[.string T, .int .i64 0])) (hU : Gives 7 #[.agg #[.int .i64 b, .int .i64 a]] (.tuple #[.string U, .int .i64 0])) (hX : Gives 8 #[.string U] (.tuple #[.agg #[.int .i64 b, .int .i64 a], .int .i64 0])) (hST : S ≠ T) (hbd : b ≠ d) (hab : a ≠ b) (hUS : U ≠ S) :
    Calls Tryd.prog 5 #[.agg #[.int .i64 a, .int .i64 b], .agg #[.int .i64 a, .int .i64 d]] w fun e w' => e = .returned (.bool true) ∧ Below w.heap.size w w' := by
  have q1 := str_ne hST
  have q2 := str_ne hUS
  have hB := below2 w (.cells #[.int .i64 a, .int .i64 b] 23) (.cells #[.int .i64 a, .int .i64 d] 23)
  have hR := (At2.new w a b 23).below (below1 _ (.cells #[.int .i64 a, .int .i64 d] 23))
  have hQ := At2.new (w.alloc (.cells #[.int .i64 a, .int .i64 b] 23)) a d 23
  rw [show (w.alloc (.cells #[.int .i64 a, .int .i64 b] 23)).heap.size = w.heap.size + 1 by simp] at hQ
  have hlw := hl.below hB
  go_enter Tryd.func5, Tryd.ntmps5
  go_wp2_with fail
  refine (hP _ hlw).mono ?_
  rintro e w1 ⟨rfl, hb⟩
  try clear c0 c1 f0 f1
  try clear e0 e1 g0 g1
  replace hB := Below.thenB hB hb
  replace hR := hR.below hb
  replace hQ := hQ.below hb
  replace hlw := hl.below hB
  obtain ⟨c0, c1, f0, f1⟩ := id hR
  obtain ⟨e0, e1, g0, g1⟩ := id hQ
  go_wp2_with fail
  refine (hC _ hlw).mono ?_
  rintro e w1 ⟨rfl, hb⟩
  try clear c0 c1 f0 f1
  try clear e0 e1 g0 g1
  replace hB := Below.thenB hB hb
  replace hR := hR.below hb
  replace hQ := hQ.below hb
  replace hlw := hl.below hB
  obtain ⟨c0, c1, f0, f1⟩ := id hR
  obtain ⟨e0, e1, g0, g1⟩ := id hQ
  go_wp2_with fail
  refine (keyed_walk _).mono ?_
  rintro e w1 ⟨rfl, hb⟩
  try clear c0 c1 f0 f1
  try clear e0 e1 g0 g1
  replace hB := Below.thenB hB hb
  replace hR := hR.below hb
  replace hQ := hQ.below hb
  replace hlw := hl.below hB
  obtain ⟨c0, c1, f0, f1⟩ := id hR
  obtain ⟨e0, e1, g0, g1⟩ := id hQ
  go_wp2_with fail
  refine (turn_walk a b _).mono ?_
  rintro e w1 ⟨rfl, hb⟩
  try clear c0 c1 f0 f1
  try clear e0 e1 g0 g1
  replace hB := Below.thenB hB hb
  replace hR := hR.below hb
  replace hQ := hQ.below hb
  replace hlw := hl.below hB
  obtain ⟨c0, c1, f0, f1⟩ := id hR
  obtain ⟨e0, e1, g0, g1⟩ := id hQ
  go_wp2_with fail
  refine (hU _ hlw).mono ?_
  rintro e w1 ⟨rfl, hb⟩
  try clear c0 c1 f0 f1
  try clear e0 e1 g0 g1
  replace hB := Below.thenB hB hb
  replace hR := hR.below hb
  replace hQ := hQ.below hb
  replace hlw := hl.below hB
  obtain ⟨c0, c1, f0, f1⟩ := id hR
  obtain ⟨e0, e1, g0, g1⟩ := id hQ
  go_wp2_with fail
  refine (hX _ hlw).mono ?_
  rintro e w1 ⟨rfl, hb⟩
  try clear c0 c1 f0 f1
  try clear e0 e1 g0 g1
  replace hB := Below.thenB hB hb
  replace hR := hR.below hb
  replace hQ := hQ.below hb
  replace hlw := hl.below hB
  obtain ⟨c0, c1, f0, f1⟩ := id hR
  obtain ⟨e0, e1, g0, g1⟩ := id hQ
  have hN := At2.new w1 b a 23
  replace hB := hB.alloc hB.size (.cells #[.int .i64 b, .int .i64 a] 23)
  replace hR := hR.below (below1 _ (.cells #[.int .i64 b, .int .i64 a] 23))
  clear c0 c1 f0 f1 e0 e1 g0 g1
  obtain ⟨c0, c1, f0, f1⟩ := id hR
  obtain ⟨n0, n1, m0, m1⟩ := id hN
  generalize hN1 : w1.heap.size = N at *
  go_wp2_with fail
  generalize hW1 : w1.alloc (.cells #[.int .i64 b, .int .i64 a] 23) = W1 at *
  go_region_held3 (fun u => u.cell? ⟨w.heap.size, 0, none⟩ = some (.int .i64 a) ∧ u.cell? ⟨w.heap.size, 1, none⟩ = some (.int .i64 b) ∧ u.cell? ⟨N, 0, none⟩ = some (.int .i64 b) ∧ u.cell? ⟨N, 1, none⟩ = some (.int .i64 a) ∧ Below w.heap.size w u) (first | assumption | exact ⟨c0, c1, n0, n1, hB⟩ | exact ⟨c0, c1, n0, n1, hB.drew⟩ | go_keep) (first | (go_at_call 12; refine (turn_held (by assumption)).mono ?_; rintro e w' ⟨rfl, hS⟩))
  go_wp2
  go_ret
  rename_i hS
  refine ⟨?_, hS.2.2.2.2⟩
  first | rfl | (simp [hab]) | simp
set_option maxRecDepth 100000 in
set_option maxHeartbeats 2000000 in
theorem apart_same (a b : Int) (S U : ByteArray) (w : World) (hl : Laid w) (hP : Gives 7 #[.agg #[.int .i64 a, .int .i64 b]] (.tuple #[.string S, .int .i64 0])) (hU : Gives 7 #[.agg #[.int .i64 b, .int .i64 a]] (.tuple #[.string U, .int .i64 0])) (hX : Gives 8 #[.string U] (.tuple #[.agg #[.int .i64 b, .int .i64 a], .int .i64 0])) (hab : a ≠ b) (hUS : U ≠ S) :
    Calls Tryd.prog 5 #[.agg #[.int .i64 a, .int .i64 b], .agg #[.int .i64 a, .int .i64 b]] w fun e w' => e = .returned (.bool true) ∧ Below w.heap.size w w' := by
  have q2 := str_ne hUS
  have hB := below2 w (.cells #[.int .i64 a, .int .i64 b] 23) (.cells #[.int .i64 a, .int .i64 b] 23)
  have hR := (At2.new w a b 23).below (below1 _ (.cells #[.int .i64 a, .int .i64 b] 23))
  have hQ := At2.new (w.alloc (.cells #[.int .i64 a, .int .i64 b] 23)) a b 23
  rw [show (w.alloc (.cells #[.int .i64 a, .int .i64 b] 23)).heap.size = w.heap.size + 1 by simp] at hQ
  have hlw := hl.below hB
  go_enter Tryd.func5, Tryd.ntmps5
  go_wp2_with fail
  refine (hP _ hlw).mono ?_
  rintro e w1 ⟨rfl, hb⟩
  try clear c0 c1 f0 f1
  try clear e0 e1 g0 g1
  replace hB := Below.thenB hB hb
  replace hR := hR.below hb
  replace hQ := hQ.below hb
  replace hlw := hl.below hB
  obtain ⟨c0, c1, f0, f1⟩ := id hR
  obtain ⟨e0, e1, g0, g1⟩ := id hQ
  go_wp2_with fail
  refine (hP _ hlw).mono ?_
  rintro e w1 ⟨rfl, hb⟩
  try clear c0 c1 f0 f1
  try clear e0 e1 g0 g1
  replace hB := Below.thenB hB hb
  replace hR := hR.below hb
  replace hQ := hQ.below hb
  replace hlw := hl.below hB
  obtain ⟨c0, c1, f0, f1⟩ := id hR
  obtain ⟨e0, e1, g0, g1⟩ := id hQ
  go_wp2_with fail
  refine (keyed_walk _).mono ?_
  rintro e w1 ⟨rfl, hb⟩
  try clear c0 c1 f0 f1
  try clear e0 e1 g0 g1
  replace hB := Below.thenB hB hb
  replace hR := hR.below hb
  replace hQ := hQ.below hb
  replace hlw := hl.below hB
  obtain ⟨c0, c1, f0, f1⟩ := id hR
  obtain ⟨e0, e1, g0, g1⟩ := id hQ
  go_wp2_with fail
  refine (turn_walk a b _).mono ?_
  rintro e w1 ⟨rfl, hb⟩
  try clear c0 c1 f0 f1
  try clear e0 e1 g0 g1
  replace hB := Below.thenB hB hb
  replace hR := hR.below hb
  replace hQ := hQ.below hb
  replace hlw := hl.below hB
  obtain ⟨c0, c1, f0, f1⟩ := id hR
  obtain ⟨e0, e1, g0, g1⟩ := id hQ
  go_wp2_with fail
  refine (hU _ hlw).mono ?_
  rintro e w1 ⟨rfl, hb⟩
  try clear c0 c1 f0 f1
  try clear e0 e1 g0 g1
  replace hB := Below.thenB hB hb
  replace hR := hR.below hb
  replace hQ := hQ.below hb
  replace hlw := hl.below hB
  obtain ⟨c0, c1, f0, f1⟩ := id hR
  obtain ⟨e0, e1, g0, g1⟩ := id hQ
  go_wp2_with fail
  refine (hX _ hlw).mono ?_
  rintro e w1 ⟨rfl, hb⟩
  try clear c0 c1 f0 f1
  try clear e0 e1 g0 g1
  replace hB := Below.thenB hB hb
  replace hR := hR.below hb
  replace hQ := hQ.below hb
  replace hlw := hl.below hB
  obtain ⟨c0, c1, f0, f1⟩ := id hR
  obtain ⟨e0, e1, g0, g1⟩ := id hQ
  have hN := At2.new w1 b a 23
  replace hB := hB.alloc hB.size (.cells #[.int .i64 b, .int .i64 a] 23)
  replace hR := hR.below (below1 _ (.cells #[.int .i64 b, .int .i64 a] 23))
  clear c0 c1 f0 f1 e0 e1 g0 g1
  obtain ⟨c0, c1, f0, f1⟩ := id hR
  obtain ⟨n0, n1, m0, m1⟩ := id hN
  generalize hN1 : w1.heap.size = N at *
  go_wp2_with fail
  generalize hW1 : w1.alloc (.cells #[.int .i64 b, .int .i64 a] 23) = W1 at *
  go_region_held3 (fun u => u.cell? ⟨w.heap.size, 0, none⟩ = some (.int .i64 a) ∧ u.cell? ⟨w.heap.size, 1, none⟩ = some (.int .i64 b) ∧ u.cell? ⟨N, 0, none⟩ = some (.int .i64 b) ∧ u.cell? ⟨N, 1, none⟩ = some (.int .i64 a) ∧ Below w.heap.size w u) (first | assumption | exact ⟨c0, c1, n0, n1, hB⟩ | exact ⟨c0, c1, n0, n1, hB.drew⟩ | go_keep) (first | (go_at_call 12; refine (turn_held (by assumption)).mono ?_; rintro e w' ⟨rfl, hS⟩))
  go_wp2
  go_ret
  rename_i hS
  refine ⟨?_, hS.2.2.2.2⟩
  first | rfl | (simp [hab]) | simp
set_option maxRecDepth 100000 in
set_option maxHeartbeats 2000000 in
theorem apart_off (a b c d : Int) (S U : ByteArray) (w : World) (hl : Laid w) (hP : Gives 7 #[.agg #[.int .i64 a, .int .i64 b]] (.tuple #[.string S, .int .i64 0])) (hC : Gives 7 #[.agg #[.int .i64 c, .int .i64 d]] (.tuple #[.string ⟨#[]⟩, .int .i64 3])) (hU : Gives 7 #[.agg #[.int .i64 b, .int .i64 a]] (.tuple #[.string U, .int .i64 0])) (hX : Gives 8 #[.string U] (.tuple #[.agg #[.int .i64 b, .int .i64 a], .int .i64 0])) (hab : a ≠ b) (hUS : U ≠ S) :
    Calls Tryd.prog 5 #[.agg #[.int .i64 a, .int .i64 b], .agg #[.int .i64 c, .int .i64 d]] w fun e w' => e = .returned (.bool true) ∧ Below w.heap.size w w' := by
  have q2 := str_ne hUS
  have hB := below2 w (.cells #[.int .i64 a, .int .i64 b] 23) (.cells #[.int .i64 c, .int .i64 d] 23)
  have hR := (At2.new w a b 23).below (below1 _ (.cells #[.int .i64 c, .int .i64 d] 23))
  have hQ := At2.new (w.alloc (.cells #[.int .i64 a, .int .i64 b] 23)) c d 23
  rw [show (w.alloc (.cells #[.int .i64 a, .int .i64 b] 23)).heap.size = w.heap.size + 1 by simp] at hQ
  have hlw := hl.below hB
  go_enter Tryd.func5, Tryd.ntmps5
  go_wp2_with fail
  refine (hP _ hlw).mono ?_
  rintro e w1 ⟨rfl, hb⟩
  try clear c0 c1 f0 f1
  try clear e0 e1 g0 g1
  replace hB := Below.thenB hB hb
  replace hR := hR.below hb
  replace hQ := hQ.below hb
  replace hlw := hl.below hB
  obtain ⟨c0, c1, f0, f1⟩ := id hR
  obtain ⟨e0, e1, g0, g1⟩ := id hQ
  go_wp2_with fail
  refine (hC _ hlw).mono ?_
  rintro e w1 ⟨rfl, hb⟩
  try clear c0 c1 f0 f1
  try clear e0 e1 g0 g1
  replace hB := Below.thenB hB hb
  replace hR := hR.below hb
  replace hQ := hQ.below hb
  replace hlw := hl.below hB
  obtain ⟨c0, c1, f0, f1⟩ := id hR
  obtain ⟨e0, e1, g0, g1⟩ := id hQ
  go_wp2_with fail
  refine (keyed_walk _).mono ?_
  rintro e w1 ⟨rfl, hb⟩
  try clear c0 c1 f0 f1
  try clear e0 e1 g0 g1
  replace hB := Below.thenB hB hb
  replace hR := hR.below hb
  replace hQ := hQ.below hb
  replace hlw := hl.below hB
  obtain ⟨c0, c1, f0, f1⟩ := id hR
  obtain ⟨e0, e1, g0, g1⟩ := id hQ
  go_wp2_with fail
  refine (turn_walk a b _).mono ?_
  rintro e w1 ⟨rfl, hb⟩
  try clear c0 c1 f0 f1
  try clear e0 e1 g0 g1
  replace hB := Below.thenB hB hb
  replace hR := hR.below hb
  replace hQ := hQ.below hb
  replace hlw := hl.below hB
  obtain ⟨c0, c1, f0, f1⟩ := id hR
  obtain ⟨e0, e1, g0, g1⟩ := id hQ
  go_wp2_with fail
  refine (hU _ hlw).mono ?_
  rintro e w1 ⟨rfl, hb⟩
  try clear c0 c1 f0 f1
  try clear e0 e1 g0 g1
  replace hB := Below.thenB hB hb
  replace hR := hR.below hb
  replace hQ := hQ.below hb
  replace hlw := hl.below hB
  obtain ⟨c0, c1, f0, f1⟩ := id hR
  obtain ⟨e0, e1, g0, g1⟩ := id hQ
  go_wp2_with fail
  refine (hX _ hlw).mono ?_
  rintro e w1 ⟨rfl, hb⟩
  try clear c0 c1 f0 f1
  try clear e0 e1 g0 g1
  replace hB := Below.thenB hB hb
  replace hR := hR.below hb
  replace hQ := hQ.below hb
  replace hlw := hl.below hB
  obtain ⟨c0, c1, f0, f1⟩ := id hR
  obtain ⟨e0, e1, g0, g1⟩ := id hQ
  have hN := At2.new w1 b a 23
  replace hB := hB.alloc hB.size (.cells #[.int .i64 b, .int .i64 a] 23)
  replace hR := hR.below (below1 _ (.cells #[.int .i64 b, .int .i64 a] 23))
  clear c0 c1 f0 f1 e0 e1 g0 g1
  obtain ⟨c0, c1, f0, f1⟩ := id hR
  obtain ⟨n0, n1, m0, m1⟩ := id hN
  generalize hN1 : w1.heap.size = N at *
  go_wp2_with fail
  generalize hW1 : w1.alloc (.cells #[.int .i64 b, .int .i64 a] 23) = W1 at *
  go_region_held3 (fun u => u.cell? ⟨w.heap.size, 0, none⟩ = some (.int .i64 a) ∧ u.cell? ⟨w.heap.size, 1, none⟩ = some (.int .i64 b) ∧ u.cell? ⟨N, 0, none⟩ = some (.int .i64 b) ∧ u.cell? ⟨N, 1, none⟩ = some (.int .i64 a) ∧ Below w.heap.size w u) (first | assumption | exact ⟨c0, c1, n0, n1, hB⟩ | exact ⟨c0, c1, n0, n1, hB.drew⟩ | go_keep) (first | (go_at_call 12; refine (turn_held (by assumption)).mono ?_; rintro e w' ⟨rfl, hS⟩))
  go_wp2
  go_ret
  rename_i hS
  refine ⟨?_, hS.2.2.2.2⟩
  first | rfl | (simp [hab]) | simp
set_option maxRecDepth 100000 in
set_option maxHeartbeats 2000000 in
theorem apart_two1 (a c d : Int) (S T : ByteArray) (w : World) (hl : Laid w) (hP : Gives 7 #[.agg #[.int .i64 a, .int .i64 a]] (.tuple #[.string S, .int .i64 0])) (hC : Gives 7 #[.agg #[.int .i64 c, .int .i64 d]] (.tuple #[.string T, .int .i64 0])) (hX : Gives 8 #[.string S] (.tuple #[.agg #[.int .i64 a, .int .i64 a], .int .i64 0])) (hST : S ≠ T) (hac : a ≠ c) :
    Calls Tryd.prog 5 #[.agg #[.int .i64 a, .int .i64 a], .agg #[.int .i64 c, .int .i64 d]] w fun e w' => e = .returned (.bool true) ∧ Below w.heap.size w w' := by
  have q1 := str_ne hST
  have hB := below2 w (.cells #[.int .i64 a, .int .i64 a] 23) (.cells #[.int .i64 c, .int .i64 d] 23)
  have hR := (At2.new w a a 23).below (below1 _ (.cells #[.int .i64 c, .int .i64 d] 23))
  have hQ := At2.new (w.alloc (.cells #[.int .i64 a, .int .i64 a] 23)) c d 23
  rw [show (w.alloc (.cells #[.int .i64 a, .int .i64 a] 23)).heap.size = w.heap.size + 1 by simp] at hQ
  have hlw := hl.below hB
  go_enter Tryd.func5, Tryd.ntmps5
  go_wp2_with fail
  refine (hP _ hlw).mono ?_
  rintro e w1 ⟨rfl, hb⟩
  try clear c0 c1 f0 f1
  try clear e0 e1 g0 g1
  replace hB := Below.thenB hB hb
  replace hR := hR.below hb
  replace hQ := hQ.below hb
  replace hlw := hl.below hB
  obtain ⟨c0, c1, f0, f1⟩ := id hR
  obtain ⟨e0, e1, g0, g1⟩ := id hQ
  go_wp2_with fail
  refine (hC _ hlw).mono ?_
  rintro e w1 ⟨rfl, hb⟩
  try clear c0 c1 f0 f1
  try clear e0 e1 g0 g1
  replace hB := Below.thenB hB hb
  replace hR := hR.below hb
  replace hQ := hQ.below hb
  replace hlw := hl.below hB
  obtain ⟨c0, c1, f0, f1⟩ := id hR
  obtain ⟨e0, e1, g0, g1⟩ := id hQ
  go_wp2_with fail
  refine (keyed_walk _).mono ?_
  rintro e w1 ⟨rfl, hb⟩
  try clear c0 c1 f0 f1
  try clear e0 e1 g0 g1
  replace hB := Below.thenB hB hb
  replace hR := hR.below hb
  replace hQ := hQ.below hb
  replace hlw := hl.below hB
  obtain ⟨c0, c1, f0, f1⟩ := id hR
  obtain ⟨e0, e1, g0, g1⟩ := id hQ
  go_wp2_with fail
  refine (turn_walk a a _).mono ?_
  rintro e w1 ⟨rfl, hb⟩
  try clear c0 c1 f0 f1
  try clear e0 e1 g0 g1
  replace hB := Below.thenB hB hb
  replace hR := hR.below hb
  replace hQ := hQ.below hb
  replace hlw := hl.below hB
  obtain ⟨c0, c1, f0, f1⟩ := id hR
  obtain ⟨e0, e1, g0, g1⟩ := id hQ
  go_wp2_with fail
  refine (hP _ hlw).mono ?_
  rintro e w1 ⟨rfl, hb⟩
  try clear c0 c1 f0 f1
  try clear e0 e1 g0 g1
  replace hB := Below.thenB hB hb
  replace hR := hR.below hb
  replace hQ := hQ.below hb
  replace hlw := hl.below hB
  obtain ⟨c0, c1, f0, f1⟩ := id hR
  obtain ⟨e0, e1, g0, g1⟩ := id hQ
  go_wp2_with fail
  refine (hX _ hlw).mono ?_
  rintro e w1 ⟨rfl, hb⟩
  try clear c0 c1 f0 f1
  try clear e0 e1 g0 g1
  replace hB := Below.thenB hB hb
  replace hR := hR.below hb
  replace hQ := hQ.below hb
  replace hlw := hl.below hB
  obtain ⟨c0, c1, f0, f1⟩ := id hR
  obtain ⟨e0, e1, g0, g1⟩ := id hQ
  have hN := At2.new w1 a a 23
  replace hB := hB.alloc hB.size (.cells #[.int .i64 a, .int .i64 a] 23)
  replace hR := hR.below (below1 _ (.cells #[.int .i64 a, .int .i64 a] 23))
  clear c0 c1 f0 f1 e0 e1 g0 g1
  obtain ⟨c0, c1, f0, f1⟩ := id hR
  obtain ⟨n0, n1, m0, m1⟩ := id hN
  generalize hN1 : w1.heap.size = N at *
  go_wp2_with fail
  generalize hW1 : w1.alloc (.cells #[.int .i64 a, .int .i64 a] 23) = W1 at *
  go_region_held3 (fun u => u.cell? ⟨w.heap.size, 0, none⟩ = some (.int .i64 a) ∧ u.cell? ⟨w.heap.size, 1, none⟩ = some (.int .i64 a) ∧ u.cell? ⟨N, 0, none⟩ = some (.int .i64 a) ∧ u.cell? ⟨N, 1, none⟩ = some (.int .i64 a) ∧ Below w.heap.size w u) (first | assumption | exact ⟨c0, c1, n0, n1, hB⟩ | exact ⟨c0, c1, n0, n1, hB.drew⟩ | go_keep) (first | (go_at_call 12; refine (turn_held (by assumption)).mono ?_; rintro e w' ⟨rfl, hS⟩))
  go_wp2
  go_ret
  rename_i hS
  refine ⟨?_, hS.2.2.2.2⟩
  first | rfl | simp
set_option maxRecDepth 100000 in
set_option maxHeartbeats 2000000 in
theorem apart_three1 (a d : Int) (S T : ByteArray) (w : World) (hl : Laid w) (hP : Gives 7 #[.agg #[.int .i64 a, .int .i64 a]] (.tuple #[.string S, .int .i64 0])) (hC : Gives 7 #[.agg #[.int .i64 a, .int .i64 d]] (.tuple #[.string T, .int .i64 0])) (hX : Gives 8 #[.string S] (.tuple #[.agg #[.int .i64 a, .int .i64 a], .int .i64 0])) (hST : S ≠ T) (had : a ≠ d) :
    Calls Tryd.prog 5 #[.agg #[.int .i64 a, .int .i64 a], .agg #[.int .i64 a, .int .i64 d]] w fun e w' => e = .returned (.bool true) ∧ Below w.heap.size w w' := by
  have q1 := str_ne hST
  have hB := below2 w (.cells #[.int .i64 a, .int .i64 a] 23) (.cells #[.int .i64 a, .int .i64 d] 23)
  have hR := (At2.new w a a 23).below (below1 _ (.cells #[.int .i64 a, .int .i64 d] 23))
  have hQ := At2.new (w.alloc (.cells #[.int .i64 a, .int .i64 a] 23)) a d 23
  rw [show (w.alloc (.cells #[.int .i64 a, .int .i64 a] 23)).heap.size = w.heap.size + 1 by simp] at hQ
  have hlw := hl.below hB
  go_enter Tryd.func5, Tryd.ntmps5
  go_wp2_with fail
  refine (hP _ hlw).mono ?_
  rintro e w1 ⟨rfl, hb⟩
  try clear c0 c1 f0 f1
  try clear e0 e1 g0 g1
  replace hB := Below.thenB hB hb
  replace hR := hR.below hb
  replace hQ := hQ.below hb
  replace hlw := hl.below hB
  obtain ⟨c0, c1, f0, f1⟩ := id hR
  obtain ⟨e0, e1, g0, g1⟩ := id hQ
  go_wp2_with fail
  refine (hC _ hlw).mono ?_
  rintro e w1 ⟨rfl, hb⟩
  try clear c0 c1 f0 f1
  try clear e0 e1 g0 g1
  replace hB := Below.thenB hB hb
  replace hR := hR.below hb
  replace hQ := hQ.below hb
  replace hlw := hl.below hB
  obtain ⟨c0, c1, f0, f1⟩ := id hR
  obtain ⟨e0, e1, g0, g1⟩ := id hQ
  go_wp2_with fail
  refine (keyed_walk _).mono ?_
  rintro e w1 ⟨rfl, hb⟩
  try clear c0 c1 f0 f1
  try clear e0 e1 g0 g1
  replace hB := Below.thenB hB hb
  replace hR := hR.below hb
  replace hQ := hQ.below hb
  replace hlw := hl.below hB
  obtain ⟨c0, c1, f0, f1⟩ := id hR
  obtain ⟨e0, e1, g0, g1⟩ := id hQ
  go_wp2_with fail
  refine (turn_walk a a _).mono ?_
  rintro e w1 ⟨rfl, hb⟩
  try clear c0 c1 f0 f1
  try clear e0 e1 g0 g1
  replace hB := Below.thenB hB hb
  replace hR := hR.below hb
  replace hQ := hQ.below hb
  replace hlw := hl.below hB
  obtain ⟨c0, c1, f0, f1⟩ := id hR
  obtain ⟨e0, e1, g0, g1⟩ := id hQ
  go_wp2_with fail
  refine (hP _ hlw).mono ?_
  rintro e w1 ⟨rfl, hb⟩
  try clear c0 c1 f0 f1
  try clear e0 e1 g0 g1
  replace hB := Below.thenB hB hb
  replace hR := hR.below hb
  replace hQ := hQ.below hb
  replace hlw := hl.below hB
  obtain ⟨c0, c1, f0, f1⟩ := id hR
  obtain ⟨e0, e1, g0, g1⟩ := id hQ
  go_wp2_with fail
  refine (hX _ hlw).mono ?_
  rintro e w1 ⟨rfl, hb⟩
  try clear c0 c1 f0 f1
  try clear e0 e1 g0 g1
  replace hB := Below.thenB hB hb
  replace hR := hR.below hb
  replace hQ := hQ.below hb
  replace hlw := hl.below hB
  obtain ⟨c0, c1, f0, f1⟩ := id hR
  obtain ⟨e0, e1, g0, g1⟩ := id hQ
  have hN := At2.new w1 a a 23
  replace hB := hB.alloc hB.size (.cells #[.int .i64 a, .int .i64 a] 23)
  replace hR := hR.below (below1 _ (.cells #[.int .i64 a, .int .i64 a] 23))
  clear c0 c1 f0 f1 e0 e1 g0 g1
  obtain ⟨c0, c1, f0, f1⟩ := id hR
  obtain ⟨n0, n1, m0, m1⟩ := id hN
  generalize hN1 : w1.heap.size = N at *
  go_wp2_with fail
  generalize hW1 : w1.alloc (.cells #[.int .i64 a, .int .i64 a] 23) = W1 at *
  go_region_held3 (fun u => u.cell? ⟨w.heap.size, 0, none⟩ = some (.int .i64 a) ∧ u.cell? ⟨w.heap.size, 1, none⟩ = some (.int .i64 a) ∧ u.cell? ⟨N, 0, none⟩ = some (.int .i64 a) ∧ u.cell? ⟨N, 1, none⟩ = some (.int .i64 a) ∧ Below w.heap.size w u) (first | assumption | exact ⟨c0, c1, n0, n1, hB⟩ | exact ⟨c0, c1, n0, n1, hB.drew⟩ | go_keep) (first | (go_at_call 12; refine (turn_held (by assumption)).mono ?_; rintro e w' ⟨rfl, hS⟩))
  go_wp2
  go_ret
  rename_i hS
  refine ⟨?_, hS.2.2.2.2⟩
  first | rfl | simp
set_option maxRecDepth 100000 in
set_option maxHeartbeats 2000000 in
theorem apart_same1 (a : Int) (S : ByteArray) (w : World) (hl : Laid w) (hP : Gives 7 #[.agg #[.int .i64 a, .int .i64 a]] (.tuple #[.string S, .int .i64 0])) (hX : Gives 8 #[.string S] (.tuple #[.agg #[.int .i64 a, .int .i64 a], .int .i64 0])) :
    Calls Tryd.prog 5 #[.agg #[.int .i64 a, .int .i64 a], .agg #[.int .i64 a, .int .i64 a]] w fun e w' => e = .returned (.bool true) ∧ Below w.heap.size w w' := by
  have hB := below2 w (.cells #[.int .i64 a, .int .i64 a] 23) (.cells #[.int .i64 a, .int .i64 a] 23)
  have hR := (At2.new w a a 23).below (below1 _ (.cells #[.int .i64 a, .int .i64 a] 23))
  have hQ := At2.new (w.alloc (.cells #[.int .i64 a, .int .i64 a] 23)) a a 23
  rw [show (w.alloc (.cells #[.int .i64 a, .int .i64 a] 23)).heap.size = w.heap.size + 1 by simp] at hQ
  have hlw := hl.below hB
  go_enter Tryd.func5, Tryd.ntmps5
  go_wp2_with fail
  refine (hP _ hlw).mono ?_
  rintro e w1 ⟨rfl, hb⟩
  try clear c0 c1 f0 f1
  try clear e0 e1 g0 g1
  replace hB := Below.thenB hB hb
  replace hR := hR.below hb
  replace hQ := hQ.below hb
  replace hlw := hl.below hB
  obtain ⟨c0, c1, f0, f1⟩ := id hR
  obtain ⟨e0, e1, g0, g1⟩ := id hQ
  go_wp2_with fail
  refine (hP _ hlw).mono ?_
  rintro e w1 ⟨rfl, hb⟩
  try clear c0 c1 f0 f1
  try clear e0 e1 g0 g1
  replace hB := Below.thenB hB hb
  replace hR := hR.below hb
  replace hQ := hQ.below hb
  replace hlw := hl.below hB
  obtain ⟨c0, c1, f0, f1⟩ := id hR
  obtain ⟨e0, e1, g0, g1⟩ := id hQ
  go_wp2_with fail
  refine (keyed_walk _).mono ?_
  rintro e w1 ⟨rfl, hb⟩
  try clear c0 c1 f0 f1
  try clear e0 e1 g0 g1
  replace hB := Below.thenB hB hb
  replace hR := hR.below hb
  replace hQ := hQ.below hb
  replace hlw := hl.below hB
  obtain ⟨c0, c1, f0, f1⟩ := id hR
  obtain ⟨e0, e1, g0, g1⟩ := id hQ
  go_wp2_with fail
  refine (turn_walk a a _).mono ?_
  rintro e w1 ⟨rfl, hb⟩
  try clear c0 c1 f0 f1
  try clear e0 e1 g0 g1
  replace hB := Below.thenB hB hb
  replace hR := hR.below hb
  replace hQ := hQ.below hb
  replace hlw := hl.below hB
  obtain ⟨c0, c1, f0, f1⟩ := id hR
  obtain ⟨e0, e1, g0, g1⟩ := id hQ
  go_wp2_with fail
  refine (hP _ hlw).mono ?_
  rintro e w1 ⟨rfl, hb⟩
  try clear c0 c1 f0 f1
  try clear e0 e1 g0 g1
  replace hB := Below.thenB hB hb
  replace hR := hR.below hb
  replace hQ := hQ.below hb
  replace hlw := hl.below hB
  obtain ⟨c0, c1, f0, f1⟩ := id hR
  obtain ⟨e0, e1, g0, g1⟩ := id hQ
  go_wp2_with fail
  refine (hX _ hlw).mono ?_
  rintro e w1 ⟨rfl, hb⟩
  try clear c0 c1 f0 f1
  try clear e0 e1 g0 g1
  replace hB := Below.thenB hB hb
  replace hR := hR.below hb
  replace hQ := hQ.below hb
  replace hlw := hl.below hB
  obtain ⟨c0, c1, f0, f1⟩ := id hR
  obtain ⟨e0, e1, g0, g1⟩ := id hQ
  have hN := At2.new w1 a a 23
  replace hB := hB.alloc hB.size (.cells #[.int .i64 a, .int .i64 a] 23)
  replace hR := hR.below (below1 _ (.cells #[.int .i64 a, .int .i64 a] 23))
  clear c0 c1 f0 f1 e0 e1 g0 g1
  obtain ⟨c0, c1, f0, f1⟩ := id hR
  obtain ⟨n0, n1, m0, m1⟩ := id hN
  generalize hN1 : w1.heap.size = N at *
  go_wp2_with fail
  generalize hW1 : w1.alloc (.cells #[.int .i64 a, .int .i64 a] 23) = W1 at *
  go_region_held3 (fun u => u.cell? ⟨w.heap.size, 0, none⟩ = some (.int .i64 a) ∧ u.cell? ⟨w.heap.size, 1, none⟩ = some (.int .i64 a) ∧ u.cell? ⟨N, 0, none⟩ = some (.int .i64 a) ∧ u.cell? ⟨N, 1, none⟩ = some (.int .i64 a) ∧ Below w.heap.size w u) (first | assumption | exact ⟨c0, c1, n0, n1, hB⟩ | exact ⟨c0, c1, n0, n1, hB.drew⟩ | go_keep) (first | (go_at_call 12; refine (turn_held (by assumption)).mono ?_; rintro e w' ⟨rfl, hS⟩))
  go_wp2
  go_ret
  rename_i hS
  refine ⟨?_, hS.2.2.2.2⟩
  first | rfl | simp
set_option maxRecDepth 100000 in
set_option maxHeartbeats 2000000 in
theorem apart_off1 (a c d : Int) (S : ByteArray) (w : World) (hl : Laid w) (hP : Gives 7 #[.agg #[.int .i64 a, .int .i64 a]] (.tuple #[.string S, .int .i64 0])) (hC : Gives 7 #[.agg #[.int .i64 c, .int .i64 d]] (.tuple #[.string ⟨#[]⟩, .int .i64 3])) (hX : Gives 8 #[.string S] (.tuple #[.agg #[.int .i64 a, .int .i64 a], .int .i64 0])) :
    Calls Tryd.prog 5 #[.agg #[.int .i64 a, .int .i64 a], .agg #[.int .i64 c, .int .i64 d]] w fun e w' => e = .returned (.bool true) ∧ Below w.heap.size w w' := by
  have hB := below2 w (.cells #[.int .i64 a, .int .i64 a] 23) (.cells #[.int .i64 c, .int .i64 d] 23)
  have hR := (At2.new w a a 23).below (below1 _ (.cells #[.int .i64 c, .int .i64 d] 23))
  have hQ := At2.new (w.alloc (.cells #[.int .i64 a, .int .i64 a] 23)) c d 23
  rw [show (w.alloc (.cells #[.int .i64 a, .int .i64 a] 23)).heap.size = w.heap.size + 1 by simp] at hQ
  have hlw := hl.below hB
  go_enter Tryd.func5, Tryd.ntmps5
  go_wp2_with fail
  refine (hP _ hlw).mono ?_
  rintro e w1 ⟨rfl, hb⟩
  try clear c0 c1 f0 f1
  try clear e0 e1 g0 g1
  replace hB := Below.thenB hB hb
  replace hR := hR.below hb
  replace hQ := hQ.below hb
  replace hlw := hl.below hB
  obtain ⟨c0, c1, f0, f1⟩ := id hR
  obtain ⟨e0, e1, g0, g1⟩ := id hQ
  go_wp2_with fail
  refine (hC _ hlw).mono ?_
  rintro e w1 ⟨rfl, hb⟩
  try clear c0 c1 f0 f1
  try clear e0 e1 g0 g1
  replace hB := Below.thenB hB hb
  replace hR := hR.below hb
  replace hQ := hQ.below hb
  replace hlw := hl.below hB
  obtain ⟨c0, c1, f0, f1⟩ := id hR
  obtain ⟨e0, e1, g0, g1⟩ := id hQ
  go_wp2_with fail
  refine (keyed_walk _).mono ?_
  rintro e w1 ⟨rfl, hb⟩
  try clear c0 c1 f0 f1
  try clear e0 e1 g0 g1
  replace hB := Below.thenB hB hb
  replace hR := hR.below hb
  replace hQ := hQ.below hb
  replace hlw := hl.below hB
  obtain ⟨c0, c1, f0, f1⟩ := id hR
  obtain ⟨e0, e1, g0, g1⟩ := id hQ
  go_wp2_with fail
  refine (turn_walk a a _).mono ?_
  rintro e w1 ⟨rfl, hb⟩
  try clear c0 c1 f0 f1
  try clear e0 e1 g0 g1
  replace hB := Below.thenB hB hb
  replace hR := hR.below hb
  replace hQ := hQ.below hb
  replace hlw := hl.below hB
  obtain ⟨c0, c1, f0, f1⟩ := id hR
  obtain ⟨e0, e1, g0, g1⟩ := id hQ
  go_wp2_with fail
  refine (hP _ hlw).mono ?_
  rintro e w1 ⟨rfl, hb⟩
  try clear c0 c1 f0 f1
  try clear e0 e1 g0 g1
  replace hB := Below.thenB hB hb
  replace hR := hR.below hb
  replace hQ := hQ.below hb
  replace hlw := hl.below hB
  obtain ⟨c0, c1, f0, f1⟩ := id hR
  obtain ⟨e0, e1, g0, g1⟩ := id hQ
  go_wp2_with fail
  refine (hX _ hlw).mono ?_
  rintro e w1 ⟨rfl, hb⟩
  try clear c0 c1 f0 f1
  try clear e0 e1 g0 g1
  replace hB := Below.thenB hB hb
  replace hR := hR.below hb
  replace hQ := hQ.below hb
  replace hlw := hl.below hB
  obtain ⟨c0, c1, f0, f1⟩ := id hR
  obtain ⟨e0, e1, g0, g1⟩ := id hQ
  have hN := At2.new w1 a a 23
  replace hB := hB.alloc hB.size (.cells #[.int .i64 a, .int .i64 a] 23)
  replace hR := hR.below (below1 _ (.cells #[.int .i64 a, .int .i64 a] 23))
  clear c0 c1 f0 f1 e0 e1 g0 g1
  obtain ⟨c0, c1, f0, f1⟩ := id hR
  obtain ⟨n0, n1, m0, m1⟩ := id hN
  generalize hN1 : w1.heap.size = N at *
  go_wp2_with fail
  generalize hW1 : w1.alloc (.cells #[.int .i64 a, .int .i64 a] 23) = W1 at *
  go_region_held3 (fun u => u.cell? ⟨w.heap.size, 0, none⟩ = some (.int .i64 a) ∧ u.cell? ⟨w.heap.size, 1, none⟩ = some (.int .i64 a) ∧ u.cell? ⟨N, 0, none⟩ = some (.int .i64 a) ∧ u.cell? ⟨N, 1, none⟩ = some (.int .i64 a) ∧ Below w.heap.size w u) (first | assumption | exact ⟨c0, c1, n0, n1, hB⟩ | exact ⟨c0, c1, n0, n1, hB.drew⟩ | go_keep) (first | (go_at_call 12; refine (turn_held (by assumption)).mono ?_; rintro e w' ⟨rfl, hS⟩))
  go_wp2
  go_ret
  rename_i hS
  refine ⟨?_, hS.2.2.2.2⟩
  first | rfl | simp
set_option maxRecDepth 100000 in
set_option maxHeartbeats 2000000 in
theorem apart_bad (a b c d : Int) (T : ByteArray) (w : World) (hl : Laid w) (hP : Gives 7 #[.agg #[.int .i64 a, .int .i64 b]] (.tuple #[.string ⟨#[]⟩, .int .i64 3])) (hC : Gives 7 #[.agg #[.int .i64 c, .int .i64 d]] (.tuple #[.string T, .int .i64 0]))  :
    Calls Tryd.prog 5 #[.agg #[.int .i64 a, .int .i64 b], .agg #[.int .i64 c, .int .i64 d]] w fun e w' => e = .returned (.bool true) ∧ Below w.heap.size w w' := by
  have hB := below2 w (.cells #[.int .i64 a, .int .i64 b] 23) (.cells #[.int .i64 c, .int .i64 d] 23)
  have hR := (At2.new w a b 23).below (below1 _ (.cells #[.int .i64 c, .int .i64 d] 23))
  have hQ := At2.new (w.alloc (.cells #[.int .i64 a, .int .i64 b] 23)) c d 23
  rw [show (w.alloc (.cells #[.int .i64 a, .int .i64 b] 23)).heap.size = w.heap.size + 1 by simp] at hQ
  have hlw := hl.below hB
  go_enter Tryd.func5, Tryd.ntmps5
  go_wp2_with fail
  refine (hP _ hlw).mono ?_
  rintro e w1 ⟨rfl, hb⟩
  try clear c0 c1 f0 f1
  try clear e0 e1 g0 g1
  replace hB := Below.thenB hB hb
  replace hR := hR.below hb
  replace hQ := hQ.below hb
  replace hlw := hl.below hB
  obtain ⟨c0, c1, f0, f1⟩ := id hR
  obtain ⟨e0, e1, g0, g1⟩ := id hQ
  go_wp2_with fail
  refine (hC _ hlw).mono ?_
  rintro e w1 ⟨rfl, hb⟩
  try clear c0 c1 f0 f1
  try clear e0 e1 g0 g1
  replace hB := Below.thenB hB hb
  replace hR := hR.below hb
  replace hQ := hQ.below hb
  replace hlw := hl.below hB
  obtain ⟨c0, c1, f0, f1⟩ := id hR
  obtain ⟨e0, e1, g0, g1⟩ := id hQ
  go_wp2_with fail
  refine (keyed_walk _).mono ?_
  rintro e w1 ⟨rfl, hb⟩
  try clear c0 c1 f0 f1
  try clear e0 e1 g0 g1
  replace hB := Below.thenB hB hb
  replace hR := hR.below hb
  replace hQ := hQ.below hb
  replace hlw := hl.below hB
  obtain ⟨c0, c1, f0, f1⟩ := id hR
  obtain ⟨e0, e1, g0, g1⟩ := id hQ
  go_wp2_with fail
  go_ret
  exact ⟨rfl, hB⟩
set_option maxRecDepth 100000 in
set_option maxHeartbeats 2000000 in
theorem apart_bad2 (a b c d : Int) (w : World) (hl : Laid w) (hP : Gives 7 #[.agg #[.int .i64 a, .int .i64 b]] (.tuple #[.string ⟨#[]⟩, .int .i64 3])) (hC : Gives 7 #[.agg #[.int .i64 c, .int .i64 d]] (.tuple #[.string ⟨#[]⟩, .int .i64 3]))  :
    Calls Tryd.prog 5 #[.agg #[.int .i64 a, .int .i64 b], .agg #[.int .i64 c, .int .i64 d]] w fun e w' => e = .returned (.bool true) ∧ Below w.heap.size w w' := by
  have hB := below2 w (.cells #[.int .i64 a, .int .i64 b] 23) (.cells #[.int .i64 c, .int .i64 d] 23)
  have hR := (At2.new w a b 23).below (below1 _ (.cells #[.int .i64 c, .int .i64 d] 23))
  have hQ := At2.new (w.alloc (.cells #[.int .i64 a, .int .i64 b] 23)) c d 23
  rw [show (w.alloc (.cells #[.int .i64 a, .int .i64 b] 23)).heap.size = w.heap.size + 1 by simp] at hQ
  have hlw := hl.below hB
  go_enter Tryd.func5, Tryd.ntmps5
  go_wp2_with fail
  refine (hP _ hlw).mono ?_
  rintro e w1 ⟨rfl, hb⟩
  try clear c0 c1 f0 f1
  try clear e0 e1 g0 g1
  replace hB := Below.thenB hB hb
  replace hR := hR.below hb
  replace hQ := hQ.below hb
  replace hlw := hl.below hB
  obtain ⟨c0, c1, f0, f1⟩ := id hR
  obtain ⟨e0, e1, g0, g1⟩ := id hQ
  go_wp2_with fail
  refine (hC _ hlw).mono ?_
  rintro e w1 ⟨rfl, hb⟩
  try clear c0 c1 f0 f1
  try clear e0 e1 g0 g1
  replace hB := Below.thenB hB hb
  replace hR := hR.below hb
  replace hQ := hQ.below hb
  replace hlw := hl.below hB
  obtain ⟨c0, c1, f0, f1⟩ := id hR
  obtain ⟨e0, e1, g0, g1⟩ := id hQ
  go_wp2_with fail
  refine (keyed_walk _).mono ?_
  rintro e w1 ⟨rfl, hb⟩
  try clear c0 c1 f0 f1
  try clear e0 e1 g0 g1
  replace hB := Below.thenB hB hb
  replace hR := hR.below hb
  replace hQ := hQ.below hb
  replace hlw := hl.below hB
  obtain ⟨c0, c1, f0, f1⟩ := id hR
  obtain ⟨e0, e1, g0, g1⟩ := id hQ
  go_wp2_with fail
  go_ret
  exact ⟨rfl, hB⟩
end Go.Proofs.YtpmamacjepcdmaaDoor
