/- Walks: the law KeySays, a case a way through (printed by a program of ours). -/
import Derived.Test.YtpmamacjepcdmaaDoorSaysC
namespace Go.Proofs.YtpmamacjepcdmaaDoor
open Go Go.Proofs Go.RowKit
/-- What the law's own memory holds. -/
def Held4 (w : World) (A N : Nat) (a b x y : Int) (u : World) : Prop := u.cell? ⟨A, 0, none⟩ = some (.int .i64 a) ∧ u.cell? ⟨A, 1, none⟩ = some (.int .i64 b) ∧ u.cell? ⟨N, 0, none⟩ = some (.int .i64 x) ∧ u.cell? ⟨N, 1, none⟩ = some (.int .i64 y) ∧ Below w.heap.size w u
theorem held4_below {w u v : World} {A N : Nat} {a b x y : Int} (h : u.cell? ⟨A, 0, none⟩ = some (.int .i64 a) ∧ u.cell? ⟨A, 1, none⟩ = some (.int .i64 b) ∧ u.cell? ⟨N, 0, none⟩ = some (.int .i64 x) ∧ u.cell? ⟨N, 1, none⟩ = some (.int .i64 y) ∧ Below w.heap.size w u) (hb : Below u.heap.size u v) :
    v.cell? ⟨A, 0, none⟩ = some (.int .i64 a) ∧ v.cell? ⟨A, 1, none⟩ = some (.int .i64 b) ∧ v.cell? ⟨N, 0, none⟩ = some (.int .i64 x) ∧ v.cell? ⟨N, 1, none⟩ = some (.int .i64 y) ∧ Below w.heap.size w v :=
  ⟨cell_below hb h.1, cell_below hb h.2.1, cell_below hb h.2.2.1, cell_below hb h.2.2.2.1, Below.thenB h.2.2.2.2 hb⟩
theorem turn_held4 {w u : World} {A N : Nat} {a b x y : Int} (h : u.cell? ⟨A, 0, none⟩ = some (.int .i64 a) ∧ u.cell? ⟨A, 1, none⟩ = some (.int .i64 b) ∧ u.cell? ⟨N, 0, none⟩ = some (.int .i64 x) ∧ u.cell? ⟨N, 1, none⟩ = some (.int .i64 y) ∧ Below w.heap.size w u) :
    Calls Tryd.prog 12 #[.agg #[.int .i64 a, .int .i64 b]] u fun e w' => e = .returned (.agg #[.int .i64 b, .int .i64 a]) ∧ (w'.cell? ⟨A, 0, none⟩ = some (.int .i64 a) ∧ w'.cell? ⟨A, 1, none⟩ = some (.int .i64 b) ∧ w'.cell? ⟨N, 0, none⟩ = some (.int .i64 x) ∧ w'.cell? ⟨N, 1, none⟩ = some (.int .i64 y) ∧ Below w.heap.size w w') :=
  (turn_walk a b u).mono fun _ _ ⟨he, hb⟩ => ⟨he, held4_below h hb⟩
theorem keyed_held4 {w u : World} {A N : Nat} {a b x y : Int} (h : u.cell? ⟨A, 0, none⟩ = some (.int .i64 a) ∧ u.cell? ⟨A, 1, none⟩ = some (.int .i64 b) ∧ u.cell? ⟨N, 0, none⟩ = some (.int .i64 x) ∧ u.cell? ⟨N, 1, none⟩ = some (.int .i64 y) ∧ Below w.heap.size w u) :
    Calls Tryd.prog 10 #[] u fun e w' => e = .returned (.bool true) ∧ (w'.cell? ⟨A, 0, none⟩ = some (.int .i64 a) ∧ w'.cell? ⟨A, 1, none⟩ = some (.int .i64 b) ∧ w'.cell? ⟨N, 0, none⟩ = some (.int .i64 x) ∧ w'.cell? ⟨N, 1, none⟩ = some (.int .i64 y) ∧ Below w.heap.size w w') :=
  (keyed_walk u).mono fun _ _ ⟨he, hb⟩ => ⟨he, held4_below h hb⟩
theorem check_held4 {w u : World} {A N : Nat} {a b x y k : Int} (hk : chk a b = k) (h : u.cell? ⟨A, 0, none⟩ = some (.int .i64 a) ∧ u.cell? ⟨A, 1, none⟩ = some (.int .i64 b) ∧ u.cell? ⟨N, 0, none⟩ = some (.int .i64 x) ∧ u.cell? ⟨N, 1, none⟩ = some (.int .i64 y) ∧ Below w.heap.size w u) :
    Calls Tryd.prog 11 #[.agg #[.int .i64 a, .int .i64 b]] u fun e w' => e = .returned (.int .i64 k) ∧ (w'.cell? ⟨A, 0, none⟩ = some (.int .i64 a) ∧ w'.cell? ⟨A, 1, none⟩ = some (.int .i64 b) ∧ w'.cell? ⟨N, 0, none⟩ = some (.int .i64 x) ∧ w'.cell? ⟨N, 1, none⟩ = some (.int .i64 y) ∧ Below w.heap.size w w') :=
  (check_walk a b u).mono fun _ _ ⟨he, hw⟩ => ⟨by rw [he, hk], held4_below h (by rw [hw]; exact below1 _ _)⟩
set_option maxRecDepth 100000 in
set_option maxHeartbeats 4000000 in
theorem says_in_few (a b n x y c : Int) (s : ByteArray) (w : World) (hl : Laid w) (T : ByteArray) (hk : keyIs a b = true) (h1 : 1 ≤ n) (h4 : n ≤ 4) (K : Int) (hK : Gives 6 #[.agg #[.int .i64 a, .int .i64 b], .int .i64 n] (.tuple #[.int .i64 K, .int .i64 0])) (hP : Gives 7 #[.agg #[.int .i64 a, .int .i64 b]] (.tuple #[.string T, .int .i64 0])) (hX : Gives 8 #[.string s] (.tuple #[.agg #[.int .i64 x, .int .i64 y], .int .i64 c])) (hT : Gives 13 #[.agg #[.int .i64 a, .int .i64 b]] (.string T)) (hG : Gives 14 #[.agg #[.int .i64 a, .int .i64 b], .int .i64 n] (.int .i64 K)) (hs : s.size ≤ 20) (hD : Gives 15 #[.string s] (.tuple #[.agg #[.int .i64 x, .int .i64 y], .int .i64 c]))  :
    Calls Tryd.prog 3 #[.agg #[.int .i64 a, .int .i64 b], .int .i64 n, .string s] w fun e w' => e = .returned (.bool true) ∧ Below w.heap.size w w' := by
  have hc : chk a b = 0 := if_pos (by rw [hk])
  have hB := below1 w (.cells #[.int .i64 a, .int .i64 b] 23)
  have hR := At2.new w a b 23
  have hlw := hl.below hB
  obtain ⟨c0, c1, f0, f1⟩ := id hR
  go_enter Tryd.func3, Tryd.ntmps3
  go_wp2_with fail
  refine (hK _ hlw).mono ?_
  rintro e w1 ⟨rfl, hb⟩
  try clear c0 c1 f0 f1
  try clear n0 n1 m0 m1
  replace hB := Below.thenB hB hb
  replace hR := hR.below hb
  replace hlw := hl.below hB
  obtain ⟨c0, c1, f0, f1⟩ := id hR
  go_wp2_with fail
  refine (hP _ hlw).mono ?_
  rintro e w1 ⟨rfl, hb⟩
  try clear c0 c1 f0 f1
  try clear n0 n1 m0 m1
  replace hB := Below.thenB hB hb
  replace hR := hR.below hb
  replace hlw := hl.below hB
  obtain ⟨c0, c1, f0, f1⟩ := id hR
  go_wp2_with fail
  refine (hX _ hlw).mono ?_
  rintro e w1 ⟨rfl, hb⟩
  try clear c0 c1 f0 f1
  try clear n0 n1 m0 m1
  replace hB := Below.thenB hB hb
  replace hR := hR.below hb
  replace hlw := hl.below hB
  obtain ⟨c0, c1, f0, f1⟩ := id hR
  have hN := At2.new w1 x y 23
  replace hB := hB.alloc hB.size (.cells #[.int .i64 x, .int .i64 y] 23)
  replace hR := hR.below (below1 _ (.cells #[.int .i64 x, .int .i64 y] 23))
  clear c0 c1 f0 f1
  replace hlw := hl.below hB
  obtain ⟨c0, c1, f0, f1⟩ := id hR
  obtain ⟨n0, n1, m0, m1⟩ := id hN
  generalize hN1 : w1.heap.size = N at *
  go_wp2_with (go_at_call 9; refine (isKey_walk a b _).mono ?_)
  generalize hW1 : w1.alloc (.cells #[.int .i64 x, .int .i64 y] 23) = W1 at *
  rintro e w1 ⟨rfl, hb⟩
  rw [hk]
  try clear c0 c1 f0 f1
  try clear n0 n1 m0 m1
  replace hB := Below.thenB hB hb
  replace hR := hR.below hb
  replace hN := hN.below hb
  replace hlw := hl.below hB
  obtain ⟨c0, c1, f0, f1⟩ := id hR
  obtain ⟨n0, n1, m0, m1⟩ := id hN
  go_wp2_with fail
  go_region_held3 (fun u => u.cell? ⟨w.heap.size, 0, none⟩ = some (.int .i64 a) ∧ u.cell? ⟨w.heap.size, 1, none⟩ = some (.int .i64 b) ∧ u.cell? ⟨N, 0, none⟩ = some (.int .i64 x) ∧ u.cell? ⟨N, 1, none⟩ = some (.int .i64 y) ∧ Below w.heap.size w u) (first | assumption | exact ⟨c0, c1, n0, n1, hB⟩ | exact ⟨c0, c1, n0, n1, hB.drew⟩ | go_keep) (first | (go_at_call 12; refine (turn_held4 (by assumption)).mono ?_; rintro e w' ⟨rfl, hS⟩) | (go_at_call 10; refine (keyed_held4 (by assumption)).mono ?_; rintro e w' ⟨rfl, hS⟩) | (go_at_call 11; refine (check_held4 hc (by assumption)).mono ?_; rintro e w' ⟨rfl, hS⟩))
  rename_i hS
  try clear c0 c1 f0 f1
  try clear n0 n1 m0 m1
  try clear hN
  try clear hR
  try clear hB
  replace hlw := hl.below hS.2.2.2.2
  obtain ⟨c0, c1, n0, n1, hB⟩ := id hS
  go_wp2_with fail
  refine (hT _ hlw).mono ?_
  rintro e w1 ⟨rfl, hb⟩
  try clear c0 c1
  try clear n0 n1
  try clear hB
  replace hS := held4_below hS hb
  replace hlw := hl.below hS.2.2.2.2
  obtain ⟨c0, c1, n0, n1, hB⟩ := id hS
  go_wp2_with fail
  refine (hG _ hlw).mono ?_
  rintro e w1 ⟨rfl, hb⟩
  try clear c0 c1
  try clear n0 n1
  try clear hB
  replace hS := held4_below hS hb
  replace hlw := hl.below hS.2.2.2.2
  obtain ⟨c0, c1, n0, n1, hB⟩ := id hS
  go_wp2_with fail
  refine (hD _ hlw).mono ?_
  rintro e w1 ⟨rfl, hb⟩
  try clear c0 c1
  try clear n0 n1
  try clear hB
  replace hS := held4_below hS hb
  replace hlw := hl.below hS.2.2.2.2
  obtain ⟨c0, c1, n0, n1, hB⟩ := id hS
  have hN := At2.new w1 x y 23
  have hS' := held4_below hS (below1 w1 (.cells #[.int .i64 x, .int .i64 y] 23))
  clear c0 c1 n0 n1 hB hS hb
  obtain ⟨c0, c1, n0, n1, hB⟩ := id hS'
  obtain ⟨p0, p1, _, _⟩ := id hN
  go_wp2_with fail
  go_ret
  exact ⟨by simp, hB⟩
set_option maxRecDepth 100000 in
set_option maxHeartbeats 4000000 in
theorem says_in_many (a b n : Int) (s : ByteArray) (w : World) (hl : Laid w) (T : ByteArray) (hk : keyIs a b = true) (h1 : 1 ≤ n) (h4 : n ≤ 4) (K : Int) (hK : Gives 6 #[.agg #[.int .i64 a, .int .i64 b], .int .i64 n] (.tuple #[.int .i64 K, .int .i64 0])) (hP : Gives 7 #[.agg #[.int .i64 a, .int .i64 b]] (.tuple #[.string T, .int .i64 0])) (hX : Gives 8 #[.string s] (.tuple #[.agg #[.int .i64 0, .int .i64 0], .int .i64 2])) (hT : Gives 13 #[.agg #[.int .i64 a, .int .i64 b]] (.string T)) (hG : Gives 14 #[.agg #[.int .i64 a, .int .i64 b], .int .i64 n] (.int .i64 K)) (hs : 20 < s.size) (hm : s.size ≤ 9223372036854775807)  :
    Calls Tryd.prog 3 #[.agg #[.int .i64 a, .int .i64 b], .int .i64 n, .string s] w fun e w' => e = .returned (.bool true) ∧ Below w.heap.size w w' := by
  have hc : chk a b = 0 := if_pos (by rw [hk])
  have hB := below1 w (.cells #[.int .i64 a, .int .i64 b] 23)
  have hR := At2.new w a b 23
  have hlw := hl.below hB
  obtain ⟨c0, c1, f0, f1⟩ := id hR
  go_enter Tryd.func3, Tryd.ntmps3
  go_wp2_with fail
  refine (hK _ hlw).mono ?_
  rintro e w1 ⟨rfl, hb⟩
  try clear c0 c1 f0 f1
  try clear n0 n1 m0 m1
  replace hB := Below.thenB hB hb
  replace hR := hR.below hb
  replace hlw := hl.below hB
  obtain ⟨c0, c1, f0, f1⟩ := id hR
  go_wp2_with fail
  refine (hP _ hlw).mono ?_
  rintro e w1 ⟨rfl, hb⟩
  try clear c0 c1 f0 f1
  try clear n0 n1 m0 m1
  replace hB := Below.thenB hB hb
  replace hR := hR.below hb
  replace hlw := hl.below hB
  obtain ⟨c0, c1, f0, f1⟩ := id hR
  go_wp2_with fail
  refine (hX _ hlw).mono ?_
  rintro e w1 ⟨rfl, hb⟩
  try clear c0 c1 f0 f1
  try clear n0 n1 m0 m1
  replace hB := Below.thenB hB hb
  replace hR := hR.below hb
  replace hlw := hl.below hB
  obtain ⟨c0, c1, f0, f1⟩ := id hR
  have hN := At2.new w1 0 0 23
  replace hB := hB.alloc hB.size (.cells #[.int .i64 0, .int .i64 0] 23)
  replace hR := hR.below (below1 _ (.cells #[.int .i64 0, .int .i64 0] 23))
  clear c0 c1 f0 f1
  replace hlw := hl.below hB
  obtain ⟨c0, c1, f0, f1⟩ := id hR
  obtain ⟨n0, n1, m0, m1⟩ := id hN
  generalize hN1 : w1.heap.size = N at *
  go_wp2_with (go_at_call 9; refine (isKey_walk a b _).mono ?_)
  generalize hW1 : w1.alloc (.cells #[.int .i64 0, .int .i64 0] 23) = W1 at *
  rintro e w1 ⟨rfl, hb⟩
  rw [hk]
  try clear c0 c1 f0 f1
  try clear n0 n1 m0 m1
  replace hB := Below.thenB hB hb
  replace hR := hR.below hb
  replace hN := hN.below hb
  replace hlw := hl.below hB
  obtain ⟨c0, c1, f0, f1⟩ := id hR
  obtain ⟨n0, n1, m0, m1⟩ := id hN
  go_wp2_with fail
  go_region_held3 (fun u => u.cell? ⟨w.heap.size, 0, none⟩ = some (.int .i64 a) ∧ u.cell? ⟨w.heap.size, 1, none⟩ = some (.int .i64 b) ∧ u.cell? ⟨N, 0, none⟩ = some (.int .i64 0) ∧ u.cell? ⟨N, 1, none⟩ = some (.int .i64 0) ∧ Below w.heap.size w u) (first | assumption | exact ⟨c0, c1, n0, n1, hB⟩ | exact ⟨c0, c1, n0, n1, hB.drew⟩ | go_keep) (first | (go_at_call 12; refine (turn_held4 (by assumption)).mono ?_; rintro e w' ⟨rfl, hS⟩) | (go_at_call 10; refine (keyed_held4 (by assumption)).mono ?_; rintro e w' ⟨rfl, hS⟩) | (go_at_call 11; refine (check_held4 hc (by assumption)).mono ?_; rintro e w' ⟨rfl, hS⟩))
  rename_i hS
  try clear c0 c1 f0 f1
  try clear n0 n1 m0 m1
  try clear hN
  try clear hR
  try clear hB
  replace hlw := hl.below hS.2.2.2.2
  obtain ⟨c0, c1, n0, n1, hB⟩ := id hS
  go_wp2_with fail
  refine (hT _ hlw).mono ?_
  rintro e w1 ⟨rfl, hb⟩
  try clear c0 c1
  try clear n0 n1
  try clear hB
  replace hS := held4_below hS hb
  replace hlw := hl.below hS.2.2.2.2
  obtain ⟨c0, c1, n0, n1, hB⟩ := id hS
  go_wp2_with fail
  refine (hG _ hlw).mono ?_
  rintro e w1 ⟨rfl, hb⟩
  try clear c0 c1
  try clear n0 n1
  try clear hB
  replace hS := held4_below hS hb
  replace hlw := hl.below hS.2.2.2.2
  obtain ⟨c0, c1, n0, n1, hB⟩ := id hS
  go_wp2_with fail
  go_ret
  exact ⟨by simp, hB⟩
set_option maxRecDepth 100000 in
set_option maxHeartbeats 4000000 in
theorem says_lo_few (a b n x y c : Int) (s : ByteArray) (w : World) (hl : Laid w) (T : ByteArray) (hk : keyIs a b = true) (h1 : n < 1) (hK : Gives 6 #[.agg #[.int .i64 a, .int .i64 b], .int .i64 n] (.tuple #[.int .i64 0, .int .i64 3])) (hP : Gives 7 #[.agg #[.int .i64 a, .int .i64 b]] (.tuple #[.string T, .int .i64 0])) (hX : Gives 8 #[.string s] (.tuple #[.agg #[.int .i64 x, .int .i64 y], .int .i64 c])) (hT : Gives 13 #[.agg #[.int .i64 a, .int .i64 b]] (.string T)) (hs : s.size ≤ 20) (hD : Gives 15 #[.string s] (.tuple #[.agg #[.int .i64 x, .int .i64 y], .int .i64 c]))  :
    Calls Tryd.prog 3 #[.agg #[.int .i64 a, .int .i64 b], .int .i64 n, .string s] w fun e w' => e = .returned (.bool true) ∧ Below w.heap.size w w' := by
  have hc : chk a b = 0 := if_pos (by rw [hk])
  have hB := below1 w (.cells #[.int .i64 a, .int .i64 b] 23)
  have hR := At2.new w a b 23
  have hlw := hl.below hB
  obtain ⟨c0, c1, f0, f1⟩ := id hR
  go_enter Tryd.func3, Tryd.ntmps3
  go_wp2_with fail
  refine (hK _ hlw).mono ?_
  rintro e w1 ⟨rfl, hb⟩
  try clear c0 c1 f0 f1
  try clear n0 n1 m0 m1
  replace hB := Below.thenB hB hb
  replace hR := hR.below hb
  replace hlw := hl.below hB
  obtain ⟨c0, c1, f0, f1⟩ := id hR
  go_wp2_with fail
  refine (hP _ hlw).mono ?_
  rintro e w1 ⟨rfl, hb⟩
  try clear c0 c1 f0 f1
  try clear n0 n1 m0 m1
  replace hB := Below.thenB hB hb
  replace hR := hR.below hb
  replace hlw := hl.below hB
  obtain ⟨c0, c1, f0, f1⟩ := id hR
  go_wp2_with fail
  refine (hX _ hlw).mono ?_
  rintro e w1 ⟨rfl, hb⟩
  try clear c0 c1 f0 f1
  try clear n0 n1 m0 m1
  replace hB := Below.thenB hB hb
  replace hR := hR.below hb
  replace hlw := hl.below hB
  obtain ⟨c0, c1, f0, f1⟩ := id hR
  have hN := At2.new w1 x y 23
  replace hB := hB.alloc hB.size (.cells #[.int .i64 x, .int .i64 y] 23)
  replace hR := hR.below (below1 _ (.cells #[.int .i64 x, .int .i64 y] 23))
  clear c0 c1 f0 f1
  replace hlw := hl.below hB
  obtain ⟨c0, c1, f0, f1⟩ := id hR
  obtain ⟨n0, n1, m0, m1⟩ := id hN
  generalize hN1 : w1.heap.size = N at *
  go_wp2_with (go_at_call 9; refine (isKey_walk a b _).mono ?_)
  generalize hW1 : w1.alloc (.cells #[.int .i64 x, .int .i64 y] 23) = W1 at *
  rintro e w1 ⟨rfl, hb⟩
  rw [hk]
  try clear c0 c1 f0 f1
  try clear n0 n1 m0 m1
  replace hB := Below.thenB hB hb
  replace hR := hR.below hb
  replace hN := hN.below hb
  replace hlw := hl.below hB
  obtain ⟨c0, c1, f0, f1⟩ := id hR
  obtain ⟨n0, n1, m0, m1⟩ := id hN
  go_wp2_with fail
  go_region_held3 (fun u => u.cell? ⟨w.heap.size, 0, none⟩ = some (.int .i64 a) ∧ u.cell? ⟨w.heap.size, 1, none⟩ = some (.int .i64 b) ∧ u.cell? ⟨N, 0, none⟩ = some (.int .i64 x) ∧ u.cell? ⟨N, 1, none⟩ = some (.int .i64 y) ∧ Below w.heap.size w u) (first | assumption | exact ⟨c0, c1, n0, n1, hB⟩ | exact ⟨c0, c1, n0, n1, hB.drew⟩ | go_keep) (first | (go_at_call 12; refine (turn_held4 (by assumption)).mono ?_; rintro e w' ⟨rfl, hS⟩) | (go_at_call 10; refine (keyed_held4 (by assumption)).mono ?_; rintro e w' ⟨rfl, hS⟩) | (go_at_call 11; refine (check_held4 hc (by assumption)).mono ?_; rintro e w' ⟨rfl, hS⟩))
  rename_i hS
  try clear c0 c1 f0 f1
  try clear n0 n1 m0 m1
  try clear hN
  try clear hR
  try clear hB
  replace hlw := hl.below hS.2.2.2.2
  obtain ⟨c0, c1, n0, n1, hB⟩ := id hS
  go_wp2_with fail
  refine (hT _ hlw).mono ?_
  rintro e w1 ⟨rfl, hb⟩
  try clear c0 c1
  try clear n0 n1
  try clear hB
  replace hS := held4_below hS hb
  replace hlw := hl.below hS.2.2.2.2
  obtain ⟨c0, c1, n0, n1, hB⟩ := id hS
  go_wp2_with fail
  refine (hD _ hlw).mono ?_
  rintro e w1 ⟨rfl, hb⟩
  try clear c0 c1
  try clear n0 n1
  try clear hB
  replace hS := held4_below hS hb
  replace hlw := hl.below hS.2.2.2.2
  obtain ⟨c0, c1, n0, n1, hB⟩ := id hS
  have hN := At2.new w1 x y 23
  have hS' := held4_below hS (below1 w1 (.cells #[.int .i64 x, .int .i64 y] 23))
  clear c0 c1 n0 n1 hB hS hb
  obtain ⟨c0, c1, n0, n1, hB⟩ := id hS'
  obtain ⟨p0, p1, _, _⟩ := id hN
  go_wp2_with fail
  go_ret
  exact ⟨by simp, hB⟩
set_option maxRecDepth 100000 in
set_option maxHeartbeats 4000000 in
theorem says_lo_many (a b n : Int) (s : ByteArray) (w : World) (hl : Laid w) (T : ByteArray) (hk : keyIs a b = true) (h1 : n < 1) (hK : Gives 6 #[.agg #[.int .i64 a, .int .i64 b], .int .i64 n] (.tuple #[.int .i64 0, .int .i64 3])) (hP : Gives 7 #[.agg #[.int .i64 a, .int .i64 b]] (.tuple #[.string T, .int .i64 0])) (hX : Gives 8 #[.string s] (.tuple #[.agg #[.int .i64 0, .int .i64 0], .int .i64 2])) (hT : Gives 13 #[.agg #[.int .i64 a, .int .i64 b]] (.string T)) (hs : 20 < s.size) (hm : s.size ≤ 9223372036854775807)  :
    Calls Tryd.prog 3 #[.agg #[.int .i64 a, .int .i64 b], .int .i64 n, .string s] w fun e w' => e = .returned (.bool true) ∧ Below w.heap.size w w' := by
  have hc : chk a b = 0 := if_pos (by rw [hk])
  have hB := below1 w (.cells #[.int .i64 a, .int .i64 b] 23)
  have hR := At2.new w a b 23
  have hlw := hl.below hB
  obtain ⟨c0, c1, f0, f1⟩ := id hR
  go_enter Tryd.func3, Tryd.ntmps3
  go_wp2_with fail
  refine (hK _ hlw).mono ?_
  rintro e w1 ⟨rfl, hb⟩
  try clear c0 c1 f0 f1
  try clear n0 n1 m0 m1
  replace hB := Below.thenB hB hb
  replace hR := hR.below hb
  replace hlw := hl.below hB
  obtain ⟨c0, c1, f0, f1⟩ := id hR
  go_wp2_with fail
  refine (hP _ hlw).mono ?_
  rintro e w1 ⟨rfl, hb⟩
  try clear c0 c1 f0 f1
  try clear n0 n1 m0 m1
  replace hB := Below.thenB hB hb
  replace hR := hR.below hb
  replace hlw := hl.below hB
  obtain ⟨c0, c1, f0, f1⟩ := id hR
  go_wp2_with fail
  refine (hX _ hlw).mono ?_
  rintro e w1 ⟨rfl, hb⟩
  try clear c0 c1 f0 f1
  try clear n0 n1 m0 m1
  replace hB := Below.thenB hB hb
  replace hR := hR.below hb
  replace hlw := hl.below hB
  obtain ⟨c0, c1, f0, f1⟩ := id hR
  have hN := At2.new w1 0 0 23
  replace hB := hB.alloc hB.size (.cells #[.int .i64 0, .int .i64 0] 23)
  replace hR := hR.below (below1 _ (.cells #[.int .i64 0, .int .i64 0] 23))
  clear c0 c1 f0 f1
  replace hlw := hl.below hB
  obtain ⟨c0, c1, f0, f1⟩ := id hR
  obtain ⟨n0, n1, m0, m1⟩ := id hN
  generalize hN1 : w1.heap.size = N at *
  go_wp2_with (go_at_call 9; refine (isKey_walk a b _).mono ?_)
  generalize hW1 : w1.alloc (.cells #[.int .i64 0, .int .i64 0] 23) = W1 at *
  rintro e w1 ⟨rfl, hb⟩
  rw [hk]
  try clear c0 c1 f0 f1
  try clear n0 n1 m0 m1
  replace hB := Below.thenB hB hb
  replace hR := hR.below hb
  replace hN := hN.below hb
  replace hlw := hl.below hB
  obtain ⟨c0, c1, f0, f1⟩ := id hR
  obtain ⟨n0, n1, m0, m1⟩ := id hN
  go_wp2_with fail
  go_region_held3 (fun u => u.cell? ⟨w.heap.size, 0, none⟩ = some (.int .i64 a) ∧ u.cell? ⟨w.heap.size, 1, none⟩ = some (.int .i64 b) ∧ u.cell? ⟨N, 0, none⟩ = some (.int .i64 0) ∧ u.cell? ⟨N, 1, none⟩ = some (.int .i64 0) ∧ Below w.heap.size w u) (first | assumption | exact ⟨c0, c1, n0, n1, hB⟩ | exact ⟨c0, c1, n0, n1, hB.drew⟩ | go_keep) (first | (go_at_call 12; refine (turn_held4 (by assumption)).mono ?_; rintro e w' ⟨rfl, hS⟩) | (go_at_call 10; refine (keyed_held4 (by assumption)).mono ?_; rintro e w' ⟨rfl, hS⟩) | (go_at_call 11; refine (check_held4 hc (by assumption)).mono ?_; rintro e w' ⟨rfl, hS⟩))
  rename_i hS
  try clear c0 c1 f0 f1
  try clear n0 n1 m0 m1
  try clear hN
  try clear hR
  try clear hB
  replace hlw := hl.below hS.2.2.2.2
  obtain ⟨c0, c1, n0, n1, hB⟩ := id hS
  go_wp2_with fail
  refine (hT _ hlw).mono ?_
  rintro e w1 ⟨rfl, hb⟩
  try clear c0 c1
  try clear n0 n1
  try clear hB
  replace hS := held4_below hS hb
  replace hlw := hl.below hS.2.2.2.2
  obtain ⟨c0, c1, n0, n1, hB⟩ := id hS
  go_wp2_with fail
  go_ret
  exact ⟨by simp, hB⟩
set_option maxRecDepth 100000 in
set_option maxHeartbeats 4000000 in
theorem says_hi_few (a b n x y c : Int) (s : ByteArray) (w : World) (hl : Laid w) (T : ByteArray) (hk : keyIs a b = true) (h1 : 1 ≤ n) (h4 : 4 < n) (hK : Gives 6 #[.agg #[.int .i64 a, .int .i64 b], .int .i64 n] (.tuple #[.int .i64 0, .int .i64 3])) (hP : Gives 7 #[.agg #[.int .i64 a, .int .i64 b]] (.tuple #[.string T, .int .i64 0])) (hX : Gives 8 #[.string s] (.tuple #[.agg #[.int .i64 x, .int .i64 y], .int .i64 c])) (hT : Gives 13 #[.agg #[.int .i64 a, .int .i64 b]] (.string T)) (hs : s.size ≤ 20) (hD : Gives 15 #[.string s] (.tuple #[.agg #[.int .i64 x, .int .i64 y], .int .i64 c]))  :
    Calls Tryd.prog 3 #[.agg #[.int .i64 a, .int .i64 b], .int .i64 n, .string s] w fun e w' => e = .returned (.bool true) ∧ Below w.heap.size w w' := by
  have hc : chk a b = 0 := if_pos (by rw [hk])
  have hB := below1 w (.cells #[.int .i64 a, .int .i64 b] 23)
  have hR := At2.new w a b 23
  have hlw := hl.below hB
  obtain ⟨c0, c1, f0, f1⟩ := id hR
  go_enter Tryd.func3, Tryd.ntmps3
  go_wp2_with fail
  refine (hK _ hlw).mono ?_
  rintro e w1 ⟨rfl, hb⟩
  try clear c0 c1 f0 f1
  try clear n0 n1 m0 m1
  replace hB := Below.thenB hB hb
  replace hR := hR.below hb
  replace hlw := hl.below hB
  obtain ⟨c0, c1, f0, f1⟩ := id hR
  go_wp2_with fail
  refine (hP _ hlw).mono ?_
  rintro e w1 ⟨rfl, hb⟩
  try clear c0 c1 f0 f1
  try clear n0 n1 m0 m1
  replace hB := Below.thenB hB hb
  replace hR := hR.below hb
  replace hlw := hl.below hB
  obtain ⟨c0, c1, f0, f1⟩ := id hR
  go_wp2_with fail
  refine (hX _ hlw).mono ?_
  rintro e w1 ⟨rfl, hb⟩
  try clear c0 c1 f0 f1
  try clear n0 n1 m0 m1
  replace hB := Below.thenB hB hb
  replace hR := hR.below hb
  replace hlw := hl.below hB
  obtain ⟨c0, c1, f0, f1⟩ := id hR
  have hN := At2.new w1 x y 23
  replace hB := hB.alloc hB.size (.cells #[.int .i64 x, .int .i64 y] 23)
  replace hR := hR.below (below1 _ (.cells #[.int .i64 x, .int .i64 y] 23))
  clear c0 c1 f0 f1
  replace hlw := hl.below hB
  obtain ⟨c0, c1, f0, f1⟩ := id hR
  obtain ⟨n0, n1, m0, m1⟩ := id hN
  generalize hN1 : w1.heap.size = N at *
  go_wp2_with (go_at_call 9; refine (isKey_walk a b _).mono ?_)
  generalize hW1 : w1.alloc (.cells #[.int .i64 x, .int .i64 y] 23) = W1 at *
  rintro e w1 ⟨rfl, hb⟩
  rw [hk]
  try clear c0 c1 f0 f1
  try clear n0 n1 m0 m1
  replace hB := Below.thenB hB hb
  replace hR := hR.below hb
  replace hN := hN.below hb
  replace hlw := hl.below hB
  obtain ⟨c0, c1, f0, f1⟩ := id hR
  obtain ⟨n0, n1, m0, m1⟩ := id hN
  go_wp2_with fail
  go_region_held3 (fun u => u.cell? ⟨w.heap.size, 0, none⟩ = some (.int .i64 a) ∧ u.cell? ⟨w.heap.size, 1, none⟩ = some (.int .i64 b) ∧ u.cell? ⟨N, 0, none⟩ = some (.int .i64 x) ∧ u.cell? ⟨N, 1, none⟩ = some (.int .i64 y) ∧ Below w.heap.size w u) (first | assumption | exact ⟨c0, c1, n0, n1, hB⟩ | exact ⟨c0, c1, n0, n1, hB.drew⟩ | go_keep) (first | (go_at_call 12; refine (turn_held4 (by assumption)).mono ?_; rintro e w' ⟨rfl, hS⟩) | (go_at_call 10; refine (keyed_held4 (by assumption)).mono ?_; rintro e w' ⟨rfl, hS⟩) | (go_at_call 11; refine (check_held4 hc (by assumption)).mono ?_; rintro e w' ⟨rfl, hS⟩))
  rename_i hS
  try clear c0 c1 f0 f1
  try clear n0 n1 m0 m1
  try clear hN
  try clear hR
  try clear hB
  replace hlw := hl.below hS.2.2.2.2
  obtain ⟨c0, c1, n0, n1, hB⟩ := id hS
  go_wp2_with fail
  refine (hT _ hlw).mono ?_
  rintro e w1 ⟨rfl, hb⟩
  try clear c0 c1
  try clear n0 n1
  try clear hB
  replace hS := held4_below hS hb
  replace hlw := hl.below hS.2.2.2.2
  obtain ⟨c0, c1, n0, n1, hB⟩ := id hS
  go_wp2_with fail
  refine (hD _ hlw).mono ?_
  rintro e w1 ⟨rfl, hb⟩
  try clear c0 c1
  try clear n0 n1
  try clear hB
  replace hS := held4_below hS hb
  replace hlw := hl.below hS.2.2.2.2
  obtain ⟨c0, c1, n0, n1, hB⟩ := id hS
  have hN := At2.new w1 x y 23
  have hS' := held4_below hS (below1 w1 (.cells #[.int .i64 x, .int .i64 y] 23))
  clear c0 c1 n0 n1 hB hS hb
  obtain ⟨c0, c1, n0, n1, hB⟩ := id hS'
  obtain ⟨p0, p1, _, _⟩ := id hN
  go_wp2_with fail
  go_ret
  exact ⟨by simp, hB⟩
set_option maxRecDepth 100000 in
set_option maxHeartbeats 4000000 in
theorem says_hi_many (a b n : Int) (s : ByteArray) (w : World) (hl : Laid w) (T : ByteArray) (hk : keyIs a b = true) (h1 : 1 ≤ n) (h4 : 4 < n) (hK : Gives 6 #[.agg #[.int .i64 a, .int .i64 b], .int .i64 n] (.tuple #[.int .i64 0, .int .i64 3])) (hP : Gives 7 #[.agg #[.int .i64 a, .int .i64 b]] (.tuple #[.string T, .int .i64 0])) (hX : Gives 8 #[.string s] (.tuple #[.agg #[.int .i64 0, .int .i64 0], .int .i64 2])) (hT : Gives 13 #[.agg #[.int .i64 a, .int .i64 b]] (.string T)) (hs : 20 < s.size) (hm : s.size ≤ 9223372036854775807)  :
    Calls Tryd.prog 3 #[.agg #[.int .i64 a, .int .i64 b], .int .i64 n, .string s] w fun e w' => e = .returned (.bool true) ∧ Below w.heap.size w w' := by
  have hc : chk a b = 0 := if_pos (by rw [hk])
  have hB := below1 w (.cells #[.int .i64 a, .int .i64 b] 23)
  have hR := At2.new w a b 23
  have hlw := hl.below hB
  obtain ⟨c0, c1, f0, f1⟩ := id hR
  go_enter Tryd.func3, Tryd.ntmps3
  go_wp2_with fail
  refine (hK _ hlw).mono ?_
  rintro e w1 ⟨rfl, hb⟩
  try clear c0 c1 f0 f1
  try clear n0 n1 m0 m1
  replace hB := Below.thenB hB hb
  replace hR := hR.below hb
  replace hlw := hl.below hB
  obtain ⟨c0, c1, f0, f1⟩ := id hR
  go_wp2_with fail
  refine (hP _ hlw).mono ?_
  rintro e w1 ⟨rfl, hb⟩
  try clear c0 c1 f0 f1
  try clear n0 n1 m0 m1
  replace hB := Below.thenB hB hb
  replace hR := hR.below hb
  replace hlw := hl.below hB
  obtain ⟨c0, c1, f0, f1⟩ := id hR
  go_wp2_with fail
  refine (hX _ hlw).mono ?_
  rintro e w1 ⟨rfl, hb⟩
  try clear c0 c1 f0 f1
  try clear n0 n1 m0 m1
  replace hB := Below.thenB hB hb
  replace hR := hR.below hb
  replace hlw := hl.below hB
  obtain ⟨c0, c1, f0, f1⟩ := id hR
  have hN := At2.new w1 0 0 23
  replace hB := hB.alloc hB.size (.cells #[.int .i64 0, .int .i64 0] 23)
  replace hR := hR.below (below1 _ (.cells #[.int .i64 0, .int .i64 0] 23))
  clear c0 c1 f0 f1
  replace hlw := hl.below hB
  obtain ⟨c0, c1, f0, f1⟩ := id hR
  obtain ⟨n0, n1, m0, m1⟩ := id hN
  generalize hN1 : w1.heap.size = N at *
  go_wp2_with (go_at_call 9; refine (isKey_walk a b _).mono ?_)
  generalize hW1 : w1.alloc (.cells #[.int .i64 0, .int .i64 0] 23) = W1 at *
  rintro e w1 ⟨rfl, hb⟩
  rw [hk]
  try clear c0 c1 f0 f1
  try clear n0 n1 m0 m1
  replace hB := Below.thenB hB hb
  replace hR := hR.below hb
  replace hN := hN.below hb
  replace hlw := hl.below hB
  obtain ⟨c0, c1, f0, f1⟩ := id hR
  obtain ⟨n0, n1, m0, m1⟩ := id hN
  go_wp2_with fail
  go_region_held3 (fun u => u.cell? ⟨w.heap.size, 0, none⟩ = some (.int .i64 a) ∧ u.cell? ⟨w.heap.size, 1, none⟩ = some (.int .i64 b) ∧ u.cell? ⟨N, 0, none⟩ = some (.int .i64 0) ∧ u.cell? ⟨N, 1, none⟩ = some (.int .i64 0) ∧ Below w.heap.size w u) (first | assumption | exact ⟨c0, c1, n0, n1, hB⟩ | exact ⟨c0, c1, n0, n1, hB.drew⟩ | go_keep) (first | (go_at_call 12; refine (turn_held4 (by assumption)).mono ?_; rintro e w' ⟨rfl, hS⟩) | (go_at_call 10; refine (keyed_held4 (by assumption)).mono ?_; rintro e w' ⟨rfl, hS⟩) | (go_at_call 11; refine (check_held4 hc (by assumption)).mono ?_; rintro e w' ⟨rfl, hS⟩))
  rename_i hS
  try clear c0 c1 f0 f1
  try clear n0 n1 m0 m1
  try clear hN
  try clear hR
  try clear hB
  replace hlw := hl.below hS.2.2.2.2
  obtain ⟨c0, c1, n0, n1, hB⟩ := id hS
  go_wp2_with fail
  refine (hT _ hlw).mono ?_
  rintro e w1 ⟨rfl, hb⟩
  try clear c0 c1
  try clear n0 n1
  try clear hB
  replace hS := held4_below hS hb
  replace hlw := hl.below hS.2.2.2.2
  obtain ⟨c0, c1, n0, n1, hB⟩ := id hS
  go_wp2_with fail
  go_ret
  exact ⟨by simp, hB⟩
set_option maxRecDepth 100000 in
set_option maxHeartbeats 4000000 in
theorem says_no_few (a b n x y c : Int) (s : ByteArray) (w : World) (hl : Laid w) (hk : keyIs a b = false) (hK : Gives 6 #[.agg #[.int .i64 a, .int .i64 b], .int .i64 n] (.tuple #[.int .i64 0, .int .i64 3])) (hP : Gives 7 #[.agg #[.int .i64 a, .int .i64 b]] (.tuple #[.string ⟨#[]⟩, .int .i64 3])) (hX : Gives 8 #[.string s] (.tuple #[.agg #[.int .i64 x, .int .i64 y], .int .i64 c])) (hs : s.size ≤ 20) (hD : Gives 15 #[.string s] (.tuple #[.agg #[.int .i64 x, .int .i64 y], .int .i64 c]))  :
    Calls Tryd.prog 3 #[.agg #[.int .i64 a, .int .i64 b], .int .i64 n, .string s] w fun e w' => e = .returned (.bool true) ∧ Below w.heap.size w w' := by
  have hc : chk a b = 3 := if_neg (by rw [hk]; simp)
  have hB := below1 w (.cells #[.int .i64 a, .int .i64 b] 23)
  have hR := At2.new w a b 23
  have hlw := hl.below hB
  obtain ⟨c0, c1, f0, f1⟩ := id hR
  go_enter Tryd.func3, Tryd.ntmps3
  go_wp2_with fail
  refine (hK _ hlw).mono ?_
  rintro e w1 ⟨rfl, hb⟩
  try clear c0 c1 f0 f1
  try clear n0 n1 m0 m1
  replace hB := Below.thenB hB hb
  replace hR := hR.below hb
  replace hlw := hl.below hB
  obtain ⟨c0, c1, f0, f1⟩ := id hR
  go_wp2_with fail
  refine (hP _ hlw).mono ?_
  rintro e w1 ⟨rfl, hb⟩
  try clear c0 c1 f0 f1
  try clear n0 n1 m0 m1
  replace hB := Below.thenB hB hb
  replace hR := hR.below hb
  replace hlw := hl.below hB
  obtain ⟨c0, c1, f0, f1⟩ := id hR
  go_wp2_with fail
  refine (hX _ hlw).mono ?_
  rintro e w1 ⟨rfl, hb⟩
  try clear c0 c1 f0 f1
  try clear n0 n1 m0 m1
  replace hB := Below.thenB hB hb
  replace hR := hR.below hb
  replace hlw := hl.below hB
  obtain ⟨c0, c1, f0, f1⟩ := id hR
  have hN := At2.new w1 x y 23
  replace hB := hB.alloc hB.size (.cells #[.int .i64 x, .int .i64 y] 23)
  replace hR := hR.below (below1 _ (.cells #[.int .i64 x, .int .i64 y] 23))
  clear c0 c1 f0 f1
  replace hlw := hl.below hB
  obtain ⟨c0, c1, f0, f1⟩ := id hR
  obtain ⟨n0, n1, m0, m1⟩ := id hN
  generalize hN1 : w1.heap.size = N at *
  go_wp2_with (go_at_call 9; refine (isKey_walk a b _).mono ?_)
  generalize hW1 : w1.alloc (.cells #[.int .i64 x, .int .i64 y] 23) = W1 at *
  rintro e w1 ⟨rfl, hb⟩
  rw [hk]
  try clear c0 c1 f0 f1
  try clear n0 n1 m0 m1
  replace hB := Below.thenB hB hb
  replace hR := hR.below hb
  replace hN := hN.below hb
  replace hlw := hl.below hB
  obtain ⟨c0, c1, f0, f1⟩ := id hR
  obtain ⟨n0, n1, m0, m1⟩ := id hN
  go_wp2_with fail
  go_region_held3 (fun u => u.cell? ⟨w.heap.size, 0, none⟩ = some (.int .i64 a) ∧ u.cell? ⟨w.heap.size, 1, none⟩ = some (.int .i64 b) ∧ u.cell? ⟨N, 0, none⟩ = some (.int .i64 x) ∧ u.cell? ⟨N, 1, none⟩ = some (.int .i64 y) ∧ Below w.heap.size w u) (first | assumption | exact ⟨c0, c1, n0, n1, hB⟩ | exact ⟨c0, c1, n0, n1, hB.drew⟩ | go_keep) (first | (go_at_call 12; refine (turn_held4 (by assumption)).mono ?_; rintro e w' ⟨rfl, hS⟩) | (go_at_call 10; refine (keyed_held4 (by assumption)).mono ?_; rintro e w' ⟨rfl, hS⟩) | (go_at_call 11; refine (check_held4 hc (by assumption)).mono ?_; rintro e w' ⟨rfl, hS⟩))
  rename_i hS
  try clear c0 c1 f0 f1
  try clear n0 n1 m0 m1
  try clear hN
  try clear hR
  try clear hB
  replace hlw := hl.below hS.2.2.2.2
  obtain ⟨c0, c1, n0, n1, hB⟩ := id hS
  go_wp2_with fail
  refine (hD _ hlw).mono ?_
  rintro e w1 ⟨rfl, hb⟩
  try clear c0 c1
  try clear n0 n1
  try clear hB
  replace hS := held4_below hS hb
  replace hlw := hl.below hS.2.2.2.2
  obtain ⟨c0, c1, n0, n1, hB⟩ := id hS
  have hN := At2.new w1 x y 23
  have hS' := held4_below hS (below1 w1 (.cells #[.int .i64 x, .int .i64 y] 23))
  clear c0 c1 n0 n1 hB hS hb
  obtain ⟨c0, c1, n0, n1, hB⟩ := id hS'
  obtain ⟨p0, p1, _, _⟩ := id hN
  go_wp2_with fail
  go_ret
  exact ⟨by simp, hB⟩
set_option maxRecDepth 100000 in
set_option maxHeartbeats 4000000 in
theorem says_no_many (a b n : Int) (s : ByteArray) (w : World) (hl : Laid w) (hk : keyIs a b = false) (hK : Gives 6 #[.agg #[.int .i64 a, .int .i64 b], .int .i64 n] (.tuple #[.int .i64 0, .int .i64 3])) (hP : Gives 7 #[.agg #[.int .i64 a, .int .i64 b]] (.tuple #[.string ⟨#[]⟩, .int .i64 3])) (hX : Gives 8 #[.string s] (.tuple #[.agg #[.int .i64 0, .int .i64 0], .int .i64 2])) (hs : 20 < s.size) (hm : s.size ≤ 9223372036854775807)  :
    Calls Tryd.prog 3 #[.agg #[.int .i64 a, .int .i64 b], .int .i64 n, .string s] w fun e w' => e = .returned (.bool true) ∧ Below w.heap.size w w' := by
  have hc : chk a b = 3 := if_neg (by rw [hk]; simp)
  have hB := below1 w (.cells #[.int .i64 a, .int .i64 b] 23)
  have hR := At2.new w a b 23
  have hlw := hl.below hB
  obtain ⟨c0, c1, f0, f1⟩ := id hR
  go_enter Tryd.func3, Tryd.ntmps3
  go_wp2_with fail
  refine (hK _ hlw).mono ?_
  rintro e w1 ⟨rfl, hb⟩
  try clear c0 c1 f0 f1
  try clear n0 n1 m0 m1
  replace hB := Below.thenB hB hb
  replace hR := hR.below hb
  replace hlw := hl.below hB
  obtain ⟨c0, c1, f0, f1⟩ := id hR
  go_wp2_with fail
  refine (hP _ hlw).mono ?_
  rintro e w1 ⟨rfl, hb⟩
  try clear c0 c1 f0 f1
  try clear n0 n1 m0 m1
  replace hB := Below.thenB hB hb
  replace hR := hR.below hb
  replace hlw := hl.below hB
  obtain ⟨c0, c1, f0, f1⟩ := id hR
  go_wp2_with fail
  refine (hX _ hlw).mono ?_
  rintro e w1 ⟨rfl, hb⟩
  try clear c0 c1 f0 f1
  try clear n0 n1 m0 m1
  replace hB := Below.thenB hB hb
  replace hR := hR.below hb
  replace hlw := hl.below hB
  obtain ⟨c0, c1, f0, f1⟩ := id hR
  have hN := At2.new w1 0 0 23
  replace hB := hB.alloc hB.size (.cells #[.int .i64 0, .int .i64 0] 23)
  replace hR := hR.below (below1 _ (.cells #[.int .i64 0, .int .i64 0] 23))
  clear c0 c1 f0 f1
  replace hlw := hl.below hB
  obtain ⟨c0, c1, f0, f1⟩ := id hR
  obtain ⟨n0, n1, m0, m1⟩ := id hN
  generalize hN1 : w1.heap.size = N at *
  go_wp2_with (go_at_call 9; refine (isKey_walk a b _).mono ?_)
  generalize hW1 : w1.alloc (.cells #[.int .i64 0, .int .i64 0] 23) = W1 at *
  rintro e w1 ⟨rfl, hb⟩
  rw [hk]
  try clear c0 c1 f0 f1
  try clear n0 n1 m0 m1
  replace hB := Below.thenB hB hb
  replace hR := hR.below hb
  replace hN := hN.below hb
  replace hlw := hl.below hB
  obtain ⟨c0, c1, f0, f1⟩ := id hR
  obtain ⟨n0, n1, m0, m1⟩ := id hN
  go_wp2_with fail
  go_region_held3 (fun u => u.cell? ⟨w.heap.size, 0, none⟩ = some (.int .i64 a) ∧ u.cell? ⟨w.heap.size, 1, none⟩ = some (.int .i64 b) ∧ u.cell? ⟨N, 0, none⟩ = some (.int .i64 0) ∧ u.cell? ⟨N, 1, none⟩ = some (.int .i64 0) ∧ Below w.heap.size w u) (first | assumption | exact ⟨c0, c1, n0, n1, hB⟩ | exact ⟨c0, c1, n0, n1, hB.drew⟩ | go_keep) (first | (go_at_call 12; refine (turn_held4 (by assumption)).mono ?_; rintro e w' ⟨rfl, hS⟩) | (go_at_call 10; refine (keyed_held4 (by assumption)).mono ?_; rintro e w' ⟨rfl, hS⟩) | (go_at_call 11; refine (check_held4 hc (by assumption)).mono ?_; rintro e w' ⟨rfl, hS⟩))
  rename_i hS
  try clear c0 c1 f0 f1
  try clear n0 n1 m0 m1
  try clear hN
  try clear hR
  try clear hB
  replace hlw := hl.below hS.2.2.2.2
  obtain ⟨c0, c1, n0, n1, hB⟩ := id hS
  go_wp2_with fail
  go_ret
  exact ⟨by simp, hB⟩
theorem endV_is (k : KeyEnd) : ∃ x y c : Int, endV k = .tuple #[.agg #[.int .i64 x, .int .i64 y], .int .i64 c] := by
  cases k with
  | ok a b => exact ⟨a, b, 0, rfl⟩
  | many => exact ⟨0, 0, 2, rfl⟩
  | text => exact ⟨0, 0, 1, rfl⟩
  | range => exact ⟨0, 0, 3, rfl⟩
theorem says_walk (a b n : Int) (s : ByteArray) (hm : s.size ≤ 9223372036854775807) (w : World) (hl : Laid w) :
    Calls Tryd.prog 3 #[.agg #[.int .i64 a, .int .i64 b], .int .i64 n, .string s] w fun e w' => e = .returned (.bool true) ∧ Below w.heap.size w w' := by
  have hT : keyIs a b = true → Gives 13 #[.agg #[.int .i64 a, .int .i64 b]] (.string (bytes (keyText a b))) := fun hk u _ => keyText_walk a b u hk
  by_cases hs : 20 < s.size
  · have hX : Gives 8 #[.string s] (.tuple #[.agg #[.int .i64 0, .int .i64 0], .int .i64 2]) := fun u _ => parse_many s hs hm u
    cases hk : keyIs a b with
    | false => exact says_no_many a b n s w hl hk (fun u _ => bucket_bad a b n u hk) (fun u _ => print_bad a b u hk) hX hs hm
    | true =>
      by_cases h1 : 1 ≤ n
      · by_cases h4 : n ≤ 4
        · exact says_in_many a b n s w hl _ hk h1 h4 _ (fun u _ => bucket_in a b n u hk h1 h4) (fun u _ => print_ok a b u hk) hX (hT hk) (fun u _ => bucketOf_walk a b n u hk h1 h4) hs hm
        · exact says_hi_many a b n s w hl _ hk h1 (by omega) (fun u _ => bucket_out a b n u hk (by omega)) (fun u _ => print_ok a b u hk) hX (hT hk) hs hm
      · exact says_lo_many a b n s w hl _ hk (by omega) (fun u _ => bucket_out a b n u hk (by omega)) (fun u _ => print_ok a b u hk) hX (hT hk) hs hm
  · have hs : s.size ≤ 20 := by omega
    obtain ⟨x, y, c, e⟩ := endV_is (readKey s.data.toList)
    have ep : parseKey s.data.toList = readKey s.data.toList := if_neg (by rw [← size_list]; omega)
    have hX : Gives 8 #[.string s] (.tuple #[.agg #[.int .i64 x, .int .i64 y], .int .i64 c]) := fun u h => by
      have := parse_walk s hm u h
      rw [ep, e] at this
      exact this
    have hD : Gives 15 #[.string s] (.tuple #[.agg #[.int .i64 x, .int .i64 y], .int .i64 c]) := fun u h => by
      have := read_walk s hs u h
      rw [e] at this
      exact this
    cases hk : keyIs a b with
    | false => exact says_no_few a b n x y c s w hl hk (fun u _ => bucket_bad a b n u hk) (fun u _ => print_bad a b u hk) hX hs hD
    | true =>
      by_cases h1 : 1 ≤ n
      · by_cases h4 : n ≤ 4
        · exact says_in_few a b n x y c s w hl _ hk h1 h4 _ (fun u _ => bucket_in a b n u hk h1 h4) (fun u _ => print_ok a b u hk) hX (hT hk) (fun u _ => bucketOf_walk a b n u hk h1 h4) hs hD
        · exact says_hi_few a b n x y c s w hl _ hk h1 (by omega) (fun u _ => bucket_out a b n u hk (by omega)) (fun u _ => print_ok a b u hk) hX (hT hk) hs hD
      · exact says_lo_few a b n x y c s w hl _ hk (by omega) (fun u _ => bucket_out a b n u hk (by omega)) (fun u _ => print_ok a b u hk) hX (hT hk) hs hD
end Go.Proofs.YtpmamacjepcdmaaDoor

