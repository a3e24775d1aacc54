/- Walks: key.Parse as one; key.Bucket; keyed. -/
import Derived.Test.YtpmamacjepcdmaaDoorWalkD
namespace Go.Proofs.YtpmamacjepcdmaaDoor
open Go Go.Proofs Go.RowKit
def endV : KeyEnd → Value
  | .ok a b => .tuple #[keyV a b, .int .i64 0]
  | .many => .tuple #[keyV 0 0, .int .i64 2]
  | .text => .tuple #[keyV 0 0, .int .i64 1]
  | .range => .tuple #[keyV 0 0, .int .i64 3]
theorem data_bytes (l : List UInt8) : (bytes l).data.toList = l := by unfold bytes; simp
theorem size_list (s : ByteArray) : s.size = s.data.toList.length := Lib.size_eq s
theorem size_bytes (l : List UInt8) : (bytes l).size = l.length := by rw [size_list, data_bytes]
theorem sides_le (l : List UInt8) : (sides l).1.length ≤ l.length ∧ (sides l).2.1.length ≤ l.length := by
  by_cases h : (62 : UInt8) ∈ l
  · obtain ⟨a, b, rfl, ha⟩ := first_of h
    rw [sides_at ha]
    simp only [List.length_append, List.length_cons]
    omega
  · rw [sides_miss h]
    simp
theorem numOf_bad {l : List UInt8} (h : ∀ v, Lib.atoiAll l ≠ .ok v) : numOf l = none := by
  unfold numOf
  split
  · rename_i v e; exact absurd e (h v)
  · rfl
theorem numOf_ne {l : List UInt8} {v : Int} (h : Lib.atoiAll l = .ok v) (hn : Lib.itoa v ≠ l) : numOf l = none := by
  unfold numOf
  rw [h]
  exact if_neg hn
theorem numOf_eq {l : List UInt8} {v : Int} (h : Lib.atoiAll l = .ok v) (hn : Lib.itoa v = l) : numOf l = some v := by
  unfold numOf
  rw [h]
  exact if_pos hn
theorem bytes_inj {a b : List UInt8} (h : bytes a = bytes b) : a = b := by
  have := congrArg (fun x => x.data.toList) h
  simpa [data_bytes] using this
theorem parse_walk (s : ByteArray) (hm : s.size ≤ 9223372036854775807) (w : World) (hl : Laid w) : Calls Tryd.prog 8 #[.string s] w fun e w' => e = .returned (endV (parseKey s.data.toList)) ∧ Below w.heap.size w w' := by
  by_cases hs : 20 < s.size
  · have : parseKey s.data.toList = .many := if_pos (by rw [← size_list]; exact hs)
    rw [this]
    exact parse_many s hs hm w
  have hs : s.size ≤ 20 := by omega
  have e0 : parseKey s.data.toList = readKey s.data.toList := if_neg (by rw [← size_list]; omega)
  rw [e0]
  obtain ⟨z1, z2⟩ := sides_le s.data.toList
  rw [← size_list] at z1 z2
  obtain ⟨P, hP⟩ : ∃ P, (sides s.data.toList).1 = P := ⟨_, rfl⟩
  obtain ⟨Q, hQ⟩ : ∃ Q, (sides s.data.toList).2.1 = Q := ⟨_, rfl⟩
  have hp : bytes (sides s.data.toList).1 = bytes P := by rw [hP]
  have hq : bytes (sides s.data.toList).2.1 = bytes Q := by rw [hQ]
  rw [hP] at z1
  rw [hQ] at z2
  have hps : (bytes P).size ≤ 20 := by rw [size_bytes]; omega
  have hqs : (bytes Q).size ≤ 20 := by rw [size_bytes]; omega
  have er : readKey s.data.toList = match numOf P, numOf Q with
    | some a, some b => if (sides s.data.toList).2.2 = false then .text else if keyIs a b = true then .ok a b else .range
    | _, _ => .text := by unfold readKey; rw [hP, hQ]; rfl
  rw [er]
  by_cases h1 : ∃ v, Lib.atoiAll P = .ok v
  rotate_left
  · have h1 : ∀ v, Lib.atoiAll P ≠ .ok v := fun v e => h1 ⟨v, e⟩
    rw [numOf_bad h1]
    exact parse_pbad s (bytes P) (bytes Q) hs w hl hp hq _ rfl hps hqs (by rw [data_bytes]; exact h1)
  obtain ⟨v, hv⟩ := h1
  have hv' : Lib.atoiAll (bytes P).data.toList = .ok v := by rw [data_bytes]; exact hv
  by_cases h2 : Lib.itoa v = P
  rotate_left
  · rw [numOf_ne hv h2]
    exact parse_pne s (bytes P) (bytes Q) hs w hl hp hq _ rfl hps hqs v hv' fun e => h2 (bytes_inj e)
  rw [numOf_eq hv h2]
  have hvp : bytes (Lib.itoa v) = bytes P := by rw [h2]
  by_cases h3 : ∃ u, Lib.atoiAll Q = .ok u
  rotate_left
  · have h3 : ∀ v, Lib.atoiAll Q ≠ .ok v := fun v e => h3 ⟨v, e⟩
    rw [numOf_bad h3]
    exact parse_qbad s (bytes P) (bytes Q) hs w hl hp hq _ rfl hps hqs v hv' hvp (by rw [data_bytes]; exact h3)
  obtain ⟨u, hu⟩ := h3
  have hu' : Lib.atoiAll (bytes Q).data.toList = .ok u := by rw [data_bytes]; exact hu
  by_cases h4 : Lib.itoa u = Q
  rotate_left
  · rw [numOf_ne hu h4]
    exact parse_qne s (bytes P) (bytes Q) hs w hl hp hq _ rfl hps hqs v hv' hvp u hu' fun e => h4 (bytes_inj e)
  rw [numOf_eq hu h4]
  have huq : bytes (Lib.itoa u) = bytes Q := by rw [h4]
  simp only
  cases ho : (sides s.data.toList).2.2 with
  | false =>
    rw [if_pos rfl]
    exact parse_off s (bytes P) (bytes Q) hs w hl hp hq ho hps hqs v hv' hvp u hu' huq
  | true =>
    rw [if_neg (by simp)]
    by_cases hk : keyIs v u = true
    · rw [if_pos hk]
      exact parse_ok s (bytes P) (bytes Q) hs w hl hp hq ho hps hqs v hv' hvp u hu' huq (if_pos hk)
    · rw [if_neg hk]
      exact parse_range s (bytes P) (bytes Q) hs w hl hp hq ho hps hqs v hv' hvp u hu' huq (if_neg hk)
/-! ### Bucket -/
def bktV (a b n : Int) : Value := if keyIs a b = true ∧ 1 ≤ n ∧ n ≤ 4 then .tuple #[.int .i64 ((a * 7 + b * 3 + a * b) % n), .int .i64 0] else .tuple #[.int .i64 0, .int .i64 3]
theorem below1 (w : World) (o : Obj) : Below w.heap.size w (w.alloc o) := (Below.refl _ w).alloc (Nat.le_refl _) _
theorem below2 (w : World) (o p : Obj) : Below w.heap.size w ((w.alloc o).alloc p) := ((Below.refl _ w).alloc (Nat.le_refl _) _).alloc (by simp) _
set_option maxRecDepth 100000 in
theorem bucket_bad (a b n : Int) (w : World) (h : keyIs a b = false) : Calls Tryd.prog 6 #[.agg #[.int .i64 a, .int .i64 b], .int .i64 n] w fun e w' => e = .returned (.tuple #[.int .i64 0, .int .i64 3]) ∧ Below w.heap.size w w' := by
  have hc : chk a b = 3 := if_neg (by rw [h]; simp)
  go_enter Tryd.func6, Tryd.ntmps6
  go_wp2_with (go_at_call 11; refine (check_walk a b _).mono ?_; rintro e w' ⟨rfl, rfl⟩; rw [hc])
  go_ret2
  exact ⟨rfl, below2 _ _ _⟩
set_option maxRecDepth 100000 in
theorem bucket_out (a b n : Int) (w : World) (h : keyIs a b = true) (hn : n < 1 ∨ 4 < n) : Calls Tryd.prog 6 #[.agg #[.int .i64 a, .int .i64 b], .int .i64 n] w fun e w' => e = .returned (.tuple #[.int .i64 0, .int .i64 3]) ∧ Below w.heap.size w w' := by
  have hc : chk a b = 0 := if_pos h
  by_cases h1 : n < 1
  · go_enter Tryd.func6, Tryd.ntmps6
    go_wp2_with (go_at_call 11; refine (check_walk a b _).mono ?_; rintro e w' ⟨rfl, rfl⟩; rw [hc])
    go_ret2
    exact ⟨rfl, below2 _ _ _⟩
  · have h2 : 4 < n := by omega
    go_enter Tryd.func6, Tryd.ntmps6
    go_wp2_with (go_at_call 11; refine (check_walk a b _).mono ?_; rintro e w' ⟨rfl, rfl⟩; rw [hc])
    go_ret2
    exact ⟨rfl, below2 _ _ _⟩
set_option maxRecDepth 100000 in
theorem bucket_in (a b n : Int) (w : World) (h : keyIs a b = true) (h1 : 1 ≤ n) (h4 : n ≤ 4) : Calls Tryd.prog 6 #[.agg #[.int .i64 a, .int .i64 b], .int .i64 n] w fun e w' => e = .returned (.tuple #[.int .i64 ((a * 7 + b * 3 + a * b) % n), .int .i64 0]) ∧ Below w.heap.size w w' := by
  have hc : chk a b = 0 := if_pos h
  obtain ⟨k1, k2, k3, k4⟩ := keyIs_iff.1 h
  have m0 : 0 ≤ a * b := Int.mul_nonneg k1 k3
  have m1 : a * b ≤ 225 := by
    have := Int.mul_le_mul k2 k4 k3 (by omega : (0 : Int) ≤ 15)
    omega
  go_enter Tryd.func6, Tryd.ntmps6
  go_wp2_with (go_at_call 11; refine (check_walk a b _).mono ?_; rintro e w' ⟨rfl, rfl⟩; rw [hc])
  go_ret2
  exact ⟨rfl, below2 _ _ _⟩
end Go.Proofs.YtpmamacjepcdmaaDoor
