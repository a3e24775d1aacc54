/- Walks: the document's IsKey, KeyText, BucketOf. -/
import Derived.Test.YtpmamacjepcdmaaDoorPlain
namespace Go.Proofs.YtpmamacjepcdmaaDoor
open Go Go.Proofs Go.RowKit
theorem keyIs_dec (a b : Int) : keyIs a b = decide (0 ≤ a ∧ a ≤ 15 ∧ 0 ≤ b ∧ b ≤ 15) := rfl
set_option maxRecDepth 100000 in
theorem isKey_walk (a b : Int) (w : World) : Calls Tryd.prog 9 #[.agg #[.int .i64 a, .int .i64 b]] w fun e w' => e = .returned (.bool (keyIs a b)) ∧ Below w.heap.size w w' := by
  have hk := @keyIs_iff a b
  have fin : ∀ (r : Bool) (W : World), (r = true ↔ 0 ≤ a ∧ a ≤ 15 ∧ 0 ≤ b ∧ b ≤ 15) → W = w.alloc (.cells #[.int .i64 a, .int .i64 b] 23) → (Ending.returned (.bool r) = .returned (.bool (keyIs a b)) ∧ Below w.heap.size w W) := by
    rintro r W h rfl
    refine ⟨?_, below1 _ _⟩
    have : r = keyIs a b := Bool.eq_iff_iff.2 (h.trans hk.symm)
    rw [this]
  by_cases a0 : 0 ≤ a
  rotate_left
  · go_enter Tryd.func9, Tryd.ntmps9
    go_wp2
    go_ret
    exact fin _ _ (by simp; omega) rfl
  by_cases a1 : a ≤ 15
  rotate_left
  · go_enter Tryd.func9, Tryd.ntmps9
    go_wp2
    go_ret
    exact fin _ _ (by simp; omega) rfl
  by_cases b0 : 0 ≤ b
  rotate_left
  · go_enter Tryd.func9, Tryd.ntmps9
    go_wp2
    go_ret
    exact fin _ _ (by simp; omega) rfl
  go_enter Tryd.func9, Tryd.ntmps9
  go_wp2
  go_ret
  exact fin _ _ (by simp; omega) rfl
set_option maxRecDepth 100000 in
theorem keyText_walk (a b : Int) (w : World) (h : keyIs a b = true) : Calls Tryd.prog 13 #[.agg #[.int .i64 a, .int .i64 b]] w fun e w' => e = .returned (.string (bytes (keyText a b))) ∧ Below w.heap.size w w' := by
  have hk := keyIs_iff.1 h
  obtain ⟨i, rfl⟩ : ∃ i : Nat, a = i := ⟨a.toNat, by omega⟩
  obtain ⟨j, rfl⟩ : ∃ j : Nat, b = j := ⟨b.toNat, by omega⟩
  have li := dec_len i (by omega)
  have lj := dec_len j (by omega)
  have s0 : (⟨(Lib.decDigits i).toArray⟩ : ByteArray).size = (Lib.decDigits i).length := by simp [ByteArray.size]
  have s1 : (⟨(Lib.decDigits j).toArray⟩ : ByteArray).size = (Lib.decDigits j).length := by simp [ByteArray.size]
  go_enter Tryd.func13, Tryd.ntmps13
  go_wp2_with fail
  go_quiet (first | (go_at_call 16; exact Calls.quiet_of_same (Tryd.strconv_Itoa_small i (by omega) _)) | (go_at_call 16; exact Calls.quiet_of_same (Tryd.strconv_Itoa_small j (by omega) _)))
  go_wp2
  go_ret
  refine ⟨?_, below_drewN (below1 _ _) _⟩
  have e : (⟨(Lib.decDigits i).toArray⟩ ++ ⟨#[62]⟩ ++ ⟨(Lib.decDigits j).toArray⟩ : ByteArray) = bytes (keyText i j) := by
    unfold bytes keyText
    rw [itoa_nat, itoa_nat]
    apply ByteArray.ext
    simp
  rw [e]; rfl
set_option maxRecDepth 100000 in
theorem bucketOf_walk (a b n : Int) (w : World) (h : keyIs a b = true) (h1 : 1 ≤ n) (h4 : n ≤ 4) : Calls Tryd.prog 14 #[.agg #[.int .i64 a, .int .i64 b], .int .i64 n] w fun e w' => e = .returned (.int .i64 ((a * 7 + b * 3 + a * b) % n)) ∧ Below w.heap.size w w' := by
  obtain ⟨k1, k2, k3, k4⟩ := keyIs_iff.1 h
  have m0 : 0 ≤ a * b := Int.mul_nonneg k1 k3
  have m1 : a * b ≤ 225 := by
    have := Int.mul_le_mul k2 k4 k3 (by omega : (0 : Int) ≤ 15)
    omega
  have ex : (a + 3) * (b + 7) = a * b + 7 * a + 3 * b + 21 := by
    rw [Int.add_mul, Int.mul_add, Int.mul_add]; omega
  go_enter Tryd.func14, Tryd.ntmps14
  go_wp2
  go_ret
  exact ⟨by rw [show a * b + 7 * a + 3 * b = a * 7 + b * 3 + a * b by omega]; rfl, below1 _ _⟩
end Go.Proofs.YtpmamacjepcdmaaDoor
