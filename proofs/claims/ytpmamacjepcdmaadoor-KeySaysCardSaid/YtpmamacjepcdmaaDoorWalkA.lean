import Derived.Test.YtpmamacjepcdmaaDoorShelf
import Derived.Test.YtpmamacjepcdmaaDoorKey
import Derived.WalkKit
import Derived.ProofKit
import Derived.BigCall
import Derived.Deep.QuietTactic
import Derived.BigQuiet
import Derived.Laws.Concat
import Derived.WalkSmall
import Derived.LoopN
import Derived.KernelRfl
import Derived.Laws.ResultCell
import Derived.Laws.StructEq
namespace Go.Proofs.YtpmamacjepcdmaaDoor
open Go Go.Proofs Go.RowKit
theorem results_cell1 {fn : Func} {p : Tmp} {ty : TypeId} (h : fn.results = #[.cell p ty]) (tmps : Array Value) (P : Program) (w : World) :
    (results fn tmps).run P w = ((asAddr (tmps.getD p undef)).run P w).andThen fun a w₁ => (loadVar ty a).run P w₁ := by
  simp only [results, h]
  simp [Sem.run_bind, Result.andThen]
set_option maxRecDepth 100000 in
theorem turn_walk (a b : Int) (w : World) : Calls Tryd.prog 12 #[.agg #[.int .i64 a, .int .i64 b]] w fun e w' => e = .returned (.agg #[.int .i64 b, .int .i64 a]) ∧ Below w.heap.size w w' := by
  go_enter Tryd.func12, Tryd.ntmps12
  go_wp2
  (try simp only [Exit.inBlock, Exit.then])
  refine bodyPost_ret (v := .agg #[.int .i64 b, .int .i64 a]) ?_ rfl ⟨rfl, ?_⟩
  · rw [results_cell1 rfl]
    go_simp
  · (repeat' (first | exact Below.refl _ _ | refine Below.drew ?_ | refine Below.alloc ?_ (by simp <;> omega) _))
theorem keyIs_iff {a b : Int} : keyIs a b = true ↔ 0 ≤ a ∧ a ≤ 15 ∧ 0 ≤ b ∧ b ≤ 15 := by unfold keyIs; simp
def chk (a b : Int) : Int := if keyIs a b = true then 0 else 3
set_option maxRecDepth 100000 in
theorem check_walk (a b : Int) (w : World) : Calls Tryd.prog 11 #[.agg #[.int .i64 a, .int .i64 b]] w fun e w' => e = .returned (.int .i64 (chk a b)) ∧ w' = w.alloc (.cells #[.int .i64 a, .int .i64 b] 23) := by
  have hk := @keyIs_iff a b
  have i0 : ∀ w, (Instr.index 43 (.agg #[.int .i64 a, .int .i64 b]) (.int .i64 0)).run Tryd.prog w = .ok (.int .i64 a) w := fun _ => by kernel_rfl
  have i1 : ∀ w, (Instr.index 43 (.agg #[.int .i64 a, .int .i64 b]) (.int .i64 1)).run Tryd.prog w = .ok (.int .i64 b) w := fun _ => by kernel_rfl
  by_cases a0 : a < 0
  · have hc : chk a b = 3 := if_neg fun h => by have := hk.1 h; omega
    go_enter Tryd.func11, Tryd.ntmps11
    go_wp2
    refine wp_loop_rounds 3 ?_
    rw [rounds_succ]; go_wp2
    go_ret
    exact ⟨congrArg (fun r => Ending.returned (Value.int .i64 r)) hc.symm, rfl⟩
  by_cases a1 : 15 < a
  · have hc : chk a b = 3 := if_neg fun h => by have := hk.1 h; omega
    go_enter Tryd.func11, Tryd.ntmps11
    go_wp2
    refine wp_loop_rounds 3 ?_
    rw [rounds_succ]; go_wp2
    go_ret
    exact ⟨congrArg (fun r => Ending.returned (Value.int .i64 r)) hc.symm, rfl⟩
  by_cases b0 : b < 0
  · have hc : chk a b = 3 := if_neg fun h => by have := hk.1 h; omega
    go_enter Tryd.func11, Tryd.ntmps11
    go_wp2
    refine wp_loop_rounds 3 ?_
    rw [rounds_succ]; go_wp2
    rw [rounds_succ]; go_wp2
    go_ret
    exact ⟨congrArg (fun r => Ending.returned (Value.int .i64 r)) hc.symm, rfl⟩
  by_cases b1 : 15 < b
  · have hc : chk a b = 3 := if_neg fun h => by have := hk.1 h; omega
    go_enter Tryd.func11, Tryd.ntmps11
    go_wp2
    refine wp_loop_rounds 3 ?_
    rw [rounds_succ]; go_wp2
    rw [rounds_succ]; go_wp2
    go_ret
    exact ⟨congrArg (fun r => Ending.returned (Value.int .i64 r)) hc.symm, rfl⟩
  have hc : chk a b = 0 := if_pos (hk.2 (by omega))
  go_enter Tryd.func11, Tryd.ntmps11
  go_wp2
  refine wp_loop_rounds 3 ?_
  rw [rounds_succ]; go_wp2
  rw [rounds_succ]; go_wp2
  rw [rounds_succ]; go_wp2
  go_ret
  exact ⟨congrArg (fun r => Ending.returned (Value.int .i64 r)) hc.symm, rfl⟩
theorem dec_len (i : Nat) (h : i < 16) : (Lib.decDigits i).length ≤ 2 := by
  have : ∀ k : Fin 16, (Lib.decDigits k.val).length ≤ 2 := by decide +kernel
  exact this ⟨i, h⟩
theorem itoa_nat (i : Nat) : Lib.itoa (i : Int) = Lib.decDigits i := by
  unfold Lib.itoa
  rw [if_neg (by omega), Int.toNat_natCast]
def bytes (l : List UInt8) : ByteArray := ⟨l.toArray⟩
set_option maxRecDepth 100000 in
theorem print_bad (a b : Int) (w : World) (h : keyIs a b = false) : Calls Tryd.prog 7 #[.agg #[.int .i64 a, .int .i64 b]] w fun e w' => e = .returned (.tuple #[.string ⟨#[]⟩, .int .i64 3]) ∧ Below w.heap.size w w' := by
  have hc : chk a b = 3 := if_neg (by rw [h]; simp)
  go_enter Tryd.func7, Tryd.ntmps7
  go_wp2_with (go_at_call 11; refine (check_walk a b _).mono ?_; rintro e w' ⟨rfl, rfl⟩; rw [hc])
  go_ret2
  exact ⟨rfl, by (repeat' (first | exact Below.refl _ _ | refine Below.drew ?_ | refine Below.alloc ?_ (by simp <;> omega) _))⟩
set_option maxRecDepth 100000 in
theorem print_ok (a b : Int) (w : World) (h : keyIs a b = true) : Calls Tryd.prog 7 #[.agg #[.int .i64 a, .int .i64 b]] w fun e w' => e = .returned (.tuple #[.string (bytes (keyText a b)), .int .i64 0]) ∧ Below w.heap.size w w' := by
  have hc : chk a b = 0 := if_pos h
  have hk := keyIs_iff.1 h
  obtain ⟨i, rfl⟩ : ∃ i : Nat, a = i := ⟨a.toNat, by omega⟩
  obtain ⟨j, rfl⟩ : ∃ j : Nat, b = j := ⟨b.toNat, by omega⟩
  have li := dec_len i (by omega)
  have lj := dec_len j (by omega)
  have s0 : (⟨(Lib.decDigits i).toArray⟩ : ByteArray).size = (Lib.decDigits i).length := by simp [ByteArray.size]
  have s1 : (⟨(Lib.decDigits j).toArray⟩ : ByteArray).size = (Lib.decDigits j).length := by simp [ByteArray.size]
  go_enter Tryd.func7, Tryd.ntmps7
  go_wp2_with (go_at_call 11; refine (check_walk _ _ _).mono ?_; rintro e w' ⟨rfl, rfl⟩; rw [hc])
  go_quiet (first | (go_at_call 16; exact Calls.quiet_of_same (Tryd.strconv_Itoa_small i (by omega) _)) | (go_at_call 16; exact Calls.quiet_of_same (Tryd.strconv_Itoa_small j (by omega) _)))
  go_wp2
  go_ret2
  refine ⟨?_, below_drewN (((Below.refl _ w).alloc (Nat.le_refl _) _).alloc (by simp) _) _⟩
  have e : (⟨(Lib.decDigits i).toArray⟩ ++ ⟨#[62]⟩ ++ ⟨(Lib.decDigits j).toArray⟩ : ByteArray) = bytes (keyText i j) := by
    unfold bytes keyText
    rw [itoa_nat, itoa_nat]
    apply ByteArray.ext
    simp
  rw [e]; rfl
end Go.Proofs.YtpmamacjepcdmaaDoor
