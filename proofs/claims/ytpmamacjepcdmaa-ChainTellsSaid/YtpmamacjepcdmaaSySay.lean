/- What truth values say. -/
import Derived.Test.YtpmamacjepcdmaaSyEq
namespace Go.Sy
section
variable {E : Env} {x y : X}
theorem lt_t : ((X.lt x y).den E).bool = true ↔ (x.den E).int < (y.den E).int := by simp [X.den, CD.bool]
theorem lt_f : ((X.lt x y).den E).bool = false ↔ ¬ (x.den E).int < (y.den E).int := by simp [X.den, CD.bool]
theorem le_t : ((X.le x y).den E).bool = true ↔ (x.den E).int ≤ (y.den E).int := by simp [X.den, CD.bool]
theorem le_f : ((X.le x y).den E).bool = false ↔ ¬ (x.den E).int ≤ (y.den E).int := by simp [X.den, CD.bool]
theorem eq_t : ((X.eq x y).den E).bool = true ↔ (x.den E).int = (y.den E).int := by simp [X.den, CD.bool]
theorem eq_f : ((X.eq x y).den E).bool = false ↔ ¬ (x.den E).int = (y.den E).int := by simp [X.den, CD.bool]
theorem beq_t : ((X.beq x y).den E).bool = true ↔ (x.den E).bool = (y.den E).bool := by simp [X.den, CD.bool]
theorem beq_f : ((X.beq x y).den E).bool = false ↔ ¬ (x.den E).bool = (y.den E).bool := by simp [X.den, CD.bool]
theorem not_t : ((X.not x).den E).bool = true ↔ (x.den E).bool = false := by simp [X.den, CD.bool]
theorem not_f : ((X.not x).den E).bool = false ↔ (x.den E).bool = true := by simp [X.den, CD.bool]
theorem and_t : ((X.and x y).den E).bool = true ↔ (x.den E).bool = true ∧ (y.den E).bool = true := by simp [X.den, CD.bool]
theorem and_f : ((X.and x y).den E).bool = false ↔ ¬ ((x.den E).bool = true ∧ (y.den E).bool = true) := by simp [X.den, CD.bool]
theorem or_t : ((X.or x y).den E).bool = true ↔ (x.den E).bool = true ∨ (y.den E).bool = true := by simp [X.den, CD.bool]
theorem or_f : ((X.or x y).den E).bool = false ↔ (x.den E).bool = false ∧ (y.den E).bool = false := by simp [X.den, CD.bool]
theorem fit_t : ((X.fit x).den E).bool = true ↔ -9223372036854775808 ≤ (x.den E).int ∧ (x.den E).int ≤ 9223372036854775807 := by simp [X.den, CD.bool]
theorem var_d {i : Nat} : (X.var i).den E = E i := rfl
theorem int_d {n : Int} : (X.int n).den E = .i n := rfl
theorem bool_d {n : Bool} : (X.bool n).den E = .b n := rfl
theorem add_d : (X.add x y).den E = .i ((x.den E).int + (y.den E).int) := rfl
theorem sub_d : (X.sub x y).den E = .i ((x.den E).int - (y.den E).int) := rfl
theorem len_d : (X.len x).den E = .i (x.den E).rows.length := rfl
theorem i_int {n : Int} : (CD.i n).int = n := rfl
theorem b_bool {n : Bool} : (CD.b n).bool = n := rfl
theorem l_rows {n : List (List CD)} : (CD.l n).rows = n := rfl
end
end Go.Sy
