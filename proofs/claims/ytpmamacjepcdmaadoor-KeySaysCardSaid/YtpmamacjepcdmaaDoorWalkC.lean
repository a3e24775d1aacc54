import Derived.Test.YtpmamacjepcdmaaDoorWalkB
namespace Go.Proofs.YtpmamacjepcdmaaDoor
open Go Go.Proofs Go.RowKit
theorem str_ne {x y : ByteArray} (h : x ≠ y) : (x.toList == y.toList) = false := by
  rw [ByteArray.toList_eq, ByteArray.toList_eq]
  exact beq_false_of_ne fun e => h (ByteArray.ext (Array.toList_inj.1 e))
def keyV (a b : Int) : Value := .agg #[.int .i64 a, .int .i64 b]
/-- Two numbers that lie in a block of the call's own. -/
structure At2 (w : World) (A : Nat) (x y : Int) : Prop where
  c0 : w.cell? ⟨A, 0, none⟩ = some (.int .i64 x)
  c1 : w.cell? ⟨A, 1, none⟩ = some (.int .i64 y)
  f0 : w.frozen? ⟨A, 0, none⟩ = false
  f1 : w.frozen? ⟨A, 1, none⟩ = false
theorem At2.lt {w : World} {A : Nat} {x y : Int} (h : At2 w A x y) : A < w.heap.size := World.block_lt_of_cell? w _ h.c0
theorem At2.below {w w' : World} {A : Nat} {x y : Int} (h : At2 w A x y) (hb : Below w.heap.size w w') : At2 w' A x y :=
  ⟨cell_below hb h.c0, cell_below hb h.c1, (hb.frozen (p := ⟨A, 0, none⟩) h.lt).trans h.f0, (hb.frozen (p := ⟨A, 1, none⟩) h.lt).trans h.f1⟩
theorem At2.new (w : World) (x y : Int) (t : TypeId) : At2 (w.alloc (.cells #[.int .i64 x, .int .i64 y] t)) w.heap.size x y := ⟨by simp, by simp, by simp, by simp⟩
theorem At2.set0 {w : World} {A : Nat} {x y : Int} (h : At2 w A x y) (z : Int) : At2 (w.setCell ⟨A, 0, none⟩ (.int .i64 z)) A z y := by
  obtain ⟨c0, c1, f0, f1⟩ := h
  exact ⟨World.cell?_setCell_same _ _ _ (h := c0), (World.cell?_setCell_other _ _ _ _ (by simp)).trans c1, by rw [World.frozen?_setCell]; exact f0, by rw [World.frozen?_setCell]; exact f1⟩
theorem At2.set1 {w : World} {A : Nat} {x y : Int} (h : At2 w A x y) (z : Int) : At2 (w.setCell ⟨A, 1, none⟩ (.int .i64 z)) A x z := by
  obtain ⟨c0, c1, f0, f1⟩ := h
  exact ⟨(World.cell?_setCell_other _ _ _ _ (by simp)).trans c0, World.cell?_setCell_same _ _ _ (h := c1), by rw [World.frozen?_setCell]; exact f0, by rw [World.frozen?_setCell]; exact f1⟩
theorem At2.other {w : World} {A B : Nat} {x y : Int} (h : At2 w A x y) (hne : A ≠ B) (i : Nat) (z : Int) : At2 (w.setCell ⟨B, i, none⟩ (.int .i64 z)) A x y := by
  obtain ⟨c0, c1, f0, f1⟩ := h
  exact ⟨(World.cell?_setCell_other _ _ _ _ (fun e => hne (congrArg Addr.block e).symm)).trans c0, (World.cell?_setCell_other _ _ _ _ (fun e => hne (congrArg Addr.block e).symm)).trans c1, by rw [World.frozen?_setCell]; exact f0, by rw [World.frozen?_setCell]; exact f1⟩
end Go.Proofs.YtpmamacjepcdmaaDoor
