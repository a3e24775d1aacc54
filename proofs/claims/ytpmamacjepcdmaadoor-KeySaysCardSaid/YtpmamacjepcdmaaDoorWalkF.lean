import Derived.Test.YtpmamacjepcdmaaDoorWalkE
import Derived.Deep.RegionWith
namespace Go.Proofs.YtpmamacjepcdmaaDoor
open Go Go.Proofs Go.RowKit
theorem At2.drew {w : World} {A : Nat} {x y : Int} (h : At2 w A x y) : At2 w.drew A x y := ⟨h.c0, h.c1, h.f0, h.f1⟩
theorem Below.thenB {a w w' : World} (h : Below a.heap.size a w) (k : Below w.heap.size w w') : Below a.heap.size a w' := h.trans (k.mono h.size)
theorem bucket_12 (w : World) : Calls Tryd.prog 6 #[.agg #[.int .i64 1, .int .i64 2], .int .i64 2] w fun e w' => e = .returned (.tuple #[.int .i64 1, .int .i64 0]) ∧ Below w.heap.size w w' :=
  bucket_in 1 2 2 w (by decide) (by decide) (by decide)
theorem text_12 : bytes (keyText 1 2) = ⟨#[49, 62, 50]⟩ := by decide +kernel
theorem print_12 (w : World) : Calls Tryd.prog 7 #[.agg #[.int .i64 1, .int .i64 2]] w fun e w' => e = .returned (.tuple #[.string ⟨#[49, 62, 50]⟩, .int .i64 0]) ∧ Below w.heap.size w w' := by
  have := print_ok 1 2 w (by decide)
  rw [text_12] at this
  exact this
set_option maxRecDepth 100000 in
set_option maxHeartbeats 1000000 in
theorem keyed_walk (w : World) : Calls Tryd.prog 10 #[] w fun e w' => e = .returned (.bool true) ∧ Below w.heap.size w w' := by
  go_enter Tryd.func10, Tryd.ntmps10
  go_wp2_with (first | (go_at_call 6; refine (bucket_12 _).mono ?_; rintro e w1 ⟨rfl, hb1⟩) | (go_at_call 7; refine (print_12 _).mono ?_; rintro e w2 ⟨rfl, hb2⟩) | (go_at_call 12; refine (turn_walk 1 2 _).mono ?_; rintro e w3 ⟨rfl, hb3⟩))
  go_ret
  exact ⟨rfl, (hb1.trans (hb2.mono hb1.size)).trans (hb3.mono (hb1.trans (hb2.mono hb1.size)).size)⟩
end Go.Proofs.YtpmamacjepcdmaaDoor
