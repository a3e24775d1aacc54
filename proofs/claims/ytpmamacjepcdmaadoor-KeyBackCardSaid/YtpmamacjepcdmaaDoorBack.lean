/- Walk: the law KeyBack. -/
import Derived.Test.YtpmamacjepcdmaaDoorPlain
import Derived.Deep.RegionWith
namespace Go.Proofs.YtpmamacjepcdmaaDoor
open Go Go.Proofs Go.RowKit
set_option maxRecDepth 100000 in
set_option maxHeartbeats 4000000 in
theorem back_walk (a b n x y : Int) (s T : ByteArray) (w : World) (hl : Laid w)
    (hP : (Gives 7 #[.agg #[.int .i64 a, .int .i64 b]] (.tuple #[.string T, .int .i64 0]) ∧ Gives 8 #[.string T] (.tuple #[.agg #[.int .i64 a, .int .i64 b], .int .i64 0])) ∨ Gives 7 #[.agg #[.int .i64 a, .int .i64 b]] (.tuple #[.string ⟨#[]⟩, .int .i64 3]))
    (hS : (Gives 8 #[.string s] (.tuple #[.agg #[.int .i64 x, .int .i64 y], .int .i64 0]) ∧ Gives 7 #[.agg #[.int .i64 x, .int .i64 y]] (.tuple #[.string s, .int .i64 0])) ∨ ∃ c : Int, 1 ≤ c ∧ Gives 8 #[.string s] (.tuple #[.agg #[.int .i64 0, .int .i64 0], .int .i64 c]))
    (hK : (∃ k : Int, 0 ≤ k ∧ k < n ∧ Gives 6 #[.agg #[.int .i64 a, .int .i64 b], .int .i64 n] (.tuple #[.int .i64 k, .int .i64 0])) ∨ Gives 6 #[.agg #[.int .i64 a, .int .i64 b], .int .i64 n] (.tuple #[.int .i64 0, .int .i64 3])) :
    Calls Tryd.prog 4 #[.agg #[.int .i64 a, .int .i64 b], .string s, .int .i64 n] w fun e w' => e = .returned (.bool true) ∧ Below w.heap.size w w' := by
  have hB := below1 w (.cells #[.int .i64 a, .int .i64 b] 23)
  have hR := At2.new w a b 23
  go_enter Tryd.func4, Tryd.ntmps4
  go_wp2_with fail
  go_region_with (first | (go_at_call 10; refine (keyed_walk _).mono ?_; rintro e w1 ⟨rfl, hb⟩; first | (replace hB := Below.thenB hB hb; replace hR := hR.below hb; obtain ⟨c0, c1, f0, f1⟩ := id hR) | (replace hB := Below.thenB hB.drew hb; replace hR := hR.drew.below hb; obtain ⟨c0, c1, f0, f1⟩ := id hR)) | (go_at_call 12; refine (turn_walk _ _ _).mono ?_; rintro e w1 ⟨rfl, hb⟩; first | (replace hB := Below.thenB hB hb; replace hR := hR.below hb; obtain ⟨c0, c1, f0, f1⟩ := id hR) | (replace hB := Below.thenB hB.drew hb; replace hR := hR.drew.below hb; obtain ⟨c0, c1, f0, f1⟩ := id hR)))
  all_goals (
    have hlw := hl.below hB
    rcases hP with ⟨hP, hT⟩ | hP
    · go_wp2_with fail
      refine (hP _ hlw).mono ?_
      rintro e w1 ⟨rfl, hb⟩
      try clear c0 c1 f0 f1
      try clear d0 d1
      replace hB := Below.thenB hB hb
      replace hR := hR.below hb
      replace hlw := hl.below hB
      obtain ⟨c0, c1, f0, f1⟩ := id hR
      go_wp2_with fail
      refine (hT _ hlw).mono ?_
      rintro e w1 ⟨rfl, hb⟩
      try clear c0 c1 f0 f1
      try clear d0 d1
      replace hB := Below.thenB hB hb
      replace hR := hR.below hb
      replace hlw := hl.below hB
      obtain ⟨c0, c1, f0, f1⟩ := id hR
      have d0 := fun o1 => (hR.below (below1 _ o1)).c0
      have d1 := fun o1 => (hR.below (below1 _ o1)).c1
      rcases hS with ⟨hS, hX⟩ | ⟨c, hc1, hS⟩
      · go_wp2_with fail
        refine (hS _ (hlw.below (below1 _ _))).mono ?_
        rintro e w1 ⟨rfl, hb⟩
        try clear c0 c1 f0 f1
        try clear d0 d1
        replace hB := Below.thenB (hB.alloc hB.size _) hb
        replace hR := (hR.below (below1 _ _)).below hb
        replace hlw := hl.below hB
        obtain ⟨c0, c1, f0, f1⟩ := id hR
        go_wp2_with fail
        refine (hX _ (hlw.below (below1 _ _))).mono ?_
        rintro e w1 ⟨rfl, hb⟩
        try clear c0 c1 f0 f1
        try clear d0 d1
        replace hB := Below.thenB (hB.alloc hB.size _) hb
        replace hR := (hR.below (below1 _ _)).below hb
        replace hlw := hl.below hB
        obtain ⟨c0, c1, f0, f1⟩ := id hR
        rcases hK with ⟨k, k0, k1, hK⟩ | hK
        · go_wp2_with fail
          refine (hK _ hlw).mono ?_
          rintro e w1 ⟨rfl, hb⟩
          try clear c0 c1 f0 f1
          try clear d0 d1
          replace hB := Below.thenB hB hb
          replace hR := hR.below hb
          replace hlw := hl.below hB
          go_wp2_with fail
          go_ret
          exact ⟨rfl, hB⟩
        · go_wp2_with fail
          refine (hK _ hlw).mono ?_
          rintro e w1 ⟨rfl, hb⟩
          try clear c0 c1 f0 f1
          try clear d0 d1
          replace hB := Below.thenB hB hb
          replace hR := hR.below hb
          replace hlw := hl.below hB
          go_wp2_with fail
          go_ret
          exact ⟨rfl, hB⟩
      · have hc0 : (c == 0) = false := by simp; omega
        go_wp2_with fail
        refine (hS _ (hlw.below (below1 _ _))).mono ?_
        rintro e w1 ⟨rfl, hb⟩
        try clear c0 c1 f0 f1
        try clear d0 d1
        replace hB := Below.thenB (hB.alloc hB.size _) hb
        replace hR := (hR.below (below1 _ _)).below hb
        replace hlw := hl.below hB
        obtain ⟨c0, c1, f0, f1⟩ := id hR
        have d0 := fun o1 => (hR.below (below1 _ o1)).c0
        have d1 := fun o1 => (hR.below (below1 _ o1)).c1
        rcases hK with ⟨k, k0, k1, hK⟩ | hK
        · go_wp2_with fail
          refine (hK _ (hlw.below (below1 _ _))).mono ?_
          rintro e w1 ⟨rfl, hb⟩
          try clear c0 c1 f0 f1
          try clear d0 d1
          replace hB := Below.thenB (hB.alloc hB.size _) hb
          replace hR := (hR.below (below1 _ _)).below hb
          replace hlw := hl.below hB
          go_wp2_with fail
          go_ret
          exact ⟨rfl, hB⟩
        · go_wp2_with fail
          refine (hK _ (hlw.below (below1 _ _))).mono ?_
          rintro e w1 ⟨rfl, hb⟩
          try clear c0 c1 f0 f1
          try clear d0 d1
          replace hB := Below.thenB (hB.alloc hB.size _) hb
          replace hR := (hR.below (below1 _ _)).below hb
          replace hlw := hl.below hB
          go_wp2_with fail
          go_ret
          exact ⟨rfl, hB⟩
    · go_wp2_with fail
      refine (hP _ hlw).mono ?_
      rintro e w1 ⟨rfl, hb⟩
      try clear c0 c1 f0 f1
      try clear d0 d1
      replace hB := Below.thenB hB hb
      replace hR := hR.below hb
      replace hlw := hl.below hB
      obtain ⟨c0, c1, f0, f1⟩ := id hR
      rcases hS with ⟨hS, hX⟩ | ⟨c, hc1, hS⟩
      · go_wp2_with fail
        refine (hS _ hlw).mono ?_
        rintro e w1 ⟨rfl, hb⟩
        try clear c0 c1 f0 f1
        try clear d0 d1
        replace hB := Below.thenB hB hb
        replace hR := hR.below hb
        replace hlw := hl.below hB
        obtain ⟨c0, c1, f0, f1⟩ := id hR
        go_wp2_with fail
        refine (hX _ (hlw.below (below1 _ _))).mono ?_
        rintro e w1 ⟨rfl, hb⟩
        try clear c0 c1 f0 f1
        try clear d0 d1
        replace hB := Below.thenB (hB.alloc hB.size _) hb
        replace hR := (hR.below (below1 _ _)).below hb
        replace hlw := hl.below hB
        obtain ⟨c0, c1, f0, f1⟩ := id hR
        rcases hK with ⟨k, k0, k1, hK⟩ | hK
        · go_wp2_with fail
          refine (hK _ hlw).mono ?_
          rintro e w1 ⟨rfl, hb⟩
          try clear c0 c1 f0 f1
          try clear d0 d1
          replace hB := Below.thenB hB hb
          replace hR := hR.below hb
          replace hlw := hl.below hB
          go_wp2_with fail
          go_ret
          exact ⟨rfl, hB⟩
        · go_wp2_with fail
          refine (hK _ hlw).mono ?_
          rintro e w1 ⟨rfl, hb⟩
          try clear c0 c1 f0 f1
          try clear d0 d1
          replace hB := Below.thenB hB hb
          replace hR := hR.below hb
          replace hlw := hl.below hB
          go_wp2_with fail
          go_ret
          exact ⟨rfl, hB⟩
      · have hc0 : (c == 0) = false := by simp; omega
        go_wp2_with fail
        refine (hS _ hlw).mono ?_
        rintro e w1 ⟨rfl, hb⟩
        try clear c0 c1 f0 f1
        try clear d0 d1
        replace hB := Below.thenB hB hb
        replace hR := hR.below hb
        replace hlw := hl.below hB
        obtain ⟨c0, c1, f0, f1⟩ := id hR
        have d0 := fun o1 => (hR.below (below1 _ o1)).c0
        have d1 := fun o1 => (hR.below (below1 _ o1)).c1
        rcases hK with ⟨k, k0, k1, hK⟩ | hK
        · go_wp2_with fail
          refine (hK _ (hlw.below (below1 _ _))).mono ?_
          rintro e w1 ⟨rfl, hb⟩
          try clear c0 c1 f0 f1
          try clear d0 d1
          replace hB := Below.thenB (hB.alloc hB.size _) hb
          replace hR := (hR.below (below1 _ _)).below hb
          replace hlw := hl.below hB
          go_wp2_with fail
          go_ret
          exact ⟨rfl, hB⟩
        · go_wp2_with fail
          refine (hK _ (hlw.below (below1 _ _))).mono ?_
          rintro e w1 ⟨rfl, hb⟩
          try clear c0 c1 f0 f1
          try clear d0 d1
          replace hB := Below.thenB (hB.alloc hB.size _) hb
          replace hR := (hR.below (below1 _ _)).below hb
          replace hlw := hl.below hB
          go_wp2_with fail
          go_ret
          exact ⟨rfl, hB⟩)
end Go.Proofs.YtpmamacjepcdmaaDoor
