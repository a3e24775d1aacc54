/- Walks: the document's ReadKey, a text a way through (printed by a program of ours). -/
import Derived.Test.YtpmamacjepcdmaaDoorSaysB
import Derived.OwnWalk
import Derived.Deep.RegionHeld3
namespace Go.Proofs.YtpmamacjepcdmaaDoor
open Go Go.Proofs Go.RowKit
theorem info2 : (Tryd.prog.info? 2).map (fun i => (i.zero, i.size, i.bytes)) = some (some (.int .i64 0), 1, 8) := by kernel_rfl
/-- What lies in memory, once the pieces are cut. -/
structure Cut2 (w : World) (A N : Nat) (p q : ByteArray) : Prop where
  r : At2 w A 0 0
  p : w.cell? ⟨N, 0, none⟩ = some (.string p)
  q : w.cell? ⟨N, 1, none⟩ = some (.string q)
theorem Cut2.below {w w' : World} {A N : Nat} {p q : ByteArray} (h : Cut2 w A N p q) (hb : Below w.heap.size w w') : Cut2 w' A N p q := ⟨h.r.below hb, cell_below hb h.p, cell_below hb h.q⟩
theorem Cut2.grown {w w' : World} {A N : Nat} {p q : ByteArray} {row : Option Nat} (h : Cut2 w A N p q) (hg : w.grownBy w' row) (h1 : some A ≠ row) (h2 : some N ≠ row) : Cut2 w' A N p q :=
  ⟨⟨hg.cell h.r.c0 h1, hg.cell h.r.c1 h1, (World.frozen?_of_block (a := ⟨A, 0, none⟩) (hg.block A h.r.lt h1)).trans h.r.f0, (World.frozen?_of_block (a := ⟨A, 1, none⟩) (hg.block A h.r.lt h1)).trans h.r.f1⟩, hg.cell h.p h2, hg.cell h.q h2⟩
/-- Behind an append onto a row of the call's own. -/
theorem Cut2.grew {w W w' : World} {p q : ByteArray} {x : Value} {n : Nat} {xs : List Value} {o : Obj} (hC : Cut2 W w.heap.size (w.heap.size + 1) p q) (hB : Below w.heap.size w W) (ho : W.ownsRow (w.heap.size + 2) 2 1 x n xs) (hg : (W.alloc o).grownBy w' x.ownBlock) :
    Cut2 w' w.heap.size (w.heap.size + 1) p q ∧ Below w.heap.size w w' ∧ W.heap.size ≤ w'.heap.size := by
  have h1 : ∀ k, x.ownBlock = some k → w.heap.size + 2 ≤ k := fun k hk => (ho.lt k hk).1
  refine ⟨(hC.below (below1 _ _)).grown hg (fun e => ?_) (fun e => ?_), (hB.alloc hB.size o).grown hg ?_ (fun k hk => ?_), ?_⟩
  · have := h1 _ e.symm; omega
  · have := h1 _ e.symm; omega
  · have := hB.size; simp; omega
  · have := h1 _ hk; omega
  · have := hg.size; simp at this; omega
theorem two_cells {w : World} {B : Nat} {x : Value} {a b : Value} (h : w.ownsRow B 2 1 x 2 [a, b]) : ∃ g cap, x = .slice (some ⟨g, 0, none⟩) 2 cap ∧ B ≤ g ∧ w.cell? ⟨g, 0, none⟩ = some a ∧ w.cell? ⟨g, 1, none⟩ = some b := by
  rcases id h.2 with ⟨_, h0⟩ | ⟨g, cap, cur, rfl, hb, _⟩
  · cases h0
  · exact ⟨g, cap, rfl, hb, by have := h.cells (g := g) rfl 0 a rfl; simpa [Addr.add] using this, by have := h.cells (g := g) rfl 1 b rfl; simpa [Addr.add] using this⟩
theorem grown_any {w w' : World} (h : Below w.heap.size w w') : w.grownBy w' none := ⟨h.os, h.tape, h.output, h.size, fun k hk _ => h.block k hk⟩
theorem kept_any (x : Value) : x.ownBlock = none ∨ x.ownBlock ≠ none := by cases x.ownBlock <;> simp
set_option maxRecDepth 100000 in
set_option maxHeartbeats 2000000 in
theorem read_pbad (s p q : ByteArray) (hs : s.size ≤ 20) (h : pieces s = [p, q]) (w : World) (hl : Laid w) (hv : ∀ v, Lib.atoiAll p.data.toList ≠ .ok v) : Calls Tryd.prog 15 #[.string s] w fun e w' => e = .returned (.tuple #[keyV 0 0, .int .i64 1]) ∧ Below w.heap.size w w' := by
  have hps : p.size ≤ 20 := Nat.le_trans (pieces_le (by rw [h]; simp)) hs
  have hqs : q.size ≤ 20 := Nat.le_trans (pieces_le (by rw [h]; simp)) hs
  obtain ⟨i0, hi, hz0, hz1, hz2⟩ := info_parts info2
  have hB : Below w.heap.size w (w.alloc (.cells #[.int .i64 0, .int .i64 0] 23)) := below1 _ _
  have hR := At2.new w 0 0 23
  go_enter Tryd.func15, Tryd.ntmps15
  go_wp2_with (go_at_call 19; refine (split_two s p q hs h _ (hl.below hB)).mono ?_)
  rintro e w1 ⟨rfl, rfl⟩
  have hC : Cut2 ((w.alloc (.cells #[.int .i64 0, .int .i64 0] 23)).alloc (.cells #[.string p, .string q] 9)) w.heap.size (w.heap.size + 1) p q := ⟨hR.below (below1 _ _), by simp, by simp⟩
  replace hB := below2 w (.cells #[.int .i64 0, .int .i64 0] 23) (.cells #[.string p, .string q] 9)
  have hS : w.heap.size + 2 ≤ ((w.alloc (.cells #[.int .i64 0, .int .i64 0] 23)).alloc (.cells #[.string p, .string q] 9)).heap.size := by simp
  generalize hW : ((w.alloc (.cells #[.int .i64 0, .int .i64 0] 23)).alloc (.cells #[.string p, .string q] 9)) = W at *
  simp only [World.size_alloc]
  clear hR
  have ho := World.ownsRow_nil W (w.heap.size + 2) 2 1
  obtain ⟨⟨c0, c1, f0, f1⟩, e0, e1⟩ := id hC
  go_wp2
  refine wp_loop_rounds 3 ?_
  rw [rounds_succ]
  go_wp2_with (go_at_call 20; refine (parseInt_bad p hps hv _ (hl.below hB)).mono ?_)
  rintro e w1 ⟨n, N, rfl, hb⟩
  clear c0 c1 f0 f1 e0 e1
  replace hB := Below.thenB hB hb
  replace hC := hC.below hb
  replace hS := Nat.le_trans hS hb.size
  replace ho := ho.kept (grown_any hb) (kept_any _)
  obtain ⟨⟨c0, c1, f0, f1⟩, e0, e1⟩ := id hC
  go_wp2
  (try simp only [Exit.inBlock, Exit.then])
  refine bodyPost_ret (v := .tuple #[keyV 0 0, .int .i64 1]) ?_ rfl ⟨rfl, ?_⟩
  · obtain ⟨s0, s1, _, _⟩ := (hC.r.set0 0).set1 0
    rw [results_cell_tmp rfl]
    go_simp
    rfl
  · exact (hB.setCell (Nat.le_refl _) _).setCell (Nat.le_refl _) _
set_option maxRecDepth 100000 in
set_option maxHeartbeats 2000000 in
theorem read_pne (s p q : ByteArray) (hs : s.size ≤ 20) (h : pieces s = [p, q]) (w : World) (hl : Laid w) (v : Int) (hv : Lib.atoiAll p.data.toList = .ok v) (hvp : bytes (Lib.itoa v) ≠ p) : Calls Tryd.prog 15 #[.string s] w fun e w' => e = .returned (.tuple #[keyV 0 0, .int .i64 1]) ∧ Below w.heap.size w w' := by
  have hps : p.size ≤ 20 := Nat.le_trans (pieces_le (by rw [h]; simp)) hs
  have hqs : q.size ≤ 20 := Nat.le_trans (pieces_le (by rw [h]; simp)) hs
  obtain ⟨i0, hi, hz0, hz1, hz2⟩ := info_parts info2
  have hB : Below w.heap.size w (w.alloc (.cells #[.int .i64 0, .int .i64 0] 23)) := below1 _ _
  have hR := At2.new w 0 0 23
  go_enter Tryd.func15, Tryd.ntmps15
  go_wp2_with (go_at_call 19; refine (split_two s p q hs h _ (hl.below hB)).mono ?_)
  rintro e w1 ⟨rfl, rfl⟩
  have hC : Cut2 ((w.alloc (.cells #[.int .i64 0, .int .i64 0] 23)).alloc (.cells #[.string p, .string q] 9)) w.heap.size (w.heap.size + 1) p q := ⟨hR.below (below1 _ _), by simp, by simp⟩
  replace hB := below2 w (.cells #[.int .i64 0, .int .i64 0] 23) (.cells #[.string p, .string q] 9)
  have hS : w.heap.size + 2 ≤ ((w.alloc (.cells #[.int .i64 0, .int .i64 0] 23)).alloc (.cells #[.string p, .string q] 9)).heap.size := by simp
  generalize hW : ((w.alloc (.cells #[.int .i64 0, .int .i64 0] 23)).alloc (.cells #[.string p, .string q] 9)) = W at *
  simp only [World.size_alloc]
  clear hR
  have ho := World.ownsRow_nil W (w.heap.size + 2) 2 1
  obtain ⟨⟨c0, c1, f0, f1⟩, e0, e1⟩ := id hC
  go_wp2
  refine wp_loop_rounds 3 ?_
  have hvq := str_ne hvp
  rw [rounds_succ]
  obtain ⟨v0, v1⟩ := Lib.atoiAll_bounds hv
  go_wp2_with (go_at_call 20; refine (parseInt_ok p hps v hv _).mono ?_)
  rintro e w1 ⟨rfl, hb⟩
  clear c0 c1 f0 f1 e0 e1
  replace hB := Below.thenB hB hb
  replace hC := hC.below hb
  replace hS := Nat.le_trans hS hb.size
  replace ho := ho.kept (grown_any hb) (kept_any _)
  obtain ⟨⟨c0, c1, f0, f1⟩, e0, e1⟩ := id hC
  go_wp2_with (go_at_call 21; refine (formatInt_any v (by omega) (by omega) _ (hl.below hB)).mono ?_)
  rintro e w2 ⟨rfl, hb⟩
  clear c0 c1 f0 f1 e0 e1
  replace hB := Below.thenB hB hb
  replace hC := hC.below hb
  replace hS := Nat.le_trans hS hb.size
  replace ho := ho.kept (grown_any hb) (kept_any _)
  obtain ⟨⟨c0, c1, f0, f1⟩, e0, e1⟩ := id hC
  go_wp2
  (try simp only [Exit.inBlock, Exit.then])
  refine bodyPost_ret (v := .tuple #[keyV 0 0, .int .i64 1]) ?_ rfl ⟨rfl, ?_⟩
  · obtain ⟨s0, s1, _, _⟩ := (hC.r.set0 0).set1 0
    rw [results_cell_tmp rfl]
    go_simp
    rfl
  · exact (hB.setCell (Nat.le_refl _) _).setCell (Nat.le_refl _) _
set_option maxRecDepth 100000 in
set_option maxHeartbeats 2000000 in
theorem read_qbad (s p q : ByteArray) (hs : s.size ≤ 20) (h : pieces s = [p, q]) (w : World) (hl : Laid w) (v : Int) (hv : Lib.atoiAll p.data.toList = .ok v) (hvp : bytes (Lib.itoa v) = p) (hu : ∀ v, Lib.atoiAll q.data.toList ≠ .ok v) : Calls Tryd.prog 15 #[.string s] w fun e w' => e = .returned (.tuple #[keyV 0 0, .int .i64 1]) ∧ Below w.heap.size w w' := by
  have hps : p.size ≤ 20 := Nat.le_trans (pieces_le (by rw [h]; simp)) hs
  have hqs : q.size ≤ 20 := Nat.le_trans (pieces_le (by rw [h]; simp)) hs
  obtain ⟨i0, hi, hz0, hz1, hz2⟩ := info_parts info2
  have hB : Below w.heap.size w (w.alloc (.cells #[.int .i64 0, .int .i64 0] 23)) := below1 _ _
  have hR := At2.new w 0 0 23
  go_enter Tryd.func15, Tryd.ntmps15
  go_wp2_with (go_at_call 19; refine (split_two s p q hs h _ (hl.below hB)).mono ?_)
  rintro e w1 ⟨rfl, rfl⟩
  have hC : Cut2 ((w.alloc (.cells #[.int .i64 0, .int .i64 0] 23)).alloc (.cells #[.string p, .string q] 9)) w.heap.size (w.heap.size + 1) p q := ⟨hR.below (below1 _ _), by simp, by simp⟩
  replace hB := below2 w (.cells #[.int .i64 0, .int .i64 0] 23) (.cells #[.string p, .string q] 9)
  have hS : w.heap.size + 2 ≤ ((w.alloc (.cells #[.int .i64 0, .int .i64 0] 23)).alloc (.cells #[.string p, .string q] 9)).heap.size := by simp
  generalize hW : ((w.alloc (.cells #[.int .i64 0, .int .i64 0] 23)).alloc (.cells #[.string p, .string q] 9)) = W at *
  simp only [World.size_alloc]
  clear hR
  have ho := World.ownsRow_nil W (w.heap.size + 2) 2 1
  obtain ⟨⟨c0, c1, f0, f1⟩, e0, e1⟩ := id hC
  go_wp2
  refine wp_loop_rounds 3 ?_
  rw [rounds_succ]
  obtain ⟨v0, v1⟩ := Lib.atoiAll_bounds hv
  go_wp2_with (go_at_call 20; refine (parseInt_ok p hps v hv _).mono ?_)
  rintro e w1 ⟨rfl, hb⟩
  clear c0 c1 f0 f1 e0 e1
  replace hB := Below.thenB hB hb
  replace hC := hC.below hb
  replace hS := Nat.le_trans hS hb.size
  replace ho := ho.kept (grown_any hb) (kept_any _)
  obtain ⟨⟨c0, c1, f0, f1⟩, e0, e1⟩ := id hC
  go_wp2_with (go_at_call 21; refine (formatInt_any v (by omega) (by omega) _ (hl.below hB)).mono ?_)
  rintro e w2 ⟨rfl, hb⟩
  clear c0 c1 f0 f1 e0 e1
  replace hB := Below.thenB hB hb
  replace hC := hC.below hb
  replace hS := Nat.le_trans hS hb.size
  replace ho := ho.kept (grown_any hb) (kept_any _)
  obtain ⟨⟨c0, c1, f0, f1⟩, e0, e1⟩ := id hC
  rw [hvp]
  go_wp2_with (at_builtin; refine wpList_append_own _ rfl _ _ 51 rfl (w.heap.size + 2) 2 i0 (.int .i64 0) 1 8 Tryd.underlying51 hi hz0 hz1 hz2 rfl (by decide) _ 0 [] rfl (ho.alloc _) ⟨w2.heap.size, 0, none⟩ 1 1 [.int .i64 v] rfl rfl ?c1 ?c2 ?c3 ?c4 ?c5 ?_)
  case c1 =>
    intro j u hj
    match j, hj with
    | 0, hj => simp at hj; subst hj; simp [Addr.add]
  case c2 => intro u hu; simp at hu; subst hu; rfl
  case c3 => unfold maxLen; omega
  case c4 => omega
  case c5 => simp; omega
  intro x1 w3 ho2 hg _
  clear c0 c1 f0 f1 e0 e1
  obtain ⟨hC', hB', hS'⟩ := hC.grew hB ho hg
  replace hC := hC'
  replace hB := hB'
  replace ho := ho2
  replace hS := Nat.le_trans hS hS'
  clear hg hC' hB' ho2 hS'
  try simp only [List.nil_append, List.cons_append, Nat.zero_add, Nat.reduceAdd] at ho
  obtain ⟨⟨c0, c1, f0, f1⟩, e0, e1⟩ := id hC
  go_wp2
  rw [rounds_succ]
  go_wp2_with (go_at_call 20; refine (parseInt_bad q hqs hu _ (hl.below hB)).mono ?_)
  rintro e w1 ⟨n, N, rfl, hb⟩
  clear c0 c1 f0 f1 e0 e1
  replace hB := Below.thenB hB hb
  replace hC := hC.below hb
  replace hS := Nat.le_trans hS hb.size
  replace ho := ho.kept (grown_any hb) (kept_any _)
  obtain ⟨⟨c0, c1, f0, f1⟩, e0, e1⟩ := id hC
  go_wp2
  (try simp only [Exit.inBlock, Exit.then])
  refine bodyPost_ret (v := .tuple #[keyV 0 0, .int .i64 1]) ?_ rfl ⟨rfl, ?_⟩
  · obtain ⟨s0, s1, _, _⟩ := (hC.r.set0 0).set1 0
    rw [results_cell_tmp rfl]
    go_simp
    rfl
  · exact (hB.setCell (Nat.le_refl _) _).setCell (Nat.le_refl _) _
set_option maxRecDepth 100000 in
set_option maxHeartbeats 2000000 in
theorem read_qne (s p q : ByteArray) (hs : s.size ≤ 20) (h : pieces s = [p, q]) (w : World) (hl : Laid w) (v : Int) (hv : Lib.atoiAll p.data.toList = .ok v) (hvp : bytes (Lib.itoa v) = p) (u : Int) (hu : Lib.atoiAll q.data.toList = .ok u) (huq : bytes (Lib.itoa u) ≠ q) : Calls Tryd.prog 15 #[.string s] w fun e w' => e = .returned (.tuple #[keyV 0 0, .int .i64 1]) ∧ Below w.heap.size w w' := by
  have hps : p.size ≤ 20 := Nat.le_trans (pieces_le (by rw [h]; simp)) hs
  have hqs : q.size ≤ 20 := Nat.le_trans (pieces_le (by rw [h]; simp)) hs
  obtain ⟨i0, hi, hz0, hz1, hz2⟩ := info_parts info2
  have hB : Below w.heap.size w (w.alloc (.cells #[.int .i64 0, .int .i64 0] 23)) := below1 _ _
  have hR := At2.new w 0 0 23
  go_enter Tryd.func15, Tryd.ntmps15
  go_wp2_with (go_at_call 19; refine (split_two s p q hs h _ (hl.below hB)).mono ?_)
  rintro e w1 ⟨rfl, rfl⟩
  have hC : Cut2 ((w.alloc (.cells #[.int .i64 0, .int .i64 0] 23)).alloc (.cells #[.string p, .string q] 9)) w.heap.size (w.heap.size + 1) p q := ⟨hR.below (below1 _ _), by simp, by simp⟩
  replace hB := below2 w (.cells #[.int .i64 0, .int .i64 0] 23) (.cells #[.string p, .string q] 9)
  have hS : w.heap.size + 2 ≤ ((w.alloc (.cells #[.int .i64 0, .int .i64 0] 23)).alloc (.cells #[.string p, .string q] 9)).heap.size := by simp
  generalize hW : ((w.alloc (.cells #[.int .i64 0, .int .i64 0] 23)).alloc (.cells #[.string p, .string q] 9)) = W at *
  simp only [World.size_alloc]
  clear hR
  have ho := World.ownsRow_nil W (w.heap.size + 2) 2 1
  obtain ⟨⟨c0, c1, f0, f1⟩, e0, e1⟩ := id hC
  go_wp2
  refine wp_loop_rounds 3 ?_
  have hvq := str_ne huq
  rw [rounds_succ]
  obtain ⟨v0, v1⟩ := Lib.atoiAll_bounds hv
  go_wp2_with (go_at_call 20; refine (parseInt_ok p hps v hv _).mono ?_)
  rintro e w1 ⟨rfl, hb⟩
  clear c0 c1 f0 f1 e0 e1
  replace hB := Below.thenB hB hb
  replace hC := hC.below hb
  replace hS := Nat.le_trans hS hb.size
  replace ho := ho.kept (grown_any hb) (kept_any _)
  obtain ⟨⟨c0, c1, f0, f1⟩, e0, e1⟩ := id hC
  go_wp2_with (go_at_call 21; refine (formatInt_any v (by omega) (by omega) _ (hl.below hB)).mono ?_)
  rintro e w2 ⟨rfl, hb⟩
  clear c0 c1 f0 f1 e0 e1
  replace hB := Below.thenB hB hb
  replace hC := hC.below hb
  replace hS := Nat.le_trans hS hb.size
  replace ho := ho.kept (grown_any hb) (kept_any _)
  obtain ⟨⟨c0, c1, f0, f1⟩, e0, e1⟩ := id hC
  rw [hvp]
  go_wp2_with (at_builtin; refine wpList_append_own _ rfl _ _ 51 rfl (w.heap.size + 2) 2 i0 (.int .i64 0) 1 8 Tryd.underlying51 hi hz0 hz1 hz2 rfl (by decide) _ 0 [] rfl (ho.alloc _) ⟨w2.heap.size, 0, none⟩ 1 1 [.int .i64 v] rfl rfl ?c1 ?c2 ?c3 ?c4 ?c5 ?_)
  case c1 =>
    intro j u hj
    match j, hj with
    | 0, hj => simp at hj; subst hj; simp [Addr.add]
  case c2 => intro u hu; simp at hu; subst hu; rfl
  case c3 => unfold maxLen; omega
  case c4 => omega
  case c5 => simp; omega
  intro x1 w3 ho2 hg _
  clear c0 c1 f0 f1 e0 e1
  obtain ⟨hC', hB', hS'⟩ := hC.grew hB ho hg
  replace hC := hC'
  replace hB := hB'
  replace ho := ho2
  replace hS := Nat.le_trans hS hS'
  clear hg hC' hB' ho2 hS'
  try simp only [List.nil_append, List.cons_append, Nat.zero_add, Nat.reduceAdd] at ho
  obtain ⟨⟨c0, c1, f0, f1⟩, e0, e1⟩ := id hC
  go_wp2
  rw [rounds_succ]
  obtain ⟨u0, u1⟩ := Lib.atoiAll_bounds hu
  go_wp2_with (go_at_call 20; refine (parseInt_ok q hqs u hu _).mono ?_)
  rintro e w1 ⟨rfl, hb⟩
  clear c0 c1 f0 f1 e0 e1
  replace hB := Below.thenB hB hb
  replace hC := hC.below hb
  replace hS := Nat.le_trans hS hb.size
  replace ho := ho.kept (grown_any hb) (kept_any _)
  obtain ⟨⟨c0, c1, f0, f1⟩, e0, e1⟩ := id hC
  go_wp2_with (go_at_call 21; refine (formatInt_any u (by omega) (by omega) _ (hl.below hB)).mono ?_)
  rintro e w2 ⟨rfl, hb⟩
  clear c0 c1 f0 f1 e0 e1
  replace hB := Below.thenB hB hb
  replace hC := hC.below hb
  replace hS := Nat.le_trans hS hb.size
  replace ho := ho.kept (grown_any hb) (kept_any _)
  obtain ⟨⟨c0, c1, f0, f1⟩, e0, e1⟩ := id hC
  go_wp2
  (try simp only [Exit.inBlock, Exit.then])
  refine bodyPost_ret (v := .tuple #[keyV 0 0, .int .i64 1]) ?_ rfl ⟨rfl, ?_⟩
  · obtain ⟨s0, s1, _, _⟩ := (hC.r.set0 0).set1 0
    rw [results_cell_tmp rfl]
    go_simp
    rfl
  · exact (hB.setCell (Nat.le_refl _) _).setCell (Nat.le_refl _) _
set_option maxRecDepth 100000 in
set_option maxHeartbeats 2000000 in
theorem read_ok (s p q : ByteArray) (hs : s.size ≤ 20) (h : pieces s = [p, q]) (w : World) (hl : Laid w) (v : Int) (hv : Lib.atoiAll p.data.toList = .ok v) (hvp : bytes (Lib.itoa v) = p) (u : Int) (hu : Lib.atoiAll q.data.toList = .ok u) (huq : bytes (Lib.itoa u) = q) (hk : keyIs v u = true) : Calls Tryd.prog 15 #[.string s] w fun e w' => e = .returned (.tuple #[keyV v u, .int .i64 0]) ∧ Below w.heap.size w w' := by
  have hps : p.size ≤ 20 := Nat.le_trans (pieces_le (by rw [h]; simp)) hs
  have hqs : q.size ≤ 20 := Nat.le_trans (pieces_le (by rw [h]; simp)) hs
  obtain ⟨i0, hi, hz0, hz1, hz2⟩ := info_parts info2
  have hB : Below w.heap.size w (w.alloc (.cells #[.int .i64 0, .int .i64 0] 23)) := below1 _ _
  have hR := At2.new w 0 0 23
  go_enter Tryd.func15, Tryd.ntmps15
  go_wp2_with (go_at_call 19; refine (split_two s p q hs h _ (hl.below hB)).mono ?_)
  rintro e w1 ⟨rfl, rfl⟩
  have hC : Cut2 ((w.alloc (.cells #[.int .i64 0, .int .i64 0] 23)).alloc (.cells #[.string p, .string q] 9)) w.heap.size (w.heap.size + 1) p q := ⟨hR.below (below1 _ _), by simp, by simp⟩
  replace hB := below2 w (.cells #[.int .i64 0, .int .i64 0] 23) (.cells #[.string p, .string q] 9)
  have hS : w.heap.size + 2 ≤ ((w.alloc (.cells #[.int .i64 0, .int .i64 0] 23)).alloc (.cells #[.string p, .string q] 9)).heap.size := by simp
  generalize hW : ((w.alloc (.cells #[.int .i64 0, .int .i64 0] 23)).alloc (.cells #[.string p, .string q] 9)) = W at *
  simp only [World.size_alloc]
  clear hR
  have ho := World.ownsRow_nil W (w.heap.size + 2) 2 1
  obtain ⟨⟨c0, c1, f0, f1⟩, e0, e1⟩ := id hC
  go_wp2
  refine wp_loop_rounds 3 ?_
  rw [rounds_succ]
  obtain ⟨v0, v1⟩ := Lib.atoiAll_bounds hv
  go_wp2_with (go_at_call 20; refine (parseInt_ok p hps v hv _).mono ?_)
  rintro e w1 ⟨rfl, hb⟩
  clear c0 c1 f0 f1 e0 e1
  replace hB := Below.thenB hB hb
  replace hC := hC.below hb
  replace hS := Nat.le_trans hS hb.size
  replace ho := ho.kept (grown_any hb) (kept_any _)
  obtain ⟨⟨c0, c1, f0, f1⟩, e0, e1⟩ := id hC
  go_wp2_with (go_at_call 21; refine (formatInt_any v (by omega) (by omega) _ (hl.below hB)).mono ?_)
  rintro e w2 ⟨rfl, hb⟩
  clear c0 c1 f0 f1 e0 e1
  replace hB := Below.thenB hB hb
  replace hC := hC.below hb
  replace hS := Nat.le_trans hS hb.size
  replace ho := ho.kept (grown_any hb) (kept_any _)
  obtain ⟨⟨c0, c1, f0, f1⟩, e0, e1⟩ := id hC
  rw [hvp]
  go_wp2_with (at_builtin; refine wpList_append_own _ rfl _ _ 51 rfl (w.heap.size + 2) 2 i0 (.int .i64 0) 1 8 Tryd.underlying51 hi hz0 hz1 hz2 rfl (by decide) _ 0 [] rfl (ho.alloc _) ⟨w2.heap.size, 0, none⟩ 1 1 [.int .i64 v] rfl rfl ?c1 ?c2 ?c3 ?c4 ?c5 ?_)
  case c1 =>
    intro j u hj
    match j, hj with
    | 0, hj => simp at hj; subst hj; simp [Addr.add]
  case c2 => intro u hu; simp at hu; subst hu; rfl
  case c3 => unfold maxLen; omega
  case c4 => omega
  case c5 => simp; omega
  intro x1 w3 ho2 hg _
  clear c0 c1 f0 f1 e0 e1
  obtain ⟨hC', hB', hS'⟩ := hC.grew hB ho hg
  replace hC := hC'
  replace hB := hB'
  replace ho := ho2
  replace hS := Nat.le_trans hS hS'
  clear hg hC' hB' ho2 hS'
  try simp only [List.nil_append, List.cons_append, Nat.zero_add, Nat.reduceAdd] at ho
  obtain ⟨⟨c0, c1, f0, f1⟩, e0, e1⟩ := id hC
  go_wp2
  rw [rounds_succ]
  obtain ⟨u0, u1⟩ := Lib.atoiAll_bounds hu
  go_wp2_with (go_at_call 20; refine (parseInt_ok q hqs u hu _).mono ?_)
  rintro e w1 ⟨rfl, hb⟩
  clear c0 c1 f0 f1 e0 e1
  replace hB := Below.thenB hB hb
  replace hC := hC.below hb
  replace hS := Nat.le_trans hS hb.size
  replace ho := ho.kept (grown_any hb) (kept_any _)
  obtain ⟨⟨c0, c1, f0, f1⟩, e0, e1⟩ := id hC
  go_wp2_with (go_at_call 21; refine (formatInt_any u (by omega) (by omega) _ (hl.below hB)).mono ?_)
  rintro e w2 ⟨rfl, hb⟩
  clear c0 c1 f0 f1 e0 e1
  replace hB := Below.thenB hB hb
  replace hC := hC.below hb
  replace hS := Nat.le_trans hS hb.size
  replace ho := ho.kept (grown_any hb) (kept_any _)
  obtain ⟨⟨c0, c1, f0, f1⟩, e0, e1⟩ := id hC
  rw [huq]
  go_wp2_with (at_builtin; refine wpList_append_own _ rfl _ _ 51 rfl (w.heap.size + 2) 2 i0 (.int .i64 0) 1 8 Tryd.underlying51 hi hz0 hz1 hz2 rfl (by decide) _ 1 [.int .i64 v] rfl (ho.alloc _) ⟨w2.heap.size, 0, none⟩ 1 1 [.int .i64 u] rfl rfl ?c1 ?c2 ?c3 ?c4 ?c5 ?_)
  case c1 =>
    intro j u hj
    match j, hj with
    | 0, hj => simp at hj; subst hj; simp [Addr.add]
  case c2 => intro u hu; simp at hu; subst hu; rfl
  case c3 => unfold maxLen; omega
  case c4 => omega
  case c5 => simp; omega
  intro x2 w3 ho2 hg _
  clear c0 c1 f0 f1 e0 e1
  obtain ⟨hC', hB', hS'⟩ := hC.grew hB ho hg
  replace hC := hC'
  replace hB := hB'
  replace ho := ho2
  replace hS := Nat.le_trans hS hS'
  clear hg hC' hB' ho2 hS'
  try simp only [List.nil_append, List.cons_append, Nat.zero_add, Nat.reduceAdd] at ho
  obtain ⟨⟨c0, c1, f0, f1⟩, e0, e1⟩ := id hC
  go_wp2
  rw [rounds_succ]
  obtain ⟨g, cap, rfl, hg, d0, d1⟩ := two_cells ho
  go_wp2_with fail
  have k0 := fun o => cell_below (below1 w3 o) d0
  have k1 := fun o => cell_below (below1 w3 o) d1
  go_region
  clear c0 c1 f0 f1 e0 e1
  have hN := (At2.new w3 v u 23).drew
  replace hC := (hC.r.below (below1 w3 (.cells #[.int .i64 v, .int .i64 u] 23))).drew
  replace hB := (hB.alloc hB.size (.cells #[.int .i64 v, .int .i64 u] 23)).drew
  generalize hn : w3.heap.size = n3 at *
  generalize hW3 : (w3.alloc (.cells #[.int .i64 v, .int .i64 u] 23)).drew = W3 at *
  obtain ⟨c0, c1, f0, f1⟩ := id hC
  obtain ⟨e0, e1, m0, m1⟩ := id hN
  go_wp2_with (go_at_call 9; refine (isKey_walk v u _).mono ?_)
  rintro e w4 ⟨rfl, hb⟩
  clear c0 c1 f0 f1 e0 e1 m0 m1
  replace hB := Below.thenB hB hb
  replace hC := hC.below hb
  replace hN := hN.below hb
  obtain ⟨c0, c1, f0, f1⟩ := id hC
  obtain ⟨e0, e1, m0, m1⟩ := id hN
  rw [hk]
  go_wp2
  (try simp only [Exit.inBlock, Exit.then])
  refine bodyPost_ret (v := .tuple #[keyV v u, .int .i64 0]) ?_ rfl ⟨rfl, ?_⟩
  · obtain ⟨s0, s1, _, _⟩ := (hC.set0 v).set1 u
    rw [results_cell_tmp rfl]
    go_simp
    rfl
  · exact (hB.setCell (Nat.le_refl _) _).setCell (Nat.le_refl _) _
set_option maxRecDepth 100000 in
set_option maxHeartbeats 2000000 in
theorem read_range (s p q : ByteArray) (hs : s.size ≤ 20) (h : pieces s = [p, q]) (w : World) (hl : Laid w) (v : Int) (hv : Lib.atoiAll p.data.toList = .ok v) (hvp : bytes (Lib.itoa v) = p) (u : Int) (hu : Lib.atoiAll q.data.toList = .ok u) (huq : bytes (Lib.itoa u) = q) (hk : keyIs v u = false) : Calls Tryd.prog 15 #[.string s] w fun e w' => e = .returned (.tuple #[keyV 0 0, .int .i64 3]) ∧ Below w.heap.size w w' := by
  have hps : p.size ≤ 20 := Nat.le_trans (pieces_le (by rw [h]; simp)) hs
  have hqs : q.size ≤ 20 := Nat.le_trans (pieces_le (by rw [h]; simp)) hs
  obtain ⟨i0, hi, hz0, hz1, hz2⟩ := info_parts info2
  have hB : Below w.heap.size w (w.alloc (.cells #[.int .i64 0, .int .i64 0] 23)) := below1 _ _
  have hR := At2.new w 0 0 23
  go_enter Tryd.func15, Tryd.ntmps15
  go_wp2_with (go_at_call 19; refine (split_two s p q hs h _ (hl.below hB)).mono ?_)
  rintro e w1 ⟨rfl, rfl⟩
  have hC : Cut2 ((w.alloc (.cells #[.int .i64 0, .int .i64 0] 23)).alloc (.cells #[.string p, .string q] 9)) w.heap.size (w.heap.size + 1) p q := ⟨hR.below (below1 _ _), by simp, by simp⟩
  replace hB := below2 w (.cells #[.int .i64 0, .int .i64 0] 23) (.cells #[.string p, .string q] 9)
  have hS : w.heap.size + 2 ≤ ((w.alloc (.cells #[.int .i64 0, .int .i64 0] 23)).alloc (.cells #[.string p, .string q] 9)).heap.size := by simp
  generalize hW : ((w.alloc (.cells #[.int .i64 0, .int .i64 0] 23)).alloc (.cells #[.string p, .string q] 9)) = W at *
  simp only [World.size_alloc]
  clear hR
  have ho := World.ownsRow_nil W (w.heap.size + 2) 2 1
  obtain ⟨⟨c0, c1, f0, f1⟩, e0, e1⟩ := id hC
  go_wp2
  refine wp_loop_rounds 3 ?_
  rw [rounds_succ]
  obtain ⟨v0, v1⟩ := Lib.atoiAll_bounds hv
  go_wp2_with (go_at_call 20; refine (parseInt_ok p hps v hv _).mono ?_)
  rintro e w1 ⟨rfl, hb⟩
  clear c0 c1 f0 f1 e0 e1
  replace hB := Below.thenB hB hb
  replace hC := hC.below hb
  replace hS := Nat.le_trans hS hb.size
  replace ho := ho.kept (grown_any hb) (kept_any _)
  obtain ⟨⟨c0, c1, f0, f1⟩, e0, e1⟩ := id hC
  go_wp2_with (go_at_call 21; refine (formatInt_any v (by omega) (by omega) _ (hl.below hB)).mono ?_)
  rintro e w2 ⟨rfl, hb⟩
  clear c0 c1 f0 f1 e0 e1
  replace hB := Below.thenB hB hb
  replace hC := hC.below hb
  replace hS := Nat.le_trans hS hb.size
  replace ho := ho.kept (grown_any hb) (kept_any _)
  obtain ⟨⟨c0, c1, f0, f1⟩, e0, e1⟩ := id hC
  rw [hvp]
  go_wp2_with (at_builtin; refine wpList_append_own _ rfl _ _ 51 rfl (w.heap.size + 2) 2 i0 (.int .i64 0) 1 8 Tryd.underlying51 hi hz0 hz1 hz2 rfl (by decide) _ 0 [] rfl (ho.alloc _) ⟨w2.heap.size, 0, none⟩ 1 1 [.int .i64 v] rfl rfl ?c1 ?c2 ?c3 ?c4 ?c5 ?_)
  case c1 =>
    intro j u hj
    match j, hj with
    | 0, hj => simp at hj; subst hj; simp [Addr.add]
  case c2 => intro u hu; simp at hu; subst hu; rfl
  case c3 => unfold maxLen; omega
  case c4 => omega
  case c5 => simp; omega
  intro x1 w3 ho2 hg _
  clear c0 c1 f0 f1 e0 e1
  obtain ⟨hC', hB', hS'⟩ := hC.grew hB ho hg
  replace hC := hC'
  replace hB := hB'
  replace ho := ho2
  replace hS := Nat.le_trans hS hS'
  clear hg hC' hB' ho2 hS'
  try simp only [List.nil_append, List.cons_append, Nat.zero_add, Nat.reduceAdd] at ho
  obtain ⟨⟨c0, c1, f0, f1⟩, e0, e1⟩ := id hC
  go_wp2
  rw [rounds_succ]
  obtain ⟨u0, u1⟩ := Lib.atoiAll_bounds hu
  go_wp2_with (go_at_call 20; refine (parseInt_ok q hqs u hu _).mono ?_)
  rintro e w1 ⟨rfl, hb⟩
  clear c0 c1 f0 f1 e0 e1
  replace hB := Below.thenB hB hb
  replace hC := hC.below hb
  replace hS := Nat.le_trans hS hb.size
  replace ho := ho.kept (grown_any hb) (kept_any _)
  obtain ⟨⟨c0, c1, f0, f1⟩, e0, e1⟩ := id hC
  go_wp2_with (go_at_call 21; refine (formatInt_any u (by omega) (by omega) _ (hl.below hB)).mono ?_)
  rintro e w2 ⟨rfl, hb⟩
  clear c0 c1 f0 f1 e0 e1
  replace hB := Below.thenB hB hb
  replace hC := hC.below hb
  replace hS := Nat.le_trans hS hb.size
  replace ho := ho.kept (grown_any hb) (kept_any _)
  obtain ⟨⟨c0, c1, f0, f1⟩, e0, e1⟩ := id hC
  rw [huq]
  go_wp2_with (at_builtin; refine wpList_append_own _ rfl _ _ 51 rfl (w.heap.size + 2) 2 i0 (.int .i64 0) 1 8 Tryd.underlying51 hi hz0 hz1 hz2 rfl (by decide) _ 1 [.int .i64 v] rfl (ho.alloc _) ⟨w2.heap.size, 0, none⟩ 1 1 [.int .i64 u] rfl rfl ?c1 ?c2 ?c3 ?c4 ?c5 ?_)
  case c1 =>
    intro j u hj
    match j, hj with
    | 0, hj => simp at hj; subst hj; simp [Addr.add]
  case c2 => intro u hu; simp at hu; subst hu; rfl
  case c3 => unfold maxLen; omega
  case c4 => omega
  case c5 => simp; omega
  intro x2 w3 ho2 hg _
  clear c0 c1 f0 f1 e0 e1
  obtain ⟨hC', hB', hS'⟩ := hC.grew hB ho hg
  replace hC := hC'
  replace hB := hB'
  replace ho := ho2
  replace hS := Nat.le_trans hS hS'
  clear hg hC' hB' ho2 hS'
  try simp only [List.nil_append, List.cons_append, Nat.zero_add, Nat.reduceAdd] at ho
  obtain ⟨⟨c0, c1, f0, f1⟩, e0, e1⟩ := id hC
  go_wp2
  rw [rounds_succ]
  obtain ⟨g, cap, rfl, hg, d0, d1⟩ := two_cells ho
  go_wp2_with fail
  have k0 := fun o => cell_below (below1 w3 o) d0
  have k1 := fun o => cell_below (below1 w3 o) d1
  go_region
  clear c0 c1 f0 f1 e0 e1
  have hN := (At2.new w3 v u 23).drew
  replace hC := (hC.r.below (below1 w3 (.cells #[.int .i64 v, .int .i64 u] 23))).drew
  replace hB := (hB.alloc hB.size (.cells #[.int .i64 v, .int .i64 u] 23)).drew
  generalize hn : w3.heap.size = n3 at *
  generalize hW3 : (w3.alloc (.cells #[.int .i64 v, .int .i64 u] 23)).drew = W3 at *
  obtain ⟨c0, c1, f0, f1⟩ := id hC
  obtain ⟨e0, e1, m0, m1⟩ := id hN
  go_wp2_with (go_at_call 9; refine (isKey_walk v u _).mono ?_)
  rintro e w4 ⟨rfl, hb⟩
  clear c0 c1 f0 f1 e0 e1 m0 m1
  replace hB := Below.thenB hB hb
  replace hC := hC.below hb
  replace hN := hN.below hb
  obtain ⟨c0, c1, f0, f1⟩ := id hC
  obtain ⟨e0, e1, m0, m1⟩ := id hN
  rw [hk]
  go_wp2
  (try simp only [Exit.inBlock, Exit.then])
  refine bodyPost_ret (v := .tuple #[keyV 0 0, .int .i64 3]) ?_ rfl ⟨rfl, ?_⟩
  · obtain ⟨s0, s1, _, _⟩ := (hC.set0 0).set1 0
    rw [results_cell_tmp rfl]
    go_simp
    rfl
  · exact (hB.setCell (Nat.le_refl _) _).setCell (Nat.le_refl _) _
set_option maxRecDepth 100000 in
theorem read_not (s : ByteArray) (hs : s.size ≤ 20) (h : (pieces s).length ≠ 2) (w : World) (hl : Laid w) : Calls Tryd.prog 15 #[.string s] w fun e w' => e = .returned (.tuple #[keyV 0 0, .int .i64 1]) ∧ Below w.heap.size w w' := by
  have hB : Below w.heap.size w (w.alloc (.cells #[.int .i64 0, .int .i64 0] 23)) := below1 _ _
  have hR := At2.new w 0 0 23
  go_enter Tryd.func15, Tryd.ntmps15
  go_wp2_with (go_at_call 19; refine (split_not s hs h _ (hl.below hB)).mono ?_)
  rintro e w1 ⟨a, n, hn, rfl, hb⟩
  replace hB := Below.thenB hB hb
  replace hR := hR.below hb
  obtain ⟨c0, c1, f0, f1⟩ := id hR
  go_wp2
  (try simp only [Exit.inBlock, Exit.then])
  refine bodyPost_ret (v := .tuple #[keyV 0 0, .int .i64 1]) ?_ rfl ⟨rfl, ?_⟩
  · obtain ⟨s0, s1, _, _⟩ := (hR.set0 0).set1 0
    rw [results_cell_tmp rfl]
    go_simp
    rfl
  · exact (hB.setCell (Nat.le_refl _) _).setCell (Nat.le_refl _) _
/-- The document's reader reads a key's text. -/
theorem read_walk (s : ByteArray) (hs : s.size ≤ 20) (w : World) (hl : Laid w) : Calls Tryd.prog 15 #[.string s] w fun e w' => e = .returned (endV (readKey s.data.toList)) ∧ Below w.heap.size w w' := by
  rw [← ref_read]
  unfold refRead
  rw [← pieces_data]
  rcases h : pieces s with _ | ⟨p, _ | ⟨q, _ | ⟨r, t⟩⟩⟩
  · exact read_not s hs (by rw [h]; simp) w hl
  · exact read_not s hs (by rw [h]; simp) w hl
  rotate_left
  · exact read_not s hs (by rw [h]; simp) w hl
  simp only [List.map_cons, List.map_nil]
  cases hx : numOf p.data.toList with
  | none =>
    show Calls Tryd.prog 15 #[.string s] w fun e w' => e = .returned (endV .text) ∧ Below w.heap.size w w'
    by_cases hv : ∃ v, Lib.atoiAll p.data.toList = .ok v
    · obtain ⟨v, hv⟩ := hv
      refine read_pne s p q hs h w hl v hv fun e => ?_
      unfold numOf at hx
      rw [hv] at hx
      simp only at hx
      rw [if_pos (by rw [← e, data_bytes])] at hx
      cases hx
    · exact read_pbad s p q hs h w hl fun v e => hv ⟨v, e⟩
  | some v =>
    obtain ⟨x1, x2⟩ := numOf_some hx
    have hvp : bytes (Lib.itoa v) = p := by rw [x1]; exact bytes_of p
    cases hy : numOf q.data.toList with
    | none =>
      show Calls Tryd.prog 15 #[.string s] w fun e w' => e = .returned (endV .text) ∧ Below w.heap.size w w'
      by_cases hu : ∃ u, Lib.atoiAll q.data.toList = .ok u
      · obtain ⟨u, hu⟩ := hu
        refine read_qne s p q hs h w hl v x2 hvp u hu fun e => ?_
        unfold numOf at hy
        rw [hu] at hy
        simp only at hy
        rw [if_pos (by rw [← e, data_bytes])] at hy
        cases hy
      · exact read_qbad s p q hs h w hl v x2 hvp fun u e => hu ⟨u, e⟩
    | some u =>
      obtain ⟨y1, y2⟩ := numOf_some hy
      have huq : bytes (Lib.itoa u) = q := by rw [y1]; exact bytes_of q
      show Calls Tryd.prog 15 #[.string s] w fun e w' => e = .returned (endV (if keyIs v u = true then .ok v u else .range)) ∧ Below w.heap.size w w'
      cases hk : keyIs v u with
      | true => exact read_ok s p q hs h w hl v x2 hvp u y2 huq hk
      | false => exact read_range s p q hs h w hl v x2 hvp u y2 huq hk
theorem read_gives (s : ByteArray) (hs : s.size ≤ 20) : Gives 15 #[.string s] (endV (readKey s.data.toList)) := fun w hl => read_walk s hs w hl
end Go.Proofs.YtpmamacjepcdmaaDoor

