import Derived.Test.YtpmamacjepcdmaaDoorWalkA
import Derived.Lib.AppendIntMem
import Derived.Lib.AtoiErrMem
import Derived.Lib.AtoiAllCases
import Derived.Lib.AtoiBound
namespace Go.Proofs.YtpmamacjepcdmaaDoor
open Go Go.Proofs Go.RowKit
theorem cell_below {w w' : World} (hb : Below w.heap.size w w') {a : Addr} {v : Value} (hc : w.cell? a = some v) : w'.cell? a = some v := (hb.cell (World.block_lt_of_cell? w a hc)).trans hc
theorem tab_below {P : Program} {n : String} {g : Nat} {k : IntKind} {zs : List Int} {w w' : World} (hg : P.globalNamed n = some g) (h : Lib.TabIs P w n k zs) (hb : Below w.heap.size w w') : Lib.TabIs P w' n k zs := by
  unfold Lib.TabIs World.var? at h ⊢
  rw [hg] at h ⊢
  simp only [Option.bind_some] at h ⊢
  have hlt : g < w.heap.size := by
    rcases Nat.lt_or_ge g w.heap.size with h' | h'
    · exact h'
    · rw [Array.getElem?_eq_none h'] at h; cases h
  rw [hb.block g hlt]
  exact h
/-- What the listed variables hold. -/
structure Laid (w : World) : Prop where
  syn : ∃ te pe, w.cell? ⟨1, 0, none⟩ = some (.iface te pe)
  rng : ∃ te pe, w.cell? ⟨2, 0, none⟩ = some (.iface te pe)
  tab : Lib.TabIs Tryd.prog w "internal/strconv.uint64pow10" .u64 Lib.pow10Tab
  mx : ∃ m, w.cell? ⟨0, 0, none⟩ = some (.int .i64 m)
theorem gTab : ∃ g, Tryd.prog.globalNamed "internal/strconv.uint64pow10" = some g := Option.isSome_iff_exists.1 (by kernel_rfl)
theorem Laid.below {w w' : World} (h : Laid w) (hb : Below w.heap.size w w') : Laid w' := by
  obtain ⟨⟨a, b, c⟩, ⟨d, e, f⟩, t, ⟨m, hm⟩⟩ := h
  obtain ⟨g, hg⟩ := gTab
  exact ⟨⟨a, b, cell_below hb c⟩, ⟨d, e, cell_below hb f⟩, tab_below hg t hb, ⟨m, cell_below hb hm⟩⟩
theorem itoa_any (n : Int) (h0 : -9223372036854775808 ≤ n) (h1 : n ≤ 9223372036854775807) (w : World) (h : Laid w) : Calls Tryd.prog 16 #[.int .i64 n] w fun e w' => e = .returned (.string (bytes (Lib.itoa n))) ∧ Below w.heap.size w w' :=
  (Tryd.strconv_Itoa n h0 h1 w h.tab).mono fun e w' ⟨he, k, os, hw⟩ => ⟨he, by rw [hw]; exact Lib.below_grow _ _ (Nat.le_refl _) _ _⟩
theorem atoi_ok (s : ByteArray) (hs : s.size ≤ 20) (v : Int) (h : Lib.atoiAll s.data.toList = .ok v) (w : World) : Calls Tryd.prog 18 #[.string s] w fun e w' => e = .returned (.tuple #[.int .i64 v, .nilIface]) ∧ Below w.heap.size w w' :=
  (Tryd.strconv_Atoi_ok s (by omega) v h w).mono fun e w' ⟨he, hw⟩ => ⟨he, by
    rcases hw with rfl | ⟨t, rfl⟩
    · exact Below.refl _ _
    · exact Lib.bytesWorld_below _ _ _⟩
theorem atoi_bad (s : ByteArray) (hs : s.size ≤ 20) (h : ∀ v, Lib.atoiAll s.data.toList ≠ .ok v) (w : World) (hl : Laid w) : Calls Tryd.prog 18 #[.string s] w fun e w' => ∃ n N, e = .returned (.tuple #[.int .i64 n, .iface 60 (.pointer (some ⟨N, 0, none⟩))]) ∧ Below w.heap.size w w' := by
  rcases e : Lib.atoiAll s.data.toList with v | _ | _
  · exact absurd e (h v)
  · obtain ⟨a, b, c⟩ := hl.syn
    exact (Any.strconv_Atoi_syntax Tryd.laysC172 s (by omega) e _ w c (.inr ⟨a, b, rfl⟩)).mono fun e w' ⟨N, h1, _, _, h4⟩ => ⟨_, N, h1, h4⟩
  · obtain ⟨a, b, c⟩ := hl.rng
    exact (Any.strconv_Atoi_range Tryd.laysC172 s (by omega) e _ w c (.inr ⟨a, b, rfl⟩)).mono fun e w' ⟨N, h1, _, _, h4⟩ => ⟨_, N, h1, h4⟩
theorem cut_any (s : ByteArray) (hs : s.size ≤ 20) (w : World) (h : Laid w) : Calls Tryd.prog 17 #[.string s, .string ⟨#[62]⟩] w fun e w' => e = .returned (.tuple #[.string (bytes (sides s.data.toList).1), .string (bytes (sides s.data.toList).2.1), .bool (sides s.data.toList).2.2]) ∧ Below w.heap.size w w' := by
  obtain ⟨m, hm⟩ := h.mx
  exact (Tryd.strings_Cut s ⟨#[62]⟩ m w (by omega) hm).mono fun e w' ⟨he, n, hw⟩ => ⟨he, by rw [hw]; exact below_drewN (Below.refl _ _) _⟩
end Go.Proofs.YtpmamacjepcdmaaDoor
