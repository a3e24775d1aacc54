/- The library's calls of the document's ReadKey, in its own words. -/
import Derived.Test.YtpmamacjepcdmaaDoorSays
import Derived.Test.YtpmamacjepcdmaaDoorShelfB
import Derived.Lib.ParseIntBTie
import Derived.Lib.SplitLaws
namespace Go.Proofs.YtpmamacjepcdmaaDoor
open Go Go.Proofs Go.RowKit
theorem parseInt_ok (s : ByteArray) (hs : s.size ≤ 20) (v : Int) (h : Lib.atoiAll s.data.toList = .ok v) (w : World) : Calls Tryd.prog 20 #[.string s, .int .i64 10, .int .i64 64] w fun e w' => e = .returned (.tuple #[.int .i64 v, .nilIface]) ∧ Below w.heap.size w w' :=
  (Tryd.strconv_ParseInt_10_at64_ok s (by omega) v (by rw [Lib.parseIntB_64]; exact h) w).mono fun e w' ⟨he, hw⟩ => ⟨he, by
    rcases hw with rfl | ⟨t, rfl⟩
    · exact Below.refl _ _
    · exact Lib.bytesWorld_below _ _ _⟩
theorem parseInt_bad (s : ByteArray) (hs : s.size ≤ 20) (h : ∀ v, Lib.atoiAll s.data.toList ≠ .ok v) (w : World) (hl : Laid w) : Calls Tryd.prog 20 #[.string s, .int .i64 10, .int .i64 64] w fun e w' => ∃ n N, e = .returned (.tuple #[.int .i64 n, .iface 60 (.pointer (some ⟨N, 0, none⟩))]) ∧ Below w.heap.size w w' := by
  rcases e : Lib.atoiAll s.data.toList with v | _ | _
  · exact absurd e (h v)
  · obtain ⟨a, b, c⟩ := hl.syn
    exact (Any.strconv_ParseInt_10_at64_syntax Tryd.laysC174 s (by omega) (by rw [Lib.parseIntB_64]; exact e) _ w c (.inr ⟨a, b, rfl⟩)).mono fun e w' ⟨N, h1, _, _, h4⟩ => ⟨_, N, h1, h4⟩
  · obtain ⟨a, b, c⟩ := hl.rng
    exact (Any.strconv_ParseInt_10_at64_range Tryd.laysC174 s (by omega) (by rw [Lib.parseIntB_64]; exact e) _ w c (.inr ⟨a, b, rfl⟩)).mono fun e w' ⟨N, h1, _, _, h4⟩ => ⟨_, N, h1, h4⟩
theorem formatInt_any (n : Int) (h0 : -9223372036854775808 ≤ n) (h1 : n ≤ 9223372036854775807) (w : World) (h : Laid w) : Calls Tryd.prog 21 #[.int .i64 n, .int .i64 10] w fun e w' => e = .returned (.string (bytes (Lib.itoa n))) ∧ Below w.heap.size w w' :=
  (Tryd.strconv_FormatInt_10 n h0 h1 w h.tab).mono fun e w' ⟨he, k, os, hw⟩ => ⟨he, by rw [hw]; exact Lib.below_grow _ _ (Nat.le_refl _) _ _⟩
/-- All pieces between '>'. -/
def pieces (s : ByteArray) : List ByteArray := Lib.splitB ⟨#[62]⟩ 0 (Lib.countB s ⟨#[62]⟩) s
theorem pieces_len (s : ByteArray) : (pieces s).length = Lib.countB s ⟨#[62]⟩ + 1 := Lib.splitB_all _ (by decide) 0 _ s rfl
theorem pieces_data (s : ByteArray) : (pieces s).map (·.data.toList) = Lib.split s.data.toList [62] := Lib.splitB_data _ 0 _ s
theorem piece_le (sep : ByteArray) : ∀ (k : Nat) (s p : ByteArray), p ∈ Lib.splitB sep 0 k s → p.size ≤ s.size
  | 0, s, p, h => by
    rw [Lib.splitB_zero] at h
    rw [List.mem_singleton.1 h]; exact Nat.le_refl _
  | k + 1, s, p, h => by
    unfold Lib.splitB at h
    split at h
    · rw [List.mem_singleton.1 h]; exact Nat.le_refl _
    · rcases List.mem_cons.1 h with rfl | h
      · rw [ByteArray.size_extract]; omega
      · have := piece_le sep k _ p h
        rw [ByteArray.size_extract] at this; omega
theorem pieces_le {s p : ByteArray} (h : p ∈ pieces s) : p.size ≤ s.size := piece_le _ _ _ _ h
theorem split_two (s p q : ByteArray) (hs : s.size ≤ 20) (h : pieces s = [p, q]) (w : World) (hl : Laid w) : Calls Tryd.prog 19 #[.string s, .string ⟨#[62]⟩] w fun e w' => e = .returned (.slice (some ⟨w.heap.size, 0, none⟩) 2 2) ∧ w' = w.alloc (.cells #[.string p, .string q] 9) := by
  obtain ⟨m, hm⟩ := hl.mx
  have hc : Lib.countB s ⟨#[62]⟩ = 1 := by
    have := pieces_len s
    rw [h] at this
    simpa using this.symm
  refine (Tryd.strings_Split s ⟨#[62]⟩ m w (by omega) hm (by decide)).mono fun e w' ⟨he, hw⟩ => ⟨by rw [he, hc], ?_⟩
  rw [hw]
  show w.alloc (.cells ((pieces s).map Value.string).toArray 9) = _
  rw [h]
  simp
theorem split_not (s : ByteArray) (hs : s.size ≤ 20) (h : (pieces s).length ≠ 2) (w : World) (hl : Laid w) : Calls Tryd.prog 19 #[.string s, .string ⟨#[62]⟩] w fun e w' => ∃ (a : Addr) (n : Nat), n ≠ 2 ∧ e = .returned (.slice (some a) n n) ∧ Below w.heap.size w w' := by
  obtain ⟨m, hm⟩ := hl.mx
  refine (Tryd.strings_Split s ⟨#[62]⟩ m w (by omega) hm (by decide)).mono fun e w' ⟨he, hw⟩ => ⟨_, Lib.countB s ⟨#[62]⟩ + 1, by rw [← pieces_len]; exact h, he, ?_⟩
  rw [hw]
  exact below1 _ _
end Go.Proofs.YtpmamacjepcdmaaDoor
