/- What the walks of the laws ask, of the plain laws. -/
import Derived.Test.YtpmamacjepcdmaaDoorLaid
namespace Go.Proofs.YtpmamacjepcdmaaDoor
open Go Go.Proofs Go.RowKit
def Gives (f : Nat) (args : Array Value) (v : Value) : Prop := ∀ u : World, Laid u → Calls Tryd.prog f args u fun e w' => e = .returned v ∧ Below u.heap.size u w'
/-! What the walks ask, of the plain laws. -/
theorem parse_is (s : ByteArray) (hm : s.size ≤ 9223372036854775807) (x y : Int) (h : parseKey s.data.toList = .ok x y) : Gives 8 #[.string s] (.tuple #[.agg #[.int .i64 x, .int .i64 y], .int .i64 0]) := fun w hl => by
  have := parse_walk s hm w hl
  rw [h] at this
  exact this
theorem parse_not (s : ByteArray) (hm : s.size ≤ 9223372036854775807) (h : ∀ x y, parseKey s.data.toList ≠ .ok x y) : ∃ c : Int, 1 ≤ c ∧ Gives 8 #[.string s] (.tuple #[.agg #[.int .i64 0, .int .i64 0], .int .i64 c]) := by
  have := parse_walk s hm
  cases e : parseKey s.data.toList with
  | ok x y => exact absurd e (h x y)
  | many => rw [e] at this; exact ⟨2, by decide, this⟩
  | text => rw [e] at this; exact ⟨1, by decide, this⟩
  | range => rw [e] at this; exact ⟨3, by decide, this⟩
theorem itoa_small {a : Int} (h0 : 0 ≤ a) (h1 : a ≤ 15) : (Lib.itoa a).length ≤ 2 := by
  obtain ⟨i, rfl⟩ : ∃ i : Nat, a = i := ⟨a.toNat, by omega⟩
  rw [itoa_nat]
  exact dec_len i (by omega)
theorem text_size {a b : Int} (h : keyIs a b = true) : (bytes (keyText a b)).size ≤ 9223372036854775807 := by
  obtain ⟨k1, k2, k3, k4⟩ := keyIs_iff.1 h
  have h1 := itoa_small k1 k2
  have h2 := itoa_small k3 k4
  rw [size_bytes]
  unfold keyText
  simp only [List.length_append, List.length_cons]
  omega
theorem parse_text (a b : Int) (h : keyIs a b = true) : Gives 8 #[.string (bytes (keyText a b))] (.tuple #[.agg #[.int .i64 a, .int .i64 b], .int .i64 0]) :=
  parse_is _ (text_size h) a b (by rw [data_bytes]; exact print_read h)
theorem print_gives (a b : Int) (h : keyIs a b = true) : Gives 7 #[.agg #[.int .i64 a, .int .i64 b]] (.tuple #[.string (bytes (keyText a b)), .int .i64 0]) := fun w _ => print_ok a b w h
theorem print_no (a b : Int) (h : keyIs a b = false) : Gives 7 #[.agg #[.int .i64 a, .int .i64 b]] (.tuple #[.string ⟨#[]⟩, .int .i64 3]) := fun w _ => print_bad a b w h
theorem bytes_of (s : ByteArray) : bytes s.data.toList = s := ByteArray.ext (by simp [bytes])
theorem key_of {s : ByteArray} {x y : Int} (h : parseKey s.data.toList = .ok x y) : keyIs x y = true ∧ bytes (keyText x y) = s := by
  unfold parseKey at h
  split at h
  · cases h
  · obtain ⟨h1, h2⟩ := read_back h
    exact ⟨h2, by rw [h1]; exact bytes_of s⟩
theorem print_is (s : ByteArray) (x y : Int) (h : parseKey s.data.toList = .ok x y) : Gives 7 #[.agg #[.int .i64 x, .int .i64 y]] (.tuple #[.string s, .int .i64 0]) := by
  obtain ⟨h1, h2⟩ := key_of h
  have := print_gives x y h1
  rw [h2] at this
  exact this
theorem bucket_gives (a b n : Int) : (∃ k : Int, 0 ≤ k ∧ k < n ∧ Gives 6 #[.agg #[.int .i64 a, .int .i64 b], .int .i64 n] (.tuple #[.int .i64 k, .int .i64 0])) ∨ Gives 6 #[.agg #[.int .i64 a, .int .i64 b], .int .i64 n] (.tuple #[.int .i64 0, .int .i64 3]) := by
  cases hk : keyIs a b with
  | false => exact .inr fun w _ => bucket_bad a b n w hk
  | true =>
    by_cases h1 : 1 ≤ n ∧ n ≤ 4
    · exact .inl ⟨_, Int.emod_nonneg _ (by omega), Int.emod_lt_of_pos _ (by omega), fun w _ => bucket_in a b n w hk h1.1 h1.2⟩
    · exact .inr fun w _ => bucket_out a b n w hk (by omega)
end Go.Proofs.YtpmamacjepcdmaaDoor
