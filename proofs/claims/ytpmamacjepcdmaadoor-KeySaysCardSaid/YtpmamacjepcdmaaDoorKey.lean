/- Plain: keys and their texts, as lists of bytes. -/
import Derived.Lib.Split
import Derived.Lib.AtoiAll
import Derived.Lib.ItoaNum
namespace Go.Proofs.YtpmamacjepcdmaaDoor
open Go

/-- The number that a text spells, if it is that number's own text. -/
def numOf (l : List UInt8) : Option Int := match Lib.atoiAll l with
  | .ok v => if Lib.itoa v = l then some v else none
  | _ => none
def keyIs (a b : Int) : Bool := decide (0 ≤ a ∧ a ≤ 15 ∧ 0 ≤ b ∧ b ≤ 15)
def keyText (a b : Int) : List UInt8 := Lib.itoa a ++ 62 :: Lib.itoa b
/-- 2: too many bytes; 3: out of range; 1: no text of a key. -/
inductive KeyEnd where
  | ok (a b : Int) | many | text | range
  deriving DecidableEq
/-- What stands on both sides of the first '>'. -/
def sides (l : List UInt8) : List UInt8 × List UInt8 × Bool := Lib.cut l [62]
def readKey (l : List UInt8) : KeyEnd :=
  match numOf (sides l).1, numOf (sides l).2.1 with
  | some a, some b => if (sides l).2.2 = false then .text else if keyIs a b = true then .ok a b else .range
  | _, _ => .text
def parseKey (l : List UInt8) : KeyEnd := if 20 < l.length then .many else readKey l

theorem sides_hit {l a b : List UInt8} (h : sides l = (a, b, true)) : l = a ++ 62 :: b ∧ (62 : UInt8) ∉ a := by
  unfold sides Lib.cut at h
  rcases Lib.index_spec l [62] with ⟨h1, _⟩ | ⟨i, h1, h2, h3, h4⟩
  · rw [h1, if_neg (by omega)] at h
    cases h
  · rw [h1, if_pos (by omega)] at h
    simp only [Int.toNat_natCast, List.length_cons, List.length_nil, Prod.mk.injEq, and_true] at h
    obtain ⟨ha, hb⟩ := h
    have h5 := Lib.occAt_head (c := 62) (t := []) rfl h3
    have hlt : i < l.length := by
      rcases Nat.lt_or_ge i l.length with g | g
      · exact g
      · rw [List.getElem?_eq_none g] at h5; cases h5
    refine ⟨?_, fun hm => ?_⟩
    · have : l = l.take i ++ l.drop i := (List.take_append_drop i l).symm
      rw [List.drop_eq_getElem_cons hlt] at this
      rw [List.getElem?_eq_getElem hlt] at h5
      rw [Option.some.inj h5, ha, hb] at this
      exact this
    · rw [← ha] at hm
      obtain ⟨j, hj⟩ := List.getElem?_of_mem hm
      have hji : j < i := by
        rcases Nat.lt_or_ge j i with g | g
        · exact g
        · rw [List.getElem?_eq_none (by rw [List.length_take]; omega)] at hj; cases hj
      rw [List.getElem?_take_of_lt hji] at hj
      have := h4 j hji
      unfold Lib.occAt at this
      rw [List.drop_eq_getElem_cons (by omega)] at this
      rw [List.getElem?_eq_getElem (by omega)] at hj
      rw [Option.some.inj hj] at this
      simp [List.isPrefixOf] at this
theorem sides_miss {l : List UInt8} (h : (62 : UInt8) ∉ l) : sides l = (l, [], false) := by
  unfold sides Lib.cut
  rcases Lib.index_spec l [62] with ⟨h1, _⟩ | ⟨i, h1, h2, h3, h4⟩
  · rw [h1, if_neg (by omega)]
  · exact absurd (List.mem_of_getElem? (Lib.occAt_head (c := 62) (t := []) rfl h3)) h
theorem sides_at {a b : List UInt8} (h : (62 : UInt8) ∉ a) : sides (a ++ 62 :: b) = (a, b, true) := by
  have hi : Lib.index (a ++ 62 :: b) [62] = a.length := by
    refine Lib.index_first (by simp) (by simp [Lib.occAt, List.isPrefixOf]) fun j hj => ?_
    unfold Lib.occAt
    rw [List.drop_append_of_le_length (by omega), List.drop_eq_getElem_cons hj]
    have : a[j] ≠ 62 := fun e => h (by rw [← e]; exact List.getElem_mem _)
    rw [List.cons_append]
    show ((62 : UInt8) == a[j] && _) = false
    rw [beq_false_of_ne (Ne.symm this)]; rfl
  unfold sides Lib.cut
  rw [hi, if_pos (by omega)]
  simp
theorem numOf_some {l : List UInt8} {v : Int} (h : numOf l = some v) : Lib.itoa v = l ∧ Lib.atoiAll l = .ok v := by
  unfold numOf at h
  split at h
  · rename_i w hw
    split at h
    · rename_i e
      obtain rfl := Option.some.inj h
      exact ⟨e, hw⟩
    · cases h
  · cases h
/-- What is read is printed as it was. -/
theorem read_back {l : List UInt8} {a b : Int} (h : readKey l = .ok a b) : keyText a b = l ∧ keyIs a b = true := by
  unfold readKey at h
  split at h
  · rename_i x y hx hy
    split at h
    · cases h
    · rename_i hs
      split at h
      · rename_i hk
        injection h with h1 h2
        subst h1 h2
        have e : sides l = ((sides l).1, (sides l).2.1, true) := by
          rcases e : sides l with ⟨p, q, r⟩
          rw [e] at hs
          simpa using hs
        refine ⟨?_, hk⟩
        unfold keyText
        rw [(numOf_some hx).1, (numOf_some hy).1]
        exact (sides_hit e).1.symm
      · cases h
  · cases h
theorem print_fin : ∀ a b : Fin 16, parseKey (keyText (a.val : Int) (b.val : Int)) = .ok (a.val : Int) (b.val : Int) := by decide +kernel
/-- What is printed is read. -/
theorem print_read {a b : Int} (h : keyIs a b = true) : parseKey (keyText a b) = .ok a b := by
  unfold keyIs at h
  have h := of_decide_eq_true h
  have := print_fin ⟨a.toNat, by omega⟩ ⟨b.toNat, by omega⟩
  simp only [Int.toNat_of_nonneg h.1, Int.toNat_of_nonneg h.2.2.1] at this
  exact this
theorem text_inj {a b c d : Int} (h1 : keyIs a b = true) (h2 : keyIs c d = true) : keyText a b = keyText c d ↔ a = c ∧ b = d := by
  constructor
  · intro h
    have e1 := print_read h1
    rw [h, print_read h2] at e1
    injection e1 with x y
    exact ⟨x.symm, y.symm⟩
  · rintro ⟨rfl, rfl⟩; rfl
theorem dig_fin : ∀ k : Fin 10, UInt8.ofNat (48 + k.val) ≠ 62 := by decide +kernel
theorem dec_no (u : Nat) : (62 : UInt8) ∉ Lib.decDigits u := by
  rw [Lib.decDigits_eq]
  intro h
  obtain ⟨t, _, e⟩ := List.mem_map.1 h
  unfold Lib.dg at e
  exact dig_fin ⟨_, Nat.mod_lt _ (by decide)⟩ e
theorem itoa_no (v : Int) : (62 : UInt8) ∉ Lib.itoa v := by
  unfold Lib.itoa
  split
  · intro h
    rcases List.mem_cons.1 h with h | h
    · cases h
    · exact dec_no _ h
  · exact dec_no _
theorem numOf_no {l : List UInt8} (h : (62 : UInt8) ∈ l) : numOf l = none := by
  cases e : numOf l with
  | none => rfl
  | some v =>
    have := (numOf_some e).1
    rw [← this] at h
    exact absurd h (itoa_no v)
/-! What the document's reader does: all pieces between '>'. -/
def refRead (l : List UInt8) : KeyEnd := match Lib.split l [62] with
  | [a, b] => (match numOf a, numOf b with
    | some x, some y => if keyIs x y = true then .ok x y else .range
    | _, _ => .text)
  | _ => .text
theorem index_at {a b : List UInt8} (h : (62 : UInt8) ∉ a) : Lib.index (a ++ 62 :: b) [62] = (a.length : Nat) := by
  have h1 := sides_at (b := b) h
  unfold sides Lib.cut at h1
  rcases Lib.index_spec (a ++ 62 :: b) [62] with ⟨h2, _⟩ | ⟨i, h2, h3, h4, h5⟩
  · rw [h2, if_neg (by omega)] at h1
    exact absurd (congrArg (fun x => x.2.2) h1) (by simp)
  · rw [h2, if_pos (by omega)] at h1
    simp only [Int.toNat_natCast, Prod.mk.injEq] at h1
    have := congrArg List.length h1.1
    rw [List.length_take] at this
    rw [h2]
    congr 1
    omega
theorem index_no {l : List UInt8} (h : (62 : UInt8) ∉ l) : Lib.index l [62] = -1 := by
  rcases Lib.index_spec l [62] with ⟨h1, _⟩ | ⟨i, h1, h2, h3, h4⟩
  · exact h1
  · exact absurd (List.mem_of_getElem? (Lib.occAt_head (c := 62) (t := []) rfl h3)) h
theorem split_none {l : List UInt8} (h : (62 : UInt8) ∉ l) : Lib.split l [62] = [l] := by
  unfold Lib.split
  rw [Lib.count_miss (index_no h)]; rfl
theorem split_hit {a b : List UInt8} (h : (62 : UInt8) ∉ a) : Lib.split (a ++ 62 :: b) [62] = a :: Lib.split b [62] := by
  unfold Lib.split
  have hd : (a ++ 62 :: b).drop (a.length + 1) = b := by simp
  have hd' : (a ++ 62 :: b).drop (a.length + [(62 : UInt8)].length) = b := hd
  rw [Lib.count_hit (i := a.length) (by simp) (index_at h), hd', Nat.add_comm]
  rw [show Lib.splitK [62] 0 (Lib.count b [62] + 1) (a ++ 62 :: b) = if Lib.index (a ++ 62 :: b) [62] == -1 then [a ++ 62 :: b] else (a ++ 62 :: b).take ((Lib.index (a ++ 62 :: b) [62]).toNat + 0) :: Lib.splitK [62] 0 (Lib.count b [62]) ((a ++ 62 :: b).drop ((Lib.index (a ++ 62 :: b) [62]).toNat + [(62 : UInt8)].length)) from rfl, index_at h, if_neg (by simp)]
  simp
theorem first_of {l : List UInt8} (h : (62 : UInt8) ∈ l) : ∃ a b, l = a ++ 62 :: b ∧ (62 : UInt8) ∉ a := by
  induction l with
  | nil => cases h
  | cons c l ih =>
    by_cases e : c = 62
    · subst e; exact ⟨[], l, rfl, by simp⟩
    · have h' : (62 : UInt8) ∈ l := by
        rcases List.mem_cons.1 h with h | h
        · exact absurd h.symm e
        · exact h
      obtain ⟨a, b, h1, h2⟩ := ih h'
      exact ⟨c :: a, b, by rw [h1]; rfl, by simp [h2, Ne.symm e]⟩
theorem ref_read (l : List UInt8) : refRead l = readKey l := by
  unfold refRead readKey
  by_cases h : (62 : UInt8) ∈ l
  · obtain ⟨a, b, rfl, ha⟩ := first_of h
    rw [split_hit ha, sides_at ha]
    by_cases hb : (62 : UInt8) ∈ b
    · obtain ⟨c, d, rfl, hc⟩ := first_of hb
      rw [split_hit hc]
      have hne : ∃ x r, Lib.split d [62] = x :: r := by
        by_cases hd : (62 : UInt8) ∈ d
        · obtain ⟨p, q, rfl, hp⟩ := first_of hd
          exact ⟨_, _, split_hit hp⟩
        · exact ⟨_, _, split_none hd⟩
      obtain ⟨x, r, e⟩ := hne
      rw [e]
      simp only
      rw [numOf_no hb]
      cases numOf a <;> rfl
    · rw [split_none hb]
      simp only
      cases numOf a <;> cases numOf b <;> simp
  · rw [split_none h, sides_miss h]
    simp only
    cases numOf l <;> cases numOf [] <;> simp
end Go.Proofs.YtpmamacjepcdmaaDoor
