/- A loop's head that a state meets. -/
import Derived.Test.YtpmamacjepcdmaaSyLoop
namespace Go.Sy
open Go.RowKit

/-! ### Lists -/
theorem lookT_mem {α : Type} {n : Nat} {x : α} : ∀ {l : List (Nat × α)}, lookT n l = some x → (n, x) ∈ l
  | [], h => by simp [lookT] at h
  | (m, y) :: l, h => by
    simp only [lookT] at h
    split at h
    · rename_i e
      have e := Nat.eq_of_beq_eq_true e
      cases h; subst e; simp
    · exact List.mem_cons_of_mem _ (lookT_mem h)
theorem mem_lookT {α : Type} {n : Nat} {x : α} : ∀ {l : List (Nat × α)}, noDup (l.map (·.1)) = true → (n, x) ∈ l → lookT n l = some x
  | [], _, h => by cases h
  | (m, y) :: l, hd, h => by
    rw [List.map_cons] at hd
    obtain ⟨h1, h2⟩ := noDup_cons hd
    simp only [lookT]
    rcases List.mem_cons.1 h with e | h'
    · cases e
      rw [if_pos (Nat.beq_refl n)]
    · rw [if_neg, mem_lookT h2 h']
      intro e
      have e := Nat.eq_of_beq_eq_true e
      exact h1 (List.mem_map.2 ⟨(n, x), h', e⟩)
theorem collect_spec {ls : List (Nat × Kd × X)} : ∀ {ks : List Kd} {i : Nat} {cs : List X}, collect ls i ks = some cs → cs.length = ks.length ∧ ∀ j k, ks[j]? = some k → ∃ x, cs[j]? = some x ∧ lookT (i + j) ls = some (k, x)
  | [], i, cs, h => by
    simp only [collect, Option.some.injEq] at h
    subst h
    exact ⟨rfl, fun j k hj => by simp at hj⟩
  | k :: ks, i, cs, h => by
    simp only [collect] at h
    split at h
    · rename_i k' x l h1 h2
      split at h
      · rename_i hk
        have hk := Kd.same_eq _ _ hk
        subst hk
        cases h
        obtain ⟨i1, i2⟩ := collect_spec h2
        refine ⟨by simp [i1], fun j k0 hj => ?_⟩
        cases j with
        | zero =>
          simp only [List.getElem?_cons_zero, Option.some.injEq] at hj
          subst hj
          exact ⟨x, rfl, h1⟩
        | succ j =>
          obtain ⟨y, y1, y2⟩ := i2 j k0 (by simpa using hj)
          exact ⟨y, by simpa using y1, by rw [show i + (j + 1) = i + 1 + j from by omega]; exact y2⟩
      · cases h
    · cases h
theorem oks_of {ks : List Kd} {ds : List CD} (hl : ds.length = ks.length) (h : ∀ (j : Nat) (k : Kd), ks[j]? = some k → ∃ d, ds[j]? = some d ∧ CD.ok k d) : CD.oks ks ds := by
  induction ks generalizing ds with
  | nil => cases ds <;> first | trivial | simp at hl
  | cons k ks ih =>
    cases ds with
    | nil => simp at hl
    | cons d ds =>
      obtain ⟨d', h1, h2⟩ := h 0 k rfl
      simp only [List.getElem?_cons_zero, Option.some.injEq] at h1
      subst h1
      exact ⟨h2, ih (by simpa using hl) fun j k hj => by simpa using h (j + 1) k (by simpa using hj)⟩

/-- Where an array of the head is, in the state. -/
def tgt (L : LI) (as : List (Nat × Nat)) (a : Nat) : Option Nat := if a < L.a0 then some a else match lookT a as with | some (c + 1) => some c | _ => none
theorem tgts_mem {L : LI} {b : Sub} : ∀ {l : List (Pc Ar)} {a j : Nat} {A : Ar} {c : Nat}, nth l j = some (.at A) → tgt L b.as (a + j) = some c → c ∈ tgts L b a l
  | [], _, _, _, _, h, _ => by simp [nth] at h
  | x :: l, a, 0, A, c, h, ht => by
    simp only [nth, Option.some.injEq] at h
    subst h
    simp only [tgts, List.mem_append]
    left
    simp only [Nat.add_zero, tgt] at ht
    split at ht
    · rename_i hl
      cases ht
      rw [if_pos (by rw [Nat.blt_eq]; exact hl)]
      simp
    · rename_i hl
      rw [if_neg (fun h => hl (blt_lt h))]
      split at ht
      · rename_i hc; cases ht; rw [hc]; simp
      · cases ht
  | x :: l, a, j + 1, A, c, h, ht => by
    have := tgts_mem (L := L) (b := b) (l := l) (a := a + 1) (j := j) h (by rw [show a + 1 + j = a + (j + 1) from by omega]; exact ht)
    cases x with
    | fr => exact this
    | go => exact this
    | «at» y => simp only [tgts, List.mem_append]; exact .inr this
theorem noDup_append {l m : List Nat} (h : noDup (l ++ m) = true) : noDup m = true ∧ ∀ x ∈ l, x ∉ m := by
  induction l with
  | nil => exact ⟨h, fun _ h => by cases h⟩
  | cons a l ih =>
    obtain ⟨h1, h2⟩ := noDup_cons (l := l ++ m) h
    obtain ⟨h3, h4⟩ := ih h2
    refine ⟨h3, fun x hx => ?_⟩
    rcases List.mem_cons.1 hx with e | hx
    · subst e; exact fun hm => h1 (List.mem_append_right _ hm)
    · exact h4 x hx
theorem tgts_inj {L : LI} {b : Sub} : ∀ {l : List (Pc Ar)} {a j j' : Nat} {A A' : Ar} {c : Nat}, noDup (tgts L b a l) = true → nth l j = some (.at A) → nth l j' = some (.at A') → tgt L b.as (a + j) = some c → tgt L b.as (a + j') = some c → j = j'
  | [], _, _, _, _, _, _, _, h, _, _, _ => by simp [nth] at h
  | x :: l, a, j, j', A, A', c, hd, h, h', ht, ht' => by
    have head : ∀ {A0 : Ar}, x = .at A0 → tgt L b.as a = some c → c ∈ (if Nat.blt a L.a0 then [a] else (match lookT a b.as with | some (c + 1) => [c] | _ => [])) := fun _ ht => by
      simp only [tgt] at ht
      split at ht
      · rename_i hl
        cases ht
        rw [if_pos (by rw [Nat.blt_eq]; exact hl)]
        simp
      · rename_i hl
        rw [if_neg (fun h => hl (blt_lt h))]
        split at ht
        · rename_i hc; cases ht; simp
        · cases ht
    have tail : noDup (tgts L b (a + 1) l) = true := by
      cases x with
      | fr => exact hd
      | go => exact hd
      | «at» y => exact (noDup_append hd).1
    cases j with
    | zero =>
      cases j' with
      | zero => rfl
      | succ j' =>
        exfalso
        simp only [nth, Option.some.injEq] at h
        subst h
        exact (noDup_append hd).2 c (head rfl ht) (tgts_mem (j := j') h' (by rw [show a + 1 + j' = a + (j' + 1) from by omega]; exact ht'))
    | succ j =>
      cases j' with
      | zero =>
        exfalso
        simp only [nth, Option.some.injEq] at h'
        subst h'
        exact (noDup_append hd).2 c (head rfl ht') (tgts_mem (j := j) h (by rw [show a + 1 + j = a + (j + 1) from by omega]; exact ht))
      | succ j' =>
        have := tgts_inj (l := l) (a := a + 1) (j := j) (j' := j') tail h h' (by rw [show a + 1 + j = a + (j + 1) from by omega]; exact ht) (by rw [show a + 1 + j' = a + (j' + 1) from by omega]; exact ht')
        omega

section
variable {B : Base} {E : Env} {p : Pl} {g : Gm} {L : LI} {s : St} {a : Act} {as : List Act} {w : World}

open Classical in
/-- Places, as the head counts them. -/
noncomputable def headPl (p : Pl) (L : LI) (as : List (Nat × Nat)) : Pl where
  reg r := if r < L.r0 then p.reg r else none
  arr a := if a < L.a0 then p.arr a else match lookT a as with
    | some 0 => some (none, 0)
    | some (c + 1) => p.arr c
    | none => none
  mp := p.mp
  ow k := match p.ow k with
    | .arr c => if h : ∃ a A, nth L.hd.h.arrs a = some (.at A) ∧ tgt L as a = some c then .arr h.choose else .z
    | o => o
theorem headPl_reg {ls : List (Nat × Nat)} {r : Nat} (h : r < L.r0) : (headPl p L ls).reg r = p.reg r := if_pos h
theorem headPl_old {ls : List (Nat × Nat)} {a : Nat} (h : a < L.a0) : (headPl p L ls).arr a = p.arr a := if_pos h
theorem headPl_nil {ls : List (Nat × Nat)} {a : Nat} (h : L.a0 ≤ a) (hl : lookT a ls = some 0) : (headPl p L ls).arr a = some (none, 0) := by
  simp only [headPl, if_neg (show ¬ a < L.a0 by omega), hl]
theorem headPl_new {ls : List (Nat × Nat)} {a c : Nat} (h : L.a0 ≤ a) (hl : lookT a ls = some (c + 1)) : (headPl p L ls).arr a = p.arr c := by
  simp only [headPl, if_neg (show ¬ a < L.a0 by omega), hl]
theorem headPl_ow {ls : List (Nat × Nat)} {k : Nat} (h : ∀ c, p.ow k ≠ .arr c) : (headPl p L ls).ow k = p.ow k := by
  simp only [headPl]
theorem headPl_owa {b : Sub} {k c a : Nat} {A : Ar} (hd : noDup (tgts L b 0 L.hd.h.arrs) = true) (h : p.ow k = .arr c) (hA : nth L.hd.h.arrs a = some (.at A)) (ht : tgt L b.as a = some c) : (headPl p L b.as).ow k = .arr a := by
  have hex : ∃ a A, nth L.hd.h.arrs a = some (.at A) ∧ tgt L b.as a = some c := ⟨a, A, hA, ht⟩
  simp only [headPl, h, dif_pos hex]
  obtain ⟨A', h1, h2⟩ := hex.choose_spec
  congr 1
  exact tgts_inj hd h1 hA (by rw [Nat.zero_add]; exact h2) (by rw [Nat.zero_add]; exact ht)
end
end Go.Sy
