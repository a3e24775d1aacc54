/- A call: what is there behind it. -/
import Derived.Test.YtpmamacjepcdmaaSyCall2
namespace Go.Sy
open Go.RowKit

/-! ### Lists -/
theorem Turn.cells {Mc : Nat → Nat → Prop} {w w' : World} (T : Turn Mc w w') : Turn (fun k i => Mc k i ∧ (w.cell? ⟨k, i, none⟩).isSome = true) w w' :=
  ⟨T.os, T.tape, T.output, T.size, fun k o hk => by
    obtain ⟨o', h1, h2⟩ := T.obj k o hk
    refine ⟨o', h1, ?_⟩
    cases o with
    | cells c e f =>
      obtain ⟨c', rfl, h3, h4⟩ := h2
      refine ⟨c', rfl, h3, fun i hi => ?_⟩
      by_cases hm : Mc k i
      · have hn : ¬ i < c.size := fun hl => hi ⟨hm, by simp [World.cell?, hk, hl]⟩
        rw [Array.getElem?_eq_none (by omega), Array.getElem?_eq_none (by omega)]
      · exact h4 i hm
    | _ => exact h2⟩
theorem putRegs_other {r : Nat} : ∀ {regs : List (Pc (List SC))} {ps : List (Nat × Nat)} {css : List (List SC)}, r ∉ ps.map (·.1) → nth (putRegs regs ps css) r = nth regs r
  | regs, [], css, _ => by simp [putRegs]
  | regs, _ :: _, [], _ => by simp [putRegs]
  | regs, (r', o) :: ps, c :: css, h => by
    simp only [putRegs]
    simp only [List.map_cons, List.mem_cons, not_or] at h
    rw [putRegs_other h.2]
    split
    · rw [nth_setNth, if_neg (fun e => h.1 e.symm)]
    · rfl
theorem putRegs_at {r o : Nat} {old c : List SC} : ∀ {regs : List (Pc (List SC))} {ps : List (Nat × Nat)} {css : List (List SC)} {j : Nat}, noDup (ps.map (·.1)) = true → ps[j]? = some (r, o) → css[j]? = some c → nth regs r = some (.at old) → nth (putRegs regs ps css) r = some (.at (putFrom old o c))
  | regs, [], css, j, _, h, _, _ => by simp at h
  | regs, _ :: _, [], j, _, _, h, _ => by simp at h
  | regs, (r', o') :: ps, c' :: css, 0, hd, h1, h2, h3 => by
    simp only [List.getElem?_cons_zero, Option.some.injEq, Prod.mk.injEq] at h1 h2
    obtain ⟨rfl, rfl⟩ := h1
    subst h2
    simp only [putRegs, h3]
    rw [List.map_cons] at hd
    rw [putRegs_other (noDup_cons hd).1, nth_setNth, if_pos rfl, if_pos (nth_lt h3)]
  | regs, (r', o') :: ps, c' :: css, j + 1, hd, h1, h2, h3 => by
    simp only [List.getElem?_cons_succ] at h1 h2
    rw [List.map_cons] at hd
    obtain ⟨n1, n2⟩ := noDup_cons hd
    have hne : r' ≠ r := fun e => n1 (by rw [e]; exact List.mem_map.2 ⟨(r, o), List.mem_of_getElem? h1, rfl⟩)
    simp only [putRegs]
    refine putRegs_at n2 h1 h2 ?_
    split
    · rw [nth_setNth, if_neg hne]; exact h3
    · exact h3
theorem length_dropAll : ∀ (l : List Nat) (arrs : List (Pc Ar)), (dropAll arrs l).length = arrs.length
  | [], _ => rfl
  | a :: l, arrs => by rw [dropAll, length_dropAll l, length_setNth]
theorem nth_dropAll : ∀ (l : List Nat) (arrs : List (Pc Ar)) (i : Nat), nth (dropAll arrs l) i = if i ∈ l ∧ i < arrs.length then some .go else nth arrs i
  | [], _, _ => by simp [dropAll]
  | a :: l, arrs, i => by
    rw [dropAll, nth_dropAll l, length_setNth, nth_setNth]
    by_cases h1 : i ∈ l ∧ i < arrs.length
    · rw [if_pos h1, if_pos ⟨List.mem_cons_of_mem _ h1.1, h1.2⟩]
    · rw [if_neg h1]
      by_cases h2 : a = i
      · subst h2
        rw [if_pos rfl]
        by_cases h3 : a < arrs.length
        · rw [if_pos h3, if_pos ⟨by simp, h3⟩]
        · rw [if_neg h3, if_neg (fun h => h3 h.2), nth_none (by omega)]
      · rw [if_neg h2, if_neg]
        rintro ⟨h3, h4⟩
        rcases List.mem_cons.1 h3 with e | h3
        · exact h2 e.symm
        · exact h1 ⟨h3, h4⟩
def nPtr : List AK → Nat
  | [] => 0
  | .ptr _ :: l => nPtr l + 1
  | _ :: l => nPtr l
theorem length_grpP : ∀ (l : List AK) (cs : List SC), (grpP l cs).length = nPtr l
  | [], _ => rfl
  | .ptr ks :: l, cs => by simp [grpP, nPtr, length_grpP l]
  | .one _ :: l, cs => by simp [grpP, nPtr, length_grpP l]
  | .agg _ :: l, cs => by simp [grpP, nPtr, length_grpP l]
/-- Regions ahead and behind: of the same lengths. -/
theorem grpRP : ∀ {l : List AK} {cs cs' : List SC}, cs.length = (l.flatMap AK.ks).length → (l.flatMap AK.ps).length ≤ cs'.length → All2 (fun x (c : List SC) => ∀ d, x = Pc.at d → d.length = c.length) (grpR l cs) (grpP l cs')
  | [], cs, cs', _, _ => by cases cs <;> trivial
  | .one k :: l, [], cs', h, _ => by simp [AK.ks] at h
  | .one k :: l, c :: cs, cs', h, h' => by
    simp only [List.flatMap_cons, AK.ks, AK.ps, List.length_append, List.length_cons, List.length_nil] at h h'
    exact grpRP (l := l) (by omega) (by omega)
  | .agg ks :: l, cs, cs', h, h' => by
    simp only [List.flatMap_cons, AK.ks, AK.ps, List.length_append, List.length_nil] at h h'
    have e : grpR (.agg ks :: l) cs = grpR l (cs.drop ks.length) := by cases cs <;> rfl
    rw [e]
    exact grpRP (l := l) (by rw [List.length_drop]; omega) (by omega)
  | .ptr ks :: l, cs, cs', h, h' => by
    simp only [List.flatMap_cons, AK.ks, AK.ps, List.length_append] at h h'
    have e : grpR (.ptr ks :: l) cs = .at (cs.take ks.length) :: grpR l (cs.drop ks.length) := by cases cs <;> rfl
    rw [e]
    refine ⟨fun d hd => ?_, grpRP (l := l) (by rw [List.length_drop]; omega) (by rw [List.length_drop]; omega)⟩
    cases hd
    rw [List.length_take, List.length_take]; omega
theorem grpR_none : ∀ {l : List AK} {cs : List SC}, anyB (fun (k : AK) => match k with | .ptr _ => true | _ => false) l = false → grpR l cs = []
  | [], cs, _ => by cases cs <;> rfl
  | .one _ :: l, [], _ => rfl
  | .one _ :: l, _ :: cs, h => grpR_none (l := l) (by simpa [anyB] using h)
  | .agg ks :: l, cs, h => by
    have e : grpR (.agg ks :: l) cs = grpR l (cs.drop ks.length) := by cases cs <;> rfl
    rw [e]; exact grpR_none (l := l) (by simpa [anyB] using h)
  | .ptr ks :: l, cs, h => by simp [anyB] at h
theorem cnt_none : ∀ {l : List PK}, anyB (fun (k : PK) => match k with | .own _ _ => true | _ => false) l = false → cnt l = 0
  | [], _ => rfl
  | k :: l, h => by cases k <;> first | exact cnt_none (l := l) (by simpa [anyB] using h) | simp [anyB] at h
theorem mkA_nth2 : ∀ {ks : List PK} {nx j : Nat} {A : Ar}, nth (mkA nx ks) j = some (.at A) → ∃ i e K, nth ks i = some (.own e K) ∧ A = ⟨e, K, .var (nx + i)⟩ ∧ ∀ nx', nth (mkA nx' ks) j = some (.at ⟨e, K, .var (nx' + i)⟩)
  | [], _, _, _, h => by simp [mkA, nth] at h
  | k :: l, nx, j, A, h => by
    cases k with
    | own e K =>
      cases j with
      | zero =>
        simp only [mkA, nth, Option.some.injEq, Pc.at.injEq] at h
        exact ⟨0, e, K, rfl, h.symm, fun _ => rfl⟩
      | succ j =>
        obtain ⟨i, e', K', h1, h2, h3⟩ := mkA_nth2 (ks := l) (nx := nx + 1) h
        exact ⟨i + 1, e', K', h1, by rw [h2, show nx + 1 + i = nx + (i + 1) from by omega], fun nx' => (h3 (nx' + 1)).trans (by rw [show nx' + 1 + i = nx' + (i + 1) from by omega])⟩
    | _ =>
      obtain ⟨i, e', K', h1, h2, h3⟩ := mkA_nth2 (ks := l) (nx := nx + 1) h
      exact ⟨i + 1, e', K', h1, by rw [h2, show nx + 1 + i = nx + (i + 1) from by omega], fun nx' => (h3 (nx' + 1)).trans (by rw [show nx' + 1 + i = nx' + (i + 1) from by omega])⟩
theorem anyB_nth {α : Type} {f : α → Bool} : ∀ {l : List α} {i : Nat} {x : α}, anyB f l = false → nth l i = some x → f x = false
  | [], _, _, _, h => by simp [nth] at h
  | a :: l, 0, x, h, e => by simp only [nth, Option.some.injEq] at e; subst e; simp only [anyB, Bool.or_eq_false_iff] at h; exact h.1
  | a :: l, i + 1, x, h, e => by simp only [anyB, Bool.or_eq_false_iff] at h; exact anyB_nth h.2 e
theorem mtCs_lent {h : Hp} : ∀ {ks : List PK} {cs : List SC} {m : Mt}, mtCs h ks cs = some m → fzCs ks cs = none → m.lent = []
  | [], [], m, hm, _ => by simp only [mtCs, Option.some.injEq] at hm; subst hm; rfl
  | k :: ks, c :: cs, m, hm, hf => by
    simp only [mtCs] at hm
    split at hm
    · rename_i m1 m2 h1 h2
      cases hm
      have hc : fzCs ks cs = none ∧ ((∃ K, k = .fz K) → ∀ a n, c ≠ .sl a n) := by
        cases k with
        | fz K =>
          cases c <;> first
            | exact ⟨hf, fun _ _ _ h => by cases h⟩
            | (simp [fzCs] at hf)
        | _ => exact ⟨hf, fun ⟨_, h⟩ => by cases h⟩
      have := mtCs_lent h2 hc.1
      show m1.lent ++ m2.lent = []
      rw [this, List.append_nil]
      unfold mtC at h1
      split at h1
      · split at h1 <;> cases h1; rfl
      · cases h1; rfl
      · cases h1; rfl
      · split at h1
        · cases h1
          dsimp only
          split
          · exact absurd rfl (hc.2 ⟨_, rfl⟩ _ _)
          · rfl
        · cases h1
      · split at h1
        · split at h1 <;> cases h1; rfl
        · cases h1
      · split at h1 <;> cases h1; rfl
      · split at h1 <;> cases h1; rfl
      · cases h1
    · cases hm
  | [], _ :: _, _, hm, _ => by simp [mtCs] at hm
  | _ :: _, [], _, hm, _ => by simp [mtCs] at hm
end Go.Sy
