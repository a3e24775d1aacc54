/- Regions that draw their order: operations that only read come first; what is left comes one by one. -/
import Derived.RowKit
import Derived.Orders
import Derived.Deep.Quiet
namespace Go.Sy

/-- The cells of D are the same. -/
def SameOn (D : Nat → Nat → Prop) (w w' : World) : Prop := ∀ k i, D k i → w'.cell? ⟨k, i, none⟩ = w.cell? ⟨k, i, none⟩
theorem SameOn.refl (D : Nat → Nat → Prop) (w : World) : SameOn D w w := fun _ _ _ => rfl
theorem SameOn.trans {D : Nat → Nat → Prop} {a b c : World} (h : SameOn D a b) (k : SameOn D b c) : SameOn D a c := fun x i d => (k x i d).trans (h x i d)

section
variable {P : Program} {ops : Array Oper} {Q : Exit → Act → World → Prop} {C : World → Prop} {D : Nat → Nat → Prop} {F : Nat → Bool}

/-- Whatever order is picked; the operations of F leave the cells of D as they are. -/
def anyC (P : Program) (ops : Array Oper) (Q : Exit → Act → World → Prop) (D : Nat → Nat → Prop) (F : Nat → Bool) : Nat → Array Bool → Act → World → Prop
  | 0, l, a, w => Region.ready .any ops l = [] ∧ Q .normal a w
  | fuel + 1, l, a, w => (Region.ready .any ops l = [] → Q .normal a w) ∧
      ∀ j ∈ Region.ready .any ops l, wpOp P ops Q j (fun a' w' => (F j = true → SameOn D w w') ∧ anyC P ops Q D F fuel (l.setIfInBounds j true) a' w') a w

theorem any_of_anyC : ∀ (fuel : Nat) (l : Array Bool) (a : Act) (w : World), anyC P ops Q D F fuel l a w → wpAny P .any ops Q fuel l a w
  | 0, _, _, _, h => h
  | fuel + 1, _, _, _, h => ⟨h.1, fun j hj => wpOp_mono (fun a' w' hh => any_of_anyC fuel _ a' w' hh.2) (h.2 j hj)⟩
theorem anyC_mono {D' : Nat → Nat → Prop} (hD : ∀ k i, D k i → D' k i) : ∀ (fuel : Nat) (l : Array Bool) (a : Act) (w : World), anyC P ops Q D' F fuel l a w → anyC P ops Q D F fuel l a w
  | 0, _, _, _, h => h
  | fuel + 1, _, _, _, h => ⟨h.1, fun j hj => wpOp_mono (fun a' w' hh => ⟨fun hF k i hk => hh.1 hF k i (hD k i hk), anyC_mono hD fuel _ a' w' hh.2⟩) (h.2 j hj)⟩

/-- What is listed has all listed that it waits for. -/
def Shut (ops : Array Oper) (l : Array Bool) : Prop := ∀ k o, ops[k]? = some o → l.getD k false = true → ∀ e ∈ o.after, Region.binds .any e = true → l.getD e.on false = true

theorem Shut.add {l : Array Bool} {j : Nat} (h : Shut ops l) (hj : j ∈ Region.ready .any ops l) : Shut ops (l.setIfInBounds j true) := by
  intro k o ho hk e he hb
  by_cases hkj : j = k
  · subst hkj
    obtain ⟨_, o', ho', hall⟩ := mem_ready.1 hj
    rw [ho] at ho'; cases ho'
    exact getD_set_true (hall e he hb)
  · rw [getD_set_ne false hkj] at hk
    exact getD_set_true (h k o ho hk e he hb)

/-- Whom an operation waits for, through others too: a table of bits. -/
def ancOf (tab : List Nat) (o : Oper) : Nat := o.after.toList.foldl (fun acc e => if Region.binds .any e then acc ||| (2 ^ e.on) ||| (tab.getD e.on 0) else acc) 0
def ancTab (ops : List Oper) : List Nat := ops.foldl (fun tab o => tab ++ [ancOf tab o]) []
def waits (tab : List Nat) (j i : Nat) : Bool := (tab.getD j 0).testBit i

theorem ancOf_bit {tab : List Nat} {o : Oper} {i : Nat} (h : (ancOf tab o).testBit i = true) : ∃ e ∈ o.after.toList, Region.binds .any e = true ∧ (e.on = i ∨ (tab.getD e.on 0).testBit i = true) := by
  unfold ancOf at h
  have : ∀ (l : List Edge) (acc : Nat), (l.foldl (fun acc e => if Region.binds .any e then acc ||| (2 ^ e.on) ||| (tab.getD e.on 0) else acc) acc).testBit i = true → acc.testBit i = true ∨ ∃ e ∈ l, Region.binds .any e = true ∧ (e.on = i ∨ (tab.getD e.on 0).testBit i = true) := by
    intro l
    induction l with
    | nil => intro acc h; exact .inl h
    | cons e l ih =>
      intro acc h
      rw [List.foldl_cons] at h
      rcases ih _ h with h1 | ⟨e', h1, h2⟩
      · by_cases hb : Region.binds .any e = true
        · rw [if_pos hb, Nat.testBit_or, Nat.testBit_or, Bool.or_eq_true, Bool.or_eq_true] at h1
          rcases h1 with (h1 | h1) | h1
          · exact .inl h1
          · rw [Nat.testBit_two_pow] at h1
            exact .inr ⟨e, by simp, hb, .inl (of_decide_eq_true h1)⟩
          · exact .inr ⟨e, by simp, hb, .inr h1⟩
        · rw [if_neg hb] at h1
          exact .inl h1
      · exact .inr ⟨e', List.mem_cons_of_mem _ h1, h2⟩
  rcases this _ _ h with h1 | h1
  · simp at h1
  · exact h1
theorem ancTab_bit : ∀ (ops : List Oper), (ancTab ops).length = ops.length ∧ ∀ j i, ((ancTab ops).getD j 0).testBit i = true → ∃ o, ops[j]? = some o ∧ ∃ e ∈ o.after.toList, Region.binds .any e = true ∧ (e.on = i ∨ (e.on < j ∧ ((ancTab ops).getD e.on 0).testBit i = true)) := by
  intro ops
  unfold ancTab
  have : ∀ (l pre : List Oper) (tab : List Nat), tab.length = pre.length → (∀ j i, (tab.getD j 0).testBit i = true → ∃ o, pre[j]? = some o ∧ ∃ e ∈ o.after.toList, Region.binds .any e = true ∧ (e.on = i ∨ (e.on < j ∧ (tab.getD e.on 0).testBit i = true))) →
      (l.foldl (fun tab o => tab ++ [ancOf tab o]) tab).length = (pre ++ l).length ∧ ∀ j i, ((l.foldl (fun tab o => tab ++ [ancOf tab o]) tab).getD j 0).testBit i = true → ∃ o, (pre ++ l)[j]? = some o ∧ ∃ e ∈ o.after.toList, Region.binds .any e = true ∧ (e.on = i ∨ (e.on < j ∧ ((l.foldl (fun tab o => tab ++ [ancOf tab o]) tab).getD e.on 0).testBit i = true)) := by
    intro l
    induction l with
    | nil => intro pre tab h1 h2; simp only [List.foldl_nil, List.append_nil]; exact ⟨h1, h2⟩
    | cons o l ih =>
      intro pre tab h1 h2
      have := ih (pre ++ [o]) (tab ++ [ancOf tab o]) (by simp [h1]) (fun j i hb => ?_)
      · rw [List.append_assoc] at this
        exact this
      · have old : ∀ k, k < tab.length → (tab ++ [ancOf tab o]).getD k 0 = tab.getD k 0 := fun k hk => by
          simp only [List.getD_eq_getElem?_getD]
          rw [List.getElem?_append_left hk]
        rcases Nat.lt_trichotomy j tab.length with hj | hj | hj
        · rw [old j hj] at hb
          obtain ⟨o', k1, e, k2, k3, k4⟩ := h2 j i hb
          refine ⟨o', by rw [List.getElem?_append_left (by omega)]; exact k1, e, k2, k3, ?_⟩
          rcases k4 with k4 | ⟨k4, k5⟩
          · exact .inl k4
          · exact .inr ⟨k4, by rw [old _ (by omega)]; exact k5⟩
        · subst hj
          have hlast : (tab ++ [ancOf tab o]).getD tab.length 0 = ancOf tab o := by simp [List.getD_eq_getElem?_getD]
          rw [hlast] at hb
          obtain ⟨e, k2, k3, k4⟩ := ancOf_bit hb
          refine ⟨o, by rw [h1]; simp, e, k2, k3, ?_⟩
          rcases k4 with k4 | k4
          · exact .inl k4
          · have hlt : e.on < tab.length := by
              rcases Nat.lt_or_ge e.on tab.length with h | h
              · exact h
              · rw [List.getD_eq_getElem?_getD, List.getElem?_eq_none h] at k4; simp at k4
            exact .inr ⟨hlt, by rw [old _ hlt]; exact k4⟩
        · rw [List.getD_eq_getElem?_getD, List.getElem?_eq_none (by simp; omega)] at hb
          simp at hb
  have h0 := this ops [] [] rfl (fun j i hb => by simp at hb)
  simpa using h0
theorem waits_listed {l : Array Bool} (hs : Shut ops l) {i : Nat} : ∀ (n j : Nat) (o : Oper), j ≤ n → ops[j]? = some o → (∀ e ∈ o.after, Region.binds .any e = true → l.getD e.on false = true) → waits (ancTab ops.toList) j i = true → l.getD i false = true := by
  intro n
  induction n with
  | zero =>
    intro j o hj ho hall h
    obtain ⟨o', k1, e, k2, k3, k4⟩ := (ancTab_bit ops.toList).2 j i h
    have : o' = o := by
      have : ops[j]? = some o' := by simpa using k1
      rw [ho] at this; cases this; rfl
    subst this
    rcases k4 with k4 | ⟨k4, _⟩
    · subst k4; exact hall e (by simpa using k2) k3
    · omega
  | succ n ih =>
    intro j o hj ho hall h
    obtain ⟨o', k1, e, k2, k3, k4⟩ := (ancTab_bit ops.toList).2 j i h
    have : o' = o := by
      have : ops[j]? = some o' := by simpa using k1
      rw [ho] at this; cases this; rfl
    subst this
    have he := hall e (by simpa using k2) k3
    rcases k4 with k4 | ⟨k4, k5⟩
    · subst k4; exact he
    · obtain ⟨o2, q1, _⟩ := (ancTab_bit ops.toList).2 e.on i k5
      have q1 : ops[e.on]? = some o2 := by simpa using q1
      exact ih e.on o2 (by omega) q1 (fun e' he' hb' => hs e.on o2 q1 he e' he' hb') k5

theorem ready_add {i j : Nat} {l : Array Bool} (hj : j ∈ Region.ready .any ops l) (hne : j ≠ i) : j ∈ Region.ready .any ops (l.setIfInBounds i true) := ready_mono hj hne

/-- In every world of the class the operation yields this value, and leaves the world alone. -/
def Gives (P : Program) (ops : Array Oper) (C : World → Prop) (o : Oper) (v : Value) (a : Act) : Prop :=
  (Region.wanted o (yielded ops a.tmps) = true ∧ ∀ w, C w → (execOp a.eval o).run P w = .ok (.value v) w) ∨ (Region.wanted o (yielded ops a.tmps) = false ∧ v = undef)
theorem Gives.of_same {o : Oper} {v : Value} {a a' : Act} (hy : Gives P ops C o v a) (he : execOp a'.eval o = execOp a.eval o) (hw : Region.wanted o (yielded ops a'.tmps) = Region.wanted o (yielded ops a.tmps)) : Gives P ops C o v a' := by
  unfold Gives at *
  rw [he, hw]
  exact hy
theorem Gives.op {i : Nat} {o : Oper} {v : Value} {a : Act} {w : World} (hi : ops[i]? = some o) (hy : Gives P ops C o v a) (hw : C w) {K : Act → World → Prop} (h : K (a.put o.dst v) w) : wpOp P ops Q i K a w := by
  unfold wpOp
  simp only [hi]
  rcases hy with ⟨h1, h2⟩ | ⟨h1, rfl⟩
  · rw [if_pos h1]
    left
    unfold Oper.wp
    rw [h2 w hw]
    exact h
  · rw [if_neg (by rw [h1]; exact Bool.false_ne_true)]
    exact h

/-- Operation j, apart from i: whether i's value is there already is nothing to it, and it is nothing to i. -/
theorem op_put {j : Nat} {oi oj : Oper} {v : Value} (hj : ops[j]? = some oj) (hap : oi.apart ops oj = true) (hsi : ∀ cs b, oi.op ≠ .select cs b) (hsj : ∀ cs b, oj.op ≠ .select cs b)
    (hQ : ∀ c a w, Q (.panic c) (a.put oi.dst v) w → Q (.panic c) a w) {K : Act → World → Prop} {a : Act} {w : World} (hy : Gives P ops C oi v a) (h : wpOp P ops Q j K (a.put oi.dst v) w) :
    wpOp P ops Q j (fun a' w' => Gives P ops C oi v a' ∧ K (a'.put oi.dst v) w') a w := by
  obtain ⟨h1, h2, h3⟩ := Oper.apart_spec hap
  have hk : ∀ (b : Act), Gives P ops C oi v b → ∀ u, Gives P ops C oi v (b.put oj.dst u) := fun b hb u => hb.of_same (execOp_put oi hsi b oj.dst u h3) (wanted_put oi b oj.dst u h3)
  have hsw : ∀ u, (a.put oi.dst v).put oj.dst u = (a.put oj.dst u).put oi.dst v := fun u => Act.put_comm a v u h2
  unfold wpOp at h ⊢
  simp only [hj] at h ⊢
  rw [wanted_put oj a oi.dst v h1] at h
  by_cases hw : Region.wanted oj (yielded ops a.tmps) = true
  · rw [if_pos hw] at h ⊢
    rcases h with h | ⟨has, hlo⟩
    · left
      unfold Oper.wp at h ⊢
      rw [execOp_put oj hsj a oi.dst v h1] at h
      generalize (execOp a.eval oj).run P w = r at h ⊢
      rcases r with ⟨n, w'⟩ | ⟨x, w'⟩
      · cases n with
        | value u => exact ⟨hk a hy u, by rw [← hsw]; exact h⟩
        | skip => exact ⟨hk a hy undef, by rw [← hsw]; exact h⟩
        | defer d =>
          refine ⟨(hk a hy undef).of_same (by cases oj.dst <;> rfl) (by cases oj.dst <;> rfl), ?_⟩
          rw [← Act.put_comm _ v undef h2, ← Act.put_defers]
          exact h
        | enter f args =>
          refine Calls.mono h fun e w'' he => ?_
          rcases e with u | c | _
          · exact ⟨hk a hy u, by rw [← hsw]; exact he⟩
          · exact hQ _ _ _ he
          · exact he
        | row row args => exact Rows.mono h fun u w'' he => ⟨hk a hy u, by rw [← hsw]; exact he⟩
        | _ => exact h.elim
      · cases x with
        | panic u => exact hQ _ _ _ h
        | _ => exact h
    · right
      refine ⟨?_, hlo⟩
      unfold Oper.asks at has ⊢
      rwa [execOp_put oj hsj a oi.dst v h1] at has
  · rw [if_neg hw] at h ⊢
    exact ⟨hk a hy undef, by rw [← hsw]; exact h⟩

/-- An operation that only reads may be taken first. -/
theorem anyC_first {i : Nat} {oi : Oper} {v : Value} {w1 : World} (hi : ops[i]? = some oi) (hsel : ∀ (j : Nat) (o : Oper) cs b, ops[j]? = some o → o.op ≠ .select cs b) (hQ : ∀ c a w, Q (.panic c) (a.put oi.dst v) w → Q (.panic c) a w) :
    ∀ (fuel : Nat) (l : Array Bool) (a : Act) (w : World), Shut ops l →
      (∀ j oj, ops[j]? = some oj → j ≠ i → l.getD j true = false → waits (ancTab ops.toList) j i = false → oi.apart ops oj = true ∧ F j = true) →
      i ∈ Region.ready .any ops l → Gives P ops (SameOn D w1) oi v a → SameOn D w1 w → anyC P ops Q D F fuel (l.setIfInBounds i true) (a.put oi.dst v) w → anyC P ops Q D F (fuel + 1) l a w := by
  intro fuel
  induction fuel with
  | zero =>
    intro l a w _ _ hr hy hw H
    refine ⟨fun h => (by rw [h] at hr; cases hr), fun j hj => ?_⟩
    by_cases hji : j = i
    · subst hji; exact hy.op hi hw ⟨fun _ => SameOn.refl _ _, H⟩
    · have := ready_add hj hji
      rw [H.1] at this
      cases this
  | succ fuel ih =>
    intro l a w hs hfree hr hy hw H
    refine ⟨fun h => (by rw [h] at hr; cases hr), fun j hj => ?_⟩
    by_cases hji : j = i
    · subst hji; exact hy.op hi hw ⟨fun _ => SameOn.refl _ _, H⟩
    · have h1 := H.2 j (ready_add hj hji)
      obtain ⟨hjun, oj, hoj, hall⟩ := mem_ready.1 hj
      have hi0 : l.getD i false = false := by
        have h0 := (mem_ready.1 hr).1
        rcases Nat.lt_or_ge i l.size with h' | h'
        · simp only [Array.getD, h', dite_true] at h0 ⊢; exact h0
        · simp [Array.getD, Nat.not_lt.2 h']
      have hnw : waits (ancTab ops.toList) j i = false := by
        cases hww : waits (ancTab ops.toList) j i with
        | false => rfl
        | true => rw [waits_listed hs j j oj (Nat.le_refl _) hoj hall hww] at hi0; cases hi0
      obtain ⟨hap, hF⟩ := hfree j oj hoj hji hjun hnw
      have h2 := op_put hoj hap (fun cs b => hsel i oi cs b hi) (fun cs b => hsel j oj cs b hoj) hQ hy h1
      refine wpOp_mono (fun a' w' h3 => ⟨h3.2.1, ?_⟩) h2
      refine ih (l.setIfInBounds j true) a' w' (hs.add hj) (fun k ok hk hki hun hno => hfree k ok hk hki ?_ hno) (ready_add hr (Ne.symm hji)) h3.1 (hw.trans (h3.2.1 hF)) (by rw [Array.setIfInBounds_comm _ _ hji]; exact h3.2.2)
      by_cases hjk : j = k
      · subst hjk; exact hjun
      · rw [getD_set_ne true hjk] at hun; exact hun

/-- An operation that asks nothing of the world may be taken first. -/
theorem anyC_pure {i : Nat} {oi : Oper} {v : Value} (hi : ops[i]? = some oi) (hsel : ∀ (j : Nat) (o : Oper) cs b, ops[j]? = some o → o.op ≠ .select cs b) (hQ : ∀ c a w, Q (.panic c) (a.put oi.dst v) w → Q (.panic c) a w) :
    ∀ (fuel : Nat) (l : Array Bool) (a : Act) (w : World), Shut ops l →
      (∀ j oj, ops[j]? = some oj → j ≠ i → l.getD j true = false → waits (ancTab ops.toList) j i = false → oi.apart ops oj = true) →
      i ∈ Region.ready .any ops l → Gives P ops (fun _ => True) oi v a → anyC P ops Q D F fuel (l.setIfInBounds i true) (a.put oi.dst v) w → anyC P ops Q D F (fuel + 1) l a w := by
  intro fuel
  induction fuel with
  | zero =>
    intro l a w _ _ hr hy H
    refine ⟨fun h => (by rw [h] at hr; cases hr), fun j hj => ?_⟩
    by_cases hji : j = i
    · subst hji; exact hy.op hi trivial ⟨fun _ => SameOn.refl _ _, H⟩
    · have := ready_add hj hji
      rw [H.1] at this
      cases this
  | succ fuel ih =>
    intro l a w hs hfree hr hy H
    refine ⟨fun h => (by rw [h] at hr; cases hr), fun j hj => ?_⟩
    by_cases hji : j = i
    · subst hji; exact hy.op hi trivial ⟨fun _ => SameOn.refl _ _, H⟩
    · have h1 := H.2 j (ready_add hj hji)
      obtain ⟨hjun, oj, hoj, hall⟩ := mem_ready.1 hj
      have hi0 : l.getD i false = false := by
        have h0 := (mem_ready.1 hr).1
        rcases Nat.lt_or_ge i l.size with h' | h'
        · simp only [Array.getD, h', dite_true] at h0 ⊢; exact h0
        · simp [Array.getD, Nat.not_lt.2 h']
      have hnw : waits (ancTab ops.toList) j i = false := by
        cases hww : waits (ancTab ops.toList) j i with
        | false => rfl
        | true => rw [waits_listed hs j j oj (Nat.le_refl _) hoj hall hww] at hi0; cases hi0
      have h2 := op_put hoj (hfree j oj hoj hji hjun hnw) (fun cs b => hsel i oi cs b hi) (fun cs b => hsel j oj cs b hoj) hQ hy h1
      refine wpOp_mono (fun a' w' h3 => ⟨h3.2.1, ?_⟩) h2
      refine ih (l.setIfInBounds j true) a' w' (hs.add hj) (fun k ok hk hki hun hno => hfree k ok hk hki ?_ hno) (ready_add hr (Ne.symm hji)) h3.1 (by rw [Array.setIfInBounds_comm _ _ hji]; exact h3.2.2)
      by_cases hjk : j = k
      · subst hjk; exact hjun
      · rw [getD_set_ne true hjk] at hun; exact hun

/-- The one operation that may come. -/
theorem anyC_one {i fuel : Nat} {l : Array Bool} {a : Act} {w : World} (hr : Region.ready .any ops l = [i]) (h : wpOp P ops Q i (fun a' w' => (F i = true → SameOn D w w') ∧ anyC P ops Q D F fuel (l.setIfInBounds i true) a' w') a w) : anyC P ops Q D F (fuel + 1) l a w := by
  refine ⟨fun h0 => (by rw [hr] at h0; cases h0), fun j hj => ?_⟩
  rw [hr] at hj
  have := List.mem_singleton.1 hj
  subst this
  exact h
theorem anyC_done {l : Array Bool} {a : Act} {w : World} (hr : Region.ready .any ops l = []) (h : Q .normal a w) : ∀ fuel, anyC P ops Q D F fuel l a w
  | 0 => ⟨hr, h⟩
  | _ + 1 => ⟨fun _ => h, by rw [hr]; simp⟩

/-! ### The order that is walked, looked over -/
/-- May this operation, where it yields a value, be taken as one that only reads? -/
def reads (o : Oper) : Bool := match o.op with
  | .store _ _ _ | .alloc _ | .box _ _ | .buildSlice _ _ _ | .makeSlice _ _ _ | .makeMap _ _ | .lookup _ _ _ _ | .mapUpdate _ _ _ _ | .insert _ _ _ _ => false
  | .call c => (match c.callee with | .builtin .len | .builtin .cap | .builtin .min | .builtin .max => true | _ => false)
  | _ => true
/-- 'm': from operation m on each one waits for all ahead of it. F: what leaves a world of the class. -/
def inF (ops : Array Oper) (m j : Nat) : Bool := (Nat.blt j m).and (match ops[j]? with
  | some o => (match o.op with
    | .store _ _ _ => false
    | .call c => (match c.callee with | .builtin .copy | .builtin .delete => false | _ => true)
    | _ => true)
  | none => true)
def freeAt (tab : List Nat) (ops : Array Oper) (m : Nat) (l : Array Bool) (i : Nat) : Bool := match ops[i]? with
  | none => false
  | some oi => (List.range ops.size).all fun j => (Nat.beq j i).or ((l.getD j true).or ((waits tab j i).or (match ops[j]? with
      | some oj => (oi.apart ops oj).and (inF ops m j)
      | none => true)))
end
end Go.Sy
