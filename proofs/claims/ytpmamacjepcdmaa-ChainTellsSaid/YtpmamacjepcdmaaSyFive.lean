/- Regions that draw their order, walked. -/
import Derived.Test.YtpmamacjepcdmaaSyFour
namespace Go.Sy
open Go.RowKit

section
variable {P : Program} {Z : Cx} {Γ : Gam} {B : Base} {Q : List CD → Prop} {as : List Act} {Qx : Exit → Act → World → Prop} {ops : Array Oper} {m rb ab : Nat}

/-- What is asked of what comes behind. -/
def Then (Γ : Gam) (B : Base) (Q : List CD → Prop) (Qx : Exit → Act → World → Prop) (as : List Act) (kk : St → Tree) (n : Nat) (E : Env) (J : JJ) : Prop :=
  ∀ s' E' J' q g' a' w', (∀ i, i < n → J' i = J i) → (kk s').den Γ Q E' J' → n ≤ s'.nx → E.Agree n E' → Rep B E' q g' s' a' as w' → Qx .normal a' w'
theorem Then.mono {kk : St → Tree} {n n' : Nat} {E E' : Env} {J J' : JJ} (h : Then Γ B Q Qx as kk n E J) (hn : n ≤ n') (hE : E.Agree n E') (hJ : ∀ i, i < n → J' i = J i) : Then Γ B Q Qx as kk n' E' J' :=
  fun s' E2 J2 q g' a' w' h1 h2 h3 h4 h5 => h s' E2 J2 q g' a' w' (fun i hi => (h1 i (by omega)).trans (hJ i hi)) h2 (by omega) (hE.trans (h4.mono hn)) h5

theorem wp_of_goal {i : Nat} {o : Oper} {K : Act → World → Prop} {a : Act} {w : World} (hi : ops[i]? = some o) (h : OpGoal P ops.toList o K Qx a w) : wpOp P ops Qx i K a w := by
  unfold OpGoal at h
  unfold wpOp
  rw [hi]
  simpa using h
theorem goal_of_wp {i : Nat} {o : Oper} {K : Act → World → Prop} {a : Act} {w : World} (hi : ops[i]? = some o) (h : wpOp P ops Qx i K a w) : OpGoal P ops.toList o K Qx a w := by
  unfold wpOp at h
  rw [hi] at h
  unfold OpGoal
  simpa using h

theorem runE_sound (S : Told P Z Γ) {inl : Func → Nat → List SR → Option Nat → St → (St → Tree) → Tree} (hI : InlOk P Γ B Q inl) (hns : Region.noSelect ops = true) (hQ : ∀ c a w, ¬ Qx (.panic c) a w) {sl : Bool} {kk : St → Tree} :
    ∀ (n : Nat) (L : Sts) (E : Env) (J : JJ) (p : Pl) (g : Gm) (a : Act) (w : World) (D : Nat → Nat → Prop) (fuel : Nat) (mask : Array Bool) (md : Nat) (s : St),
      (runE Z inl (ancTab ops.toList) ops m rb ab sl n L kk).den Γ Q E J → (mask, md, s) ∈ L → Good E s.nx L → Shut ops mask → Rep B E p g s a as w → Hold D md E p s.h w → left ops mask ≤ fuel → Then Γ B Q Qx as kk s.nx E J → anyC P ops Qx D (inF ops m) fuel mask a w := by
  intro n
  induction n with
  | zero => intro L E J p g a w D fuel mask md s hd; exact hd.elim
  | succ n ih =>
    intro L E J p g a w D fuel mask md s hd hL hG hS R hH hf hk
    -- the walk goes on with the same operation, of another state
    have again : ∀ {s' : St} {q : Pl} {g' : Gm}, s'.nx = s.nx → (runE Z inl (ancTab ops.toList) ops m rb ab sl n [(mask, md, s')] kk).den Γ Q E J → Rep B E q g' s' a as w → KnLe2 E p s.h E q s'.h w.heap.size → anyC P ops Qx D (inF ops m) fuel mask a w := fun {s' q g'} h1 h2 h3 h4 =>
      ih _ E J q g' a w D fuel mask md s' h2 (by simp) (fun x hx => by rw [List.mem_singleton.1 hx]; exact ⟨rfl, h3.known⟩) hS h3 (hH.two h4) hf (by rw [h1]; exact hk)
    -- an operation is taken
    have take : ∀ {fuel' i : Nat} {o : Oper}, fuel = fuel' + 1 → i ∈ Region.ready .any ops mask → ops[i]? = some o → mayBe ops m md i = true →
        (stepOp Z inl (still ops m md i) (slot sl rb i s.h.regs) (slot sl ab i s.h.arrs) s o ops.toList (fun s => runE Z inl (ancTab ops.toList) ops m rb ab sl n [(mask, md, s)] kk) (fun s => runE Z inl (ancTab ops.toList) ops m rb ab sl n [(mask.setIfInBounds i true, mdNext ops m md i, s)] kk)).den Γ Q E J →
        wpOp P ops Qx i (fun a' w' => (inF ops m i = true → SameOn D w w') ∧ anyC P ops Qx D (inF ops m) fuel' (mask.setIfInBounds i true) a' w') a w := fun {fuel' i o} e hr hi hm ht => by
      subst e
      refine wp_of_goal hi (stepOp_sound S hI ht R (fun s' q g' h1 h2 h3 h4 => ?_) (fun s' E' J' q g' a' w' h1 h2 h3 h4 h5 h6 => ?_))
      · exact goal_of_wp hi ((again h1 h2 h3 h4).2 i hr)
      · obtain ⟨n1, n2⟩ := hH.step hi hm h6
        have := ready_left hr
        refine ⟨n1, ih _ E' J' q g' a' w' D fuel' _ _ s' h2 (by simp) (fun x hx => by rw [List.mem_singleton.1 hx]; exact ⟨rfl, h5.known⟩) (hS.add hr) h5 n2 (by omega) (hk.mono h3 h4 h1)⟩
    -- operations that are decided
    have covers : ∀ {ns : List X} {L' : Sts}, Region.ready .any ops mask ≠ [] → Covers Z ops m rb ab mask md s (Region.ready .any ops mask) ns L' → Good E s.nx L' → (∀ b ∈ ns, (b.den E).bool = true) → (runE Z inl (ancTab ops.toList) ops m rb ab sl n L' kk).den Γ Q E J → anyC P ops Qx D (inF ops m) fuel mask a w := fun {ns L'} hne hc hg hn hd => by
      cases fuel with
      | zero =>
        cases hr : Region.ready .any ops mask with
        | nil => exact absurd hr hne
        | cons i l =>
          have := ready_left (ops := ops) (l := mask) (i := i) (by rw [hr]; simp)
          omega
      | succ fuel =>
        refine ⟨fun h0 => absurd h0 hne, fun i hr => ?_⟩
        obtain ⟨ns', s', t, c1, c2, c3, c4⟩ := hc i hr
        obtain ⟨o, hi, hm, hgoal⟩ := simple1_sound (Qx := Qx) S c1 (fun b hb => hn b (c2 b hb)) R
        have hnx := (simple1_known (E := E) c1).1
        refine wp_of_goal hi (hgoal _ fun q a' w' h5 h6 => ?_)
        obtain ⟨n1, n2⟩ := hH.step hi hm h6
        have hle := ready_left hr
        have ht := hg _ c3
        have ht1 : t.nx = s.nx := ht.1
        have hh : t.h = s'.h ∧ Rep B E q g t a' as w' := by
          rcases c4 with e | e
          · subst e; exact ⟨rfl, h5⟩
          · have e := St.same_eq e
            cases s'
            cases t
            simp only [St.mk.injEq] at e
            obtain ⟨e1, e2, e3, e4, e5, _⟩ := e
            subst e1; subst e2; subst e3; subst e4; subst e5
            exact ⟨rfl, h5.mem, h5.frame, h5.stk, ht.2, h5.keep⟩
        refine ⟨n1, ih _ E J q g a' w' D fuel _ _ t hd c3 (by rw [ht1]; exact hg) (hS.add hr) hh.2 (by rw [hh.1]; exact n2) (by omega) (by rw [ht1]; exact hk)⟩
    match L, hL with
    | [(mask', md', s0)], hL =>
      have e := List.mem_singleton.1 hL
      cases e
      simp only [runE] at hd
      split at hd
      · rename_i hr
        exact anyC_done hr (hk s E J p g a w (fun _ _ => rfl) hd (Nat.le_refl _) (Env.Agree.refl _ _) R) fuel
      · rename_i rs0 hne
        have hpos : ∃ fuel', fuel = fuel' + 1 := by
          cases hr : Region.ready .any ops mask with
          | nil => exact absurd hr hne
          | cons i l =>
            have := ready_left (ops := ops) (l := mask) (i := i) (by rw [hr]; simp)
            exact ⟨fuel - 1, by omega⟩
        obtain ⟨fuel', hfu⟩ := hpos
        split at hd
        · rename_i i hfi
          have hr := List.mem_of_find?_eq_some hfi
          have hpa := List.find?_some hfi
          split at hd
          · exact hd.elim
          · rename_i o hio
            have hi : ops[i]? = some o := by rw [nth_eq] at hio; simpa using hio
            obtain ⟨p1, p2⟩ := pureAt_spec hi hpa
            refine stepF_sound S (by simp only [pureOp, Bool.and_eq_true] at p1; exact p1.1) hd R (fun s' q g' h1 h2 h3 h4 => again h1 h2 h3 h4) (fun s' v h1 h2 h3 h4 h5 h6 => ?_)
            have hle := ready_left hr
            subst hfu
            refine anyC_pure hi (Region.noSelect_spec hns) (fun c a w hh => absurd hh (hQ c _ w)) fuel' mask a w hS p2 hr (by simpa using h5 p1) ?_
            exact ih _ E J p g _ w D fuel' _ md s' h3 (by simp) (fun x hx => by rw [List.mem_singleton.1 hx]; exact ⟨rfl, h6.known⟩) (hS.add hr) h6 (by rw [h2]; exact hH) (by omega) (by rw [h1]; exact hk)
        · split at hd
          · rename_i i hri
            split at hd
            · exact hd.elim
            · rename_i o hio
              have hi : ops[i]? = some o := by rw [nth_eq] at hio; simpa using hio
              split at hd
              · rename_i hm
                subst hfu
                refine ⟨fun h0 => absurd h0 hne, fun j hj => ?_⟩
                rw [hri] at hj
                have := List.mem_singleton.1 hj
                subst this
                exact take rfl (by rw [hri]; simp) hi hm hd
              · exact hd.elim
          · split at hd
            · rename_i i hfi
              have hr := List.mem_of_find?_eq_some hfi
              have hpa := List.find?_some hfi
              split at hd
              · exact hd.elim
              · rename_i o hio
                have hi : ops[i]? = some o := by rw [nth_eq] at hio; simpa using hio
                simp only [loadAtFirst, hi, Bool.and_eq_true] at hpa
                obtain ⟨⟨l1, l2⟩, l3, l4⟩ := hpa
                have l1 := Nat.le_of_ble_eq_true l1
                refine stepF_sound S l3 hd R (fun s' q g' h1 h2 h3 h4 => again h1 h2 h3 h4) (fun s' v h1 h2 h3 h4 h5 h6 => ?_)
                have hle := ready_left hr
                subst hfu
                let D' : Nat → Nat → Prop := fun k j => k < w.heap.size ∧ Kn E p s.h k j
                have hDD : ∀ k j, D k j → D' k j := fun k j hd => by
                  by_cases h0 : md = 0
                  · exact absurd hd (hH.1 h0 k j)
                  · exact hH.2 h0 (by omega) k j hd
                refine anyC_mono hDD _ _ _ _ ?_
                have h4' : Gives P ops (SameOn D' w) o v a := by
                  have : (fun w' => CellsSame E p s.h w w') = SameOn D' w := by
                    funext w'
                    apply propext
                    exact ⟨fun h k i hd => h k i hd.1 hd.2, fun h k i h1 h2 => h k i ⟨h1, h2⟩⟩
                  rw [← this]
                  simpa using h4
                refine anyC_first (w1 := w) hi (Region.noSelect_spec hns) (fun c a w hh => absurd hh (hQ c _ w)) fuel' mask a w hS (freeAt_spec hi l4) hr h4' (SameOn.refl _ _) ?_
                exact ih _ E J p g _ w D' fuel' _ 1 s' h3 (by simp) (fun x hx => by rw [List.mem_singleton.1 hx]; exact ⟨rfl, h6.known⟩) (hS.add hr) h6 ⟨fun h => (by cases h), fun _ _ k j hd => by rw [h2]; exact hd⟩ (by omega) (by rw [h1]; exact hk)
            · split at hd
              · rename_i ns L' hsm
                obtain ⟨hn, hd⟩ := needs_den R.known hd
                have hsm : simples Z ops m rb ab mask md s (Region.ready .any ops mask) ([], []) = some (ns, L') := by
                  cases sl with
                  | true => simpa using hsm
                  | false => simp at hsm
                obtain ⟨_, _, j3, j4⟩ := simples_spec hsm
                exact covers hne j3 (j4 E s.nx rfl R.known hn (fun x hx => by cases hx)) hn hd
              · have hall := allT_den hd
                subst hfu
                refine ⟨fun h0 => absurd h0 hne, fun i hr => ?_⟩
                have ht := hall _ (List.mem_map.2 ⟨i, hr, rfl⟩)
                split at ht
                · exact ht.elim
                · rename_i o hio
                  have hi : ops[i]? = some o := by rw [nth_eq] at hio; simpa using hio
                  split at ht
                  · rename_i hm
                    exact take rfl hr hi hm ht
                  · exact ht.elim
    | (m1, d1, s1) :: y :: l, hL =>
      simp only [runE] at hd
      split at hd
      · rename_i ns L' hsm
        have hg1 := hG (m1, d1, s1) (by simp)
        obtain ⟨hn, hd⟩ := needs_den hg1.2 hd
        obtain ⟨_, _, j3, j4⟩ := simpleAll_spec hsm
        obtain ⟨hne, hc⟩ := j3 _ hL
        exact covers hne hc (j4 E s.nx hG hn (fun x hx => by cases hx)) hn hd
      · exact hd.elim
end
end Go.Sy
