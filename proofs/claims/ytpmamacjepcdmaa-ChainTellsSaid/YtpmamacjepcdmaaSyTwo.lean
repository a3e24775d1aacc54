/- One step of the walk, sound. -/
import Derived.Test.YtpmamacjepcdmaaSyOne
namespace Go.Sy
open Go.RowKit

/-- What is told of the program. -/
structure Told (P : Program) (Z : Cx) (Γ : Gam) : Prop where
  T : TOk P Z.T
  C : ∀ f sg, Z.C.get f = some sg → ∃ ct, Γ f = some ct ∧ ct.sig = sg ∧ CtOk P f ct
  F : ∀ f fn, Z.F.get f = some fn → P.funcs[f]? = some fn ∧ (fn.name == "runtime.NumGoroutine") = false ∧ ∃ c, fn.body = some c
  m : P.follows .mixedOrders = true

section
variable {P : Program} {Z : Cx} {Γ : Gam} {B : Base} {Q : List CD → Prop} {E F : Env} {J : JJ} {p q : Pl} {g g' : Gm} {s : St} {a : Act} {as : List Act} {w w' : World} {K : Act → World → Prop} {Qx : Exit → Act → World → Prop} {o : Oper} {all : List Oper}

theorem KnLe.two {h' : Hp} {n : Nat} (h : KnLe E p s.h q h' n) : KnLe2 E p s.h E q h' n := h

/-- A function that is walked through. -/
def InlOk (P : Program) (Γ : Gam) (B : Base) (Q : List CD → Prop) (inl : Func → Nat → List SR → Option Nat → St → (St → Tree) → Tree) : Prop :=
  ∀ (fn : Func) (f : Nat) (args : List SR) (vals : List Value) (dst : Option Nat) (s : St) (next : St → Tree) (E : Env) (J : JJ) (p : Pl) (g : Gm) (a : Act) (as : List Act) (w : World) (K : Act → World → Prop),
    P.funcs[f]? = some fn → (inl fn f args dst s next).den Γ Q E J → Rep B E p g s a as w → All2 (SR.is E p g) args vals →
    (∀ s' E' J' q g' v w', (∀ i, i < s.nx → J' i = J i) → (next s').den Γ Q E' J' → s.nx ≤ s'.nx → E.Agree s.nx E' → Rep B E' q g' s' (a.put dst v) as w' → K (a.put dst v) w') →
    Calls P f vals.toArray w fun e w'' => ∃ v, e = .returned v ∧ K (a.put dst v) w''

theorem stepOp_sound (S : Told P Z Γ) {inl : Func → Nat → List SR → Option Nat → St → (St → Tree) → Tree} (hI : InlOk P Γ B Q inl) {fp : Bool} {sr sa : Nat} {again next : St → Tree}
    (hd : (stepOp Z inl fp sr sa s o all again next).den Γ Q E J) (R : Rep B E p g s a as w)
    (hag : ∀ s' q g', s'.nx = s.nx → (again s').den Γ Q E J → Rep B E q g' s' a as w → KnLe2 E p s.h E q s'.h w.heap.size → OpGoal P all o K Qx a w)
    (hnx : ∀ s' E' J' q g' a' w', (∀ i, i < s.nx → J' i = J i) → (next s').den Γ Q E' J' → s.nx ≤ s'.nx → E.Agree s.nx E' → Rep B E' q g' s' a' as w' → Nice E p s.h w o fp E' q s'.h w' → K a' w') : OpGoal P all o K Qx a w := by
  have two : ∀ {b : X}, (split2 b s again).den Γ Q E J → OpGoal P all o K Qx a w := fun {b} h => by
    obtain ⟨s', e1, e2, h1, h2⟩ := split2_den R h
    exact hag s' p g e1 h1 h2 (by rw [e2]; exact fun _ _ _ h => h)
  unfold stepOp at hd
  split at hd
  · exact hd.elim
  · rename_i gd want hg
    have hw := guard_sound R.frame hg
    split at hd
    · split at hd
      · exact two hd
      · exact hd.elim
    · rename_i hdec
      rw [decided R.known hdec] at hw
      refine goal_off hw (hnx _ E J p g _ _ (fun _ _ => rfl) hd (Nat.le_refl _) (Env.Agree.refl _ _) ?_ (Nice.refl fp))
      exact R.step (Pl.Le.refl _) (Gm.Le.refl _) R.mem rfl R.known
    · rename_i hdec
      rw [decided R.known hdec] at hw
      split at hd
      · rename_i ns r h qu ho
        split at hd
        · exact hd.elim
        · rename_i hf
          obtain ⟨hn, hd⟩ := needs_den R.known hd
          obtain ⟨v, w', q, h1, h2, h3⟩ := val_goal S.T R ho hn (fp := fp) (by simpa using hf)
          exact goal_value hw h1 (hnx _ E J q g _ _ (fun _ _ => rfl) hd (Nat.le_refl _) (Env.Agree.refl _ _) h2 h3)
      · rename_i ns h ho
        split at hd
        · exact hd.elim
        · rename_i hf
          have hf : fp = false := by simpa using hf
          subst hf
          obtain ⟨hn, hd⟩ := needs_den R.known hd
          obtain ⟨w', h1, h2, h3⟩ := skip_goal S.T R ho hn
          exact goal_skip hw h1 (hnx _ E J p g _ _ (fun _ _ => rfl) hd (Nat.le_refl _) (Env.Agree.refl _ _) h2 h3)
      · rename_i b ho
        split at hd
        · rename_i c hc
          exact hag (written b c s) p g rfl hd (written_rep R (dec_den R.known hc)) (fun _ _ _ h => h)
        · exact two hd
      · rename_i b ho
        obtain ⟨s', q, g', h1, h2, h3, h4, h5, h6, h7⟩ := frzThen_den R hd
        exact hag s' q g' h5 h7 h3 h4
      · rename_i n neg ho
        obtain ⟨b, h1, h2⟩ := aop_nilq R.mem R.frame.tmp S.T ho
        obtain ⟨s', e1, e2, h3, h4⟩ := nilT_den R h2 hd
        refine goal_value hw (h1 w) (hnx s' E J p g _ _ (fun _ _ => rfl) h3 (by rw [e1]; exact Nat.le_refl _) (Env.Agree.refl _ _) h4 (by rw [e2]; exact Nice.refl fp))
      · rename_i f args ho
        obtain ⟨x, as', ats, ho'⟩ := not_call ho
        have hpu : pureOp o = false := by
          obtain ⟨dst, op, type, pos, after, guard⟩ := o
          dsimp only at ho'
          subst ho'
          rfl
        have hst : isStore o = false := by
          obtain ⟨dst, op, type, pos, after, guard⟩ := o
          dsimp only at ho'
          subst ho'
          rfl
        split at hd
        · rename_i sg hsg
          split at hd
          · exact hd.elim
          · rename_i hf
            obtain ⟨ct, k1, k2, k3⟩ := S.C f sg hsg
            obtain ⟨vals, hv, hrun⟩ := aop_call (w := w) (o := o) R.frame.tmp k3.1 ho
            rcases callT_sound S.C hsg R hd hv with ⟨s', q, g', h1, h2, h3, h4, h5, h6, h7⟩ | ⟨_, hc⟩
            · exact hag s' q g' h5 h7 h3 h4
            · refine goal_enter hw hrun (hc.mono fun e w' ⟨v, e1, s', E', q, g', h1, h2, h3, h4, h5, h6, h7, h8⟩ => ⟨v, e1, hnx s' E' J q g' _ _ (fun _ _ => rfl) h5 h2 h1 h6 ⟨fun e => h8 ?_, fun e => (by rw [hpu] at e; cases e), fun e => (by rw [hst] at e; cases e), fun _ => h7⟩⟩)
              subst e
              cases hq : sg.quiet with
              | true => rfl
              | false => rw [hq] at hf; exact absurd rfl hf
        · split at hd
          · rename_i fn hfn
            split at hd
            · exact hd.elim
            · rename_i hf
              have hf : fp = false := by simpa using hf
              subst hf
              obtain ⟨f1, f2, c, hb⟩ := S.F f fn hfn
              have hK : Known P f := ⟨fn, c, f1, hb, f2⟩
              obtain ⟨vals, hv, hrun⟩ := aop_call (w := w) (o := o) R.frame.tmp hK ho
              refine goal_enter hw hrun (hI fn f args vals o.dst s next E J p g a as w _ f1 hd R hv fun s' E' J' q g' v w' h1 h2 h3 h4 h5 => hnx s' E' J' q g' _ _ h1 h2 h3 h4 h5 ⟨fun e => (by cases e), fun e => (by rw [hpu] at e; cases e), fun e => (by rw [hst] at e; cases e), fun e => (by rw [hpu, hst] at e; simp at e)⟩)
          · exact hd.elim
      · exact hd.elim

/-- An operation that only reads. -/
theorem stepF_sound (S : Told P Z Γ) {G : Prop} {again next : St → Tree} (hr : reads o = true) (hd : (stepF Z s o all again next).den Γ Q E J) (R : Rep B E p g s a as w)
    (hag : ∀ s' q g', s'.nx = s.nx → (again s').den Γ Q E J → Rep B E q g' s' a as w → KnLe2 E p s.h E q s'.h w.heap.size → G)
    (hnx : ∀ s' v, s'.nx = s.nx → s'.h = s.h → (next s').den Γ Q E J → Gives P all.toArray (fun w' => CellsSame E p s.h w w') o v a → (pureOp o = true → Gives P all.toArray (fun _ => True) o v a) → Rep B E p g s' (a.put o.dst v) as w → G) : G := by
  have two : ∀ {b : X}, (split2 b s again).den Γ Q E J → G := fun {b} h => by
    obtain ⟨s', e1, e2, h1, h2⟩ := split2_den R h
    exact hag s' p g e1 h1 h2 (by rw [e2]; exact fun _ _ _ h => h)
  unfold stepF at hd
  split at hd
  · exact hd.elim
  · rename_i gd want hg
    have hw := guard_sound R.frame hg
    split at hd
    · split at hd
      · exact two hd
      · exact hd.elim
    · rename_i hdec
      rw [decided R.known hdec] at hw
      exact hnx _ Go.undef (by rfl) (by rfl) hd (.inr ⟨hw, rfl⟩) (fun _ => .inr ⟨hw, rfl⟩) (R.step (Pl.Le.refl _) (Gm.Le.refl _) R.mem (by rfl) R.known)
    · rename_i hdec
      rw [decided R.known hdec] at hw
      split at hd
      · rename_i ns r h qu ho
        obtain ⟨hn, hd⟩ := needs_den R.known hd
        have hk := knows_den R.known hn
        rcases aop_val R.mem R.frame.tmp S.T ho hn with ⟨_, v, h1, h2⟩ | ⟨_, e0, v, h1, h2⟩ | ⟨e0, _⟩
        · exact hnx _ v (by rfl) (by rfl) hd (.inl ⟨hw, fun w' _ => h1 w'⟩) (fun _ => .inl ⟨hw, fun w' _ => h1 w'⟩) (R.step (Pl.Le.refl _) (Gm.Le.refl _) R.mem h2 hk)
        · exact hnx _ v (by rfl) (by rfl) hd (.inl ⟨hw, fun w' hw' => h1 w' hw'⟩) (fun e => by rw [e0] at e; cases e) (R.step (Pl.Le.refl _) (Gm.Le.refl _) R.mem h2 hk)
        · rw [hr] at e0; cases e0
      · rename_i b ho
        split at hd
        · rename_i c hc
          exact hag (written b c s) p g rfl hd (written_rep R (dec_den R.known hc)) (fun _ _ _ h => h)
        · exact two hd
      · rename_i b ho
        obtain ⟨s', q, g', h1, h2, h3, h4, h5, h6, h7⟩ := frzThen_den R hd
        exact hag s' q g' h5 h7 h3 h4
      · rename_i n neg ho
        obtain ⟨b, h1, h2⟩ := aop_nilq R.mem R.frame.tmp S.T ho
        obtain ⟨s', e1, e2, h3, h4⟩ := nilT_den R h2 hd
        exact hnx s' _ e1 e2 h3 (.inl ⟨hw, fun w' _ => h1 w'⟩) (fun _ => .inl ⟨hw, fun w' _ => h1 w'⟩) h4
      · exact hd.elim
      · exact hd.elim
end
end Go.Sy
