/- A call by its contract, sound. -/
import Derived.Test.YtpmamacjepcdmaaSyCall4
namespace Go.Sy
open Go.RowKit

section
variable {P : Program} {Z : Cx} {Γ : Gam} {B : Base} {Q : List CD → Prop} {E : Env} {J : JJ} {p : Pl} {g : Gm} {s : St} {a : Act} {as : List Act} {w : World}

theorem All2.frames_agree {n : Nat} {F : Env} {l : List (List SR)} {m : List Act} (h : All2 (FrameOk E p g) l m) (hE : E.Agree n F) (hu : allB (allB (SR.under n)) l = true) : All2 (FrameOk F p g) l m :=
  h.imp fun t ht _ hb => hb.agree hE (allB_mem hu t ht)

/-- What a call comes to: 'fz' has been done, and it is tried anew; or the function is called. -/
theorem callT_sound {C : CT} (hC : ∀ f sg, C.get f = some sg → ∃ ct, Γ f = some ct ∧ ct.sig = sg ∧ CtOk P f ct) {f : Nat} {sg : Sig} (hsg : C.get f = some sg) {dst : Option Nat} {args : List SR} {again next : St → Tree} (R : Rep B E p g s a as w)
    (hd : (callT s dst f sg args again next).den Γ Q E J) {vals : List Value} (hv : All2 (SR.is E p g) args vals) :
    (∃ s' q g', p.Le q ∧ g.Le g' ∧ Rep B E q g' s' a as w ∧ KnLe E p s.h q s'.h w.heap.size ∧ s'.nx = s.nx ∧ s'.fn = s.fn ∧ (again s').den Γ Q E J) ∨
    (Known P f ∧ Calls P f vals.toArray w fun e w' => ∃ v, e = .returned v ∧ ∃ s' E' q g', E.Agree s.nx E' ∧ s.nx ≤ s'.nx ∧ p.Le q ∧ g.Le g' ∧ (next s').den Γ Q E' J ∧ Rep B E' q g' s' (a.put dst v) as w' ∧ w.heap.size ≤ w'.heap.size ∧
      (sg.quiet = true → CellsSame E p s.h w w' ∧ KnLe2 E p s.h E' q s'.h w.heap.size)) := by
  unfold callT at hd
  split at hd
  · exact hd.elim
  · rename_i cs ps hf
    split at hd
    · rename_i b hb
      exact .inl (frzThen_den R hd)
    · rename_i hb
      split at hd
      · exact hd.elim
      · rename_i m hm
        split at hd
        · rename_i hcond
          simp only [Bool.and_eq_true, Bool.not_eq_true'] at hcond
          obtain ⟨⟨c1, c2⟩, c3, c4⟩ := hcond
          obtain ⟨hn, hd⟩ := needs_den R.known hd
          obtain ⟨ct, k1, k2, k3⟩ := hd
          obtain ⟨ct', k4, k5, k6⟩ := hC f sg hsg
          rw [k1] at k4
          cases k4
          subst k5
          have hl : ∀ a ∈ m.lent, a ∉ someN m.own := fun a ha => by
            obtain ⟨i, hi⟩ := List.getElem?_of_mem ha
            exact memN_false.1 (anyB_nth (f := fun a => memN a (someN m.own)) c2 ((nth_eq _ _).trans hi))
          obtain ⟨Ec, pc, gc, S⟩ := call_start R.mem hf hv hm hn c1 hl c3
          simp only [St.fine, Bool.and_eq_true] at c4
          obtain ⟨u1, u2, u3, u4⟩ := c4
          have hfz : ct.sig.hasFz = true → m.lent = [] := fun hz => by
            rw [if_pos hz] at hb
            exact mtCs_lent hm hb
          right
          refine ⟨k6.1, Calls.mono (k6.2 w gc pc Ec vals S.mem S.args (by rw [S.ec]; exact S.oks) (by rw [S.ec]; exact k2)) fun e w' he => ?_⟩
          obtain ⟨outs, p1, g1, v, rfl, o1, o2, o3, o4, o5⟩ := he
          rw [S.ec] at o2
          obtain ⟨q, g', e1, e2, e3, e4, e5⟩ := call_end R.mem S c3 hfz u3 o3 o4
          have hag : E.Agree s.nx (E.put s.nx outs) := Env.put_agree _ _ _
          refine ⟨v, rfl, _, E.put s.nx outs, q, g', hag, Nat.le_add_right s.nx ct.sig.outs.length, e1, e2, k3 outs o1 o2, ⟨e3, ?_, ?_, fun b hb => ?_, fun i x h => e1.reg i x (R.keep i x h)⟩, ?_, e5⟩
          · exact ((R.frame.le e1 e2).agree hag u1).put (e4 v o5)
          · exact (R.stk.mono fun _ _ h => h.le e1 e2).frames_agree hag u2
          · rw [← X.den_agree hag (allB_mem u4 b hb)]; exact R.known b hb
          · exact o4.fr.size
        · exact hd.elim
end
end Go.Sy
