import Derived.Test.YtpmamacjepcdmaaSyRet
/- The symbolic walk is sound. -/
namespace Go.Sy
open Go.RowKit

/-- What holds where a loop that is unrolled may go on. -/
def Rn (P : Program) (c : Code) (Q : Exit → Act → World → Prop) (a : Act) (w : World) : Prop := ∀ X : Act → World → Prop, (∀ a w, c.wp P (Exit.then X Q) a w → X a w) → X a w

section
variable {P : Program} {Q : Exit → Act → World → Prop} {a : Act} {w : World} {c : Code}

theorem then_mono {X Y : Act → World → Prop} (h : ∀ a w, X a w → Y a w) : ∀ e a w, Exit.then X Q e a w → Exit.then Y Q e a w := by
  intro e a w hh
  cases e <;> first | exact h _ _ hh | exact hh
theorem Rn_of (h : c.wp P (Exit.then (Rn P c Q) Q) a w) : Rn P c Q a w := fun X hX => hX a w (wp_mono h (then_mono fun _ _ hr => hr X hX))
theorem loop_of (h : c.wp P (Exit.then (Rn P c Q) Q) a w) : (Code.loop c).wp P Q a w := by
  intro b k cs
  let X : Act → World → Prop := fun a w => ∃ e a' w', Q e a' w' ∧ Arrives P (lone (b.at a (.inLoop c :: k)) cs w) b k cs e a' w'
  have hX : ∀ a w, c.wp P (Exit.then X Q) a w → X a w := fun a w hw => by
    obtain ⟨e, a1, w1, hq, harr⟩ := hw b (.inLoop c :: k) cs
    cases e with
    | normal =>
      obtain ⟨e2, a2, w2, hq2, harr2⟩ := hq
      exact ⟨e2, a2, w2, hq2, .of_steps (.head step_inLoop harr) harr2⟩
    | exit id => exact ⟨_, a1, w1, hq, .of_steps (.one step_inLoop) (.pass (x := .inLoop c) rfl (fun _ _ => .inl (by simp)) harr)⟩
    | goto l => exact ⟨_, a1, w1, hq, .of_steps (.one step_inLoop) (.pass (x := .inLoop c) rfl (fun _ _ => .inl (by simp)) harr)⟩
    | ret => exact ⟨_, a1, w1, hq, .of_steps (.one step_inLoop) (.pass (x := .inLoop c) rfl (fun _ _ => .inl (by simp)) harr)⟩
    | panic ch => exact ⟨_, a1, w1, hq, .of_steps (.one step_inLoop) (.pass (x := .inLoop c) rfl (fun _ _ => .inl (by simp)) harr)⟩
    | outgrown => exact ⟨_, a1, w1, hq, .of_steps (.one step_inLoop) (.pass (x := .inLoop c) rfl (fun _ _ => .inl (by simp)) harr)⟩
  obtain ⟨e, a1, w1, hq, harr⟩ := h b (.inLoop c :: k) cs
  cases e with
  | normal =>
    obtain ⟨e2, a2, w2, hq2, harr2⟩ := hq X hX
    exact ⟨e2, a2, w2, hq2, .of_steps (.head step_loop harr) harr2⟩
  | exit id => exact ⟨_, a1, w1, hq, .of_steps (.one step_loop) (.pass (x := .inLoop c) rfl (fun _ _ => .inl (by simp)) harr)⟩
  | goto l => exact ⟨_, a1, w1, hq, .of_steps (.one step_loop) (.pass (x := .inLoop c) rfl (fun _ _ => .inl (by simp)) harr)⟩
  | ret => exact ⟨_, a1, w1, hq, .of_steps (.one step_loop) (.pass (x := .inLoop c) rfl (fun _ _ => .inl (by simp)) harr)⟩
  | panic ch => exact ⟨_, a1, w1, hq, .of_steps (.one step_loop) (.pass (x := .inLoop c) rfl (fun _ _ => .inl (by simp)) harr)⟩
  | outgrown => exact ⟨_, a1, w1, hq, .of_steps (.one step_loop) (.pass (x := .inLoop c) rfl (fun _ _ => .inl (by simp)) harr)⟩

open Classical in
/-- The loop's rule, with a measure that is told and not reckoned. -/
theorem loop_ex (I : Nat → Act → World → Prop) (h0 : ∃ m, I m a w) (round : ∀ m a w, I m a w → c.wp P (Exit.then (fun a' w' => ∃ m', m' < m ∧ I m' a' w') Q) a w) : (Code.loop c).wp P Q a w := by
  have key : ∀ m a w, I m a w → ∀ X : Act → World → Prop, (∀ a w, c.wp P (Exit.then X Q) a w → X a w) → X a w := by
    intro m
    induction m using Nat.strongRecOn with
    | _ m ih => exact fun a w hI X hX => hX a w (wp_mono (round m a w hI) (then_mono fun a' w' ⟨m', hlt, hI'⟩ => ih m' hlt a' w' hI' X hX))
  obtain ⟨m, hm⟩ := h0
  exact loop_of (wp_mono (round m a w hm) (then_mono fun a' w' ⟨m', _, hI'⟩ => key m' a' w' hI'))
end

/-- What is behind a list of items. -/
def its (P : Program) (Bd : Exit → Act → World → Prop) (Y : Nat → Act → World → Prop) : List It → Exit → Act → World → Prop
  | [] => fun _ _ _ => False
  | .fin _ :: _ => Bd
  | .code c :: k => Exit.then (c.wp P (its P Bd Y k)) (its P Bd Y k)
  | .blk id :: k => Exit.inBlock id (its P Bd Y k)
  | .ops l all :: k => Exit.then (wpList P all.toArray (its P Bd Y k) l) (its P Bd Y k)
  | .again c :: k => Exit.then (Rn P c (its P Bd Y k)) (its P Bd Y k)
  | .round L :: k => Exit.then (Y L.nx0) (its P Bd Y k)

section
variable {P : Program} {Γ : Gam} {B : Base} {Q : List CD → Prop} {Bd : Exit → Act → World → Prop} {Y Y' : Nat → Act → World → Prop} {as : List Act}

theorem its_ret {a : Act} {w : World} {f : St → Tree} : ∀ {k : List It}, retIt k = some f → Bd .ret a w → its P Bd Y k .ret a w
  | [], h, _ => by simp [retIt] at h
  | .fin _ :: _, _, h => h
  | .code _ :: k, h, hb => its_ret (k := k) h hb
  | .blk _ :: k, h, hb => its_ret (k := k) h hb
  | .ops _ _ :: k, h, hb => its_ret (k := k) h hb
  | .again _ :: k, h, hb => its_ret (k := k) h hb
  | .round _ :: k, h, hb => its_ret (k := k) h hb
theorem its_panic (hB : ∀ c a w, ¬ Bd (.panic c) a w) : ∀ (k : List It) (c : List PanicEntry) (a : Act) (w : World), ¬ its P Bd Y k (.panic c) a w
  | [], _, _, _, h => h
  | .fin _ :: _, c, a, w, h => hB c a w h
  | .code _ :: k, c, a, w, h => its_panic hB k c a w h
  | .blk _ :: k, c, a, w, h => its_panic hB k c a w h
  | .ops _ _ :: k, c, a, w, h => its_panic hB k c a w h
  | .again _ :: k, c, a, w, h => its_panic hB k c a w h
  | .round _ :: k, c, a, w, h => its_panic hB k c a w h
theorem its_exit {id : Nat} {a : Act} {w : World} : ∀ {k k' : List It}, exitIt id k = some k' → its P Bd Y k' .normal a w → its P Bd Y k (.exit id) a w
  | [], _, h, _ => by simp [exitIt] at h
  | .fin _ :: _, _, h, _ => by simp [exitIt] at h
  | .code _ :: k, _, h, hn => its_exit (k := k) h hn
  | .ops _ _ :: k, _, h, hn => its_exit (k := k) h hn
  | .again _ :: k, _, h, hn => its_exit (k := k) h hn
  | .round _ :: k, _, h, hn => its_exit (k := k) h hn
  | .blk j :: k, k', h, hn => by
    simp only [exitIt] at h
    simp only [its, Exit.inBlock]
    split at h
    · rename_i e
      cases h
      rw [if_pos (Nat.eq_of_beq_eq_true e).symm]
      exact hn
    · rename_i e
      rw [if_neg (fun e2 => e (by rw [e2]; exact Nat.beq_refl j))]
      exact its_exit (k := k) h hn

/-- What is asked at the end. -/
def FinOk (Γ : Gam) (B : Base) (Q : List CD → Prop) (n : Nat) (E : Env) (J : JJ) (Bd : Exit → Act → World → Prop) (as : List Act) (f : St → Tree) : Prop :=
  (∀ c a w, ¬ Bd (.panic c) a w) ∧ ∀ s' E' J' p' g' a' w', n ≤ s'.nx → E.Agree n E' → JJ.Same n J' J → (f s').den Γ Q E' J' → Rep B E' p' g' s' a' as w' → Bd .normal a' w' ∧ Bd .ret a' w'
/-- The rounds of a stack: their loops are older than n, and what is asked at their ends is what their heads say. -/
def Okk (Γ : Gam) (B : Base) (Q : List CD → Prop) (n : Nat) (E : Env) (J : JJ) (Y : Nat → Act → World → Prop) (Bd : Exit → Act → World → Prop) (as : List Act) : List It → Prop
  | [] => False
  | .fin f :: _ => FinOk Γ B Q n E J Bd as f
  | .round L :: k => (L.nx0 < n ∧ (∀ i x, B.r0 i = some x → i < L.r0) ∧ ∃ E0 : Env, E0.Agree L.nx0 E ∧ (∀ b ∈ L.hd.known, b.under L.nx0 = true ∧ (b.den E0).bool = true) ∧
      ∀ (ds : List CD) (p' : Pl) (g' : Gm) (a : Act) (w : World), CD.oks L.ks ds → J.b L.nx0 ds → Rep B (E0.put (L.nx0 + 1) ds) p' g' L.hd a as w → Y L.nx0 a w) ∧ Okk Γ B Q n E J Y Bd as k
  | _ :: k => Okk Γ B Q n E J Y Bd as k
theorem FinOk.mono {n n' : Nat} {E E' : Env} {J J' : JJ} (hn : n ≤ n') (hE : E.Agree n E') (hJ : JJ.Same n J' J) {f : St → Tree} (h : FinOk Γ B Q n E J Bd as f) : FinOk Γ B Q n' E' J' Bd as f :=
  ⟨h.1, fun s' E2 J2 p' g' a' w' h1 h2 h3 => h.2 s' E2 J2 p' g' a' w' (by omega) (hE.trans (h2.mono hn)) (h3.trans hJ hn)⟩
theorem Okk.mono {n n' : Nat} {E E' : Env} {J J' : JJ} (hn : n ≤ n') (hE : E.Agree n E') (hJ : JJ.Same n J' J) (hY : ∀ i, i < n → Y' i = Y i) : ∀ {k : List It}, Okk Γ B Q n E J Y Bd as k → Okk Γ B Q n' E' J' Y' Bd as k
  | [], h => h.elim
  | .fin _ :: _, h => FinOk.mono hn hE hJ h
  | .round L :: k, h => by
    obtain ⟨⟨h1, h0, E0, h2, h3, h4⟩, h5⟩ := h
    refine ⟨⟨by omega, h0, E0, h2.trans (hE.mono (by omega)), h3, fun ds p' g' a w e1 e2 e3 => ?_⟩, h5.mono hn hE hJ hY⟩
    rw [hY _ h1]
    exact h4 ds p' g' a w e1 (by rw [← hJ.1 _ h1]; exact e2) e3
  | .code _ :: k, h => Okk.mono (k := k) hn hE hJ hY h
  | .blk _ :: k, h => Okk.mono (k := k) hn hE hJ hY h
  | .ops _ _ :: k, h => Okk.mono (k := k) hn hE hJ hY h
  | .again _ :: k, h => Okk.mono (k := k) hn hE hJ hY h
theorem its_congr {n : Nat} {E : Env} {J : JJ} (hY : ∀ i, i < n → Y' i = Y i) : ∀ {k : List It}, Okk Γ B Q n E J Y Bd as k → its P Bd Y' k = its P Bd Y k
  | [], h => h.elim
  | .fin _ :: _, _ => rfl
  | .round L :: k, h => by simp only [its, its_congr hY h.2, hY _ h.1.1]
  | .code _ :: k, h => by simp only [its, its_congr (k := k) hY h]
  | .blk _ :: k, h => by simp only [its, its_congr (k := k) hY h]
  | .ops _ _ :: k, h => by simp only [its, its_congr (k := k) hY h]
  | .again _ :: k, h => by simp only [its, its_congr (k := k) hY h]
theorem Okk.exit {n id : Nat} {E : Env} {J : JJ} : ∀ {k k' : List It}, exitIt id k = some k' → Okk Γ B Q n E J Y Bd as k → Okk Γ B Q n E J Y Bd as k'
  | [], _, h, _ => by simp [exitIt] at h
  | .fin _ :: _, _, h, _ => by simp [exitIt] at h
  | .code _ :: k, _, h, ho => Okk.exit (k := k) h ho
  | .ops _ _ :: k, _, h, ho => Okk.exit (k := k) h ho
  | .again _ :: k, _, h, ho => Okk.exit (k := k) h ho
  | .round _ :: k, _, h, ho => Okk.exit (k := k) h ho.2
  | .blk j :: k, k', h, ho => by
    simp only [exitIt] at h
    split at h
    · cases h; exact ho
    · exact Okk.exit (k := k) h ho
theorem Okk.end {n : Nat} {E : Env} {J : JJ} : ∀ {k : List It}, Okk Γ B Q n E J Y Bd as k → ∃ f, retIt k = some f ∧ FinOk Γ B Q n E J Bd as f
  | [], h => h.elim
  | .fin f :: _, h => ⟨f, rfl, h⟩
  | .round _ :: k, h => Okk.end (k := k) h.2
  | .code _ :: k, h => Okk.end (k := k) h
  | .blk _ :: k, h => Okk.end (k := k) h
  | .ops _ _ :: k, h => Okk.end (k := k) h
  | .again _ :: k, h => Okk.end (k := k) h
end

section
variable {P : Program} {Z : Cx} {Γ : Gam} {B : Base} {Q : List CD → Prop} {E : Env} {J : JJ} {Y : Nat → Act → World → Prop} {Bd : Exit → Act → World → Prop} {p : Pl} {g : Gm} {s : St} {a : Act} {as : List Act} {w : World}

theorem back_sound {L : LI} {k : List It} {n : Nat} (hd : (backTree L s).den Γ Q E J) (ho : Okk Γ B Q n E J Y Bd as (.round L :: k)) (R : Rep B E p g s a as w) : Y L.nx0 a w := by
  obtain ⟨⟨_, h0, E0, h2, h3, h4⟩, _⟩ := ho
  unfold backTree at hd
  dsimp only at hd
  split at hd
  · rename_i hok
    split at hd
    · rename_i cs hcs
      obtain ⟨k1, p', k2⟩ := holds_sound R hok hcs h2 h3 h0
      exact h4 _ p' g a w k1 hd k2
    · exact hd.elim
  · exact hd.elim
theorem freezeAll_sound : ∀ {l : List Nat} {s s' : St} {p : Pl} {g : Gm}, freezeAll l s = some s' → Rep B E p g s a as w → ∃ q g', Rep B E q g' s' a as w ∧ s'.nx = s.nx ∧ s'.fn = s.fn
  | [], s, s', p, g, h, R => by simp only [freezeAll, Option.some.injEq] at h; subst h; exact ⟨p, g, R, rfl, rfl⟩
  | b :: l, s, s', p, g, h, R => by
    simp only [freezeAll] at h
    split at h
    · rename_i s1 h1
      obtain ⟨q, g', _, _, h2, _, h3, h4⟩ := frz_sound R h1
      obtain ⟨q2, g2, h5, h6, h7⟩ := freezeAll_sound h h2
      exact ⟨q2, g2, h5, h6.trans h3, h7.trans h4⟩
    · cases h

/-- The walk, as far as it goes. -/
def RunOk (P : Program) (Γ : Gam) (B : Base) (Q : List CD → Prop) (rn : List It → St → Tree) : Prop :=
  ∀ (k : List It) (s : St) (E : Env) (J : JJ) (Y : Nat → Act → World → Prop) (Bd : Exit → Act → World → Prop) (as : List Act), (rn k s).den Γ Q E J → Okk Γ B Q s.nx E J Y Bd as k → ∀ (p : Pl) (g : Gm) (a : Act) (w : World), Rep B E p g s a as w → its P Bd Y k .normal a w

theorem loop_sound {n : Nat} {b : Code} {L : LI} {k : List It} {init : List X} (ih : RunOk P Γ B Q (run Z n)) (hL : L.nx0 = s.nx ∧ L.r0 = s.h.regs.length ∧ L.hd.known = s.known) (hlt : s.nx < L.hd.nx) (hkn : allB (X.under s.nx) s.known = true)
    (hno : (holds L s).no = []) (hc : collect (holds L s).ls (s.nx + 1) L.ks = some init) (hd : (Tree.loop s.nx L.ks init (run Z n (.code b :: .round L :: k) L.hd)).den Γ Q E J) (ho : Okk Γ B Q s.nx E J Y Bd as k) (R : Rep B E p g s a as w) :
    (Code.loop b).wp P (its P Bd Y k) a w := by
  obtain ⟨l1, l2, l3⟩ := hL
  obtain ⟨I, mu, hI, hbody⟩ := hd
  have hknown : ∀ b ∈ L.hd.known, b.under L.nx0 = true ∧ (b.den E).bool = true := fun b hb => by
    rw [l3] at hb
    rw [l1]
    exact ⟨allB_mem hkn b hb, R.known b hb⟩
  have hr0 : ∀ i x, B.r0 i = some x → i < L.r0 := fun i x hi => by
    rw [l2]
    rcases Nat.lt_or_ge i s.h.regs.length with hl | hl
    · exact hl
    · have := R.mem.rfree i (.inl (nth_none hl))
      rw [R.keep i x hi] at this; cases this
  obtain ⟨h1, p1, h2⟩ := holds_sound R hno (by rw [l1]; exact hc) (Env.Agree.refl E L.nx0) hknown hr0
  rw [l1] at h2
  let Inv : Nat → Act → World → Prop := fun m a w => ∃ (ds : List CD) (p' : Pl) (g' : Gm), CD.oks L.ks ds ∧ I ds ∧ m = mu ds ∧ Rep B (E.put (s.nx + 1) ds) p' g' L.hd a as w
  refine loop_ex Inv ⟨_, _, p1, g, h1, hI, rfl, h2⟩ (fun m a1 w1 ⟨ds, p', g', i1, i2, i3, i4⟩ => ?_)
  let J' : JJ := J.put s.nx fun ds' => I ds' ∧ mu ds' < mu ds
  let Y' : Nat → Act → World → Prop := fun i => if i = s.nx then (fun a' w' => ∃ m', m' < m ∧ Inv m' a' w') else Y i
  have hYo : ∀ i, i < s.nx → Y' i = Y i := fun i hi => if_neg (by omega)
  have hJo : JJ.Same s.nx J' J := JJ.Same.put (Nat.le_refl _)
  have hA : E.Agree s.nx (E.put (s.nx + 1) ds) := (Env.put_agree E (s.nx + 1) ds).mono (by omega)
  have := ih (.code b :: .round L :: k) L.hd _ J' Y' Bd as (hbody ds i1 i2) ⟨⟨by rw [l1]; exact hlt, hr0, E, by rw [l1]; exact hA, hknown, fun ds' p2 g2 a2 w2 g3 g4 g5 => ?_⟩, ho.mono (by omega) hA hJo hYo⟩ p' g' a1 w1 i4
  · have hcong := its_congr (Y' := Y') hYo ho (P := P)
    simp only [its, Exit.then, hcong] at this
    have hY : Y' L.nx0 = fun a' w' => ∃ m', m' < m ∧ Inv m' a' w' := by rw [l1]; exact if_pos rfl
    rw [hY] at this
    exact this
  · rw [l1] at g4 g5
    have g4 : I ds' ∧ mu ds' < mu ds := by
      have : J'.b s.nx = fun ds' => I ds' ∧ mu ds' < mu ds := if_pos rfl
      rw [this] at g4; exact g4
    have hY : Y' L.nx0 = fun a' w' => ∃ m', m' < m ∧ Inv m' a' w' := by rw [l1]; exact if_pos rfl
    rw [hY]
    exact ⟨mu ds', by rw [i3]; exact g4.2, ds', p2, g2, g3, g4.1, rfl, g5⟩

/-- The frame ahead: the arguments, then nothing. -/
theorem frame_start {args : List SR} {vals : List Value} {m : Nat} (ha : All2 (SR.is E p g) args vals) :
    FrameOk E p g (args ++ List.replicate (m - args.length) (.v (.one .undef))) { tmps := vals.toArray ++ Array.replicate (m - vals.toArray.size) undef, defers := [] } := by
  have hl : args.length = vals.length := ha.length
  refine ⟨rfl, by simp [hl], fun i c hc => ?_⟩
  rw [Array.getD_eq_getD_getElem?]
  rw [nth_append] at hc
  split at hc
  · rename_i hi
    obtain ⟨v, hv, hcv⟩ := ha.nth hc
    rw [nth_eq] at hv
    rw [Array.getElem?_append_left (by simp; omega)]
    have : vals.toArray[i]? = some v := by simpa using hv
    rw [this]; exact hcv
  · rename_i hi
    rw [nth_eq, List.getElem?_replicate] at hc
    split at hc
    · cases hc
      rw [Array.getElem?_append_right (by simp; omega), Array.getElem?_replicate]
      split <;> rfl
    · cases hc

theorem inl_sound (S : Told P Z Γ) {n : Nat} (ih : RunOk P Γ B Q (run Z n)) : InlOk P Γ B Q (inlOf Z (run Z n)) := by
  intro fn f args vals dst s next E J p g a as w K hf hd R hv hK
  unfold inlOf at hd
  split at hd
  · exact hd.elim
  · rename_i c hb
    refine calls_of_wp hf hb ?_
    have := ih _ _ E J (fun _ _ _ => False) (bodyPost P fn fun e w'' => ∃ v, e = .returned v ∧ K (a.put dst v) w'') (a :: as) hd
      (show FinOk _ _ _ _ _ _ _ _ _ from ⟨fun c a w h => (by obtain ⟨_, v, e, _⟩ := h; cases e), fun s' E' J' p' g' a' w' h1 h2 h3 h4 h5 => ?_⟩) p g { tmps := vals.toArray ++ Array.replicate (fn.ntmps - vals.toArray.size) undef, defers := [] } w
      ⟨R.mem, frame_start hv, ⟨R.frame, R.stk⟩, R.known, R.keep⟩
    · exact this
    · have key : bodyPost P fn (fun e w'' => ∃ v, e = .returned v ∧ K (a.put dst v) w'') .ret a' w' := by
        dsimp only at h4
        split at h4
        · rename_i vals' tm stk hvals hstk
          obtain ⟨vs, v, v1, v2, v3⟩ := results_run (fn := fn) S.T h5 hvals
          have hst := h5.stk
          rw [hstk] at hst
          refine ⟨h5.frame.defers, v, v3, v, rfl, hK _ E' J' p' g' v w' h3 h4 h1 h2 ⟨h5.mem, hst.1.put ?_, hst.2, h5.known, h5.keep⟩⟩
          rw [v2]; exact toSR_is v1
        · exact h4.elim
      exact ⟨key, key⟩
end
end Go.Sy

/- From a tree to a contract. -/
namespace Go.Sy
open Go.RowKit

section
variable {P : Program} {Z : Cx} {Γ : Gam} {B : Base} {Q : List CD → Prop} {E : Env} {p : Pl} {g : Gm} {s : St} {a : Act} {as : List Act} {w : World}

theorem RepH.drew {h : Hp} (H : RepH B E p g h w) : RepH B E p g h { w with drawn := w.drawn + 1 } := H.below ⟨rfl, rfl, rfl, Nat.le_refl _, fun _ _ => rfl⟩
/-- Places that are kept free. -/
theorem nth_fr {α : Type} {l : List (Pc α)} {n i : Nat} {x : Pc α} (h : nth (l ++ List.replicate n .fr) i = some x) : nth l i = some x ∨ (nth l i = none ∧ x = .fr) := by
  rw [nth_append] at h
  split at h
  · exact .inl h
  · rename_i hl
    rw [nth_eq, List.getElem?_replicate] at h
    split at h
    · cases h; exact .inr ⟨nth_none (by omega), rfl⟩
    · cases h
theorem nth_frn {α : Type} {l : List (Pc α)} {n i : Nat} (h : nth (l ++ List.replicate n .fr) i = none) : nth l i = none := by
  rw [nth_eq, List.getElem?_eq_none_iff, List.length_append] at h
  exact nth_none (by omega)
theorem RepH.places {h : Hp} (H : RepH B E p g h w) (n : Nat) : RepH B E p g { h with regs := h.regs ++ List.replicate n .fr, arrs := h.arrs ++ List.replicate n .fr } w := by
  refine ⟨H.fr, H.g0, H.g1, H.gg, fun r cs hr => ?_, fun r hr => ?_, fun a A ha => ?_, fun a ha => ?_, H.mm⟩
  · rcases nth_fr hr with h1 | ⟨_, h1⟩
    · exact H.reg r cs h1
    · cases h1
  · rcases hr with hr | hr
    · exact H.rfree r (.inl (nth_frn hr))
    · rcases nth_fr hr with h1 | ⟨h1, _⟩
      · exact H.rfree r (.inr h1)
      · exact H.rfree r (.inl h1)
  · rcases nth_fr ha with h1 | ⟨_, h1⟩
    · exact H.arr a A h1
    · cases h1
  · rcases ha with ha | ha
    · exact H.afree a (.inl (nth_frn ha))
    · rcases nth_fr ha with h1 | ⟨h1, _⟩
      · exact H.afree a (.inr h1)
      · exact H.afree a (.inl h1)

theorem run_sound (S : Told P Z Γ) : ∀ n, RunOk P Γ B Q (run Z n) := by
  intro n
  induction n with
  | zero => intro k s E J Y Bd as hd; exact hd.elim
  | succ n ih =>
    intro k s E J Y Bd as hd ho p g a w R
    have id2 : ∀ i, i < s.nx → Y i = Y i := fun _ _ => rfl
    cases k with
    | nil => exact ho.elim
    | cons it k =>
      cases it with
      | fin f => exact (ho.2 s E J p g a w (Nat.le_refl _) (Env.Agree.refl _ _) (JJ.Same.refl _ _) hd R).1
      | blk id => exact ih k s E J Y Bd as hd ho p g a w R
      | again c => exact Rn_of (ih _ s E J Y Bd as hd ho p g a w R)
      | round L =>
        simp only [run] at hd
        split at hd
        · rename_i s1 hs1
          obtain ⟨q, g', R1, e1, _⟩ := freezeAll_sound hs1 R
          exact back_sound hd ho R1
        · exact hd.elim
      | ops l all =>
        cases l with
        | nil => exact ih k s E J Y Bd as hd ho p g a w R
        | cons o l =>
          have ho : Okk Γ B Q s.nx E J Y Bd as k := ho
          have : OpGoal P all o (wpList P all.toArray (its P Bd Y k) l) (its P Bd Y k) a w := by
            refine stepOp_sound S (inl_sound S ih) hd R (fun s' q g' h1 h2 h3 _ => ?_) (fun s' E' J' q g' a' w' h1 h2 h3 h4 h5 _ => ?_)
            · exact ih (.ops (o :: l) all :: k) s' E J Y Bd as h2 (show Okk Γ B Q s'.nx E J Y Bd as k by rw [h1]; exact ho) q g' a w h3
            · exact ih (.ops l all :: k) s' E' J' Y Bd as h2 (show Okk Γ B Q s'.nx E' J' Y Bd as k from ho.mono h3 h4 h1 id2) q g' a' w' h5
          exact this
      | code c =>
        have hk0 : Okk Γ B Q s.nx E J Y Bd as k := ho
        clear ho
        cases c with
        | skip => exact wp_skip (ih k s E J Y Bd as hd hk0 p g a w R)
        | seq x y => exact wp_seq (ih (.code x :: .code y :: k) s E J Y Bd as hd hk0 p g a w R)
        | block id b => exact wp_block (ih (.code b :: .blk id :: k) s E J Y Bd as hd hk0 p g a w R)
        | ret =>
          simp only [run] at hd
          obtain ⟨f, h1, h2⟩ := hk0.end
          rw [h1] at hd
          exact wp_ret (its_ret h1 (h2.2 s E J p g a w (Nat.le_refl _) (Env.Agree.refl _ _) (JJ.Same.refl _ _) hd R).2)
        | exit id =>
          simp only [run] at hd
          split at hd
          · rename_i k' hk
            exact wp_exit (its_exit hk (ih k' s E J Y Bd as hd (Okk.exit hk hk0) p g a w R))
          · exact hd.elim
        | cond o x y =>
          simp only [run] at hd
          split at hd
          · rename_i c hc
            obtain ⟨b, hb, hv⟩ := (ev_is R.frame.tmp hc : ∃ b, c.den E = .b b ∧ a.eval o = .bool b)
            have hcb : (c.den E).bool = b := by rw [hb]; rfl
            split at hd
            · rename_i hdec
              have := dec_den R.known hdec
              rw [hcb] at this
              refine wp_cond_true (by rw [hv, this]) (ih (.code x :: k) s E J Y Bd as hd hk0 p g a w R)
            · rename_i hdec
              have := dec_den R.known hdec
              rw [hcb] at this
              refine wp_cond_false (by rw [hv, this]) (ih (.code y :: k) s E J Y Bd as hd hk0 p g a w R)
            · refine wp_cond_split hv (fun hb' => ?_) (fun hb' => ?_)
              · exact ih (.code x :: k) _ E J Y Bd as (hd.1 (by rw [hcb]; exact hb')) hk0 p g a w (R.know (by rw [hcb]; exact hb'))
              · exact ih (.code y :: k) _ E J Y Bd as (hd.2 (by rw [hcb]; exact hb')) hk0 p g a w (R.know (by rw [neg_den, hcb, hb']; rfl))
          · exact hd.elim
        | region id ops draw =>
          cases draw with
          | false =>
            have : wpList P ops.toList.toArray (its P Bd Y k) ops.toList a w := ih (.ops ops.toList ops.toList :: k) s E J Y Bd as hd hk0 p g a w R
            rw [Array.toArray_toList] at this
            exact wp_region_list this
          | true =>
            simp only [run] at hd
            split at hd
            · rename_i hok
              have R' : Rep B E p g s a as { w with drawn := w.drawn + 1 } := ⟨R.mem.drew, R.frame, R.stk, R.known, R.keep⟩
              have hsh : Shut ops (Array.replicate ops.size false) := fun k o _ hk => by
                exfalso
                have : (Array.replicate ops.size false).getD k false = false := by
                  simp only [Array.getD]
                  split <;> simp
                rw [this] at hk; cases hk
              obtain ⟨f, _, hfin⟩ := hk0.end
              refine wp_region_any S.m (any_of_anyC (D := fun _ _ => False) (F := inF ops (tailFrom ops)) _ _ _ _ ?_)
              replace hd := bindT_den (JJ.Same.refl _ _) hd
              have hk : ∀ {s1 : St}, s1.nx = s.nx → Then Γ B Q (its P Bd Y k) as .leaf s1.nx E (J.ends fun s' E' => ∃ J', JJ.Same s.nx J' J ∧ (run Z n k s').den Γ Q E' J') := fun e s' E' J' q g' a' w' h1 h2 h3 h4 h5 => by
                rw [e] at h1 h3 h4
                have h2 : J'.k s' E' := h2
                rw [h1.2] at h2
                obtain ⟨J2, h6, h7⟩ := h2
                exact ih k s' E' J2 Y Bd as h7 (hk0.mono h3 h4 h6 id2) q g' a' w' h5
              have hs0 : ∀ {b : Bool}, (if b = true then { s with h := { s.h with regs := s.h.regs ++ List.replicate ops.size .fr, arrs := s.h.arrs ++ List.replicate ops.size .fr } } else s).nx = s.nx ∧ Rep B E p g (if b = true then { s with h := { s.h with regs := s.h.regs ++ List.replicate ops.size .fr, arrs := s.h.arrs ++ List.replicate ops.size .fr } } else s) a as { w with drawn := w.drawn + 1 } := fun {b} => by
                cases b with
                | true => exact ⟨rfl, R'.mem.places _, R'.frame, R'.stk, R'.known, R'.keep⟩
                | false => exact ⟨rfl, R'⟩
              have hs0 := @hs0 (Nat.blt 1 (makers ops.toList))
              revert hs0 hd
              generalize (if Nat.blt 1 (makers ops.toList) = true then { s with h := { s.h with regs := s.h.regs ++ List.replicate ops.size .fr, arrs := s.h.arrs ++ List.replicate ops.size .fr } } else s) = s0
              intro hd ⟨e0, R0⟩
              exact runE_sound S (inl_sound S ih) hok (its_panic hfin.1 k) n _ E _ p g a _ _ ops.size _ 0 s0 hd (List.mem_singleton.2 rfl) (fun x hx => by
                rw [List.mem_singleton.1 hx]
                exact ⟨rfl, R0.known⟩) hsh R0 ⟨fun _ _ _ h => h, fun h => absurd rfl h⟩ (left_le _ _) (hk e0)
            · exact hd.elim
        | loop b =>
          simp only [run] at hd
          split at hd
          · exact hd.elim
          · split at hd
            · exact hd.elim
            · rename_i H _
              split at hd
              · exact loop_of (ih (.code b :: .again b :: k) s E J Y Bd as hd hk0 p g a w R)
              · split at hd
                · exact hd.elim
                · rename_i s1 hs1
                  obtain ⟨q, g', R1, e1, _⟩ := freezeAll_sound hs1 R
                  have ho : Okk Γ B Q s1.nx E J Y Bd as k := by rw [e1]; exact hk0
                  split at hd
                  · rename_i hcond
                    simp only [Bool.and_eq_true] at hcond
                    split at hd
                    · rename_i init hno hcol
                      exact loop_sound (s := s1) ih (by exact ⟨rfl, rfl, rfl⟩) (blt_lt hcond.2.2) hcond.1 hno hcol hd ho R1
                    · exact hd.elim
                  · exact hd.elim
        | _ => exact hd.elim

/-- A function whose walk is this tree: where the tree is so, it keeps its contract. -/
theorem ctOk_of_tree (S : Told P Z Γ) {f : FuncId} {fn : Func} {c : Code} {fuel m : Nat} {t : Tree} {ct : Ct} (hf : P.funcs[f]? = some fn) (hb : fn.body = some c) (hname : (fn.name == "runtime.NumGoroutine") = false) (hsig : Z.sig = ct.sig)
    (ht : run Z fuel [.code c, .fin (topRet Z fn.results.toList m)] { fn := f, tmps := Z.sig.args0 ++ List.replicate (fn.ntmps - Z.sig.args0.length) (.v (.one .undef)), stk := [], h := Z.sig.h0, nx := Z.sig.ins.length, known := [] } = t)
    (hd : ∀ E : Env, CD.oks ct.sig.inKinds (letters E ct.sig.ins.length) → ct.pre (letters E ct.sig.ins.length) → t.den Γ (fun outs => ct.post (letters E ct.sig.ins.length) outs) E JJ.none) : CtOk P f ct := by
  refine ⟨⟨fn, c, hf, hb, hname⟩, fun w g p E vals H hv hk hp => ?_⟩
  have hd := hd E hk hp
  subst ht
  have H : RepH ⟨w, Mof Z.sig.h0 p, g, p.reg⟩ E p g Z.sig.h0 w := by rw [hsig]; exact H
  have hv : All2 (SR.is E p g) Z.sig.args0 vals := by rw [hsig]; exact hv
  have R : Rep ⟨w, Mof Z.sig.h0 p, g, p.reg⟩ E p g { fn := f, tmps := Z.sig.args0 ++ List.replicate (fn.ntmps - Z.sig.args0.length) (.v (.one .undef)), stk := [], h := Z.sig.h0, nx := Z.sig.ins.length, known := [] } { tmps := vals.toArray ++ Array.replicate (fn.ntmps - vals.toArray.size) undef, defers := [] } [] w :=
    ⟨H, frame_start hv, trivial, fun b hb => (by cases hb), fun _ _ h => h⟩
  have := run_sound (B := ⟨w, Mof Z.sig.h0 p, g, p.reg⟩) S fuel _ _ E _ (fun _ _ _ => False) (bodyPost P fn (EndOk Z ⟨w, Mof Z.sig.h0 p, g, p.reg⟩ (fun outs => ct.post (letters E ct.sig.ins.length) outs) E)) [] hd
    (show FinOk _ _ _ _ _ _ _ _ _ from ⟨fun c a w h => (by obtain ⟨_, _, _, _, v, e, _⟩ := h; cases e), fun s' E' J' p' g' a' w' h1 h2 h3 h4 h5 => by
      have key := topRet_sound (a := a') (as := []) (w := w') (fn := fn) S E m s' p' g' h4 h5
      exact ⟨key, key⟩⟩) p g _ w R
  refine Calls.mono (calls_of_wp hf hb this) fun e w' he => ?_
  obtain ⟨outs, p1, g1, v, h1, h2, h3, h4, h5, h6⟩ := he
  refine ⟨outs, p1, g1, v, h1, by rw [← hsig]; exact h2, h3, fun i x hi => h4 i x ?_ hi, by rw [← hsig]; exact h5, by rw [← hsig]; exact h6⟩
  have hlen : Z.sig.h0.regs.length = nPtr Z.sig.args := by
    have := (grpRP (l := Z.sig.args) (cs := mkC 0 0 Z.sig.ins) (cs' := mkC 0 0 Z.sig.ins) (by rw [length_mkC]; rfl) (by
      rw [length_mkC]
      exact flatPs_le Z.sig.args)).length
    rw [length_grpP] at this
    exact this
  rw [← hlen]
  rcases Nat.lt_or_ge i Z.sig.h0.regs.length with hl | hl
  · exact hl
  · rw [H.rfree i (.inl (nth_none hl))] at hi; cases hi
end
end Go.Sy
