import Derived.Test.YtpmamacjepcdmaaSyTwo
/- Regions that draw their order, sound. -/
namespace Go.Sy
open Go.RowKit

/-! ### States that are alike -/
theorem Pc.same_eq {α : Type} {f : α → α → Bool} (hf : ∀ a b, f a b = true → a = b) (x y : Pc α) (h : Pc.same f x y = true) : x = y := by
  cases x <;> cases y <;> first
    | rfl
    | (simp only [Pc.same, Bool.false_eq_true] at h; done)
    | (simp only [Pc.same] at h; rw [hf _ _ h])
theorem Ar.same_eq (x y : Ar) (h : Ar.same x y = true) : x = y := by
  simp only [Ar.same, Bool.and_eq_true] at h
  cases x; cases y
  simp only [Ar.mk.injEq]
  exact ⟨Nat.eq_of_beq_eq_true h.1, SK.same_eq h.2.1, X.same_eq h.2.2⟩
theorem Mp.same_eq (x y : Mp) (h : Mp.same x y = true) : x = y := by
  simp only [Mp.same, Bool.and_eq_true] at h
  cases x; cases y
  simp only [Mp.mk.injEq]
  exact ⟨Nat.eq_of_beq_eq_true h.1.1, Nat.eq_of_beq_eq_true h.1.2, Kd.sames_eq _ _ h.2.1.1, boolSame_eq h.2.1.2, Kd.same_eq _ _ h.2.2.1, X.same_eq h.2.2.2⟩
theorem Hp.same_eq (x y : Hp) (h : Hp.same x y = true) : x = y := by
  simp only [Hp.same, Bool.and_eq_true] at h
  cases x; cases y
  simp only [Hp.mk.injEq]
  exact ⟨listSame_eq (Pc.same_eq fun _ _ h => listSame_eq SC.same_eq h) h.1, listSame_eq (Pc.same_eq Ar.same_eq) h.2.1, listSame_eq (Pc.same_eq Mp.same_eq) h.2.2⟩
theorem St.same_eq {s t : St} (h : St.same s t = true) : t = { s with known := t.known } := by
  simp only [St.same, Bool.and_eq_true] at h
  cases s; cases t
  simp only [St.mk.injEq, and_true]
  exact ⟨(Nat.eq_of_beq_eq_true h.1.1).symm, (listSame_eq SR.same_eq h.2.1).symm, (listSame_eq (fun _ _ h => listSame_eq SR.same_eq h) h.2.2.1).symm, (Hp.same_eq _ _ h.2.2.2).symm, (Nat.eq_of_beq_eq_true h.1.2).symm⟩
theorem maskSame_eq {a b : Array Bool} (h : maskSame a b = true) : a = b := by
  apply Array.ext'
  exact listSame_eq (fun _ _ h => boolSame_eq h) h

theorem addSt_spec {mask : Array Bool} {md : Nat} {s : St} : ∀ {L L' : Sts}, addSt mask md s L = some L' → (∀ x ∈ L, x ∈ L') ∧ (∃ t, (mask, md, t) ∈ L' ∧ (t = s ∨ St.same t s = true)) ∧ ∀ x ∈ L', x ∈ L ∨ x = (mask, md, s)
  | [], L', h => by
    simp only [addSt, Option.some.injEq] at h
    subst h
    exact ⟨fun x hx => (by cases hx), ⟨s, by simp, .inl rfl⟩, fun x hx => .inr (List.mem_singleton.1 hx)⟩
  | (m, d, t) :: l, L', h => by
    simp only [addSt] at h
    split at h
    · rename_i hm
      have hm := maskSame_eq hm
      subst hm
      split at h
      · rename_i hd
        simp only [Bool.and_eq_true] at hd
        have hd1 := Nat.eq_of_beq_eq_true hd.1
        subst hd1
        cases h
        exact ⟨fun x hx => hx, ⟨t, by simp, .inr hd.2⟩, fun x hx => .inl hx⟩
      · cases h
    · split at h
      · rename_i l' hl
        cases h
        obtain ⟨h1, ⟨t', h2, h3⟩, h4⟩ := addSt_spec hl
        refine ⟨fun x hx => ?_, ⟨t', List.mem_cons_of_mem _ h2, h3⟩, fun x hx => ?_⟩
        · rcases List.mem_cons.1 hx with e | hx
          · subst e; simp
          · exact List.mem_cons_of_mem _ (h1 x hx)
        · rcases List.mem_cons.1 hx with e | hx
          · subst e; exact .inl (by simp)
          · rcases h4 x hx with h | h
            · exact .inl (List.mem_cons_of_mem _ h)
            · exact .inr h
      · cases h

/-- All that is known there is so. -/
def Good (E : Env) (n : Nat) (L : Sts) : Prop := ∀ x ∈ L, x.2.2.nx = n ∧ ∀ b ∈ x.2.2.known, (b.den E).bool = true
def Covers (Z : Cx) (ops : Array Oper) (m rb ab : Nat) (mask : Array Bool) (md : Nat) (s : St) (rs : List Nat) (ns : List X) (L' : Sts) : Prop :=
  ∀ j ∈ rs, ∃ ns' s' t, simple1 Z ops m rb ab j md s = some (ns', s') ∧ (∀ b ∈ ns', b ∈ ns) ∧ (mask.setIfInBounds j true, mdNext ops m md j, t) ∈ L' ∧ (t = s' ∨ St.same t s' = true)

section
variable {P : Program} {Z : Cx} {Γ : Gam} {B : Base} {Q : List CD → Prop} {E F : Env} {J : JJ} {p q : Pl} {g g' : Gm} {s : St} {a : Act} {as : List Act} {w w' : World} {K : Act → World → Prop} {Qx : Exit → Act → World → Prop} {o : Oper} {all : List Oper} {ops : Array Oper} {m rb ab : Nat}

theorem simple0_known {i md : Nat} {ns : List X} {s' : St} (h : simple0 Z ops m rb ab i md s = some (ns, s')) : s'.nx = s.nx ∧ ((∀ b ∈ s.known, (b.den E).bool = true) → (∀ b ∈ ns, (b.den E).bool = true) → ∀ b ∈ s'.known, (b.den E).bool = true) := by
  unfold simple0 at h
  split at h
  · cases h
  · split at h
    · cases h
    · split at h
      · cases h
      · split at h
        · cases h
        · cases h; exact ⟨rfl, fun hk _ => hk⟩
        · split at h
          · split at h
            · cases h
            · cases h; exact ⟨rfl, fun hk hn => knows_den hk hn⟩
          · split at h
            · cases h
            · cases h; exact ⟨rfl, fun hk hn => knows_den hk hn⟩
          · cases h
theorem asks1_dec {i : Nat} {b : X} {c : Bool} (h : asks1 Z ops rb ab i s = some (b, c)) : X.dec s.known b = some c := by
  unfold asks1 at h
  split at h
  · cases h
  · split at h
    · split at h
      · rename_i hd; cases h; exact hd
      · cases h
    · cases h
theorem simple1_known {i md : Nat} {ns : List X} {s' : St} (h : simple1 Z ops m rb ab i md s = some (ns, s')) : s'.nx = s.nx ∧ ((∀ b ∈ s.known, (b.den E).bool = true) → (∀ b ∈ ns, (b.den E).bool = true) → ∀ b ∈ s'.known, (b.den E).bool = true) := by
  unfold simple1 at h
  split at h
  · rename_i h'; cases h; exact simple0_known h'
  · split at h
    · exact simple0_known (s := written _ _ s) h
    · cases h
theorem simples_spec {mask : Array Bool} {md : Nat} : ∀ {l : List Nat} {ns0 ns : List X} {L0 L' : Sts}, simples Z ops m rb ab mask md s l (ns0, L0) = some (ns, L') →
    (∀ b ∈ ns0, b ∈ ns) ∧ (∀ x ∈ L0, x ∈ L') ∧ Covers Z ops m rb ab mask md s l ns L' ∧ ∀ (E : Env) (n : Nat), s.nx = n → (∀ b ∈ s.known, (b.den E).bool = true) → (∀ b ∈ ns, (b.den E).bool = true) → Good E n L0 → Good E n L'
  | [], ns0, ns, L0, L', h => by
    simp only [simples, Option.some.injEq, Prod.mk.injEq] at h
    obtain ⟨rfl, rfl⟩ := h
    exact ⟨fun _ h => h, fun _ h => h, fun j hj => (by cases hj), fun _ _ _ _ _ h => h⟩
  | i :: l, ns0, ns, L0, L', h => by
    simp only [simples] at h
    split at h
    · cases h
    · rename_i ns' s' h1
      split at h
      · cases h
      · rename_i L1 h2
        obtain ⟨i1, i2, i3, i4⟩ := simples_spec h
        obtain ⟨a1, ⟨t, a2, a3⟩, a4⟩ := addSt_spec h2
        refine ⟨fun b hb => i1 b (List.mem_append_left _ hb), fun x hx => i2 x (a1 x hx), fun j hj => ?_, fun E n e hk hn hg => i4 E n e hk hn ?_⟩
        · rcases List.mem_cons.1 hj with e | hj
          · subst e
            exact ⟨ns', s', t, h1, fun b hb => i1 b (List.mem_append_right _ hb), i2 _ a2, a3⟩
          · exact i3 j hj
        · intro x hx
          rcases a4 x hx with hx | hx
          · exact hg x hx
          · subst hx
            obtain ⟨k1, k2⟩ := simple1_known (E := E) h1
            exact ⟨k1.trans e, k2 hk fun b hb => hn b (i1 b (List.mem_append_right _ hb))⟩
theorem simpleAll_spec : ∀ {L : Sts} {ns0 ns : List X} {L0 L' : Sts}, simpleAll Z ops m rb ab L (ns0, L0) = some (ns, L') →
    (∀ b ∈ ns0, b ∈ ns) ∧ (∀ x ∈ L0, x ∈ L') ∧ (∀ x ∈ L, Region.ready .any ops x.1 ≠ [] ∧ Covers Z ops m rb ab x.1 x.2.1 x.2.2 (Region.ready .any ops x.1) ns L') ∧ ∀ (E : Env) (n : Nat), Good E n L → (∀ b ∈ ns, (b.den E).bool = true) → Good E n L0 → Good E n L'
  | [], ns0, ns, L0, L', h => by
    simp only [simpleAll, Option.some.injEq, Prod.mk.injEq] at h
    obtain ⟨rfl, rfl⟩ := h
    exact ⟨fun _ h => h, fun _ h => h, fun x hx => (by cases hx), fun _ _ _ _ h => h⟩
  | (mask, md, s) :: l, ns0, ns, L0, L', h => by
    simp only [simpleAll] at h
    split at h
    · cases h
    · rename_i hr
      split at h
      · cases h
      · rename_i r1 h1
        obtain ⟨ns1, L1⟩ := r1
        obtain ⟨j1, j2, j3, j4⟩ := simples_spec h1
        obtain ⟨i1, i2, i3, i4⟩ := simpleAll_spec h
        refine ⟨fun b hb => i1 b (j1 b hb), fun x hx => i2 x (j2 x hx), fun x hx => ?_, fun E n hg hn hg0 => ?_⟩
        · rcases List.mem_cons.1 hx with e | hx
          · subst e
            refine ⟨hr, fun j hj => ?_⟩
            obtain ⟨ns', s', t, k1, k2, k3, k4⟩ := j3 j hj
            exact ⟨ns', s', t, k1, fun b hb => i1 b (k2 b hb), i2 _ k3, k4⟩
          · exact i3 x hx
        · have hs := hg (mask, md, s) (by simp)
          exact i4 E n (fun x hx => hg x (List.mem_cons_of_mem _ hx)) hn (j4 E n hs.1 hs.2 (fun b hb => hn b (i1 b hb)) hg0)

/-- One operation that is decided, and calls nothing. -/
theorem simple0_sound (S : Told P Z Γ) {i md : Nat} {ns : List X} {s' : St} (h : simple0 Z ops m rb ab i md s = some (ns, s')) (hn : ∀ b ∈ ns, (b.den E).bool = true) (R : Rep B E p g s a as w) :
    ∃ o, ops[i]? = some o ∧ mayBe ops m md i = true ∧ ∀ (K : Act → World → Prop), (∀ q a' w', Rep B E q g s' a' as w' → Nice E p s.h w o (still ops m md i) E q s'.h w' → K a' w') → OpGoal P ops.toList o K Qx a w := by
  unfold simple0 at h
  split at h
  · cases h
  · rename_i o hio
    refine ⟨o, by rw [nth_eq] at hio; simpa using hio, ?_⟩
    split at h
    · cases h
    · rename_i hmay
      refine ⟨by simpa using hmay, fun K hK => ?_⟩
      split at h
      · cases h
      · rename_i gd want hg
        have hw := guard_sound R.frame hg
        split at h
        · cases h
        · rename_i hdec
          rw [decided R.known hdec] at hw
          cases h
          exact goal_off hw (hK p _ _ (R.step (Pl.Le.refl _) (Gm.Le.refl _) R.mem rfl R.known) (Nice.refl _))
        · rename_i hdec
          rw [decided R.known hdec] at hw
          split at h
          · rename_i ns1 r h1 qu ho
            split at h
            · cases h
            · rename_i hf
              cases h
              obtain ⟨v, w', q, k1, k2, k3⟩ := val_goal S.T R ho hn (fp := still ops m md i) (by simpa using hf)
              exact goal_value hw k1 (hK q _ _ k2 k3)
          · rename_i ns1 h1 ho
            split at h
            · cases h
            · rename_i hf
              cases h
              obtain ⟨w', k1, k2, k3⟩ := skip_goal S.T R ho hn
              have hf : still ops m md i = false := by simpa using hf
              exact goal_skip hw k1 (hK p _ _ k2 (by rw [hf]; exact k3))
          · cases h
theorem simple1_sound (S : Told P Z Γ) {i md : Nat} {ns : List X} {s' : St} (h : simple1 Z ops m rb ab i md s = some (ns, s')) (hn : ∀ b ∈ ns, (b.den E).bool = true) (R : Rep B E p g s a as w) :
    ∃ o, ops[i]? = some o ∧ mayBe ops m md i = true ∧ ∀ (K : Act → World → Prop), (∀ q a' w', Rep B E q g s' a' as w' → Nice E p s.h w o (still ops m md i) E q s'.h w' → K a' w') → OpGoal P ops.toList o K Qx a w := by
  unfold simple1 at h
  split at h
  · rename_i h'; cases h; exact simple0_sound S h' hn R
  · split at h
    · rename_i hk
      exact simple0_sound (s := written _ _ s) S h hn (written_rep R (dec_den R.known (asks1_dec hk)))
    · cases h

/-- What is held of memory, where a region draws its order. -/
def Hold (D : Nat → Nat → Prop) (md : Nat) (E : Env) (p : Pl) (h : Hp) (w : World) : Prop := (md = 0 → ∀ k i, ¬ D k i) ∧ (md ≠ 0 → md ≠ 3 → ∀ k i, D k i → k < w.heap.size ∧ Kn E p h k i)
theorem Hold.two {D : Nat → Nat → Prop} {md : Nat} {h h' : Hp} (H : Hold D md E p h w) (hk : KnLe2 E p h F q h' w.heap.size) : Hold D md F q h' w :=
  ⟨H.1, fun h1 h2 k i hd => ⟨(H.2 h1 h2 k i hd).1, hk k i (H.2 h1 h2 k i hd).1 (H.2 h1 h2 k i hd).2⟩⟩
theorem Hold.step {D : Nat → Nat → Prop} {md i : Nat} {h h' : Hp} (H : Hold D md E p h w) (hi : ops[i]? = some o) (hm : mayBe ops m md i = true) (N : Nice E p h w o (still ops m md i) F q h' w') :
    (inF ops m i = true → SameOn D w w') ∧ Hold D (mdNext ops m md i) F q h' w' := by
  have kn : ∀ {md'}, md ≠ 0 → md ≠ 3 → KnLe2 E p h F q h' w.heap.size → w.heap.size ≤ w'.heap.size → md' ≠ 0 → Hold D md' F q h' w' := fun h1 h2 hk hz h3 =>
    ⟨fun e => absurd e h3, fun _ _ k i hd => ⟨Nat.lt_of_lt_of_le (H.2 h1 h2 k i hd).1 hz, hk k i (H.2 h1 h2 k i hd).1 (H.2 h1 h2 k i hd).2⟩⟩
  have b3 : ∀ {x : Nat}, Nat.beq x 3 = true → x = 3 := fun h => Nat.eq_of_beq_eq_true h
  by_cases h0 : md = 0
  · subst h0
    refine ⟨fun _ k i hd => absurd hd (H.1 rfl k i), ?_⟩
    have : mdNext ops m 0 i = 0 := by simp [mdNext]
    rw [this]
    exact ⟨fun _ => H.1 rfl, fun h => absurd rfl h⟩
  · by_cases h3 : md = 3
    · subst h3
      have hp : inF ops m i = true → pureOp o = true := fun hF => by simpa [mayBe, hF, hi] using hm
      refine ⟨fun hF => ?_, ?_⟩
      · rw [(N.pu (hp hF)).1]; exact SameOn.refl _ _
      · have : mdNext ops m 3 i = 3 := by
          simp only [mdNext, hi]
          repeat (split <;> try rfl)
        rw [this]
        exact ⟨fun h => (by cases h), fun _ h => absurd rfl h⟩
    · by_cases hF : inF ops m i = true
      · have hst : still ops m md i = true := by
          have e0 : Nat.beq md 0 = false := by cases h : Nat.beq md 0 with | false => rfl | true => exact absurd (Nat.eq_of_beq_eq_true h) h0
          have e3 : Nat.beq md 3 = false := by cases h : Nat.beq md 3 with | false => rfl | true => exact absurd (Nat.eq_of_beq_eq_true h) h3
          simp [still, e0, e3, hF]
        obtain ⟨n1, n2⟩ := N.qt hst
        refine ⟨fun _ k j hd => n1 k j (H.2 h0 h3 k j hd).1 (H.2 h0 h3 k j hd).2, ?_⟩
        have : mdNext ops m md i = md := by simp [mdNext, hF]
        rw [this]
        exact kn h0 h3 n2 (N.size (.inl hst)) h0
      · refine ⟨fun h => absurd h hF, ?_⟩
        have hF : inF ops m i = false := by simpa using hF
        simp only [mdNext, hF, hi, Bool.or_false]
        have e0 : Nat.beq md 0 = false := by cases h : Nat.beq md 0 with | false => rfl | true => exact absurd (Nat.eq_of_beq_eq_true h) h0
        rw [e0]
        simp only [Bool.false_eq_true, if_false]
        split
        · rename_i hp
          exact kn h0 h3 (N.pu hp).2 (N.size (.inr (.inl hp))) h0
        · split
          · rename_i hs
            split
            · exact kn h0 h3 (N.st hs) (N.size (.inr (.inr hs))) (by omega)
            · exact kn h0 h3 (N.st hs) (N.size (.inr (.inr hs))) h0
          · exact ⟨fun h => (by cases h), fun _ h => absurd rfl h⟩

theorem freeAt_spec {i : Nat} {l : Array Bool} {oi : Oper} (hi : ops[i]? = some oi) (h : freeAt (ancTab ops.toList) ops m l i = true) :
    ∀ j oj, ops[j]? = some oj → j ≠ i → l.getD j true = false → waits (ancTab ops.toList) j i = false → oi.apart ops oj = true ∧ inF ops m j = true := fun j oj hj hne hl hwt => by
  simp only [freeAt, hi, List.all_eq_true, List.mem_range] at h
  have := h j (Array.getElem?_eq_some_iff.1 hj).1
  simp only [hl, hwt, hj, Bool.or_eq_true, Bool.false_or, Bool.and_eq_true] at this
  rcases this with h1 | h1
  · exact absurd (Nat.eq_of_beq_eq_true h1) hne
  · simpa using h1
theorem pureAt_spec {i : Nat} {l : Array Bool} {oi : Oper} (hi : ops[i]? = some oi) (h : pureAt (ancTab ops.toList) ops l i = true) :
    pureOp oi = true ∧ ∀ j oj, ops[j]? = some oj → j ≠ i → l.getD j true = false → waits (ancTab ops.toList) j i = false → oi.apart ops oj = true := by
  simp only [pureAt, hi, Bool.and_eq_true, List.all_eq_true, List.mem_range] at h
  refine ⟨h.1, fun j oj hj hne hl hwt => ?_⟩
  have := h.2 j (Array.getElem?_eq_some_iff.1 hj).1
  simp only [hl, hwt, hj, Bool.or_eq_true, Bool.false_or] at this
  rcases this with h1 | h1
  · exact absurd (Nat.eq_of_beq_eq_true h1) hne
  · simpa using h1

theorem Tree.same_eq : ∀ {a b : Tree}, Tree.same a b = true → a = b := by
  intro a
  induction a with
  | ret o => intro b h; cases b <;> simp only [Tree.same, Bool.false_eq_true] at h; rw [listSame_eq (fun _ _ => X.same_eq) h]
  | ite x t e i1 i2 =>
    intro b h; cases b <;> simp only [Tree.same, Bool.false_eq_true, Bool.and_eq_true] at h
    rw [X.same_eq h.1, i1 h.2.1, i2 h.2.2]
  | need x t i1 =>
    intro b h; cases b <;> simp only [Tree.same, Bool.false_eq_true, Bool.and_eq_true] at h
    rw [X.same_eq h.1, i1 h.2]
  | call f l lo t i1 =>
    intro b h; cases b <;> simp only [Tree.same, Bool.false_eq_true, Bool.and_eq_true] at h
    rw [Nat.eq_of_beq_eq_true h.1.1, Nat.eq_of_beq_eq_true h.1.2, listSame_eq (fun _ _ => X.same_eq) h.2.1, i1 h.2.2]
  | loop i ks l t i1 =>
    intro b h; cases b <;> simp only [Tree.same, Bool.false_eq_true, Bool.and_eq_true] at h
    rw [Nat.eq_of_beq_eq_true h.1.1, Kd.sames_eq _ _ h.1.2, listSame_eq (fun _ _ => X.same_eq) h.2.1, i1 h.2.2]
  | back i l =>
    intro b h; cases b <;> simp only [Tree.same, Bool.false_eq_true, Bool.and_eq_true] at h
    rw [Nat.eq_of_beq_eq_true h.1, listSame_eq (fun _ _ => X.same_eq) h.2]
  | both t u i1 i2 =>
    intro b h; cases b <;> simp only [Tree.same, Bool.false_eq_true, Bool.and_eq_true] at h
    rw [i1 h.1, i2 h.2]
  | bad w n => intro b h; cases b <;> simp only [Tree.same, Bool.false_eq_true] at h
  | leaf s =>
    intro b h; cases b <;> simp only [Tree.same, Bool.false_eq_true, Bool.and_eq_true] at h
    have e := St.same_eq h.1
    have k := listSame_eq (fun _ _ => X.same_eq) h.2
    rw [e, ← k]
theorem bothT_den {t u : Tree} (h : (bothT t u).den Γ Q E J) : t.den Γ Q E J ∧ u.den Γ Q E J := by
  unfold bothT at h
  split at h
  · rename_i e
    have := Tree.same_eq e
    exact ⟨h, by rw [← this]; exact h⟩
  · exact h
theorem bindT_den {n0 : Nat} {k : St → Tree} {J0 : JJ} : ∀ {t : Tree} {E : Env} {J : JJ}, JJ.Same n0 J J0 → (bindT n0 k t).den Γ Q E J → t.den Γ Q E (J.ends fun s' E' => ∃ J', JJ.Same n0 J' J0 ∧ (k s').den Γ Q E' J') := by
  intro t
  induction t with
  | leaf s => intro E J hS h; exact ⟨J, hS, h⟩
  | ret o => intro E J _ h; exact h
  | ite b t e i1 i2 => intro E J hS h; exact ⟨fun hb => i1 hS (h.1 hb), fun hb => i2 hS (h.2 hb)⟩
  | need b t ih => intro E J hS h; exact ⟨h.1, ih hS h.2⟩
  | call f a lo t ih =>
    intro E J hS h
    obtain ⟨ct, h1, h2, h3⟩ := h
    exact ⟨ct, h1, h2, fun outs h4 h5 => ih hS (h3 outs h4 h5)⟩
  | loop id ks i t ih =>
    intro E J hS h
    simp only [bindT] at h
    split at h
    · rename_i hid
      obtain ⟨I, m, h1, h2⟩ := h
      exact ⟨I, m, h1, fun ds h3 h4 => ih (J := J.put id fun ds' => I ds' ∧ m ds' < m ds) ((JJ.Same.put (Nat.le_of_ble_eq_true hid)).trans hS (Nat.le_refl _)) (h2 ds h3 h4)⟩
    · exact h.elim
  | back id c => intro E J _ h; exact h
  | both a b i1 i2 => intro E J hS h; exact ⟨i1 hS (bothT_den h).1, i2 hS (bothT_den h).2⟩
  | bad w l => intro E J _ h; exact h.elim
theorem allT_den {l : List Tree} (h : (allT l).den Γ Q E J) : ∀ t ∈ l, t.den Γ Q E J := by
  induction l with
  | nil => intro t ht; cases ht
  | cons x l ih =>
    cases l with
    | nil => intro t ht; rw [List.mem_singleton.1 ht]; exact h
    | cons y l =>
      obtain ⟨h1, h2⟩ := bothT_den h
      intro t ht
      rcases List.mem_cons.1 ht with e | ht
      · rw [e]; exact h1
      · exact ih h2 t ht

/-- How many are not listed. -/
def left (ops : Array Oper) (l : Array Bool) : Nat := ((List.range ops.size).filter fun i => !l.getD i true).length
theorem ready_left {l : Array Bool} {i : Nat} (h : i ∈ Region.ready .any ops l) : left ops (l.setIfInBounds i true) < left ops l := by
  obtain ⟨h0, o, ho, _⟩ := mem_ready.1 h
  have hlt := (Array.getElem?_eq_some_iff.1 ho).1
  have hil : i < l.size := by
    rcases Nat.lt_or_ge i l.size with h' | h'
    · exact h'
    · simp [Array.getD, Nat.not_lt.2 h'] at h0
  unfold left
  have hsub : ∀ (r : List Nat), ((r.filter fun j => !(l.setIfInBounds i true).getD j true).length ≤ (r.filter fun j => !l.getD j true).length) ∧ (i ∈ r → (r.filter fun j => !(l.setIfInBounds i true).getD j true).length < (r.filter fun j => !l.getD j true).length) := by
    intro r
    induction r with
    | nil => exact ⟨Nat.le_refl _, fun h => by cases h⟩
    | cons j r ih =>
      by_cases hij : i = j
      · subst hij
        have e1 : (l.setIfInBounds i true).getD i true = true := by simp [Array.getD, hil]
        simp only [List.filter_cons, e1, h0, Bool.not_true, Bool.false_eq_true, if_false, Bool.not_false, if_true, List.length_cons]
        exact ⟨by have := ih.1; omega, fun _ => by have := ih.1; omega⟩
      · have e1 : (l.setIfInBounds i true).getD j true = l.getD j true := getD_set_ne true hij
        simp only [List.filter_cons, e1]
        split
        · simp only [List.length_cons]
          exact ⟨by have := ih.1; omega, fun hm => by
            have := ih.2 ((List.mem_cons.1 hm).resolve_left hij); omega⟩
        · exact ⟨ih.1, fun hm => ih.2 ((List.mem_cons.1 hm).resolve_left hij)⟩
  exact (hsub _).2 (List.mem_range.2 hlt)
theorem left_le (ops : Array Oper) (l : Array Bool) : left ops l ≤ ops.size := by
  unfold left
  exact Nat.le_trans (List.length_filter_le _ _) (by simp)
end
end Go.Sy

/- Regions that draw their order, walked. -/
namespace Go.Sy
open Go.RowKit

section
variable {P : Program} {Z : Cx} {Γ : Gam} {B : Base} {Q : List CD → Prop} {as : List Act} {Qx : Exit → Act → World → Prop} {ops : Array Oper} {m rb ab : Nat}

/-- What is asked of what comes behind. -/
def Then (Γ : Gam) (B : Base) (Q : List CD → Prop) (Qx : Exit → Act → World → Prop) (as : List Act) (kk : St → Tree) (n : Nat) (E : Env) (J : JJ) : Prop :=
  ∀ s' E' J' q g' a' w', JJ.Same n J' J → (kk s').den Γ Q E' J' → n ≤ s'.nx → E.Agree n E' → Rep B E' q g' s' a' as w' → Qx .normal a' w'
theorem Then.mono {kk : St → Tree} {n n' : Nat} {E E' : Env} {J J' : JJ} (h : Then Γ B Q Qx as kk n E J) (hn : n ≤ n') (hE : E.Agree n E') (hJ : JJ.Same n J' J) : Then Γ B Q Qx as kk n' E' J' :=
  fun s' E2 J2 q g' a' w' h1 h2 h3 h4 h5 => h s' E2 J2 q g' a' w' (h1.trans hJ hn) h2 (by omega) (hE.trans (h4.mono hn)) h5

theorem wp_of_goal {i : Nat} {o : Oper} {K : Act → World → Prop} {a : Act} {w : World} (hi : ops[i]? = some o) (h : OpGoal P ops.toList o K Qx a w) : wpOp P ops Qx i K a w := by
  unfold OpGoal at h
  unfold wpOp
  rw [hi]
  simpa using h
theorem goal_of_wp {i : Nat} {o : Oper} {K : Act → World → Prop} {a : Act} {w : World} (hi : ops[i]? = some o) (h : wpOp P ops Qx i K a w) : OpGoal P ops.toList o K Qx a w := by
  unfold wpOp at h
  rw [hi] at h
  unfold OpGoal
  simpa using h

theorem runE_sound (S : Told P Z Γ) {inl : Func → Nat → List SR → Option Nat → St → (St → Tree) → Tree} (hI : InlOk P Γ B Q inl) (hns : Region.noSelect ops = true) (hQ : ∀ c a w, ¬ Qx (.panic c) a w) {sl : Bool} {kk : St → Tree} :
    ∀ (n : Nat) (L : Sts) (E : Env) (J : JJ) (p : Pl) (g : Gm) (a : Act) (w : World) (D : Nat → Nat → Prop) (fuel : Nat) (mask : Array Bool) (md : Nat) (s : St),
      (runE Z inl (ancTab ops.toList) ops m rb ab sl n L kk).den Γ Q E J → (mask, md, s) ∈ L → Good E s.nx L → Shut ops mask → Rep B E p g s a as w → Hold D md E p s.h w → left ops mask ≤ fuel → Then Γ B Q Qx as kk s.nx E J → anyC P ops Qx D (inF ops m) fuel mask a w := by
  intro n
  induction n with
  | zero => intro L E J p g a w D fuel mask md s hd; exact hd.elim
  | succ n ih =>
    intro L E J p g a w D fuel mask md s hd hL hG hS R hH hf hk
    -- the walk goes on with the same operation, of another state
    have again : ∀ {s' : St} {q : Pl} {g' : Gm}, s'.nx = s.nx → (runE Z inl (ancTab ops.toList) ops m rb ab sl n [(mask, md, s')] kk).den Γ Q E J → Rep B E q g' s' a as w → KnLe2 E p s.h E q s'.h w.heap.size → anyC P ops Qx D (inF ops m) fuel mask a w := fun {s' q g'} h1 h2 h3 h4 =>
      ih _ E J q g' a w D fuel mask md s' h2 (by simp) (fun x hx => by rw [List.mem_singleton.1 hx]; exact ⟨rfl, h3.known⟩) hS h3 (hH.two h4) hf (by rw [h1]; exact hk)
    -- an operation is taken
    have take : ∀ {fuel' i : Nat} {o : Oper}, fuel = fuel' + 1 → i ∈ Region.ready .any ops mask → ops[i]? = some o → mayBe ops m md i = true →
        (stepOp Z inl (still ops m md i) (slot sl rb i s.h.regs) (slot sl ab i s.h.arrs) s o ops.toList (fun s => runE Z inl (ancTab ops.toList) ops m rb ab sl n [(mask, md, s)] kk) (fun s => runE Z inl (ancTab ops.toList) ops m rb ab sl n [(mask.setIfInBounds i true, mdNext ops m md i, s)] kk)).den Γ Q E J →
        wpOp P ops Qx i (fun a' w' => (inF ops m i = true → SameOn D w w') ∧ anyC P ops Qx D (inF ops m) fuel' (mask.setIfInBounds i true) a' w') a w := fun {fuel' i o} e hr hi hm ht => by
      subst e
      refine wp_of_goal hi (stepOp_sound S hI ht R (fun s' q g' h1 h2 h3 h4 => ?_) (fun s' E' J' q g' a' w' h1 h2 h3 h4 h5 h6 => ?_))
      · exact goal_of_wp hi ((again h1 h2 h3 h4).2 i hr)
      · obtain ⟨n1, n2⟩ := hH.step hi hm h6
        have := ready_left hr
        refine ⟨n1, ih _ E' J' q g' a' w' D fuel' _ _ s' h2 (by simp) (fun x hx => by rw [List.mem_singleton.1 hx]; exact ⟨rfl, h5.known⟩) (hS.add hr) h5 n2 (by omega) (hk.mono h3 h4 h1)⟩
    -- operations that are decided
    have covers : ∀ {ns : List X} {L' : Sts}, Region.ready .any ops mask ≠ [] → Covers Z ops m rb ab mask md s (Region.ready .any ops mask) ns L' → Good E s.nx L' → (∀ b ∈ ns, (b.den E).bool = true) → (runE Z inl (ancTab ops.toList) ops m rb ab sl n L' kk).den Γ Q E J → anyC P ops Qx D (inF ops m) fuel mask a w := fun {ns L'} hne hc hg hn hd => by
      cases fuel with
      | zero =>
        cases hr : Region.ready .any ops mask with
        | nil => exact absurd hr hne
        | cons i l =>
          have := ready_left (ops := ops) (l := mask) (i := i) (by rw [hr]; simp)
          omega
      | succ fuel =>
        refine ⟨fun h0 => absurd h0 hne, fun i hr => ?_⟩
        obtain ⟨ns', s', t, c1, c2, c3, c4⟩ := hc i hr
        obtain ⟨o, hi, hm, hgoal⟩ := simple1_sound (Qx := Qx) S c1 (fun b hb => hn b (c2 b hb)) R
        have hnx := (simple1_known (E := E) c1).1
        refine wp_of_goal hi (hgoal _ fun q a' w' h5 h6 => ?_)
        obtain ⟨n1, n2⟩ := hH.step hi hm h6
        have hle := ready_left hr
        have ht := hg _ c3
        have ht1 : t.nx = s.nx := ht.1
        have hh : t.h = s'.h ∧ Rep B E q g t a' as w' := by
          rcases c4 with e | e
          · subst e; exact ⟨rfl, h5⟩
          · have e := St.same_eq e
            cases s'
            cases t
            simp only [St.mk.injEq] at e
            obtain ⟨e1, e2, e3, e4, e5, _⟩ := e
            subst e1; subst e2; subst e3; subst e4; subst e5
            exact ⟨rfl, h5.mem, h5.frame, h5.stk, ht.2, h5.keep⟩
        refine ⟨n1, ih _ E J q g a' w' D fuel _ _ t hd c3 (by rw [ht1]; exact hg) (hS.add hr) hh.2 (by rw [hh.1]; exact n2) (by omega) (by rw [ht1]; exact hk)⟩
    match L, hL with
    | [(mask', md', s0)], hL =>
      have e := List.mem_singleton.1 hL
      cases e
      simp only [runE] at hd
      split at hd
      · rename_i hr
        exact anyC_done hr (hk s E J p g a w (JJ.Same.refl _ _) hd (Nat.le_refl _) (Env.Agree.refl _ _) R) fuel
      · rename_i rs0 hne
        have hpos : ∃ fuel', fuel = fuel' + 1 := by
          cases hr : Region.ready .any ops mask with
          | nil => exact absurd hr hne
          | cons i l =>
            have := ready_left (ops := ops) (l := mask) (i := i) (by rw [hr]; simp)
            exact ⟨fuel - 1, by omega⟩
        obtain ⟨fuel', hfu⟩ := hpos
        split at hd
        · rename_i i hfi
          have hr := List.mem_of_find?_eq_some hfi
          have hpa := List.find?_some hfi
          split at hd
          · exact hd.elim
          · rename_i o hio
            have hi : ops[i]? = some o := by rw [nth_eq] at hio; simpa using hio
            obtain ⟨p1, p2⟩ := pureAt_spec hi hpa
            refine stepF_sound S (by simp only [pureOp, Bool.and_eq_true] at p1; exact p1.1) hd R (fun s' q g' h1 h2 h3 h4 => again h1 h2 h3 h4) (fun s' v h1 h2 h3 h4 h5 h6 => ?_)
            have hle := ready_left hr
            subst hfu
            refine anyC_pure hi (Region.noSelect_spec hns) (fun c a w hh => absurd hh (hQ c _ w)) fuel' mask a w hS p2 hr (by simpa using h5 p1) ?_
            exact ih _ E J p g _ w D fuel' _ md s' h3 (by simp) (fun x hx => by rw [List.mem_singleton.1 hx]; exact ⟨rfl, h6.known⟩) (hS.add hr) h6 (by rw [h2]; exact hH) (by omega) (by rw [h1]; exact hk)
        · split at hd
          · rename_i i hri
            split at hd
            · exact hd.elim
            · rename_i o hio
              have hi : ops[i]? = some o := by rw [nth_eq] at hio; simpa using hio
              split at hd
              · rename_i hm
                subst hfu
                refine ⟨fun h0 => absurd h0 hne, fun j hj => ?_⟩
                rw [hri] at hj
                have := List.mem_singleton.1 hj
                subst this
                exact take rfl (by rw [hri]; simp) hi hm hd
              · exact hd.elim
          · split at hd
            · rename_i i hfi
              have hr := List.mem_of_find?_eq_some hfi
              have hpa := List.find?_some hfi
              split at hd
              · exact hd.elim
              · rename_i o hio
                have hi : ops[i]? = some o := by rw [nth_eq] at hio; simpa using hio
                simp only [loadAtFirst, hi, Bool.and_eq_true] at hpa
                obtain ⟨_, ⟨l1, l2⟩, l3, l4⟩ := hpa
                have l1 := Nat.le_of_ble_eq_true l1
                refine stepF_sound S l3 hd R (fun s' q g' h1 h2 h3 h4 => again h1 h2 h3 h4) (fun s' v h1 h2 h3 h4 h5 h6 => ?_)
                have hle := ready_left hr
                subst hfu
                let D' : Nat → Nat → Prop := fun k j => k < w.heap.size ∧ Kn E p s.h k j
                have hDD : ∀ k j, D k j → D' k j := fun k j hd => by
                  by_cases h0 : md = 0
                  · exact absurd hd (hH.1 h0 k j)
                  · exact hH.2 h0 (by omega) k j hd
                refine anyC_mono hDD _ _ _ _ ?_
                have h4' : Gives P ops (SameOn D' w) o v a := by
                  have : (fun w' => CellsSame E p s.h w w') = SameOn D' w := by
                    funext w'
                    apply propext
                    exact ⟨fun h k i hd => h k i hd.1 hd.2, fun h k i h1 h2 => h k i ⟨h1, h2⟩⟩
                  rw [← this]
                  simpa using h4
                refine anyC_first (w1 := w) hi (Region.noSelect_spec hns) (fun c a w hh => absurd hh (hQ c _ w)) fuel' mask a w hS (freeAt_spec hi l4) hr h4' (SameOn.refl _ _) ?_
                exact ih _ E J p g _ w D' fuel' _ 1 s' h3 (by simp) (fun x hx => by rw [List.mem_singleton.1 hx]; exact ⟨rfl, h6.known⟩) (hS.add hr) h6 ⟨fun h => (by cases h), fun _ _ k j hd => by rw [h2]; exact hd⟩ (by omega) (by rw [h1]; exact hk)
            · split at hd
              · rename_i ns L' hsm
                obtain ⟨hn, hd⟩ := needs_den R.known hd
                have hsm : simples Z ops m rb ab mask md s (Region.ready .any ops mask) ([], []) = some (ns, L') := by
                  split at hsm
                  · exact hsm
                  · cases hsm
                obtain ⟨_, _, j3, j4⟩ := simples_spec hsm
                exact covers hne j3 (j4 E s.nx rfl R.known hn (fun x hx => by cases hx)) hn hd
              · have hall := allT_den hd
                subst hfu
                refine ⟨fun h0 => absurd h0 hne, fun i hr => ?_⟩
                have ht := hall _ (List.mem_map.2 ⟨i, hr, rfl⟩)
                split at ht
                · exact ht.elim
                · rename_i o hio
                  have hi : ops[i]? = some o := by rw [nth_eq] at hio; simpa using hio
                  split at ht
                  · rename_i hm
                    exact take rfl hr hi hm ht
                  · exact ht.elim
    | (m1, d1, s1) :: y :: l, hL =>
      simp only [runE] at hd
      split at hd
      · rename_i ns L' hsm
        have hg1 := hG (m1, d1, s1) (by simp)
        obtain ⟨hn, hd⟩ := needs_den hg1.2 hd
        obtain ⟨_, _, j3, j4⟩ := simpleAll_spec hsm
        obtain ⟨hne, hc⟩ := j3 _ hL
        exact covers hne hc (j4 E s.nx hG hn (fun x hx => by cases hx)) hn hd
      · exact hd.elim
end
end Go.Sy
