import Derived.Test.YtpmamacjepcdmaaSyFive
/- A loop's head, held against a state. -/
namespace Go.Sy
open Go.RowKit

/-! ### What is noted -/
/-- A cell of the head and one of the state. -/
inductive Cl (L : LI) (s : St) (ls : List (Nat × Kd × X)) (as : List (Nat × Nat)) : SC → SC → Prop where
  | any (c : SC) : Cl L s ls as .any c
  | old (c : SC) (h : c.old L = true) : Cl L s ls as c c
  | int (k : IntKind) (i : Nat) (x : X) (h : (i, Kd.int k, x) ∈ ls) : Cl L s ls as (.int k (.var i)) (.int k x)
  | bool (i : Nat) (x : X) (h : (i, Kd.bool, x) ∈ ls) : Cl L s ls as (.bool (.var i)) (.bool x)
  | str (i : Nat) (x : X) (h : (i, Kd.str, x) ∈ ls) : Cl L s ls as (.str (.var i)) (.str x)
  | fz (K : SK) (i : Nat) (x : X) (h : (i, Kd.sl K.by_ K.kd, x) ∈ ls) : Cl L s ls as (.fz K (.var i)) (.fz K x)
  | fzn (K : SK) (i : Nat) (h : (i, Kd.sl K.by_ K.kd, X.nil) ∈ ls) : Cl L s ls as (.fz K (.var i)) .nilsl
  | fzz (K : SK) (i : Nat) (h : (i, Kd.sl K.by_ K.kd, X.nil) ∈ ls) : Cl L s ls as (.fz K (.var i)) .z0
  | sl (a a' i : Nat) (n : X) (k : Kd) (A' : Ar) (h : (i, k, mkTake n A'.x) ∈ ls) (ha : (a, a' + 1) ∈ as) (hA : nth s.h.arrs a' = some (.at A')) (hd : X.dec s.known (mkLe n (mkLen A'.x)) = some true) : Cl L s ls as (.sl a (.len (.var i))) (.sl a' n)
  | sln (a i : Nat) (k : Kd) (h : (i, k, X.nil) ∈ ls) (ha : (a, 0) ∈ as) : Cl L s ls as (.sl a (.len (.var i))) .nilsl
theorem Cl.mono {L : LI} {s : St} {ls ls' : List (Nat × Kd × X)} {as as' : List (Nat × Nat)} (h1 : ∀ x ∈ ls, x ∈ ls') (h2 : ∀ x ∈ as, x ∈ as') {c d : SC} (h : Cl L s ls as c d) : Cl L s ls' as' c d := by
  cases h with
  | any => exact .any _
  | old _ h => exact .old _ h
  | int _ _ _ h => exact .int _ _ _ (h1 _ h)
  | bool _ _ h => exact .bool _ _ (h1 _ h)
  | str _ _ h => exact .str _ _ (h1 _ h)
  | fz _ _ _ h => exact .fz _ _ _ (h1 _ h)
  | fzn _ _ h => exact .fzn _ _ (h1 _ h)
  | fzz _ _ h => exact .fzz _ _ (h1 _ h)
  | sl _ _ _ _ _ _ h ha hA hd => exact .sl _ _ _ _ _ _ (h1 _ h) (h2 _ ha) hA hd
  | sln _ _ _ h ha => exact .sln _ _ _ (h1 _ h) (h2 _ ha)
/-- What is noted of an array. -/
def AsIs (L : LI) (s : St) (ls : List (Nat × Kd × X)) (a c : Nat) : Prop := L.a0 ≤ a ∧ ∃ A i, nth L.hd.h.arrs a = some (.at A) ∧ A.x = .var i ∧
  match c with
  | 0 => A.K.pos = true ∧ (i, Kd.sl A.K.by_ A.K.kd, X.nil) ∈ ls
  | c + 1 => ∃ A' n, nth s.h.arrs c = some (.at A') ∧ A.e = A'.e ∧ A.K = A'.K ∧ X.dec s.known (mkLe n (mkLen A'.x)) = some true ∧ (i, Kd.sl A.K.by_ A.K.kd, mkTake n A'.x) ∈ ls
theorem AsIs.mono {L : LI} {s : St} {ls ls' : List (Nat × Kd × X)} (h1 : ∀ x ∈ ls, x ∈ ls') {a c : Nat} (h : AsIs L s ls a c) : AsIs L s ls' a c := by
  obtain ⟨h0, A, i, h2, h3, h4⟩ := h
  refine ⟨h0, A, i, h2, h3, ?_⟩
  cases c with
  | zero => exact ⟨h4.1, h1 _ h4.2⟩
  | succ c => obtain ⟨A', n, k1, k2, k3, k4, k5⟩ := h4; exact ⟨A', n, k1, k2, k3, k4, h1 _ k5⟩
structure BOk (E : Env) (L : LI) (s : St) (b : Sub) : Prop where
  ls : ∀ x ∈ b.ls, (L.nx0 < x.1 ∧ x.1 < L.hd.nx) ∧ CD.ok x.2.1 (x.2.2.den E)
  as : ∀ x ∈ b.as, AsIs L s b.ls x.1 x.2
structure Grow (E : Env) (L : LI) (s : St) (b b' : Sub) : Prop where
  no : b.no = []
  ls : ∀ x ∈ b.ls, x ∈ b'.ls
  as : ∀ x ∈ b.as, x ∈ b'.as
  ok : BOk E L s b → BOk E L s b'
theorem Grow.refl {E : Env} {L : LI} {s : St} {b : Sub} (h : b.no = []) : Grow E L s b b := ⟨h, fun _ h => h, fun _ h => h, fun h => h⟩
theorem Grow.trans {E : Env} {L : LI} {s : St} {a b c : Sub} (h : Grow E L s a b) (k : Grow E L s b c) : Grow E L s a c := ⟨h.no, fun x hx => k.ls x (h.ls x hx), fun x hx => k.as x (h.as x hx), fun x => k.ok (h.ok x)⟩
theorem fail_no {b : Sub} {l : List Nat} (h : (b.fail l).no = []) : False := by simp [Sub.fail] at h

section
variable {B : Base} {E : Env} {p : Pl} {g : Gm} {L : LI} {s : St} {a : Act} {as : List Act} {w : World} {b : Sub}

theorem Grow.let_ {i : Nat} {k : Kd} {x : X} (h : b.no = []) (hi : isNew L i = true) (hk : CD.ok k (x.den E)) : Grow E L s b (b.let_ i k x) := by
  simp only [isNew, Bool.and_eq_true] at hi
  refine ⟨h, fun y hy => List.mem_cons_of_mem _ hy, fun y hy => hy, fun ok => ⟨fun y hy => ?_, fun y hy => (ok.as y hy).mono fun z hz => List.mem_cons_of_mem _ hz⟩⟩
  rcases List.mem_cons.1 hy with e | hy
  · subst e; exact ⟨⟨blt_lt hi.1, blt_lt hi.2⟩, hk⟩
  · exact ok.ls y hy
theorem Grow.arr {i a' c : Nat} {k : Kd} {x : X} (h : b.no = []) (hi : isNew L i = true) (hk : CD.ok k (x.den E)) (hA : AsIs L s ((i, k, x) :: b.ls) a' c) : Grow E L s b { b.let_ i k x with as := (a', c) :: b.as } := by
  have G := Grow.let_ (s := s) h hi hk
  refine ⟨h, G.ls, fun y hy => List.mem_cons_of_mem _ hy, fun ok => ⟨(G.ok ok).ls, fun y hy => ?_⟩⟩
  rcases List.mem_cons.1 hy with e | hy
  · subst e; exact hA
  · exact (G.ok ok).as y hy

theorem bkOld_spec {wh : List Nat} {hc c : SC} (h : (bkOld L wh hc c b).no = []) : Grow E L s b (bkOld L wh hc c b) ∧ Cl L s (bkOld L wh hc c b).ls (bkOld L wh hc c b).as hc c := by
  unfold bkOld at h ⊢
  split at h
  · rename_i hs
    rw [if_pos hs]
    simp only [Bool.and_eq_true] at hs
    have e := SC.same_eq _ _ hs.1
    subst e
    exact ⟨.refl h, .old _ hs.2⟩
  · exact (fail_no h).elim
theorem ok_nil (by_ : Nat) (kd : List Kd) : CD.ok (.sl by_ kd) (X.nil.den E) := by
  simp only [CD.ok, X.den]
  exact ⟨[], rfl, by simp, fun _ h => by cases h⟩

theorem bkC_spec (H : RepH B E p g s.h w) {wh : List Nat} {hc c : SC} {v : Value} (hv : c.is E p g v) (h : (bkC L s wh hc c b).no = []) :
    Grow E L s b (bkC L s wh hc c b) ∧ Cl L s (bkC L s wh hc c b).ls (bkC L s wh hc c b).as hc c := by
  generalize hb' : bkC L s wh hc c b = b' at h ⊢
  unfold bkC at hb'
  split at hb'
  · subst hb'; exact ⟨.refl h, .any _⟩
  · rename_i k i
    split at hb'
    · rename_i hi
      split at hb'
      · rename_i j x
        split at hb'
        · rename_i hkj
          have := IntKind.same_eq hkj
          subst this
          subst hb'
          obtain ⟨n, e, _⟩ := hv
          exact ⟨.let_ h hi (by rw [e]; exact ⟨n, rfl⟩), .int _ _ _ (by simp [Sub.let_])⟩
        · subst hb'; exact (fail_no h).elim
      · subst hb'; exact (fail_no h).elim
    · subst hb'; exact bkOld_spec h
  · rename_i i
    split at hb'
    · rename_i hi
      split at hb'
      · rename_i x
        subst hb'
        obtain ⟨n, e, _⟩ := hv
        exact ⟨.let_ h hi (by rw [e]; exact ⟨n, rfl⟩), .bool _ _ (by simp [Sub.let_])⟩
      · subst hb'; exact (fail_no h).elim
    · subst hb'; exact bkOld_spec h
  · rename_i i
    split at hb'
    · rename_i hi
      split at hb'
      · rename_i x
        subst hb'
        obtain ⟨n, e, _⟩ := hv
        exact ⟨.let_ h hi (by rw [e]; exact ⟨_, rfl⟩), .str _ _ (by simp [Sub.let_])⟩
      · subst hb'; exact (fail_no h).elim
    · subst hb'; exact bkOld_spec h
  · rename_i K i
    split at hb'
    · rename_i hi
      split at hb'
      · rename_i J x
        split at hb'
        · rename_i hkj
          have := SK.same_eq hkj
          subst this
          subst hb'
          have hv : Rd g (.sl K.by_ K.kd) v (x.den E) := hv
          exact ⟨.let_ h hi (Rd.ok _ _ _ hv), .fz _ _ _ (by simp [Sub.let_])⟩
        · subst hb'; exact (fail_no h).elim
      · subst hb'; exact ⟨.let_ h hi (ok_nil _ _), .fzn _ _ (by simp [Sub.let_])⟩
      · subst hb'; exact ⟨.let_ h hi (ok_nil _ _), .fzz _ _ (by simp [Sub.let_])⟩
      · subst hb'; exact (fail_no h).elim
    · subst hb'; exact bkOld_spec h
  · rename_i a' i
    split at hb'
    · rename_i hi
      simp only [Bool.and_eq_true] at hi
      obtain ⟨hi, ha0⟩ := hi
      have ha0 := Nat.le_of_ble_eq_true ha0
      split at hb'
      · rename_i A hA
        split at hb'
        · rename_i hAx
          have hAx := X.same_eq hAx
          split at hb'
          · rename_i c' n
            split at hb'
            · rename_i A' hA'
              split at hb'
              · rename_i hd
                split at hb'
                · rename_i hs
                  simp only [Bool.and_eq_true] at hs
                  have hs1 := Nat.eq_of_beq_eq_true hs.1
                  have hs2 := SK.same_eq hs.2
                  subst hb'
                  obtain ⟨ad, cap, rows, e1, e2, e3, e4, e5, e6, e7, e8⟩ := (H.arr c' A' hA').ex
                  have hok : CD.ok (.sl A.K.by_ A.K.kd) ((mkTake n A'.x).den E) := by
                    rw [mkTake_den e2, hs2]
                    simp only [CD.ok]
                    refine ⟨_, rfl, ?_, fun row hr => ?_⟩
                    · rw [List.length_take]
                      exact Nat.le_trans (Nat.mul_le_mul_right _ (Nat.min_le_right _ _)) e5
                    · obtain ⟨j, hj⟩ := List.getElem?_of_mem hr
                      rw [List.getElem?_take] at hj
                      split at hj
                      · obtain ⟨bb, cur, f1, f2, f3, f4, f5, f6⟩ := e8 (by have := (List.getElem?_eq_some_iff.1 hj).1; omega)
                        exact RdRow.oks _ _ _ (f6 j row hj)
                      · cases hj
                  exact ⟨.arr h hi hok ⟨ha0, A, i, hA, hAx, A', n, hA', hs1, hs2, hd, by simp⟩, .sl _ _ _ _ (.sl A.K.by_ A.K.kd) _ (by simp [Sub.let_]) (by simp) hA' hd⟩
                · subst hb'; exact (fail_no h).elim
              · subst hb'; exact (fail_no h).elim
            · subst hb'; exact (fail_no h).elim
          · split at hb'
            · rename_i hp
              subst hb'
              exact ⟨.arr h hi (ok_nil _ _) ⟨ha0, A, i, hA, hAx, hp, by simp⟩, .sln _ _ (.sl A.K.by_ A.K.kd) (by simp [Sub.let_]) (by simp)⟩
            · subst hb'; exact (fail_no h).elim
          · subst hb'; exact (fail_no h).elim
        · subst hb'; exact (fail_no h).elim
      · subst hb'; exact (fail_no h).elim
    · subst hb'; exact bkOld_spec h
  · subst hb'; exact bkOld_spec h

/-- A temporary of the head and one of the state. -/
def Tl (L : LI) (s : St) (ls : List (Nat × Kd × X)) (as : List (Nat × Nat)) (t u : SR) : Prop := t = .v (.one .any) ∨ (∃ c d, t = .v (.one c) ∧ u = .v (.one d) ∧ Cl L s ls as c d) ∨ (t = u ∧ t.old L = true)
theorem Tl.mono {ls ls' : List (Nat × Kd × X)} {as as' : List (Nat × Nat)} (h1 : ∀ x ∈ ls, x ∈ ls') (h2 : ∀ x ∈ as, x ∈ as') {t u : SR} (h : Tl L s ls as t u) : Tl L s ls' as' t u := by
  rcases h with h | ⟨c, d, e1, e2, h⟩ | h
  · exact .inl h
  · exact .inr (.inl ⟨c, d, e1, e2, h.mono h1 h2⟩)
  · exact .inr (.inr h)
theorem bkR_spec (H : RepH B E p g s.h w) {wh : List Nat} {t u : SR} {v : Value} (hv : u.is E p g v) (h : (bkR L s wh t u b).no = []) :
    Grow E L s b (bkR L s wh t u b) ∧ Tl L s (bkR L s wh t u b).ls (bkR L s wh t u b).as t u := by
  generalize hb' : bkR L s wh t u b = b' at h ⊢
  unfold bkR at hb'
  split at hb'
  · subst hb'; exact ⟨.refl h, .inl rfl⟩
  · rename_i hc c _
    subst hb'
    obtain ⟨h1, h2⟩ := bkC_spec H (c := c) hv h
    exact ⟨h1, .inr (.inl ⟨hc, c, rfl, rfl, h2⟩)⟩
  · split at hb'
    · rename_i hs
      simp only [Bool.and_eq_true] at hs
      subst hb'
      exact ⟨.refl h, .inr (.inr ⟨SR.same_eq _ _ hs.1, hs.2⟩)⟩
    · subst hb'; exact (fail_no h).elim
theorem bkTmps_spec (H : RepH B E p g s.h w) : ∀ {l m : List SR} {b : Sub} {i : Nat}, (∀ j u, nth m j = some u → ∃ v, u.is E p g v) → (bkTmps L s i l m b).no = [] →
    Grow E L s b (bkTmps L s i l m b) ∧ All2 (Tl L s (bkTmps L s i l m b).ls (bkTmps L s i l m b).as) l m
  | [], [], b, i, _, h => ⟨.refl h, trivial⟩
  | t :: l, u :: m, b, i, hv, h => by
    simp only [bkTmps] at h ⊢
    obtain ⟨v, hv0⟩ := hv 0 u rfl
    obtain ⟨h3, h4⟩ := bkTmps_spec H (l := l) (m := m) (fun j u hj => hv (j + 1) u hj) h
    obtain ⟨h1, h2⟩ := bkR_spec H (wh := [1, i]) (t := t) hv0 h3.no
    exact ⟨h1.trans h3, h2.mono h3.ls h3.as, h4⟩
  | [], _ :: _, b, i, _, h => (fail_no h).elim
  | _ :: _, [], b, i, _, h => (fail_no h).elim
theorem bkCells_spec (H : RepH B E p g s.h w) {r : Nat} : ∀ {l m : List SC} {b : Sub} {i : Nat}, (∀ j u, nth m j = some u → ∃ v, u.is E p g v) → (bkCells L s r i l m b).no = [] →
    Grow E L s b (bkCells L s r i l m b) ∧ All2 (Cl L s (bkCells L s r i l m b).ls (bkCells L s r i l m b).as) l m
  | [], [], b, i, _, h => ⟨.refl h, trivial⟩
  | t :: l, u :: m, b, i, hv, h => by
    simp only [bkCells] at h ⊢
    obtain ⟨v, hv0⟩ := hv 0 u rfl
    obtain ⟨h3, h4⟩ := bkCells_spec H (l := l) (m := m) (fun j u hj => hv (j + 1) u hj) h
    obtain ⟨h1, h2⟩ := bkC_spec H (wh := [2, r, i]) (hc := t) hv0 h3.no
    exact ⟨h1.trans h3, h2.mono h3.ls h3.as, h4⟩
  | [], _ :: _, b, i, _, h => (fail_no h).elim
  | _ :: _, [], b, i, _, h => (fail_no h).elim
/-- A region of the head and one of the state. -/
def Rl (L : LI) (s : St) (ls : List (Nat × Kd × X)) (as : List (Nat × Nat)) (x : Pc (List SC)) (y : Option (Pc (List SC))) : Prop := x ≠ .fr ∧ ∀ cs, x = .at cs → ∃ ds, y = some (.at ds) ∧ All2 (Cl L s ls as) cs ds
theorem bkRegs_spec (H : RepH B E p g s.h w) : ∀ {l m : List (Pc (List SC))} {b : Sub} {r : Nat}, (∀ j cs, nth m j = some (.at cs) → ∀ i c, nth cs i = some c → ∃ v, c.is E p g v) → (bkRegs L s r l m b).no = [] →
    Grow E L s b (bkRegs L s r l m b) ∧ ∀ j x, nth l j = some x → Rl L s (bkRegs L s r l m b).ls (bkRegs L s r l m b).as x (nth m j)
  | [], m, b, r, _, h => by
    simp only [bkRegs] at h ⊢
    exact ⟨.refl h, fun j x hj => by simp [nth] at hj⟩
  | x :: l, m, b, r, hv, h => by
    cases x with
    | fr => simp only [bkRegs] at h; exact (fail_no h).elim
    | go =>
      cases m with
      | nil => simp only [bkRegs] at h; exact (fail_no h).elim
      | cons y m =>
        simp only [bkRegs] at h ⊢
        obtain ⟨h1, h2⟩ := bkRegs_spec H (l := l) (m := m) (fun j cs hj => hv (j + 1) cs hj) h
        refine ⟨h1, fun j x hj => ?_⟩
        cases j with
        | zero => simp only [nth, Option.some.injEq] at hj; subst hj; exact ⟨by simp, fun _ e => by cases e⟩
        | succ j => exact h2 j x hj
    | «at» c =>
      cases m with
      | nil => simp only [bkRegs] at h; exact (fail_no h).elim
      | cons y m =>
        cases y with
        | «at» d =>
          simp only [bkRegs] at h ⊢
          obtain ⟨h1, h2⟩ := bkRegs_spec H (l := l) (m := m) (fun j cs hj => hv (j + 1) cs hj) h
          obtain ⟨h3, h4⟩ := bkCells_spec H (l := c) (m := d) (hv 0 d rfl) h1.no
          refine ⟨h3.trans h1, fun j x hj => ?_⟩
          cases j with
          | zero =>
            simp only [nth, Option.some.injEq] at hj
            subst hj
            refine ⟨by simp, fun cs e => ?_⟩
            cases e
            exact ⟨d, rfl, h4.mono fun _ _ h => h.mono h1.ls h1.as⟩
          | succ j => exact h2 j x hj
        | fr => simp only [bkRegs] at h; exact (fail_no h).elim
        | go => simp only [bkRegs] at h; exact (fail_no h).elim
/-- An array of the head. -/
def Al (L : LI) (s : St) (as : List (Nat × Nat)) (a : Nat) (x : Pc Ar) : Prop := x ≠ .fr ∧ ∀ A, x = .at A → (a < L.a0 ∧ ∃ A', nth s.h.arrs a = some (.at A') ∧ A.e = A'.e ∧ A.K = A'.K ∧ A.x = A'.x ∧ A.x.under L.nx0 = true) ∨ (L.a0 ≤ a ∧ ∃ c, lookT a as = some c)
theorem bkArrs_spec : ∀ {l : List (Pc Ar)} {b : Sub} {a : Nat}, (bkArrs L s a l b).no = [] → bkArrs L s a l b = b ∧ ∀ j x, nth l j = some x → Al L s b.as (a + j) x
  | [], b, a, h => ⟨rfl, fun j x hj => by simp [nth] at hj⟩
  | .go :: l, b, a, h => by
    simp only [bkArrs] at h ⊢
    obtain ⟨h1, h2⟩ := bkArrs_spec h
    refine ⟨h1, fun j x hj => ?_⟩
    cases j with
    | zero => simp only [nth, Option.some.injEq] at hj; subst hj; exact ⟨by simp, fun _ e => by cases e⟩
    | succ j => rw [show a + (j + 1) = a + 1 + j from by omega]; exact h2 j x hj
  | .fr :: l, b, a, h => by
    simp only [bkArrs] at h
    have := (bkArrs_spec h).1
    rw [this] at h
    exact (fail_no h).elim
  | .at A :: l, b, a, h => by
    simp only [bkArrs] at h ⊢
    obtain ⟨h1, h2⟩ := bkArrs_spec h
    rw [h1] at h ⊢
    have key : ∀ {b1 : Sub}, b1 = b → b1.as = b.as := fun h => by rw [h]
    split at h
    · rename_i ha
      have ha' := blt_lt ha
      simp only [if_pos ha] at h2 ⊢
      split at h
      · rename_i A' hA'
        simp only [hA'] at h2 ⊢
        split at h
        · rename_i hc
          simp only [if_pos hc] at h2 ⊢
          simp only [Bool.and_eq_true] at hc
          refine ⟨trivial, fun j x hj => ?_⟩
          cases j with
          | zero =>
            simp only [nth, Option.some.injEq] at hj
            subst hj
            refine ⟨by simp, fun A0 e => ?_⟩
            cases e
            exact .inl ⟨by omega, A', hA', Nat.eq_of_beq_eq_true hc.1.1, SK.same_eq hc.1.2, X.same_eq hc.2.1, hc.2.2⟩
          | succ j => rw [show a + (j + 1) = a + 1 + j from by omega]; exact h2 j x hj
        · exact (fail_no h).elim
      · exact (fail_no h).elim
    · rename_i ha
      simp only [if_neg ha] at h2 ⊢
      split at h
      · rename_i c hc
        simp only [hc] at h2 ⊢
        refine ⟨trivial, fun j x hj => ?_⟩
        cases j with
        | zero =>
          simp only [nth, Option.some.injEq] at hj
          subst hj
          refine ⟨by simp, fun A0 e => ?_⟩
          have : ¬ a < L.a0 := fun hl => ha (by rw [Nat.blt_eq]; exact hl)
          exact .inr ⟨by omega, c, hc⟩
        | succ j => rw [show a + (j + 1) = a + 1 + j from by omega]; exact h2 j x hj
      · exact (fail_no h).elim
end
end Go.Sy

/- A loop's head that a state meets. -/
namespace Go.Sy
open Go.RowKit

/-! ### Lists -/
theorem lookT_mem {α : Type} {n : Nat} {x : α} : ∀ {l : List (Nat × α)}, lookT n l = some x → (n, x) ∈ l
  | [], h => by simp [lookT] at h
  | (m, y) :: l, h => by
    simp only [lookT] at h
    split at h
    · rename_i e
      have e := Nat.eq_of_beq_eq_true e
      cases h; subst e; simp
    · exact List.mem_cons_of_mem _ (lookT_mem h)
theorem mem_lookT {α : Type} {n : Nat} {x : α} : ∀ {l : List (Nat × α)}, noDup (l.map (·.1)) = true → (n, x) ∈ l → lookT n l = some x
  | [], _, h => by cases h
  | (m, y) :: l, hd, h => by
    rw [List.map_cons] at hd
    obtain ⟨h1, h2⟩ := noDup_cons hd
    simp only [lookT]
    rcases List.mem_cons.1 h with e | h'
    · cases e
      rw [if_pos (Nat.beq_refl n)]
    · rw [if_neg, mem_lookT h2 h']
      intro e
      have e := Nat.eq_of_beq_eq_true e
      exact h1 (List.mem_map.2 ⟨(n, x), h', e⟩)
theorem collect_spec {ls : List (Nat × Kd × X)} : ∀ {ks : List Kd} {i : Nat} {cs : List X}, collect ls i ks = some cs → cs.length = ks.length ∧ ∀ j k, ks[j]? = some k → ∃ x, cs[j]? = some x ∧ lookT (i + j) ls = some (k, x)
  | [], i, cs, h => by
    simp only [collect, Option.some.injEq] at h
    subst h
    exact ⟨rfl, fun j k hj => by simp at hj⟩
  | k :: ks, i, cs, h => by
    simp only [collect] at h
    split at h
    · rename_i k' x l h1 h2
      split at h
      · rename_i hk
        have hk := Kd.same_eq _ _ hk
        subst hk
        cases h
        obtain ⟨i1, i2⟩ := collect_spec h2
        refine ⟨by simp [i1], fun j k0 hj => ?_⟩
        cases j with
        | zero =>
          simp only [List.getElem?_cons_zero, Option.some.injEq] at hj
          subst hj
          exact ⟨x, rfl, h1⟩
        | succ j =>
          obtain ⟨y, y1, y2⟩ := i2 j k0 (by simpa using hj)
          exact ⟨y, by simpa using y1, by rw [show i + (j + 1) = i + 1 + j from by omega]; exact y2⟩
      · cases h
    · cases h
theorem oks_of {ks : List Kd} {ds : List CD} (hl : ds.length = ks.length) (h : ∀ (j : Nat) (k : Kd), ks[j]? = some k → ∃ d, ds[j]? = some d ∧ CD.ok k d) : CD.oks ks ds := by
  induction ks generalizing ds with
  | nil => cases ds <;> first | trivial | simp at hl
  | cons k ks ih =>
    cases ds with
    | nil => simp at hl
    | cons d ds =>
      obtain ⟨d', h1, h2⟩ := h 0 k rfl
      simp only [List.getElem?_cons_zero, Option.some.injEq] at h1
      subst h1
      exact ⟨h2, ih (by simpa using hl) fun j k hj => by simpa using h (j + 1) k (by simpa using hj)⟩

/-- Where an array of the head is, in the state. -/
def tgt (L : LI) (as : List (Nat × Nat)) (a : Nat) : Option Nat := if a < L.a0 then some a else match lookT a as with | some (c + 1) => some c | _ => none
theorem tgts_mem {L : LI} {b : Sub} : ∀ {l : List (Pc Ar)} {a j : Nat} {A : Ar} {c : Nat}, nth l j = some (.at A) → tgt L b.as (a + j) = some c → c ∈ tgts L b a l
  | [], _, _, _, _, h, _ => by simp [nth] at h
  | x :: l, a, 0, A, c, h, ht => by
    simp only [nth, Option.some.injEq] at h
    subst h
    simp only [tgts, List.mem_append]
    left
    simp only [Nat.add_zero, tgt] at ht
    split at ht
    · rename_i hl
      cases ht
      rw [if_pos (by rw [Nat.blt_eq]; exact hl)]
      simp
    · rename_i hl
      rw [if_neg (fun h => hl (blt_lt h))]
      split at ht
      · rename_i hc; cases ht; rw [hc]; simp
      · cases ht
  | x :: l, a, j + 1, A, c, h, ht => by
    have := tgts_mem (L := L) (b := b) (l := l) (a := a + 1) (j := j) h (by rw [show a + 1 + j = a + (j + 1) from by omega]; exact ht)
    cases x with
    | fr => exact this
    | go => exact this
    | «at» y => simp only [tgts, List.mem_append]; exact .inr this
theorem noDup_append {l m : List Nat} (h : noDup (l ++ m) = true) : noDup m = true ∧ ∀ x ∈ l, x ∉ m := by
  induction l with
  | nil => exact ⟨h, fun _ h => by cases h⟩
  | cons a l ih =>
    obtain ⟨h1, h2⟩ := noDup_cons (l := l ++ m) h
    obtain ⟨h3, h4⟩ := ih h2
    refine ⟨h3, fun x hx => ?_⟩
    rcases List.mem_cons.1 hx with e | hx
    · subst e; exact fun hm => h1 (List.mem_append_right _ hm)
    · exact h4 x hx
theorem tgts_inj {L : LI} {b : Sub} : ∀ {l : List (Pc Ar)} {a j j' : Nat} {A A' : Ar} {c : Nat}, noDup (tgts L b a l) = true → nth l j = some (.at A) → nth l j' = some (.at A') → tgt L b.as (a + j) = some c → tgt L b.as (a + j') = some c → j = j'
  | [], _, _, _, _, _, _, _, h, _, _, _ => by simp [nth] at h
  | x :: l, a, j, j', A, A', c, hd, h, h', ht, ht' => by
    have head : ∀ {A0 : Ar}, x = .at A0 → tgt L b.as a = some c → c ∈ (if Nat.blt a L.a0 then [a] else (match lookT a b.as with | some (c + 1) => [c] | _ => [])) := fun _ ht => by
      simp only [tgt] at ht
      split at ht
      · rename_i hl
        cases ht
        rw [if_pos (by rw [Nat.blt_eq]; exact hl)]
        simp
      · rename_i hl
        rw [if_neg (fun h => hl (blt_lt h))]
        split at ht
        · rename_i hc; cases ht; simp
        · cases ht
    have tail : noDup (tgts L b (a + 1) l) = true := by
      cases x with
      | fr => exact hd
      | go => exact hd
      | «at» y => exact (noDup_append hd).1
    cases j with
    | zero =>
      cases j' with
      | zero => rfl
      | succ j' =>
        exfalso
        simp only [nth, Option.some.injEq] at h
        subst h
        exact (noDup_append hd).2 c (head rfl ht) (tgts_mem (j := j') h' (by rw [show a + 1 + j' = a + (j' + 1) from by omega]; exact ht'))
    | succ j =>
      cases j' with
      | zero =>
        exfalso
        simp only [nth, Option.some.injEq] at h'
        subst h'
        exact (noDup_append hd).2 c (head rfl ht') (tgts_mem (j := j) h (by rw [show a + 1 + j = a + (j + 1) from by omega]; exact ht))
      | succ j' =>
        have := tgts_inj (l := l) (a := a + 1) (j := j) (j' := j') tail h h' (by rw [show a + 1 + j = a + (j + 1) from by omega]; exact ht) (by rw [show a + 1 + j' = a + (j' + 1) from by omega]; exact ht')
        omega

section
variable {B : Base} {E : Env} {p : Pl} {g : Gm} {L : LI} {s : St} {a : Act} {as : List Act} {w : World}

open Classical in
/-- Places, as the head counts them. -/
noncomputable def headPl (p : Pl) (L : LI) (as : List (Nat × Nat)) : Pl where
  reg r := if r < L.r0 then p.reg r else none
  arr a := if a < L.a0 then p.arr a else match lookT a as with
    | some 0 => some (none, 0)
    | some (c + 1) => p.arr c
    | none => none
  mp := p.mp
  ow k := match p.ow k with
    | .arr c => if h : ∃ a A, nth L.hd.h.arrs a = some (.at A) ∧ tgt L as a = some c then .arr h.choose else .z
    | o => o
theorem headPl_reg {ls : List (Nat × Nat)} {r : Nat} (h : r < L.r0) : (headPl p L ls).reg r = p.reg r := if_pos h
theorem headPl_old {ls : List (Nat × Nat)} {a : Nat} (h : a < L.a0) : (headPl p L ls).arr a = p.arr a := if_pos h
theorem headPl_nil {ls : List (Nat × Nat)} {a : Nat} (h : L.a0 ≤ a) (hl : lookT a ls = some 0) : (headPl p L ls).arr a = some (none, 0) := by
  simp only [headPl, if_neg (show ¬ a < L.a0 by omega), hl]
theorem headPl_new {ls : List (Nat × Nat)} {a c : Nat} (h : L.a0 ≤ a) (hl : lookT a ls = some (c + 1)) : (headPl p L ls).arr a = p.arr c := by
  simp only [headPl, if_neg (show ¬ a < L.a0 by omega), hl]
theorem headPl_ow {ls : List (Nat × Nat)} {k : Nat} (h : ∀ c, p.ow k ≠ .arr c) : (headPl p L ls).ow k = p.ow k := by
  simp only [headPl]
theorem headPl_owa {b : Sub} {k c a : Nat} {A : Ar} (hd : noDup (tgts L b 0 L.hd.h.arrs) = true) (h : p.ow k = .arr c) (hA : nth L.hd.h.arrs a = some (.at A)) (ht : tgt L b.as a = some c) : (headPl p L b.as).ow k = .arr a := by
  have hex : ∃ a A, nth L.hd.h.arrs a = some (.at A) ∧ tgt L b.as a = some c := ⟨a, A, hA, ht⟩
  simp only [headPl, h, dif_pos hex]
  obtain ⟨A', h1, h2⟩ := hex.choose_spec
  congr 1
  exact tgts_inj hd h1 hA (by rw [Nat.zero_add]; exact h2) (by rw [Nat.zero_add]; exact ht)
end
end Go.Sy
