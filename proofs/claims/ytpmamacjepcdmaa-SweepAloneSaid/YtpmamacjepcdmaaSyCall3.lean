import Derived.Test.YtpmamacjepcdmaaSyCall
/- A call: what is there for the function that is called. -/
namespace Go.Sy
open Go.RowKit

/-! ### Where a name stands in a list -/
def posN (r : Nat) : List Nat → Option Nat
  | [] => none
  | a :: l => if a = r then some 0 else (posN r l).map (· + 1)
def posO (r : Nat) : List (Option Nat) → Option Nat
  | [] => none
  | a :: l => if a = some r then some 0 else (posO r l).map (· + 1)
theorem memN_true {n : Nat} : ∀ {l : List Nat}, memN n l = true ↔ n ∈ l
  | [] => by simp [memN]
  | m :: l => by
    simp only [memN, List.mem_cons]
    split
    · rename_i h; simp [Nat.eq_of_beq_eq_true h]
    · rename_i h
      rw [memN_true]
      constructor
      · exact .inr
      · rintro (e | e)
        · subst e; exact absurd (Nat.beq_refl n) h
        · exact e
theorem memN_false {n : Nat} {l : List Nat} : memN n l = false ↔ n ∉ l := by
  rw [← memN_true (l := l)]
  cases memN n l <;> simp
theorem noDup_cons {a : Nat} {l : List Nat} (h : noDup (a :: l) = true) : a ∉ l ∧ noDup l = true := by
  simp only [noDup, Bool.and_eq_true, Bool.not_eq_true'] at h
  exact ⟨memN_false.1 h.1, h.2⟩
theorem posN_of {r : Nat} : ∀ {l : List Nat} {j : Nat}, noDup l = true → l[j]? = some r → posN r l = some j
  | [], j, _, h => by simp at h
  | a :: l, 0, _, h => by
    simp only [List.getElem?_cons_zero, Option.some.injEq] at h
    simp [posN, h]
  | a :: l, j + 1, hd, h => by
    simp only [List.getElem?_cons_succ] at h
    obtain ⟨h1, h2⟩ := noDup_cons hd
    have : a ≠ r := fun e => h1 (e ▸ List.mem_of_getElem? h)
    simp [posN, this, posN_of h2 h]
theorem mem_someN {a : Nat} : ∀ {l : List (Option Nat)}, a ∈ someN l ↔ some a ∈ l
  | [] => by simp [someN]
  | some b :: l => by simp [someN, mem_someN (l := l)]
  | none :: l => by simp [someN, mem_someN (l := l)]
theorem posO_of {r : Nat} : ∀ {l : List (Option Nat)} {j : Nat}, noDup (someN l) = true → l[j]? = some (some r) → posO r l = some j
  | [], j, _, h => by simp at h
  | a :: l, 0, _, h => by
    simp only [List.getElem?_cons_zero, Option.some.injEq] at h
    simp [posO, h]
  | none :: l, j + 1, hd, h => by
    simp only [List.getElem?_cons_succ] at h
    simp [posO, posO_of (l := l) hd h]
  | some a :: l, j + 1, hd, h => by
    simp only [List.getElem?_cons_succ] at h
    obtain ⟨h1, h2⟩ := noDup_cons (l := someN l) hd
    have : a ≠ r := fun e => h1 (mem_someN.2 (e ▸ List.mem_of_getElem? h))
    simp [posO, this, posO_of h2 h]
theorem posO_get {r : Nat} : ∀ {l : List (Option Nat)} {j : Nat}, posO r l = some j → some r ∈ l
  | [], j, h => by simp [posO] at h
  | a :: l, j, h => by
    simp only [posO] at h
    split at h
    · rename_i e; simp [e]
    · rw [Option.map_eq_some_iff] at h
      obtain ⟨i, h, _⟩ := h
      exact List.mem_cons_of_mem _ (posO_get h)

theorem take_app {α : Type} {l m : List α} {n : Nat} (h : l.length = n) : (l ++ m).take n = l := by subst h; simp
theorem drop_app {α : Type} {l m : List α} {n : Nat} (h : l.length = n) : (l ++ m).drop n = m := by subst h; simp
theorem list_of {α : Type} {R : SC → α → Prop} : ∀ {l : List SC} {f : Nat → Option α}, (∀ j c, nth l j = some c → ∃ v, f j = some v ∧ R c v) → ∃ us, All2 R l us ∧ ∀ j u, nth us j = some u → f j = some u
  | [], _, _ => ⟨[], trivial, fun j u h => by simp [nth] at h⟩
  | c :: l, f, h => by
    obtain ⟨v, h1, h2⟩ := h 0 c rfl
    obtain ⟨us, h3, h4⟩ := list_of (l := l) (f := fun j => f (j + 1)) fun j c hc => h (j + 1) c hc
    refine ⟨v :: us, ⟨h2, h3⟩, fun j u hj => ?_⟩
    cases j with
    | zero => simp only [nth, Option.some.injEq] at hj; subst hj; exact h1
    | succ j => exact h4 j u hj

section
variable {B : Base} {E : Env} {p : Pl} {g : Gm} {h : Hp} {w : World}

def RegIs (p : Pl) (h : Hp) (w : World) (Ec : Env) (pc : Pl) (gc : Gm) (x : Pc (List SC)) (ro : Nat × Nat) : Prop :=
  ∃ cs, x = .at cs ∧ ∃ old b q, nth h.regs ro.1 = some (.at old) ∧ p.reg ro.1 = some (b, q) ∧ ∀ i c, nth cs i = some c → (∃ c0, nth old (ro.2 + i) = some c0) ∧ ∃ v, w.cell? ⟨b, q + ro.2 + i, none⟩ = some v ∧ c.is Ec pc gc v

theorem flatA_sound (H : RepH B E p g h w) : ∀ {l : List AK} {rs : List SR} {cs : List SC} {ps : List (Nat × Nat)} {vals : List Value}, flatA h l rs = some (cs, ps) → All2 (SR.is E p g) rs vals →
    ∃ us, All2 (SC.is E p g) cs us ∧ ∀ (Ec : Env) (pc : Pl) (gc : Gm) (cs' : List SC) (j0 : Nat), All2 (SC.is Ec pc gc) cs' us → (∀ i r o, ps[i]? = some (r, o) → ∃ b q, p.reg r = some (b, q) ∧ pc.reg (j0 + i) = some (b, q + o)) →
      All2 (SR.is Ec pc gc) (grpA j0 l cs') vals ∧ All2 (RegIs p h w Ec pc gc) (grpR l cs') ps := by
  intro l
  induction l with
  | nil =>
    intro rs cs ps vals hf hv
    cases rs with
    | cons => simp [flatA] at hf
    | nil =>
      simp only [flatA, Option.some.injEq, Prod.mk.injEq] at hf
      obtain ⟨rfl, rfl⟩ := hf
      cases vals with
      | cons => exact hv.elim
      | nil => exact ⟨[], trivial, fun Ec pc gc cs' j0 hc _ => by cases cs' <;> first | exact ⟨trivial, trivial⟩ | exact hc.elim⟩
  | cons ak l ih =>
    intro rs cs ps vals hf hv
    cases ak with
    | one k =>
      cases rs with
      | nil => simp [flatA] at hf
      | cons r rs =>
        cases r with
        | tup => simp [flatA] at hf
        | v x =>
          cases x with
          | agg => simp [flatA] at hf
          | one c =>
            simp only [flatA] at hf
            split at hf
            · rename_i cs1 ps1 h1
              simp only [Option.some.injEq, Prod.mk.injEq] at hf
              obtain ⟨rfl, rfl⟩ := hf
              cases vals with
              | nil => exact hv.elim
              | cons u vals =>
                obtain ⟨us, g1, g2⟩ := ih h1 hv.2
                refine ⟨u :: us, ⟨hv.1, g1⟩, fun Ec pc gc cs' j0 hc hr => ?_⟩
                cases cs' with
                | nil => exact hc.elim
                | cons c' cs' =>
                  obtain ⟨k1, k2⟩ := g2 Ec pc gc cs' j0 hc.2 hr
                  exact ⟨⟨hc.1, k1⟩, k2⟩
            · cases hf
    | agg ks =>
      cases rs with
      | nil => simp [flatA] at hf
      | cons r rs =>
        cases r with
        | tup => simp [flatA] at hf
        | v x =>
          cases x with
          | one => simp [flatA] at hf
          | agg c =>
            simp only [flatA] at hf
            split at hf
            · rename_i hlen
              have hlen := Nat.eq_of_beq_eq_true hlen
              split at hf
              · rename_i cs1 ps1 h1
                simp only [Option.some.injEq, Prod.mk.injEq] at hf
                obtain ⟨rfl, rfl⟩ := hf
                cases vals with
                | nil => exact hv.elim
                | cons u vals =>
                  obtain ⟨us, g1, g2⟩ := ih h1 hv.2
                  obtain ⟨vs, e, hvs⟩ := hv.1
                  have hvl := hvs.length
                  refine ⟨vs ++ us, hvs.append g1, fun Ec pc gc cs' j0 hc hr => ?_⟩
                  have ht := hc.take ks.length
                  have hd := hc.drop ks.length
                  rw [take_app (l := vs) (by omega)] at ht
                  rw [drop_app (l := vs) (by omega)] at hd
                  obtain ⟨k1, k2⟩ := g2 Ec pc gc _ j0 hd hr
                  have e1 : grpA j0 (.agg ks :: l) cs' = .v (.agg (cs'.take ks.length)) :: grpA j0 l (cs'.drop ks.length) := by cases cs' <;> rfl
                  have e2 : grpR (.agg ks :: l) cs' = grpR l (cs'.drop ks.length) := by cases cs' <;> rfl
                  rw [e1, e2]
                  exact ⟨⟨⟨vs, e, ht⟩, k1⟩, k2⟩
              · cases hf
            · cases hf
    | ptr ks =>
      unfold flatA at hf
      split at hf <;> try (cases hf; done)
      · rename_i heq; cases heq
      · rename_i heq; cases heq
      · rename_i heq; cases heq
      · rename_i r o rs heq
        cases heq
        split at hf
        · rename_i old hold
          split at hf
          · rename_i c cs1 ps1 hc1 h1
            simp only [Option.some.injEq, Prod.mk.injEq] at hf
            obtain ⟨rfl, rfl⟩ := hf
            cases vals with
            | nil => exact hv.elim
            | cons u vals =>
              obtain ⟨us, g1, g2⟩ := ih h1 hv.2
              obtain ⟨b, q, e1, e2⟩ := hv.1
              obtain ⟨t1, t2, t3⟩ := takeFrom_nth hc1
              have Rg : ∀ i c0, nth old i = some c0 → ∃ v, w.cell? ⟨b, q + i, none⟩ = some v ∧ c0.is E p g v := fun i c0 hi => by
                obtain ⟨b', q', f1, _, _, f4⟩ := (H.reg r old hold).ex
                rw [e1] at f1; cases f1
                exact (f4 i c0 hi).2.2
              obtain ⟨ws, w1, w2⟩ := list_of (R := SC.is E p g) (l := c) (f := fun j => w.cell? ⟨b, q + (o + j), none⟩) fun j c0 hc0 => by
                have hj := nth_lt hc0
                rw [t3 j (by omega)] at hc0
                exact Rg _ _ hc0
              have hwl := w1.length
              refine ⟨ws ++ us, w1.append g1, fun Ec pc gc cs' j0 hc hr => ?_⟩
              have ht := hc.take ks.length
              have hd := hc.drop ks.length
              rw [take_app (l := ws) (by omega)] at ht
              rw [drop_app (l := ws) (by omega)] at hd
              obtain ⟨k1, k2⟩ := g2 Ec pc gc _ (j0 + 1) hd fun i r' o' hi => by
                obtain ⟨b', q', f1, f2⟩ := hr (i + 1) r' o' (by simpa using hi)
                exact ⟨b', q', f1, by rw [show j0 + 1 + i = j0 + (i + 1) from by omega]; exact f2⟩
              have e3 : grpA j0 (.ptr ks :: l) cs' = .v (.one (.loc j0 0)) :: grpA (j0 + 1) l (cs'.drop ks.length) := by cases cs' <;> rfl
              have e4 : grpR (.ptr ks :: l) cs' = .at (cs'.take ks.length) :: grpR l (cs'.drop ks.length) := by cases cs' <;> rfl
              rw [e3, e4]
              refine ⟨⟨?_, k1⟩, ⟨_, rfl, old, b, q, hold, e1, fun i c' hi => ?_⟩, k2⟩
              · obtain ⟨b', q', f1, f2⟩ := hr 0 r o (by simp)
                rw [e1] at f1; cases f1
                exact ⟨b, q + o, f2, e2⟩
              · obtain ⟨v, hv1, hv2⟩ := ht.nth hi
                have hil : i < c.length := by have := nth_lt hv1; omega
                refine ⟨?_, v, ?_, hv2⟩
                · rw [← t3 i (by omega)]; exact nth_some hil
                · have := w2 i v hv1
                  rw [show q + o + i = q + (o + i) from by omega]; exact this
          · cases hf
        · cases hf

theorem mkA_at : ∀ {ks : List PK} {nx j : Nat} {y : Pc Ar}, nth (mkA nx ks) j = some y → ∃ A, y = .at A
  | [], _, _, _, h => by simp [mkA, nth] at h
  | k :: l, nx, j, y, h => by
    cases k with
    | own e K =>
      cases j with
      | zero => simp only [mkA, nth, Option.some.injEq] at h; exact ⟨_, h.symm⟩
      | succ j => exact mkA_at (ks := l) h
    | _ => exact mkA_at (ks := l) h
/-- The array made of a letter. -/
theorem mkA_nth : ∀ {ks : List PK} {nx j : Nat} {A : Ar}, nth (mkA nx ks) j = some (.at A) → ∃ i e K, nth ks i = some (.own e K) ∧ A = ⟨e, K, .var (nx + i)⟩
  | [], _, _, _, h => by simp [mkA, nth] at h
  | k :: l, nx, j, A, h => by
    have rest : ∀ {j}, nth (mkA (nx + 1) l) j = some (.at A) → ∃ i e K, nth (k :: l) i = some (.own e K) ∧ A = ⟨e, K, .var (nx + i)⟩ := fun h => by
      obtain ⟨i, e, K, h1, h2⟩ := mkA_nth h
      exact ⟨i + 1, e, K, h1, by rw [h2, show nx + 1 + i = nx + (i + 1) from by omega]⟩
    cases k with
    | own e K =>
      cases j with
      | zero =>
        simp only [mkA, nth, Option.some.injEq, Pc.at.injEq] at h
        exact ⟨0, e, K, rfl, h.symm⟩
      | succ j => exact rest h
    | _ => exact rest h
theorem mkA_own : ∀ {ks : List PK} {ds : List CD} {os : List (Option Nat)} {L : List (Option Addr × Nat)} {nx j : Nat} {A : Ar}, OwnsIs E p h ks ds os L → nth (mkA nx ks) j = some (.at A) →
    ∃ i e K o pl d, nth ks i = some (.own e K) ∧ A = ⟨e, K, .var (nx + i)⟩ ∧ ds[i]? = some d ∧ os[j]? = some o ∧ L[j]? = some pl ∧ OwnIs E p h o pl e K d
  | [], _, _, _, _, _, _, _, h => by simp [mkA, nth] at h
  | k :: l, [], os, L, nx, j, A, ho, h => by cases k <;> exact ho.elim
  | k :: l, d :: ds, os, L, nx, j, A, ho, h => by
    cases k with
    | own e K =>
      match os, L, ho with
      | [], _, ho => exact ho.elim
      | _ :: _, [], ho => exact ho.elim
      | o :: os, pl :: L, ho =>
        cases j with
        | zero =>
          simp only [mkA, nth, Option.some.injEq, Pc.at.injEq] at h
          exact ⟨0, e, K, o, pl, d, rfl, h.symm, rfl, rfl, rfl, ho.1⟩
        | succ j =>
          obtain ⟨i, e', K', o', pl', d', h1, h2, h3, h4, h5, h6⟩ := mkA_own (nx := nx + 1) (j := j) ho.2 h
          exact ⟨i + 1, e', K', o', pl', d', h1, by rw [h2, show nx + 1 + i = nx + (i + 1) from by omega], by simpa using h3, by simpa using h4, by simpa using h5, h6⟩
    | _ =>
      obtain ⟨i, e', K', o', pl', d', h1, h2, h3, h4, h5, h6⟩ := mkA_own (nx := nx + 1) (j := j) (ks := l) ho h
      exact ⟨i + 1, e', K', o', pl', d', h1, by rw [h2, show nx + 1 + i = nx + (i + 1) from by omega], by simpa using h3, h4, h5, h6⟩

/-- What is lent. -/
def Lent (E : Env) (p : Pl) (h : Hp) (lent : List Nat) (k o : Nat) : Prop := ∃ a A c, a ∈ lent ∧ nth h.arrs a = some (.at A) ∧ p.arr a = some (some ⟨k, 0, none⟩, c) ∧ 0 < c ∧ o < (A.x.den E).rows.length * A.K.kd.length
open Classical in
noncomputable def lend (E : Env) (p : Pl) (g : Gm) (h : Hp) (w : World) (lent : List Nat) : Gm := fun k o => if Lent E p h lent k o then w.cell? ⟨k, o, none⟩ else g k o
theorem lend_pos {lent : List Nat} {k o : Nat} (hl : Lent E p h lent k o) : lend E p g h w lent k o = w.cell? ⟨k, o, none⟩ := if_pos hl
theorem lend_neg {lent : List Nat} {k o : Nat} (hl : ¬ Lent E p h lent k o) : lend E p g h w lent k o = g k o := if_neg hl
def subPl (p : Pl) (ps : List (Nat × Nat)) (own : List (Option Nat)) (L : List (Option Addr × Nat)) : Pl where
  reg j := match ps[j]? with | some (r, o) => (p.reg r).map fun x => (x.1, x.2 + o) | none => none
  arr j := L[j]?
  mp _ := none
  ow k := match p.ow k with
    | .reg r => (match posN r (ps.map (·.1)) with | some j => .reg j | none => .z)
    | .arr a => (match posO a own with | some j => .arr j | none => .z)
    | _ => .z

theorem ArOk.ow {a : Nat} {A : Ar} (R : ArOk B E p g a A w) {k c : Nat} (e : p.arr a = some (some ⟨k, 0, none⟩, c)) (hc : 0 < c) : p.ow k = .arr a := by
  obtain ⟨ad, cap, rows, h1, h2, h3, h4, h5, h6, h7, h8⟩ := R.ex
  rw [e] at h1; cases h1
  obtain ⟨b, cur, k1, k2, _⟩ := h8 hc
  cases k1; exact k2

/-- What is there for the function that is called. -/
structure Start (B : Base) (E : Env) (p : Pl) (g : Gm) (h : Hp) (w : World) (sg : Sig) (ps : List (Nat × Nat)) (m : Mt) (vals : List Value) (Ec : Env) (pc : Pl) (gc : Gm) : Prop where
  ec : letters Ec sg.ins.length = m.data.map (X.den E)
  oks : CD.oks sg.inKinds (m.data.map (X.den E))
  le : g.Le gc
  lent : m.lent = [] → gc = g
  mem : RepH ⟨w, Mof sg.h0 pc, gc, pc.reg⟩ Ec pc gc sg.h0 w
  args : All2 (SR.is Ec pc gc) sg.args0 vals
  reg : ∀ j r o, ps[j]? = some (r, o) → ∃ old b q, nth h.regs r = some (.at old) ∧ p.reg r = some (b, q) ∧ pc.reg j = some (b, q + o)
  regs : sg.h0.regs.length = ps.length
  own : m.own.length = cnt sg.ins
  mof : ∀ k i, Mof sg.h0 pc k i → (∃ j r o old b q cs, ps[j]? = some (r, o) ∧ nth h.regs r = some (.at old) ∧ p.reg r = some (b, q) ∧ nth sg.h0.regs j = some (.at cs) ∧ k = b ∧ q + o ≤ i ∧ i < q + o + cs.length ∧ (∃ c0, nth old (i - q) = some c0)) ∨
    (∃ a A c, a ∈ someN m.own ∧ nth h.arrs a = some (.at A) ∧ p.arr a = some (some ⟨k, 0, none⟩, c) ∧ 0 < c)

theorem getElem_letters {Ec : Env} {n i : Nat} (hi : i < n) : (letters Ec n)[i]? = some (Ec i) := by simp [letters, hi]
theorem call_start (H : RepH B E p g h w) {sg : Sig} {args : List SR} {vals : List Value} {cs : List SC} {ps : List (Nat × Nat)} {m : Mt} (hf : flatA h sg.args args = some (cs, ps)) (hv : All2 (SR.is E p g) args vals) (hm : mtCs h sg.ins cs = some m)
    (hn : ∀ b ∈ m.need, (b.den E).bool = true) (hd1 : noDup (someN m.own) = true) (hl : ∀ a ∈ m.lent, a ∉ someN m.own) (hd2 : noDup (ps.map (·.1)) = true) : ∃ Ec pc gc, Start B E p g h w sg ps m vals Ec pc gc := by
  obtain ⟨us, f1, f2⟩ := flatA_sound H hf hv
  obtain ⟨m1, m2, L, m3, m4, m5, m6⟩ := mtCs_sound H hm f1 hn
  let Ec : Env := fun i => (m.data.map (X.den E)).getD i .u
  let pc : Pl := subPl p ps m.own L
  let gc : Gm := lend E p g h w m.lent
  have hlow : ∀ {k o}, Lent E p h m.lent k o → ∃ a, a ∈ m.lent ∧ p.ow k = .arr a := fun ⟨a, A, c, h1, h2, h3, h4, _⟩ => ⟨a, h1, (H.arr a A h2).ow h3 h4⟩
  have hle : g.Le gc := fun k o v hk => by
    by_cases hL : Lent E p h m.lent k o
    · exact (lend_pos hL).trans (H.gg k o v hk).1
    · exact (lend_neg hL).trans hk
  have hgg : ∀ k o v, gc k o = some v → w.cell? ⟨k, o, none⟩ = some v ∧ pc.ow k = .z := fun k o v hk => by
    by_cases hlent : Lent E p h m.lent k o
    · obtain ⟨a, h1, h2⟩ := hlow hlent
      refine ⟨(lend_pos (g := g) (w := w) hlent).symm.trans hk, ?_⟩
      show (match p.ow k with | .reg r => _ | .arr a => _ | _ => _) = _
      rw [h2]
      show (match posO a m.own with | some j => Ow.arr j | none => .z) = _
      cases hp : posO a m.own with
      | none => rfl
      | some j => exact absurd (mem_someN.2 (posO_get hp)) (hl a h1)
    · obtain ⟨h1, h2⟩ := H.gg k o v ((lend_neg (g := g) (w := w) hlent).symm.trans hk)
      refine ⟨h1, ?_⟩
      show (match p.ow k with | .reg r => _ | .arr a => _ | _ => _) = _
      rw [h2]
  have hreg0 : ∀ (j r o : Nat), ps[j]? = some (r, o) → ∀ b q, p.reg r = some (b, q) → pc.reg j = some (b, q + o) := fun j r o hj b q hb => by
    show (match ps[j]? with | some (r, o) => _ | none => _) = _
    rw [hj]
    simp [hb]
  have hEc : ∀ i x, m.data[i]? = some x → Ec i = x.den E := fun i x hi => by
    show (m.data.map (X.den E)).getD i .u = _
    simp [hi]
  have hargs : All2 (SC.is Ec pc gc) (mkC 0 0 sg.ins) us := m6 Ec pc gc 0 0 (fun i x hi => by rw [Nat.zero_add]; exact hEc i x hi) (fun i pl hi => by rw [Nat.zero_add]; exact hi) hle fun a ha A b c h1 h2 h3 i v hi hc => by
    exact (lend_pos ⟨a, A, c, ha, h1, h2, h3, hi⟩).trans hc
  have hpsreg : ∀ (j r o : Nat), ps[j]? = some (r, o) → ∃ b q, p.reg r = some (b, q) := by
    -- the regions stand behind their values
    have aux : ∀ {l : List AK} {rs : List SR} {cs : List SC} {ps : List (Nat × Nat)}, flatA h l rs = some (cs, ps) → ∀ x ∈ ps, ∃ old, nth h.regs x.1 = some (.at old) := by
      intro l
      induction l with
      | nil =>
        intro rs cs ps hf x hx
        cases rs <;> simp only [flatA] at hf
        · cases hf; cases hx
        · cases hf
      | cons ak l ih =>
        intro rs cs ps hf x hx
        unfold flatA at hf
        split at hf <;> try (cases hf; done)
        · cases hf; cases hx
        · rename_i heq
          cases heq
          split at hf
          · rename_i h1; cases hf; exact ih h1 x hx
          · cases hf
        · rename_i heq
          cases heq
          split at hf
          · split at hf
            · rename_i h1; cases hf; exact ih h1 x hx
            · cases hf
          · cases hf
        · rename_i heq
          cases heq
          split at hf
          · rename_i old hold
            split at hf
            · rename_i h1
              cases hf
              rcases List.mem_cons.1 hx with e | hx
              · subst e; exact ⟨old, hold⟩
              · exact ih h1 x hx
            · cases hf
          · cases hf
    intro j r o hj
    obtain ⟨old, ho⟩ := aux hf (r, o) (List.mem_of_getElem? hj)
    obtain ⟨b, q, e, _⟩ := (H.reg r old ho).ex
    exact ⟨b, q, e⟩
  obtain ⟨a1, a2⟩ := f2 Ec pc gc _ 0 hargs fun i r o hi => by
    obtain ⟨b, q, e⟩ := hpsreg i r o hi
    exact ⟨b, q, e, by rw [Nat.zero_add]; exact hreg0 i r o hi b q e⟩
  have hlen : (grpR sg.args (mkC 0 0 sg.ins)).length = ps.length := a2.length
  have hAr : ∀ j A, nth sg.h0.arrs j = some (.at A) → ∃ i e K o pl d, nth sg.ins i = some (.own e K) ∧ A = ⟨e, K, .var i⟩ ∧ Ec i = d ∧ m.own[j]? = some o ∧ L[j]? = some pl ∧ OwnIs E p h o pl e K d := fun j A hj => by
    obtain ⟨i, e, K, o, pl, d, h1, h2, h3, h4, h5, h6⟩ := mkA_own m3 (show nth (mkA 0 sg.ins) j = _ from hj)
    rw [Nat.zero_add] at h2
    refine ⟨i, e, K, o, pl, d, h1, h2, ?_, h4, h5, h6⟩
    show (m.data.map (X.den E)).getD i .u = d
    simp [List.getD_eq_getElem?_getD, h3]
  refine ⟨Ec, pc, gc, ⟨?_, m2, hle, fun e => ?_, ⟨Turn.refl _ _, Gm.Le.refl _, fun k o v hk => .inl hk, hgg, fun j cs0 hj => ?_, fun j hj => ?_, fun j A hj => ?_, fun j hj => ?_, ⟨fun a M ha => (by cases a <;> cases ha), fun _ _ => rfl⟩⟩, a1, fun j r o hj => ?_, hlen, m5, fun k i hk => ?_⟩⟩
  · refine List.ext_getElem? fun i => ?_
    by_cases hi : i < sg.ins.length
    · rw [getElem_letters hi]
      have : i < (m.data.map (X.den E)).length := by rw [List.length_map, m1]; exact hi
      show some ((m.data.map (X.den E)).getD i .u) = _
      rw [List.getD_eq_getElem?_getD, List.getElem?_eq_getElem this]; rfl
    · rw [List.getElem?_eq_none (by simp [letters]; omega), List.getElem?_eq_none (by rw [List.length_map, m1]; omega)]
  · funext k o
    refine lend_neg ?_
    rintro ⟨a, A, c, h1, _⟩
    rw [e] at h1; cases h1
  · obtain ⟨ro, h1, cs1, h2, old, b, q, h3, h4, h5⟩ := a2.nth hj
    cases h2
    rw [nth_eq] at h1
    obtain ⟨b', q', e1, e2, e3, e4⟩ := (H.reg ro.1 old h3).ex
    rw [h4] at e1; cases e1
    refine ⟨b, q + ro.2, hreg0 j ro.1 ro.2 h1 b q h4, ?_, e3, fun i c hi => ?_⟩
    · show (match p.ow b with | .reg r => _ | .arr a => _ | _ => _) = _
      rw [e2]
      show (match posN ro.1 (ps.map (·.1)) with | some j => Ow.reg j | none => .z) = _
      rw [posN_of hd2 (j := j) (by rw [List.getElem?_map, h1]; rfl)]
    · obtain ⟨⟨c0, h6⟩, v, h7, h8⟩ := h5 i c hi
      obtain ⟨k1, k2, _⟩ := e4 _ c0 h6
      refine ⟨.inl (.inl ⟨j, cs0, b, q + ro.2, hj, hreg0 j ro.1 ro.2 h1 b q h4, rfl, by omega, ?_⟩), ?_, v, h7, h8⟩
      · have := nth_lt hi; omega
      · rw [show q + ro.2 + i = q + (ro.2 + i) from by omega]; exact k2
  · have : nth sg.h0.regs j = none := by
      rcases hj with hj | hj
      · exact hj
      · obtain ⟨_, _, cs1, h2, _⟩ := a2.nth hj
        cases h2
    rw [nth_eq, List.getElem?_eq_none_iff] at this
    have : ps[j]? = none := List.getElem?_eq_none (by rw [← hlen]; exact this)
    show (match ps[j]? with | some (r, o) => _ | none => _) = _
    rw [this]
  · obtain ⟨i, e, K, o, pl, d, h1, h2, h3, h4, h5, h6⟩ := hAr j A hj
    subst h2
    cases o with
    | none =>
      obtain ⟨k1, k2, k3, k4⟩ := h6
      refine ⟨pl.1, pl.2, [], h5, ?_, by simp, by rw [k1]; simp, by simp, k4, k3, fun h => by omega⟩
      simp only [X.den]; rw [h3, k2]
    | some a =>
      obtain ⟨k1, A, n, rows, k2, k3, k4, k5, k6, k7⟩ := h6
      subst k3; subst k4
      obtain ⟨ad, cap, rows', e1, e2, e3, e4, e5, e6, e7, e8⟩ := (H.arr a A k2).ex
      rw [k1] at e1; cases e1
      rw [k5] at e2; cases e2
      refine ⟨ad, cap, rows.take n, h5, by simp only [X.den]; rw [h3, k7], by rw [List.length_take]; omega, e4, ?_, e6, e7, fun hc => ?_⟩
      · rw [List.length_take]
        exact Nat.le_trans (Nat.mul_le_mul_right _ (Nat.min_le_right _ _)) e5
      · obtain ⟨b, cur, f1, f2, f3, f4, f5, f6⟩ := e8 hc
        subst f1
        refine ⟨b, cur, rfl, ?_, f3, f4, fun i' _ => .inl (.inr ⟨j, _, b, cap, hj, h5, hc, rfl⟩), fun i' row hi => ?_⟩
        · show (match p.ow b with | .reg r => _ | .arr a => _ | _ => _) = _
          rw [f2]
          show (match posO a m.own with | some j => Ow.arr j | none => .z) = _
          rw [posO_of hd1 h4]
        · rw [List.getElem?_take] at hi
          split at hi
          · exact RdRow.mono hle _ _ _ _ (fun _ _ hv => hv) (f6 i' row hi)
          · cases hi
  · have : nth sg.h0.arrs j = none := by
      rcases hj with hj | hj
      · exact hj
      · obtain ⟨A, e⟩ := mkA_at (show nth (mkA 0 sg.ins) j = _ from hj)
        cases e
    rw [nth_eq, List.getElem?_eq_none_iff] at this
    show L[j]? = none
    exact List.getElem?_eq_none (by rw [m4, ← length_mkA sg.ins 0]; exact this)
  · obtain ⟨b, q, e⟩ := hpsreg j r o hj
    have hjl : j < sg.h0.regs.length := by
      show j < (grpR sg.args (mkC 0 0 sg.ins)).length
      rw [hlen]; exact (List.getElem?_eq_some_iff.1 hj).1
    obtain ⟨x, hx⟩ := nth_some hjl
    obtain ⟨ro, h1, cs1, h2, old, b', q', h3, h4, h5⟩ := a2.nth hx
    rw [nth_eq, hj] at h1
    cases h1
    exact ⟨old, b, q, h3, e, hreg0 j r o hj b q e⟩
  · rcases hk with ⟨j, cs0, b, q, h1, h2, h3, h4, h5⟩ | ⟨j, A, b, c, h1, h2, h3, h4⟩
    · obtain ⟨ro, g1, cs1, g2, old, b', q', g3, g4, g5⟩ := a2.nth h1
      cases g2
      rw [nth_eq] at g1
      rw [hreg0 j ro.1 ro.2 g1 b' q' g4] at h2
      cases h2
      refine .inl ⟨j, ro.1, ro.2, old, b, q', cs0, g1, g3, g4, h1, h3, h4, h5, ?_⟩
      obtain ⟨c, hc⟩ := nth_some (l := cs0) (i := i - (q' + ro.2)) (by omega)
      obtain ⟨⟨c0, h6⟩, _⟩ := g5 _ c hc
      exact ⟨c0, by rw [show i - q' = ro.2 + (i - (q' + ro.2)) from by omega]; exact h6⟩
    · subst h4
      obtain ⟨i', e, K, o, pl, d, k1, k2, k3, k4, k5, k6⟩ := hAr j A h1
      have h2 : L[j]? = _ := h2
      rw [k5] at h2
      cases h2
      cases o with
      | none => obtain ⟨k7, _⟩ := k6; simp only at k7; omega
      | some a =>
        obtain ⟨k7, A', n, rows, k8, _⟩ := k6
        exact .inr ⟨a, A', c, mem_someN.2 (List.mem_of_getElem? k4), k8, k7, h3⟩
end
end Go.Sy

/- A call: what is there behind it. -/
namespace Go.Sy
open Go.RowKit

/-! ### Lists -/
theorem Turn.cells {Mc : Nat → Nat → Prop} {w w' : World} (T : Turn Mc w w') : Turn (fun k i => Mc k i ∧ (w.cell? ⟨k, i, none⟩).isSome = true) w w' :=
  ⟨T.os, T.tape, T.output, T.size, fun k o hk => by
    obtain ⟨o', h1, h2⟩ := T.obj k o hk
    refine ⟨o', h1, ?_⟩
    cases o with
    | cells c e f =>
      obtain ⟨c', rfl, h3, h4⟩ := h2
      refine ⟨c', rfl, h3, fun i hi => ?_⟩
      by_cases hm : Mc k i
      · have hn : ¬ i < c.size := fun hl => hi ⟨hm, by simp [World.cell?, hk, hl]⟩
        rw [Array.getElem?_eq_none (by omega), Array.getElem?_eq_none (by omega)]
      · exact h4 i hm
    | _ => exact h2⟩
theorem putRegs_other {r : Nat} : ∀ {regs : List (Pc (List SC))} {ps : List (Nat × Nat)} {css : List (List SC)}, r ∉ ps.map (·.1) → nth (putRegs regs ps css) r = nth regs r
  | regs, [], css, _ => by simp [putRegs]
  | regs, _ :: _, [], _ => by simp [putRegs]
  | regs, (r', o) :: ps, c :: css, h => by
    simp only [putRegs]
    simp only [List.map_cons, List.mem_cons, not_or] at h
    rw [putRegs_other h.2]
    split
    · rw [nth_setNth, if_neg (fun e => h.1 e.symm)]
    · rfl
theorem putRegs_at {r o : Nat} {old c : List SC} : ∀ {regs : List (Pc (List SC))} {ps : List (Nat × Nat)} {css : List (List SC)} {j : Nat}, noDup (ps.map (·.1)) = true → ps[j]? = some (r, o) → css[j]? = some c → nth regs r = some (.at old) → nth (putRegs regs ps css) r = some (.at (putFrom old o c))
  | regs, [], css, j, _, h, _, _ => by simp at h
  | regs, _ :: _, [], j, _, _, h, _ => by simp at h
  | regs, (r', o') :: ps, c' :: css, 0, hd, h1, h2, h3 => by
    simp only [List.getElem?_cons_zero, Option.some.injEq, Prod.mk.injEq] at h1 h2
    obtain ⟨rfl, rfl⟩ := h1
    subst h2
    simp only [putRegs, h3]
    rw [List.map_cons] at hd
    rw [putRegs_other (noDup_cons hd).1, nth_setNth, if_pos rfl, if_pos (nth_lt h3)]
  | regs, (r', o') :: ps, c' :: css, j + 1, hd, h1, h2, h3 => by
    simp only [List.getElem?_cons_succ] at h1 h2
    rw [List.map_cons] at hd
    obtain ⟨n1, n2⟩ := noDup_cons hd
    have hne : r' ≠ r := fun e => n1 (by rw [e]; exact List.mem_map.2 ⟨(r, o), List.mem_of_getElem? h1, rfl⟩)
    simp only [putRegs]
    refine putRegs_at n2 h1 h2 ?_
    split
    · rw [nth_setNth, if_neg hne]; exact h3
    · exact h3
theorem length_dropAll : ∀ (l : List Nat) (arrs : List (Pc Ar)), (dropAll arrs l).length = arrs.length
  | [], _ => rfl
  | a :: l, arrs => by rw [dropAll, length_dropAll l, length_setNth]
theorem nth_dropAll : ∀ (l : List Nat) (arrs : List (Pc Ar)) (i : Nat), nth (dropAll arrs l) i = if i ∈ l ∧ i < arrs.length then some .go else nth arrs i
  | [], _, _ => by simp [dropAll]
  | a :: l, arrs, i => by
    rw [dropAll, nth_dropAll l, length_setNth, nth_setNth]
    by_cases h1 : i ∈ l ∧ i < arrs.length
    · rw [if_pos h1, if_pos ⟨List.mem_cons_of_mem _ h1.1, h1.2⟩]
    · rw [if_neg h1]
      by_cases h2 : a = i
      · subst h2
        rw [if_pos rfl]
        by_cases h3 : a < arrs.length
        · rw [if_pos h3, if_pos ⟨by simp, h3⟩]
        · rw [if_neg h3, if_neg (fun h => h3 h.2), nth_none (by omega)]
      · rw [if_neg h2, if_neg]
        rintro ⟨h3, h4⟩
        rcases List.mem_cons.1 h3 with e | h3
        · exact h2 e.symm
        · exact h1 ⟨h3, h4⟩
def nPtr : List AK → Nat
  | [] => 0
  | .ptr _ :: l => nPtr l + 1
  | _ :: l => nPtr l
theorem length_grpP : ∀ (l : List AK) (cs : List SC), (grpP l cs).length = nPtr l
  | [], _ => rfl
  | .ptr ks :: l, cs => by simp [grpP, nPtr, length_grpP l]
  | .one _ :: l, cs => by simp [grpP, nPtr, length_grpP l]
  | .agg _ :: l, cs => by simp [grpP, nPtr, length_grpP l]
/-- Regions ahead and behind: of the same lengths. -/
theorem grpRP : ∀ {l : List AK} {cs cs' : List SC}, cs.length = (l.flatMap AK.ks).length → (l.flatMap AK.ps).length ≤ cs'.length → All2 (fun x (c : List SC) => ∀ d, x = Pc.at d → d.length = c.length) (grpR l cs) (grpP l cs')
  | [], cs, cs', _, _ => by cases cs <;> trivial
  | .one k :: l, [], cs', h, _ => by simp [AK.ks] at h
  | .one k :: l, c :: cs, cs', h, h' => by
    simp only [List.flatMap_cons, AK.ks, AK.ps, List.length_append, List.length_cons, List.length_nil] at h h'
    exact grpRP (l := l) (by omega) (by omega)
  | .agg ks :: l, cs, cs', h, h' => by
    simp only [List.flatMap_cons, AK.ks, AK.ps, List.length_append, List.length_nil] at h h'
    have e : grpR (.agg ks :: l) cs = grpR l (cs.drop ks.length) := by cases cs <;> rfl
    rw [e]
    exact grpRP (l := l) (by rw [List.length_drop]; omega) (by omega)
  | .ptr ks :: l, cs, cs', h, h' => by
    simp only [List.flatMap_cons, AK.ks, AK.ps, List.length_append] at h h'
    have e : grpR (.ptr ks :: l) cs = .at (cs.take ks.length) :: grpR l (cs.drop ks.length) := by cases cs <;> rfl
    rw [e]
    refine ⟨fun d hd => ?_, grpRP (l := l) (by rw [List.length_drop]; omega) (by rw [List.length_drop]; omega)⟩
    cases hd
    rw [List.length_take, List.length_take]; omega
theorem grpR_none : ∀ {l : List AK} {cs : List SC}, anyB (fun (k : AK) => match k with | .ptr _ => true | _ => false) l = false → grpR l cs = []
  | [], cs, _ => by cases cs <;> rfl
  | .one _ :: l, [], _ => rfl
  | .one _ :: l, _ :: cs, h => grpR_none (l := l) (by simpa [anyB] using h)
  | .agg ks :: l, cs, h => by
    have e : grpR (.agg ks :: l) cs = grpR l (cs.drop ks.length) := by cases cs <;> rfl
    rw [e]; exact grpR_none (l := l) (by simpa [anyB] using h)
  | .ptr ks :: l, cs, h => by simp [anyB] at h
theorem cnt_none : ∀ {l : List PK}, anyB (fun (k : PK) => match k with | .own _ _ => true | _ => false) l = false → cnt l = 0
  | [], _ => rfl
  | k :: l, h => by cases k <;> first | exact cnt_none (l := l) (by simpa [anyB] using h) | simp [anyB] at h
theorem mkA_nth2 : ∀ {ks : List PK} {nx j : Nat} {A : Ar}, nth (mkA nx ks) j = some (.at A) → ∃ i e K, nth ks i = some (.own e K) ∧ A = ⟨e, K, .var (nx + i)⟩ ∧ ∀ nx', nth (mkA nx' ks) j = some (.at ⟨e, K, .var (nx' + i)⟩)
  | [], _, _, _, h => by simp [mkA, nth] at h
  | k :: l, nx, j, A, h => by
    cases k with
    | own e K =>
      cases j with
      | zero =>
        simp only [mkA, nth, Option.some.injEq, Pc.at.injEq] at h
        exact ⟨0, e, K, rfl, h.symm, fun _ => rfl⟩
      | succ j =>
        obtain ⟨i, e', K', h1, h2, h3⟩ := mkA_nth2 (ks := l) (nx := nx + 1) h
        exact ⟨i + 1, e', K', h1, by rw [h2, show nx + 1 + i = nx + (i + 1) from by omega], fun nx' => (h3 (nx' + 1)).trans (by rw [show nx' + 1 + i = nx' + (i + 1) from by omega])⟩
    | _ =>
      obtain ⟨i, e', K', h1, h2, h3⟩ := mkA_nth2 (ks := l) (nx := nx + 1) h
      exact ⟨i + 1, e', K', h1, by rw [h2, show nx + 1 + i = nx + (i + 1) from by omega], fun nx' => (h3 (nx' + 1)).trans (by rw [show nx' + 1 + i = nx' + (i + 1) from by omega])⟩
theorem anyB_nth {α : Type} {f : α → Bool} : ∀ {l : List α} {i : Nat} {x : α}, anyB f l = false → nth l i = some x → f x = false
  | [], _, _, _, h => by simp [nth] at h
  | a :: l, 0, x, h, e => by simp only [nth, Option.some.injEq] at e; subst e; simp only [anyB, Bool.or_eq_false_iff] at h; exact h.1
  | a :: l, i + 1, x, h, e => by simp only [anyB, Bool.or_eq_false_iff] at h; exact anyB_nth h.2 e
theorem mtCs_lent {h : Hp} : ∀ {ks : List PK} {cs : List SC} {m : Mt}, mtCs h ks cs = some m → fzCs ks cs = none → m.lent = []
  | [], [], m, hm, _ => by simp only [mtCs, Option.some.injEq] at hm; subst hm; rfl
  | k :: ks, c :: cs, m, hm, hf => by
    simp only [mtCs] at hm
    split at hm
    · rename_i m1 m2 h1 h2
      cases hm
      have hc : fzCs ks cs = none ∧ ((∃ K, k = .fz K) → ∀ a n, c ≠ .sl a n) := by
        cases k with
        | fz K =>
          cases c <;> first
            | exact ⟨hf, fun _ _ _ h => by cases h⟩
            | (simp [fzCs] at hf)
        | _ => exact ⟨hf, fun ⟨_, h⟩ => by cases h⟩
      have := mtCs_lent h2 hc.1
      show m1.lent ++ m2.lent = []
      rw [this, List.append_nil]
      unfold mtC at h1
      split at h1
      · split at h1 <;> cases h1; rfl
      · cases h1; rfl
      · cases h1; rfl
      · split at h1
        · cases h1
          dsimp only
          split
          · exact absurd rfl (hc.2 ⟨_, rfl⟩ _ _)
          · rfl
        · cases h1
      · split at h1
        · split at h1 <;> cases h1; rfl
        · cases h1
      · split at h1 <;> cases h1; rfl
      · split at h1 <;> cases h1; rfl
      · cases h1
    · cases hm
  | [], _ :: _, _, hm, _ => by simp [mtCs] at hm
  | _ :: _, [], _, hm, _ => by simp [mtCs] at hm
end Go.Sy
