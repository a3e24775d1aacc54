import Derived.Test.YtpmamacjepcdmaaSyStep
/- What a tree says, of data alone; contracts; the small steps of the walk, sound. -/
namespace Go.Sy
open Go.RowKit

/-! ### Data of a kind -/
mutual
def CD.ok : Kd → CD → Prop
  | .int _, d => ∃ n, d = .i n
  | .bool, d => ∃ b, d = .b b
  | .str, d => ∃ s, d = .s s
  | .sl by_ kd, d => ∃ rows, d = .l rows ∧ rows.length * by_ ≤ B47 ∧ ∀ row, row ∈ rows → CD.oks kd row
def CD.oks : List Kd → List CD → Prop
  | [], [] => True
  | k :: ks, d :: ds => CD.ok k d ∧ CD.oks ks ds
  | _, _ => False
end
mutual
theorem Rd.ok {g : Gm} : ∀ (k : Kd) (v : Value) (d : CD), Rd g k v d → CD.ok k d
  | .int _, _, _, h => by simp only [Rd] at h; obtain ⟨n, _, e⟩ := h; exact ⟨n, e⟩
  | .bool, _, _, h => by simp only [Rd] at h; obtain ⟨n, _, e⟩ := h; exact ⟨n, e⟩
  | .str, _, _, h => by simp only [Rd] at h; obtain ⟨n, _, e⟩ := h; exact ⟨_, e⟩
  | .sl by_ kd, v, d, h => by
    simp only [Rd] at h
    obtain ⟨A, n, c, rows, _, e1, e2, _, _, e5, e6⟩ := h
    simp only [CD.ok]
    refine ⟨rows, e1, by rw [e2]; exact e5, fun row hr => ?_⟩
    obtain ⟨i, hi⟩ := List.getElem?_of_mem hr
    obtain ⟨b, q, _, e8⟩ := e6 (by have := (List.getElem?_eq_some_iff.1 hi).1; omega)
    exact RdRow.oks kd _ row (e8 i row hi)
theorem RdRow.oks {g : Gm} : ∀ (kd : List Kd) (f : Nat → Option Value) (row : List CD), RdRow g kd f row → CD.oks kd row
  | [], _, [], _ => trivial
  | k :: ks, _, d :: ds, ⟨⟨v, _, hr⟩, hrest⟩ => ⟨Rd.ok k v d hr, RdRow.oks ks _ ds hrest⟩
  | [], _, _ :: _, hr => hr.elim
  | _ :: _, _, [], hr => hr.elim
end
theorem CD.oks_append : ∀ {k k' : List Kd} {d d' : List CD}, CD.oks k d → CD.oks k' d' → CD.oks (k ++ k') (d ++ d')
  | [], _, [], _, _, h => h
  | _ :: _, _, _ :: _, _, h, h' => ⟨h.1, CD.oks_append h.2 h'⟩
  | [], _, _ :: _, _, h, _ => h.elim
  | _ :: _, _, [], _, h, _ => h.elim
theorem CD.oks_length : ∀ {k : List Kd} {d : List CD}, CD.oks k d → d.length = k.length
  | [], [], _ => rfl
  | _ :: _, _ :: _, h => by simp [CD.oks_length h.2]
  | [], _ :: _, h => h.elim
  | _ :: _, [], h => h.elim

/-! ### Contracts -/
structure Ct where
  sig : Sig
  pre : List CD → Prop
  post : List CD → List CD → Prop
abbrev Gam := Nat → Option Ct
def Known (P : Program) (f : FuncId) : Prop := ∃ fn c, P.funcs[f]? = some fn ∧ fn.body = some c ∧ (fn.name == "runtime.NumGoroutine") = false
/-- The cells that are handed over. -/
def Mof (h : Hp) (p : Pl) (k i : Nat) : Prop :=
  (∃ r cs b q, nth h.regs r = some (.at cs) ∧ p.reg r = some (b, q) ∧ k = b ∧ q ≤ i ∧ i < q + cs.length) ∨ (∃ a A b c, nth h.arrs a = some (.at A) ∧ p.arr a = some (some ⟨b, 0, none⟩, c) ∧ 0 < c ∧ k = b)
def letters (E : Env) (n : Nat) : List CD := (List.range n).map E
/-- A function keeps its contract. -/
def CtOk (P : Program) (f : FuncId) (ct : Ct) : Prop := Known P f ∧ ∀ (w : World) (g : Gm) (p : Pl) (E : Env) (vals : List Value), RepH ⟨w, Mof ct.sig.h0 p, g, p.reg⟩ E p g ct.sig.h0 w → All2 (SR.is E p g) ct.sig.args0 vals → CD.oks ct.sig.inKinds (letters E ct.sig.ins.length) →
    ct.pre (letters E ct.sig.ins.length) → Calls P f vals.toArray w fun e w' => ∃ (outs : List CD) (p1 : Pl) (g1 : Gm) (v : Value), e = .returned v ∧ CD.oks ct.sig.outKinds outs ∧ ct.post (letters E ct.sig.ins.length) outs ∧ (∀ i x, p.reg i = some x → p1.reg i = some x) ∧
      RepH ⟨w, Mof ct.sig.h0 p, g, p.reg⟩ (E.put ct.sig.ins.length outs) p1 g1 ct.sig.h1 w' ∧ ct.sig.res1.is (E.put ct.sig.ins.length outs) p1 g1 v

/-- What is asked where a walk goes back to a loop's head, or ends. -/
structure JJ where
  b : Nat → List CD → Prop
  k : St → Env → Prop
def JJ.put (J : JJ) (id : Nat) (X : List CD → Prop) : JJ := { J with b := fun k => if k = id then X else J.b k }
/-- Nothing. -/
def JJ.none : JJ := ⟨fun _ _ => False, fun _ _ => False⟩
/-- Where a part ends. -/
def JJ.ends (J : JJ) (K : St → Env → Prop) : JJ := { J with k := K }
def JJ.Same (n : Nat) (J' J : JJ) : Prop := (∀ i, i < n → J'.b i = J.b i) ∧ J'.k = J.k
theorem JJ.Same.refl (n : Nat) (J : JJ) : JJ.Same n J J := ⟨fun _ _ => rfl, rfl⟩
theorem JJ.Same.trans {n n' : Nat} {A B C : JJ} (h : JJ.Same n' A B) (k : JJ.Same n B C) (hn : n ≤ n') : JJ.Same n A C := ⟨fun i hi => (h.1 i (by omega)).trans (k.1 i hi), h.2.trans k.2⟩
theorem JJ.Same.mono {n n' : Nat} {A B : JJ} (h : JJ.Same n' A B) (hn : n ≤ n') : JJ.Same n A B := h.trans (JJ.Same.refl n B) hn
theorem JJ.Same.put {n id : Nat} {J : JJ} {X : List CD → Prop} (h : n ≤ id) : JJ.Same n (J.put id X) J := ⟨fun i hi => if_neg (by omega), rfl⟩
/-- What is asked where a walk comes to this tree. -/
def Tree.den (Γ : Gam) (R : List CD → Prop) : Tree → Env → JJ → Prop
  | .ret outs, E, _ => R (outs.map (X.den E))
  | .ite b t e, E, J => ((b.den E).bool = true → t.den Γ R E J) ∧ ((b.den E).bool = false → e.den Γ R E J)
  | .need b t, E, J => (b.den E).bool = true ∧ t.den Γ R E J
  | .call f args lo t, E, J => ∃ ct, Γ f = some ct ∧ ct.pre (args.map (X.den E)) ∧ ∀ outs, CD.oks ct.sig.outKinds outs → ct.post (args.map (X.den E)) outs → t.den Γ R (E.put lo outs) J
  | .loop id ks init body, E, J => ∃ (I : List CD → Prop) (m : List CD → Nat), I (init.map (X.den E)) ∧ ∀ ds, CD.oks ks ds → I ds → body.den Γ R (E.put (id + 1) ds) (J.put id fun ds' => I ds' ∧ m ds' < m ds)
  | .back id cur, E, J => J.b id (cur.map (X.den E))
  | .leaf s, E, J => J.k s E
  | .both x y, E, J => x.den Γ R E J ∧ y.den Γ R E J
  | .bad _ _, _, _ => False

section
variable {P : Program} {Z : Cx} {Γ : Gam} {B : Base} {Q : List CD → Prop} {E F : Env} {J : JJ} {p q : Pl} {g g' : Gm} {s : St} {a : Act} {as : List Act} {w w' : World}

theorem needs_den {t : Tree} : ∀ {ns known : List X}, (∀ b ∈ known, (b.den E).bool = true) → (needs known ns t).den Γ Q E J → (∀ b ∈ ns, (b.den E).bool = true) ∧ t.den Γ Q E J
  | [], _, _, h => ⟨fun _ hb => (by cases hb), h⟩
  | b :: l, known, hk, h => by
    simp only [needs] at h
    split at h
    · rename_i hd
      obtain ⟨h1, h2⟩ := needs_den hk h
      exact ⟨fun c hc => by
        rcases List.mem_cons.1 hc with e | hc
        · subst e; exact dec_den hk hd
        · exact h1 c hc, h2⟩
    · exact h.elim
    · obtain ⟨h0, h⟩ := h
      obtain ⟨h1, h2⟩ := needs_den (known := b :: known) (fun c hc => by
        rcases List.mem_cons.1 hc with e | hc
        · subst e; exact h0
        · exact hk c hc) h
      exact ⟨fun c hc => by
        rcases List.mem_cons.1 hc with e | hc
        · subst e; exact h0
        · exact h1 c hc, h2⟩
theorem knows_den : ∀ {ns known : List X}, (∀ b ∈ known, (b.den E).bool = true) → (∀ b ∈ ns, (b.den E).bool = true) → ∀ b ∈ knows known ns, (b.den E).bool = true
  | [], _, hk, _ => hk
  | b :: l, known, hk, hn => by
    simp only [knows]
    split
    · exact knows_den hk fun c hc => hn c (by simp [hc])
    · exact knows_den (fun c hc => by
        rcases List.mem_cons.1 hc with e | hc
        · subst e; exact hn c (by simp)
        · exact hk c hc) fun c hc => hn c (by simp [hc])

/-- A temporary written. -/
theorem FrameOk.put {tm : List SR} (R : FrameOk E p g tm a) {d : Option Tmp} {r : SR} {v : Value} (hr : r.is E p g v) : FrameOk E p g (putT tm d r) (a.put d v) := by
  cases d with
  | none => exact R
  | some d =>
    refine ⟨R.defers, by simp only [Act.put, putT, Array.size_setIfInBounds, length_setNth]; exact R.size, fun i c hc => ?_⟩
    simp only [putT, nth_setNth] at hc
    have hsz := R.size
    split at hc
    · rename_i e
      subst e
      split at hc
      · rename_i hl
        cases hc
        have hd : d < a.tmps.size := by rw [hsz]; exact hl
        have : (a.put (some d) v).tmps.getD d Go.undef = v := by simp [Act.put, Array.getD, hd]
        rw [this]; exact hr
      · cases hc
    · rename_i hne
      have : (a.put (some d) v).tmps.getD i Go.undef = a.tmps.getD i Go.undef := by simp [Act.put, Array.getD_eq_getD_getElem?, Array.getElem?_setIfInBounds_ne hne]
      rw [this]; exact R.tmp i c hc
theorem Rep.step (R : Rep B E p g s a as w) (hp : p.Le q) (hg : g.Le g') {h' : Hp} {known' : List X} {d : Option Tmp} {r : SR} {v : Value} (H : RepH B E q g' h' w') (hr : r.is E q g' v) (hk : ∀ b ∈ known', (b.den E).bool = true) :
    Rep B E q g' { s with tmps := putT s.tmps d r, h := h', known := known' } (a.put d v) as w' :=
  ⟨H, (R.frame.le hp hg).put hr, R.stk.mono fun _ _ h => h.le hp hg, hk, fun i x h => hp.reg i x (R.keep i x h)⟩
theorem Rep.know (R : Rep B E p g s a as w) {b : X} (hb : (b.den E).bool = true) : Rep B E p g { s with known := X.says b ++ s.known } a as w :=
  ⟨R.mem, R.frame, R.stk, fun c hc => by
    rcases List.mem_append.1 hc with hc | hc
    · exact says_den hb c hc
    · exact R.known c hc, R.keep⟩
theorem split2_den {b : X} {k : St → Tree} (R : Rep B E p g s a as w) (h : (split2 b s k).den Γ Q E J) : ∃ s', s'.nx = s.nx ∧ s'.h = s.h ∧ (k s').den Γ Q E J ∧ Rep B E p g s' a as w := by
  cases hb : (b.den E).bool with
  | true => exact ⟨{ s with known := X.says b ++ s.known }, rfl, rfl, h.1 hb, R.know hb⟩
  | false => exact ⟨{ s with known := X.says (neg b) ++ s.known }, rfl, rfl, h.2 hb, R.know (by rw [neg_den, hb]; rfl)⟩
theorem nilT_den {n : X} {neg b : Bool} {d : Option Nat} {next : St → Tree} (R : Rep B E p g s a as w) (h0 : b = true → (n.den E).int = 0) (h : (nilT n neg s d next).den Γ Q E J) :
    ∃ s', s'.nx = s.nx ∧ s'.h = s.h ∧ (next s').den Γ Q E J ∧ Rep B E p g s' (a.put d (.bool (if neg then !b else b))) as w := by
  have hz : ((mkEq n (.int 0)).den E).bool = decide ((n.den E).int = 0) := by
    rw [mkEq_den]
    simp only [X.den, CD.bool, CD.int]
    rfl
  have go : ∀ {c : Bool} {e : X}, (e.den E).bool = true → (if neg then !b else b) = c → Rep B E p g { s with tmps := putT s.tmps d (.v (.one (.bool (.bool c)))), known := X.says e ++ s.known } (a.put d (.bool (if neg then !b else b))) as w := fun {c e} he hc =>
    R.step (Pl.Le.refl _) (Gm.Le.refl _) R.mem (⟨c, rfl, by rw [hc]⟩ : ∃ x, (X.bool c).den E = .b x ∧ _) (R.know he).known
  cases hb : ((mkEq n (.int 0)).den E).bool with
  | true =>
    obtain ⟨h1, h2⟩ := h.1 hb
    cases b with
    | true => exact ⟨_, (by rfl), (by rfl), h1, go hb (by cases neg <;> rfl)⟩
    | false => exact ⟨_, (by rfl), (by rfl), h2, go hb (by cases neg <;> rfl)⟩
  | false =>
    have : b = false := by
      cases b with
      | false => rfl
      | true => rw [hz, h0 rfl] at hb; simp at hb
    subst this
    exact ⟨_, (by rfl), (by rfl), h.2 hb, go (by rw [neg_den, hb]; rfl) (by cases neg <;> rfl)⟩
theorem written_rep {b : X} {c : Bool} (R : Rep B E p g s a as w) (h : (b.den E).bool = c) : Rep B E p g (written b c s) a as w := by
  refine ⟨R.mem, ⟨R.frame.defers, by simp only [written, List.length_map]; exact R.frame.size, fun i r hr => ?_⟩, R.stk, R.known, R.keep⟩
  simp only [written, nth_eq, List.getElem?_map, Option.map_eq_some_iff] at hr
  obtain ⟨r0, h0, h1⟩ := hr
  have h2 := R.frame.tmp i r0 (by rw [nth_eq]; exact h0)
  split at h1
  · split at h1
    · rename_i d hd
      subst h1
      have e := X.same_eq hd
      subst e
      obtain ⟨u, h3, h4⟩ := (h2 : ∃ u, d.den E = .b u ∧ _)
      refine ⟨c, rfl, ?_⟩
      rw [h4, ← h, h3]; rfl
    · subst h1; exact h2
  · subst h1; exact h2

/-! ### An array of one's own that is only read from here on -/
theorem frzC_is {A : Ar} {b : Nat} {kn : List X} (hkn : ∀ b ∈ kn, (b.den E).bool = true) {rows : List (List CD)} {ad : Option Addr} {cap : Nat} (e1 : p.arr b = some (ad, cap)) (e2 : A.x.den E = .l rows) (e4 : cap ≤ maxLen) (e5 : rows.length * A.K.by_ ≤ B47)
    (hrd : 0 < cap → ∃ bb, ad = some ⟨bb, 0, none⟩ ∧ ∀ i row, rows[i]? = some row → RdRow g' A.K.kd (fun j => g' bb (i * A.K.kd.length + j)) row) (hg : g.Le g') {q : Pl} (hp : p.Le q) {c : SC} {v : Value} (h : c.is E p g v) : (frzC kn b A c).is E q g' v := by
  cases c with
  | sl b' n =>
    simp only [frzC]
    split
    · rename_i hb
      have hb := Nat.eq_of_beq_eq_true hb
      subst hb
      split
      · rename_i hd
        obtain ⟨ad', c', m, c1, c2, c3, c4⟩ := h
        rw [e1] at c1
        cases c1
        have hle := dec_den hkn hd
        rw [mkLe_den, mkLen_den, e2, c2] at hle
        have hle := of_decide_eq_true hle
        simp only [CD.int_i, CD.rows_l] at hle
        have hle : m ≤ rows.length := by omega
        subst c4
        simp only [SC.is, Rd]
        refine ⟨ad, m, cap, rows.take m, rfl, by rw [mkTake_den e2, c2]; simp, by rw [List.length_take]; omega, c3, e4, Nat.le_trans (Nat.mul_le_mul_right _ hle) e5, fun hm => ?_⟩
        obtain ⟨bb, f1, f2⟩ := hrd (by omega)
        refine ⟨bb, 0, f1, fun i row hi => ?_⟩
        rw [List.getElem?_take] at hi
        split at hi
        · simp only [Nat.zero_add]; exact f2 i row hi
        · cases hi
      · trivial
    · exact SC.is_le hp hg h
  | ep b' z i o =>
    simp only [frzC]
    split
    · trivial
    · exact SC.is_le hp hg h
  | _ => exact SC.is_le hp hg h
theorem frzV_is {A : Ar} {b : Nat} {kn : List X} {q : Pl} (hc : ∀ c v, SC.is E p g c v → SC.is E q g' (frzC kn b A c) v) {x : SV} {v : Value} (h : x.is E p g v) : (frzV kn b A x).is E q g' v := by
  cases x with
  | one c => exact hc c v h
  | agg l =>
    obtain ⟨vs, e, hv⟩ := h
    refine ⟨vs, e, ?_⟩
    clear e
    induction l generalizing vs with
    | nil => cases vs <;> first | trivial | exact hv.elim
    | cons c l ih => cases vs with
      | nil => exact hv.elim
      | cons u vs => exact ⟨hc c u hv.1, ih vs hv.2⟩
theorem frzR_is {A : Ar} {b : Nat} {kn : List X} {q : Pl} (hc : ∀ c v, SC.is E p g c v → SC.is E q g' (frzC kn b A c) v) {x : SR} {v : Value} (h : x.is E p g v) : (frzR kn b A x).is E q g' v := by
  cases x with
  | v x => exact frzV_is hc h
  | tup l =>
    obtain ⟨vs, e, hv⟩ := h
    refine ⟨vs, e, ?_⟩
    clear e
    induction l generalizing vs with
    | nil => cases vs <;> first | trivial | exact hv.elim
    | cons c l ih => cases vs with
      | nil => exact hv.elim
      | cons u vs => exact ⟨frzV_is hc hv.1, ih vs hv.2⟩
theorem frz_frame {A : Ar} {b : Nat} {kn : List X} {q : Pl} (hc : ∀ c v, SC.is E p g c v → SC.is E q g' (frzC kn b A c) v) {t : List SR} {a : Act} (R : FrameOk E p g t a) : FrameOk E q g' (t.map (frzR kn b A)) a := by
  refine ⟨R.defers, by rw [List.length_map]; exact R.size, fun i c h => ?_⟩
  rw [nth_eq, List.getElem?_map, Option.map_eq_some_iff] at h
  obtain ⟨c0, h0, h1⟩ := h
  subst h1
  exact frzR_is hc (R.tmp i c0 (by rw [nth_eq]; exact h0))

theorem frz_sound {b : Nat} {s' : St} (R : Rep B E p g s a as w) (h : frzSt b s = some s') : ∃ q g', p.Le q ∧ g.Le g' ∧ Rep B E q g' s' a as w ∧ KnLe E p s.h q s'.h w.heap.size ∧ s'.nx = s.nx ∧ s'.fn = s.fn := by
  unfold frzSt at h
  split at h
  · rename_i A hA
    cases h
    obtain ⟨ad, cap, rows, e1, e2, e3, e4, e5, e6, e7, e8⟩ := (R.mem.arr b A hA).ex
    have hblk : ∃ (bb : Nat) (cur : Array Value), 0 < cap → ad = some ⟨bb, 0, none⟩ ∧ p.ow bb = .arr b ∧ w.heap[bb]? = some (.cells cur A.e (0, 0)) ∧ cur.size = cap * A.K.kd.length ∧ (∀ i, i < cur.size → B.wr bb i) ∧ ∀ i row, rows[i]? = some row → RdRow g A.K.kd (fun j => cur[i * A.K.kd.length + j]?) row := by
      by_cases h0 : 0 < cap
      · obtain ⟨bb, cur, k⟩ := e8 h0
        exact ⟨bb, cur, fun _ => k⟩
      · exact ⟨0, #[], fun h => absurd h h0⟩
    obtain ⟨bb, cur, hbl⟩ := hblk
    open Classical in
    let g' : Gm := fun k o => if 0 < cap ∧ k = bb then (if o < rows.length * A.K.kd.length then cur[o]? else none) else g k o
    open Classical in
    let q : Pl := { p with ow := fun k => if 0 < cap ∧ k = bb then .z else p.ow k }
    have hp : p.Le q := ⟨fun _ _ h => h, fun _ _ h => h, fun _ _ h => h⟩
    have hg : g.Le g' := fun k o v hk => by
      show (if 0 < cap ∧ k = bb then _ else _) = _
      rw [if_neg]
      · exact hk
      · rintro ⟨c1, rfl⟩
        have := (R.mem.gg k o v hk).2
        rw [(hbl c1).2.1] at this; cases this
    have how : ∀ k, ¬ (0 < cap ∧ k = bb) → q.ow k = p.ow k := fun k hk => if_neg hk
    have hc : ∀ c v, SC.is E p g c v → SC.is E q g' (frzC s.known b A c) v := fun c v h => frzC_is R.known e1 e2 e4 e5 (fun h0 => ⟨bb, (hbl h0).1, fun i row hi => by
      refine RdRow.of ((hbl h0).2.2.2.2.2 i row hi).length fun j k hk => ?_
      obtain ⟨v, hv, hr⟩ := ((hbl h0).2.2.2.2.2 i row hi).cell hk
      refine ⟨v, ?_, Rd.mono hg _ _ _ hr⟩
      show (if 0 < cap ∧ bb = bb then _ else _) = _
      rw [if_pos ⟨h0, rfl⟩, if_pos (flat_lt (List.getElem?_eq_some_iff.1 hk).1 (List.getElem?_eq_some_iff.1 hi).1)]
      exact hv⟩) hg hp h
    have T : Turn (fun _ _ => False) w w := Turn.refl _ _
    refine ⟨q, g', hp, hg, ⟨⟨R.mem.fr, R.mem.g0.trans hg, fun k o v hk => ?_, fun k o v hk => ?_, fun r cs hr => ?_, fun r hr => ?_, fun b' A' hb' => ?_, fun b' hb' => R.mem.afree b' (free_go hb'), R.mem.mm.turn T rfl fun a' b' e1 e2 e3 e4 => (how b' fun ⟨c1, c2⟩ => by rw [c2, (hbl c1).2.1] at e2; cases e2).trans e2⟩, frz_frame hc R.frame, ?_, R.known, R.keep⟩, fun k i hk hkn => ?_, rfl, rfl⟩
    · by_cases c1 : 0 < cap ∧ k = bb
      · have hk : cur[o]? = some v := by
          have hk : (if 0 < cap ∧ k = bb then (if o < rows.length * A.K.kd.length then cur[o]? else none) else g k o) = some v := hk
          rw [if_pos c1] at hk
          split at hk
          · exact hk
          · cases hk
        right
        rw [c1.2]
        exact (hbl c1.1).2.2.2.2.1 o (by
          rcases Nat.lt_or_ge o cur.size with hl | hl
          · exact hl
          · rw [Array.getElem?_eq_none hl] at hk; cases hk)
      · exact R.mem.g1 k o v (by
          have hk : (if 0 < cap ∧ k = bb then (if o < rows.length * A.K.kd.length then cur[o]? else none) else g k o) = some v := hk
          rw [if_neg c1] at hk; exact hk)
    · by_cases c1 : 0 < cap ∧ k = bb
      · have hk : cur[o]? = some v := by
          have hk : (if 0 < cap ∧ k = bb then (if o < rows.length * A.K.kd.length then cur[o]? else none) else g k o) = some v := hk
          rw [if_pos c1] at hk
          split at hk
          · exact hk
          · cases hk
        refine ⟨?_, if_pos c1⟩
        rw [c1.2]
        simp [World.cell?, (hbl c1.1).2.2.1, hk]
      · have hk : g k o = some v := by
          have hk : (if 0 < cap ∧ k = bb then (if o < rows.length * A.K.kd.length then cur[o]? else none) else g k o) = some v := hk
          rw [if_neg c1] at hk; exact hk
        exact ⟨(R.mem.gg k o v hk).1, (how k c1).trans (R.mem.gg k o v hk).2⟩
    · rw [nth_eq, List.getElem?_map, Option.map_eq_some_iff] at hr
      obtain ⟨r0, h0, h1⟩ := hr
      cases r0 with
      | «at» cs0 =>
        simp only [Pc.map, Pc.at.injEq] at h1
        subst h1
        obtain ⟨b1, q1, k1, k2, k3, k4⟩ := (R.mem.reg r cs0 (by rw [nth_eq]; exact h0)).ex
        refine ⟨b1, q1, k1, (how b1 ?_).trans k2, k3, fun o c ho => ?_⟩
        · rintro ⟨c1, rfl⟩
          rw [(hbl c1).2.1] at k2; cases k2
        · rw [nth_eq, List.getElem?_map, Option.map_eq_some_iff] at ho
          obtain ⟨c0, ho0, ho1⟩ := ho
          subst ho1
          obtain ⟨f1, f2, v, f3, f4⟩ := k4 o c0 (by rw [nth_eq]; exact ho0)
          exact ⟨f1, f2, v, f3, hc _ _ f4⟩
      | fr => simp [Pc.map] at h1
      | go => simp [Pc.map] at h1
    · refine R.mem.rfree r ?_
      rw [nth_eq, List.getElem?_map] at hr
      rw [nth_eq]
      cases h0 : s.h.regs[r]? with
      | none => exact .inl rfl
      | some r0 =>
        rw [h0] at hr
        cases r0 <;> simp [Pc.map] at hr ⊢
    · have hb2 : b' ≠ b ∧ nth s.h.arrs b' = some (.at A') := by
        rw [nth_setNth] at hb'
        split at hb'
        · split at hb' <;> cases hb'
        · rename_i hne; exact ⟨fun e => hne e.symm, hb'⟩
      refine (R.mem.arr b' A' hb2.2).turn T (fun _ _ _ _ _ _ _ h => h) hp hg fun b1 c k1 k2 k3 k4 => (how b1 ?_).trans k4
      rintro ⟨c1, rfl⟩
      rw [(hbl c1).2.1] at k4
      cases k4
      exact hb2.1 rfl
    · have hm : ∀ (l : List (List SR)) (m : List Act), All2 (FrameOk E p g) l m → All2 (FrameOk E q g') (l.map fun l => l.map (frzR s.known b A)) m := by
        intro l
        induction l with
        | nil => intro m h; cases m <;> first | trivial | exact h.elim
        | cons t l ih => intro m h; cases m with
          | nil => exact h.elim
          | cons u m => exact ⟨frz_frame hc h.1, ih m h.2⟩
      exact hm _ _ R.stk
    · by_cases hbk : 0 < cap ∧ k = bb
      · exact .inl (if_pos hbk)
      · rcases hkn with k1 | ⟨r, cs, b1, q1, k1, k2, rfl, k3⟩ | ⟨b', A', b1, c, k1, k2, rfl, k3⟩
        · exact .inl ((how k hbk).trans k1)
        · refine .inr (.inl ⟨r, cs.map (frzC s.known b A), k, q1, ?_, k2, rfl, by rw [List.length_map]; exact k3⟩)
          rw [nth_eq, List.getElem?_map, ← nth_eq, k1]; rfl
        · by_cases hbb : b' = b
          · subst hbb
            rw [hA] at k1
            cases k1
            rw [e1] at k2
            cases k2
            rw [e2, CD.rows_l] at k3
            have h0 : 0 < cap := by
              rcases Nat.eq_zero_or_pos cap with h0 | h0
              · have : rows.length = 0 := by omega
                rw [this, Nat.zero_mul] at k3; omega
              · exact h0
            have := (hbl h0).1
            cases this
            exact absurd ⟨h0, rfl⟩ hbk
          · refine .inr (.inr ⟨b', A', k, c, ?_, k2, rfl, k3⟩)
            rw [nth_setNth, if_neg (fun e => hbb e.symm)]; exact k1
  · cases h
theorem frzThen_den {b : Nat} {k : St → Tree} (R : Rep B E p g s a as w) (h : (frzThen b s k).den Γ Q E J) : ∃ s' q g', p.Le q ∧ g.Le g' ∧ Rep B E q g' s' a as w ∧ KnLe E p s.h q s'.h w.heap.size ∧ s'.nx = s.nx ∧ s'.fn = s.fn ∧ (k s').den Γ Q E J := by
  unfold frzThen at h
  split at h
  · rename_i s' hs
    obtain ⟨q, g', h1, h2, h3, h4, h5, h6⟩ := frz_sound R hs
    exact ⟨s', q, g', h1, h2, h3, h4, h5, h6, h⟩
  · exact h.elim
end
end Go.Sy

/- Cells of letters; what is handed over and handed back. -/
namespace Go.Sy
open Go.RowKit

section
variable {E E' : Env} {p p' : Pl} {g g' : Gm}

/-! ### Lists side by side -/
theorem All2.append {α β : Type} {R : α → β → Prop} : ∀ {l l' : List α} {m m' : List β}, All2 R l m → All2 R l' m' → All2 R (l ++ l') (m ++ m')
  | [], _, [], _, _, h => h
  | _ :: _, _, _ :: _, _, h, h' => ⟨h.1, All2.append h.2 h'⟩
  | [], _, _ :: _, _, h, _ => h.elim
  | _ :: _, _, [], _, h, _ => h.elim
theorem All2.take {α β : Type} {R : α → β → Prop} : ∀ {l : List α} {m : List β} (n : Nat), All2 R l m → All2 R (l.take n) (m.take n)
  | _, _, 0, _ => trivial
  | [], [], _ + 1, _ => trivial
  | _ :: _, _ :: _, n + 1, h => ⟨h.1, All2.take n h.2⟩
  | [], _ :: _, _, h => h.elim
  | _ :: _, [], _, h => h.elim
theorem All2.drop {α β : Type} {R : α → β → Prop} : ∀ {l : List α} {m : List β} (n : Nat), All2 R l m → All2 R (l.drop n) (m.drop n)
  | _, _, 0, h => h
  | [], [], _ + 1, _ => trivial
  | _ :: _, _ :: _, n + 1, h => All2.drop n h.2
  | [], _ :: _, _, h => h.elim
  | _ :: _, [], _, h => h.elim
theorem All2.conv {α β γ : Type} {R : α → β → Prop} {S : α → γ → Prop} {U : γ → β → Prop} (hu : ∀ a b c, S a c → R a b → U c b) : ∀ {l : List α} {m : List β} {n : List γ}, All2 S l n → All2 R l m → All2 U n m
  | [], [], [], _, _ => trivial
  | _ :: _, _ :: _, _ :: _, h, k => ⟨hu _ _ _ h.1 k.1, All2.conv hu h.2 k.2⟩
  | [], _ :: _, _, _, h => h.elim
  | _ :: _, [], _, _, h => h.elim
  | [], _, _ :: _, h, _ => h.elim
  | _ :: _, _, [], h, _ => h.elim

/-! ### Cells of letters -/
def PK.isOwn : PK → Bool | .own _ _ => true | _ => false
theorem length_mkC : ∀ (ks : List PK) (nx na : Nat), (mkC nx na ks).length = ks.length
  | [], _, _ => rfl
  | k :: l, nx, na => by cases k <;> simp [mkC, length_mkC l]
def cnt : List PK → Nat
  | [] => 0
  | .own _ _ :: l => cnt l + 1
  | _ :: l => cnt l
theorem length_mkA : ∀ (ks : List PK) (nx : Nat), (mkA nx ks).length = cnt ks
  | [], _ => rfl
  | k :: l, nx => by cases k <;> simp [mkA, cnt, length_mkA l]

/-- A flat kind reads the same whatever is only read. -/
theorem Rd.flat {k : Kd} {v : Value} {d : CD} (hk : k.isSl = false) (h : Rd g k v d) : Rd g' k v d := by
  cases k <;> first
    | exact h
    | cases hk
theorem RdRow.flat : ∀ {kd : List Kd} {f : Nat → Option Value} {row : List CD}, anyB Kd.isSl kd = false → RdRow g kd f row → RdRow g' kd f row
  | [], _, [], _, _ => trivial
  | k :: ks, f, d :: ds, hk, ⟨⟨v, hv, hr⟩, hrest⟩ => by
    simp only [anyB, Bool.or_eq_false_iff] at hk
    exact ⟨⟨v, hv, hr.flat hk.1⟩, RdRow.flat hk.2 hrest⟩
  | [], _, _ :: _, _, h => h.elim
  | _ :: _, _, [], _, h => h.elim

/-- The same cells, of other letters and other numbers of arrays. -/
theorem mkC_conv {nx nx' na na' : Nat} : ∀ {ks : List PK}, (∀ i, i < ks.length → E' (nx' + i) = E (nx + i)) → (∀ i, i < cnt ks → p'.arr (na' + i) = p.arr (na + i)) → (g.Le g' ∨ anyB PK.isFz ks = false) →
    All2 (fun c c' => ∀ v, SC.is E p g c v → SC.is E' p' g' c' v) (mkC nx na ks) (mkC nx' na' ks) := by
  intro ks
  induction ks generalizing nx nx' na na' with
  | nil => intro _ _ _; trivial
  | cons k l ih =>
    intro hE hp hg
    have h0 : E' nx' = E nx := hE 0 (by simp)
    have hE' : ∀ i, i < l.length → E' (nx' + 1 + i) = E (nx + 1 + i) := fun i hi => by
      have := hE (i + 1) (by simp; omega)
      rw [show nx' + 1 + i = nx' + (i + 1) from by omega, show nx + 1 + i = nx + (i + 1) from by omega]; exact this
    have hg' : g.Le g' ∨ anyB PK.isFz l = false := by
      rcases hg with hg | hg
      · exact .inl hg
      · simp only [anyB, Bool.or_eq_false_iff] at hg; exact .inr hg.2
    cases k with
    | int k => exact ⟨fun v ⟨n, h1, h2⟩ => ⟨n, by simp only [X.den] at h1 ⊢; rw [h0]; exact h1, h2⟩, ih hE' hp hg'⟩
    | bool => exact ⟨fun v ⟨n, h1, h2⟩ => ⟨n, by simp only [X.den] at h1 ⊢; rw [h0]; exact h1, h2⟩, ih hE' hp hg'⟩
    | str => exact ⟨fun v ⟨n, h1, h2⟩ => ⟨n, by simp only [X.den] at h1 ⊢; rw [h0]; exact h1, h2⟩, ih hE' hp hg'⟩
    | fz K =>
      refine ⟨fun v h => ?_, ih hE' hp hg'⟩
      rcases hg with hg | hg
      · have h : Rd g _ v _ := h
        simp only [SC.is, X.den] at h ⊢
        rw [h0]; exact Rd.mono hg _ _ _ h
      · simp [anyB, PK.isFz] at hg
    | own e K =>
      have hp0 : p'.arr na' = p.arr na := hp 0 (by simp [cnt])
      refine ⟨fun v ⟨A, c, m, h1, h2, h3, h4⟩ => ⟨A, c, m, by rw [hp0]; exact h1, by simp only [X.den] at h2 ⊢; rw [h0]; exact h2, h3, h4⟩, ih hE' (fun i hi => ?_) hg'⟩
      have := hp (i + 1) (by simp [cnt]; omega)
      rw [show na' + 1 + i = na' + (i + 1) from by omega, show na + 1 + i = na + (i + 1) from by omega]; exact this

theorem grpV_conv {R : SC → SC → Prop} (hR : ∀ c c', R c c' → ∀ v, SC.is E p g c v → SC.is E' p' g' c' v) : ∀ {rs : List RK} {cs cs' : List SC}, All2 R cs cs' → All2 (fun x x' => ∀ v, SV.is E p g x v → SV.is E' p' g' x' v) (grpV rs cs) (grpV rs cs')
  | [], cs, cs', _ => by simp only [grpV]; trivial
  | .one k :: l, [], [], _ => by simp only [grpV]; trivial
  | .one k :: l, c :: cs, c' :: cs', h => by simp only [grpV]; exact ⟨hR c c' h.1, grpV_conv hR h.2⟩
  | .agg ks :: l, cs, cs', h => by
    have e : grpV (.agg ks :: l) cs = .agg (cs.take ks.length) :: grpV l (cs.drop ks.length) := by cases cs <;> rfl
    have e' : grpV (.agg ks :: l) cs' = .agg (cs'.take ks.length) :: grpV l (cs'.drop ks.length) := by cases cs' <;> rfl
    rw [e, e']
    refine ⟨fun v ⟨vs, e1, hv⟩ => ⟨vs, e1, All2.conv (fun a b c h1 h2 => hR a c h1 b h2) (h.take ks.length) hv⟩, grpV_conv hR (h.drop ks.length)⟩
  | .one _ :: _, [], _ :: _, h => h.elim
  | .one _ :: _, _ :: _, [], h => h.elim
theorem toSR_conv {xs xs' : List SV} {v : Value} (h : All2 (fun x x' => ∀ v, SV.is E p g x v → SV.is E' p' g' x' v) xs xs') (hv : (toSR xs).is E p g v) : (toSR xs').is E' p' g' v := by
  match xs, xs', h with
  | [], [], _ =>
    obtain ⟨vs, e, h2⟩ := hv
    cases vs with
    | nil => exact ⟨[], e, trivial⟩
    | cons a l => exact h2.elim
  | [x], [x'], h => exact h.1 v hv
  | x :: y :: l, x' :: y' :: l', h =>
    obtain ⟨vs, e, h2⟩ := hv
    exact ⟨vs, e, All2.conv (fun a b c h1 h2 => h1 b h2) h h2⟩
  | [], _ :: _, h => exact h.elim
  | _ :: _, [], h => exact h.elim
  | [_], _ :: _ :: _, h => exact h.2.elim
  | _ :: _ :: _, [_], h => exact h.2.elim
theorem grpP_conv {R : SC → SC → Prop} : ∀ {as : List AK} {cs cs' : List SC}, All2 R cs cs' → All2 (All2 R) (grpP as cs) (grpP as cs')
  | [], _, _, _ => trivial
  | .ptr ks :: l, cs, cs', h => ⟨h.take ks.length, grpP_conv (as := l) (h.drop ks.length)⟩
  | .one _ :: l, cs, cs', h => by simp only [grpP]; exact grpP_conv h
  | .agg _ :: l, cs, cs', h => by simp only [grpP]; exact grpP_conv h
end

/-! ### What is handed over -/
section
variable {B : Base} {E : Env} {p : Pl} {g : Gm} {h : Hp} {w : World}

theorem SK.pos_lt {K : SK} (h : K.pos = true) : 0 < K.by_ ∧ 0 < K.kd.length := by
  simp only [SK.pos, Bool.and_eq_true] at h
  exact ⟨blt_lt h.1, blt_lt h.2⟩
/-- An array's cells, where it is lent. -/
def LentOk (E : Env) (p : Pl) (h : Hp) (w : World) (gc : Gm) (a : Nat) : Prop := ∀ A b c, nth h.arrs a = some (.at A) → p.arr a = some (some ⟨b, 0, none⟩, c) → 0 < c → ∀ i v, i < (A.x.den E).rows.length * A.K.kd.length → w.cell? ⟨b, i, none⟩ = some v → gc b i = some v
/-- What stands behind one that is handed over. -/
def OwnIs (E : Env) (p : Pl) (h : Hp) (o : Option Nat) (pl : Option Addr × Nat) (e : Nat) (K : SK) (d : CD) : Prop := match o with
  | some a => p.arr a = some pl ∧ ∃ A n rows, nth h.arrs a = some (.at A) ∧ A.e = e ∧ A.K = K ∧ A.x.den E = .l rows ∧ n ≤ rows.length ∧ d = .l (rows.take n)
  | none => pl.2 = 0 ∧ d = .l [] ∧ 0 < K.by_ ∧ 0 < K.kd.length
def OwnsIs (E : Env) (p : Pl) (h : Hp) : List PK → List CD → List (Option Nat) → List (Option Addr × Nat) → Prop
  | [], [], [], [] => True
  | .own e K :: ks, d :: ds, o :: os, pl :: pls => OwnIs E p h o pl e K d ∧ OwnsIs E p h ks ds os pls
  | .own _ _ :: _, _, _, _ => False
  | _ :: ks, _ :: ds, os, pls => OwnsIs E p h ks ds os pls
  | _, _, _, _ => False

theorem mtC_sound (H : RepH B E p g h w) {k : PK} {c : SC} {m : Mt} {u : Value} (hm : mtC h k c = some m) (hu : c.is E p g u) (hn : ∀ b ∈ m.need, (b.den E).bool = true) :
    ∃ x, m.data = [x] ∧ CD.ok k.kd (x.den E) ∧ ((k.isOwn = false ∧ m.own = [] ∧ ∀ (Ec : Env) (pc : Pl) (gc : Gm) (nx na : Nat), Ec nx = x.den E → g.Le gc → (∀ a ∈ m.lent, LentOk E p h w gc a) → ∀ l, ∃ c', mkC nx na (k :: l) = c' :: mkC (nx + 1) na l ∧ c'.is Ec pc gc u) ∨
      (∃ e K o pl, k = .own e K ∧ m.own = [o] ∧ m.lent = [] ∧ OwnIs E p h o pl e K (x.den E) ∧ ∀ (Ec : Env) (pc : Pl) (gc : Gm) (nx na : Nat), Ec nx = x.den E → pc.arr na = some pl → SC.is Ec pc gc (.sl na (.len (.var nx))) u)) := by
  unfold mtC at hm
  split at hm
  · split at hm
    · rename_i hk
      cases hm
      obtain ⟨n, h1, h2⟩ := hu
      refine ⟨_, rfl, ⟨n, h1⟩, .inl ⟨rfl, rfl, fun Ec pc gc nx na hE _ _ l => ⟨_, rfl, n, by simp only [X.den]; rw [hE]; exact h1, by rw [h2, IntKind.same_eq hk]⟩⟩⟩
    · cases hm
  · cases hm
    obtain ⟨n, h1, h2⟩ := hu
    exact ⟨_, rfl, ⟨n, h1⟩, .inl ⟨rfl, rfl, fun Ec pc gc nx na hE _ _ l => ⟨_, rfl, n, by simp only [X.den]; rw [hE]; exact h1, h2⟩⟩⟩
  · cases hm
    obtain ⟨n, h1, h2⟩ := hu
    exact ⟨_, rfl, ⟨_, h1⟩, .inl ⟨rfl, rfl, fun Ec pc gc nx na hE _ _ l => ⟨_, rfl, n, by simp only [X.den]; rw [hE]; exact h1, h2⟩⟩⟩
  · rename_i K
    split at hm
    · rename_i ns x hsl
      cases hm
      obtain ⟨A, mm, cc, rows, news, y1, y2, y3, y4, y5, y6, y7, y8, y9, y10⟩ := slData_sound H hsl hu hn
      have hokrow : ∀ row, row ∈ rows → CD.oks K.kd row := fun row hr => by
        obtain ⟨i, hi⟩ := List.getElem?_of_mem hr
        exact RdRow.oks _ _ _ (y10 i row hi)
      refine ⟨x, rfl, ⟨rows, y2, by rw [y3]; exact y6, hokrow⟩, .inl ⟨rfl, rfl, fun Ec pc gc nx na hE hg hl l => ⟨_, rfl, ?_⟩⟩⟩
      have key : Rd gc (.sl K.by_ K.kd) u (x.den E) := by
        unfold slData at hsl
        split at hsl
        · split at hsl
          · rename_i hs
            cases hsl
            have := SK.same_eq hs
            subst this
            exact Rd.mono hg _ _ _ hu
          · cases hsl
        · cases hsl
          have : u = .slice none 0 0 := hu
          subst this; exact Rd.nil _
        · cases hsl
          obtain ⟨A, hA⟩ := hu
          subst hA; exact Rd.nil _
        · rename_i b n
          split at hsl
          · rename_i A' hA'
            split at hsl
            · rename_i hs
              cases hsl
              have hs := SK.same_eq hs
              subst hs
              obtain ⟨ad, cap, rows', e1, e2, e3, e4, e5, e6, e7, e8⟩ := (H.arr b A' hA').ex
              obtain ⟨ad', c', k, c1, c2, c3, c4⟩ := hu
              rw [e1] at c1
              cases c1
              have hle := hn (mkLe n (mkLen A'.x)) (by simp)
              rw [mkLe_den, mkLen_den, e2, c2] at hle
              have hle := of_decide_eq_true hle
              simp only [CD.int_i, CD.rows_l] at hle
              have hle : k ≤ rows'.length := by omega
              subst c4
              simp only [Rd]
              refine ⟨ad, k, cap, rows'.take k, rfl, by rw [mkTake_den e2, c2]; simp, by rw [List.length_take]; omega, c3, e4, Nat.le_trans (Nat.mul_le_mul_right _ hle) e5, fun hk => ?_⟩
              obtain ⟨bb, cur, f1, f2, f3, f4, f5, f6⟩ := e8 (by omega)
              subst f1
              refine ⟨bb, 0, rfl, fun i row hi => ?_⟩
              rw [List.getElem?_take] at hi
              split at hi
              · have hr := f6 i row hi
                refine RdRow.of hr.length fun j kk hkk => ?_
                obtain ⟨v, hv, hrd⟩ := hr.cell hkk
                refine ⟨v, ?_, Rd.mono hg _ _ _ hrd⟩
                rw [Nat.zero_add]
                refine hl b (by simp) A' bb cap hA' e1 (by omega) _ v ?_ (by simp [World.cell?, f3, hv])
                rw [e2]
                exact flat_lt (List.getElem?_eq_some_iff.1 hkk).1 (List.getElem?_eq_some_iff.1 hi).1
              · cases hi
            · cases hsl
          · cases hsl
        · cases hsl
      show Rd gc (.sl K.by_ K.kd) u ((X.var nx).den Ec)
      simp only [X.den]
      rw [hE]
      exact key
    · cases hm
  · rename_i e K a n
    split at hm
    · rename_i A hA
      split at hm
      · rename_i hs
        simp only [Bool.and_eq_true] at hs
        cases hm
        obtain ⟨ad, cap, rows, e1, e2, e3, e4, e5, e6, e7, e8⟩ := (H.arr a A hA).ex
        obtain ⟨ad', c', k, c1, c2, c3, c4⟩ := hu
        rw [e1] at c1
        cases c1
        have hle := hn (mkLe n (mkLen A.x)) (by simp)
        rw [mkLe_den, mkLen_den, e2, c2] at hle
        have hle := of_decide_eq_true hle
        simp only [CD.int_i, CD.rows_l] at hle
        have hle : k ≤ rows.length := by omega
        have hd : (mkTake n A.x).den E = .l (rows.take k) := by rw [mkTake_den e2, c2]; simp
        have hAK := SK.same_eq hs.2
        subst hAK
        refine ⟨_, rfl, ⟨rows.take k, hd, ?_, fun row hr => ?_⟩, .inr ⟨e, _, some a, (ad, cap), rfl, rfl, rfl, ⟨e1, A, k, rows, hA, Nat.eq_of_beq_eq_true hs.1, rfl, e2, hle, hd⟩, fun Ec pc gc nx na hE hp => ⟨ad, cap, k, hp, ?_, c3, c4⟩⟩⟩
        · rw [List.length_take]
          exact Nat.le_trans (Nat.mul_le_mul_right _ (Nat.min_le_right _ _)) e5
        · obtain ⟨i, hi⟩ := List.getElem?_of_mem hr
          rw [List.getElem?_take] at hi
          split at hi
          · obtain ⟨bb, cur, f1, f2, f3, f4, f5, f6⟩ := e8 (by have := (List.getElem?_eq_some_iff.1 hi).1; omega)
            exact RdRow.oks _ _ _ (f6 i row hi)
          · cases hi
        · simp only [X.den]
          rw [hE, hd, CD.rows_l, List.length_take, Nat.min_eq_left hle]
      · cases hm
    · cases hm
  · rename_i e K
    split at hm
    · rename_i hK
      have hK := SK.pos_lt hK
      cases hm
      have hu : u = .slice none 0 0 := hu
      exact ⟨_, rfl, ⟨[], rfl, by simp, fun _ h => by cases h⟩, .inr ⟨e, K, none, (none, 0), rfl, rfl, rfl, ⟨rfl, rfl, hK⟩, fun Ec pc gc nx na hE hp => ⟨none, 0, 0, hp, by simp only [X.den]; rw [hE]; rfl, Nat.le_refl _, hu⟩⟩⟩
    · cases hm
  · rename_i e K
    split at hm
    · rename_i hK
      have hK := SK.pos_lt hK
      cases hm
      obtain ⟨A, hu⟩ := hu
      exact ⟨_, rfl, ⟨[], rfl, by simp, fun _ h => by cases h⟩, .inr ⟨e, K, none, (A, 0), rfl, rfl, rfl, ⟨rfl, rfl, hK⟩, fun Ec pc gc nx na hE hp => ⟨A, 0, 0, hp, by simp only [X.den]; rw [hE]; rfl, Nat.le_refl _, hu⟩⟩⟩
    · cases hm
  · cases hm

theorem mtCs_sound (H : RepH B E p g h w) : ∀ {ks : List PK} {cs : List SC} {us : List Value} {m : Mt}, mtCs h ks cs = some m → All2 (SC.is E p g) cs us → (∀ b ∈ m.need, (b.den E).bool = true) →
    m.data.length = ks.length ∧ CD.oks (ks.map PK.kd) (m.data.map (X.den E)) ∧ ∃ L : List (Option Addr × Nat), OwnsIs E p h ks (m.data.map (X.den E)) m.own L ∧ L.length = cnt ks ∧ m.own.length = cnt ks ∧
      ∀ (Ec : Env) (pc : Pl) (gc : Gm) (nx na : Nat), (∀ i x, m.data[i]? = some x → Ec (nx + i) = x.den E) → (∀ i pl, L[i]? = some pl → pc.arr (na + i) = some pl) → g.Le gc → (∀ a ∈ m.lent, LentOk E p h w gc a) → All2 (SC.is Ec pc gc) (mkC nx na ks) us
  | [], [], us, m, hm, hu, hn => by
    simp only [mtCs, Option.some.injEq] at hm
    subst hm
    cases us with
    | nil => exact ⟨rfl, trivial, [], trivial, rfl, rfl, fun _ _ _ _ _ _ _ _ _ => trivial⟩
    | cons u us => exact hu.elim
  | k :: ks, c :: cs, us, m, hm, hu, hn => by
    cases us with
    | nil => exact hu.elim
    | cons u us =>
      simp only [mtCs] at hm
      split at hm
      · rename_i m1 m2 h1 h2
        cases hm
        obtain ⟨x, d1, d2, d3⟩ := mtC_sound H h1 hu.1 (fun b hb => hn b (List.mem_append_left _ hb))
        obtain ⟨i1, i2, L, i3, i4, i5, i6⟩ := mtCs_sound H h2 hu.2 (fun b hb => hn b (List.mem_append_right _ hb))
        simp only [d1, List.singleton_append, List.map_cons, List.length_cons]
        refine ⟨by rw [i1], ⟨d2, i2⟩, ?_⟩
        rcases d3 with ⟨o1, o2, o3⟩ | ⟨e, K, o, pl, o1, o2, o3, o4, o5⟩
        · refine ⟨L, ?_, ?_, ?_, fun Ec pc gc nx na hE hL hg hl => ?_⟩
          · rw [o2]
            cases k <;> first | exact i3 | cases o1
          · cases k <;> first | exact i4 | cases o1
          · rw [o2]
            cases k <;> first | exact i5 | cases o1
          · obtain ⟨c', e1, e2⟩ := o3 Ec pc gc nx na (hE 0 x rfl) hg (fun a ha => hl a (List.mem_append_left _ ha)) ks
            rw [e1]
            exact ⟨e2, i6 Ec pc gc (nx + 1) na (fun i x hi => by rw [show nx + 1 + i = nx + (i + 1) from by omega]; exact hE (i + 1) x (by simpa using hi)) hL hg fun a ha => hl a (List.mem_append_right _ ha)⟩
        · subst o1
          refine ⟨pl :: L, ?_, by simp [cnt, i4], by simp [o2, cnt, i5], fun Ec pc gc nx na hE hL hg hl => ?_⟩
          · rw [o2]; exact ⟨o4, i3⟩
          · exact ⟨o5 Ec pc gc nx na (hE 0 x rfl) (hL 0 pl rfl), i6 Ec pc gc (nx + 1) (na + 1) (fun i x hi => by rw [show nx + 1 + i = nx + (i + 1) from by omega]; exact hE (i + 1) x (by simpa using hi)) (fun i pl' hi => by rw [show na + 1 + i = na + (i + 1) from by omega]; exact hL (i + 1) pl' (by simpa using hi)) hg fun a ha => hl a (List.mem_append_right _ ha)⟩
      · cases hm
  | [], _ :: _, _, _, hm, _, _ => by simp [mtCs] at hm
  | _ :: _, [], _, _, hm, _, _ => by simp [mtCs] at hm
end
end Go.Sy
