/- Memory that turns: stores; new regions and arrays; an array that is let go, or only read from here on. -/
import Derived.Test.YtpmamacjepcdmaaSyOps
namespace Go.Sy
open Go.RowKit

/-- Cells written in a row. -/
theorem setCells_turn (b : Nat) : ∀ (vs : List Value) (o : Nat) (w : World), Turn (fun k i => k = b ∧ o ≤ i ∧ i < o + vs.length) w (w.setCells b o vs)
  | [], o, w => Turn.refl _ w
  | v :: vs, o, w => by
    have h1 : Turn (fun k i => k = b ∧ i = o) w (w.setCell ⟨b, o, none⟩ v) := by
      refine ⟨rfl, rfl, rfl, by simp, fun k ob hk => ?_⟩
      by_cases hb : k = b
      · subst hb
        cases ob with
        | cells c e f =>
          refine ⟨.cells (c.setIfInBounds o v) e f, by simp [World.setCell, Array.getElem?_modify, hk], c.setIfInBounds o v, rfl, by simp, fun i hi => ?_⟩
          rw [Array.getElem?_setIfInBounds_ne (fun h => hi ⟨rfl, h.symm⟩)]
        | _ => exact ⟨_, by simp [World.setCell, Array.getElem?_modify, hk], rfl⟩
      · exact ⟨ob, (Below.heap_setCell _ _ _ _ hb).trans hk, ObjFr.refl _ _⟩
    have h2 := setCells_turn b vs (o + 1) (w.setCell ⟨b, o, none⟩ v)
    rw [World.setCells]
    refine (h1.trans h2).mono fun k i _ h => ?_
    simp only [List.length_cons]
    rcases h with ⟨rfl, rfl⟩ | ⟨rfl, h3, h4⟩
    · exact ⟨rfl, by omega, by omega⟩
    · exact ⟨rfl, by omega, by omega⟩

section
variable {B : Base} {E : Env} {p : Pl} {g : Gm} {h : Hp} {w w' : World} {Mc : Nat → Nat → Prop}

theorem RegOk.own {r : Nat} {cs : List SC} (R : RegOk B E p g r cs w) {b q : Nat} (e : p.reg r = some (b, q)) : p.ow b = .reg r := by
  obtain ⟨b', q1, e1, e2, _⟩ := R.ex
  rw [e] at e1; cases e1; exact e2

/-- What one owner has turns. -/
theorem RepH.turnAt {o : Ow} (H : RepH B E p g h w) (T : Turn Mc w w') (hz : o ≠ .z) (hM : ∀ k i, k < w.heap.size → Mc k i → p.ow k = o ∧ B.wr k i) {h' : Hp}
    (hreg : ∀ r cs, nth h'.regs r = some (.at cs) → (o ≠ .reg r ∧ nth h.regs r = some (.at cs)) ∨ RegOk B E p g r cs w') (hrf : ∀ r, nth h'.regs r = none ∨ nth h'.regs r = some .fr → p.reg r = none)
    (harr : ∀ a A, nth h'.arrs a = some (.at A) → (o ≠ .arr a ∧ nth h.arrs a = some (.at A)) ∨ ArOk B E p g a A w') (haf : ∀ a, nth h'.arrs a = none ∨ nth h'.arrs a = some .fr → p.arr a = none) (hmp : h'.mps = h.mps := by rfl) : RepH B E p g h' w' := by
  refine ⟨H.fr_turn T fun k i hk hm => (hM k i hk hm).2, H.g0, H.g1, fun k i v hk => ⟨H.gg_turn T (fun k i hk hm => by rw [(hM k i hk hm).1]; exact hz) hk, (H.gg k i v hk).2⟩, fun r cs hr => ?_, hrf, fun a A ha => ?_, haf, by rw [hmp]; exact H.mm.keep T⟩
  · rcases hreg r cs hr with ⟨h1, h2⟩ | h1
    · have R := H.reg r cs h2
      refine R.turn T (fun b q i e hi hm => ?_) (Pl.Le.refl _) (Gm.Le.refl _) fun b q e => R.own e
      have hlt : b < w.heap.size := by obtain ⟨b', q', e1, _, e3, _⟩ := R.ex; rw [e] at e1; cases e1; exact e3
      exact h1 ((hM _ _ hlt hm).1.symm.trans (R.own e))
    · exact h1
  · rcases harr a A ha with ⟨h1, h2⟩ | h1
    · exact (H.arr a A h2).turn T (fun b c i e _ hlt ho hm => h1 ((hM _ _ hlt hm).1.symm.trans ho)) (Pl.Le.refl _) (Gm.Le.refl _) fun _ _ _ _ _ h => h
    · exact h1

theorem getElem_nth {α : Type} {l : List α} {i : Nat} (h : i < l.length) : nth l i = some l[i] := by rw [nth_eq]; exact List.getElem?_eq_getElem h
theorem free_set {α : Type} {l : List (Pc α)} {a : Nat} {x : α} {r : Nat} (h : nth (setNth l a (.at x)) r = none ∨ nth (setNth l a (.at x)) r = some .fr) : nth l r = none ∨ nth l r = some .fr := by
  rw [nth_setNth] at h
  split at h
  · rename_i e
    subst e
    split at h
    · rcases h with h | h <;> cases h
    · rename_i hl
      exact .inl (nth_none (by omega))
  · exact h
theorem free_go {α : Type} {l : List (Pc α)} {a : Nat} {r : Nat} (h : nth (setNth l a .go) r = none ∨ nth (setNth l a .go) r = some .fr) : nth l r = none ∨ nth l r = some .fr := by
  rw [nth_setNth] at h
  split at h
  · rename_i e
    subst e
    split at h
    · rcases h with h | h <;> cases h
    · rename_i hl
      exact .inl (nth_none (by omega))
  · exact h

/-- A store into a region. -/
theorem RepH.storeReg (H : RepH B E p g h w) {r o : Nat} {cs m : List SC} {vs : List Value} (hr : nth h.regs r = some (.at cs)) (hle : o + m.length ≤ cs.length) (hv : All2 (SC.is E p g) m vs) {b q : Nat} (hp : p.reg r = some (b, q)) :
    RepH B E p g { h with regs := setNth h.regs r (.at (putFrom cs o m)) } (w.setCells b (q + o) vs) := by
  have R := H.reg r cs hr
  have hrl := nth_lt hr
  have hvl := hv.length
  have T := setCells_turn b vs (q + o) w
  have hcell : ∀ i c, nth cs i = some c → B.wr b (q + i) ∧ w.frozen? ⟨b, q + i, none⟩ = false ∧ ∃ v, w.cell? ⟨b, q + i, none⟩ = some v ∧ c.is E p g v := fun i c hc => by
    obtain ⟨b', q', e1, _, _, e4⟩ := R.ex
    rw [hp] at e1; cases e1; exact e4 i c hc
  have hlt : b < w.heap.size := by obtain ⟨b', q', e1, _, e3, _⟩ := R.ex; rw [hp] at e1; cases e1; exact e3
  refine H.turnAt T (o := .reg r) (by simp) (fun k i _ ⟨e, h1, h2⟩ => ?_) (fun s cs' hs => ?_) (fun s hs => H.rfree s (free_set hs)) (fun a A ha => .inl ⟨by simp, ha⟩) H.afree
  · subst e
    obtain ⟨c, hc⟩ := nth_some (l := cs) (i := i - q) (by omega)
    have := (hcell _ c hc).1
    rw [show q + (i - q) = i from by omega] at this
    exact ⟨R.own hp, this⟩
  · rw [nth_setNth] at hs
    split at hs
    · rename_i e
      subst e
      simp only [Option.some.injEq, Pc.at.injEq] at hs
      subst hs
      right
      refine ⟨b, q, hp, R.own hp, Nat.lt_of_lt_of_le hlt T.size, fun i c hi => ?_⟩
      have hil := nth_lt hi
      rw [length_putFrom] at hil
      obtain ⟨c0, hc0⟩ := nth_some hil
      obtain ⟨k1, k2, v0, k3, k4⟩ := hcell i c0 hc0
      refine ⟨k1, (T.frozen hlt _).trans k2, ?_⟩
      rw [nth_putFrom m cs o i hle] at hi
      split at hi
      · rename_i hin
        obtain ⟨v, hv1, hc⟩ := hv.nth hi
        have hj : i - o < vs.length := nth_lt hv1
        refine ⟨v, ?_, hc⟩
        have := World.cell?_setCells_in b vs (q + o) w (fun j hj => by
          obtain ⟨c1, hc1⟩ := nth_some (l := cs) (i := o + j) (by omega)
          obtain ⟨_, _, v1, h1, _⟩ := hcell (o + j) c1 hc1
          rw [Nat.add_assoc, h1]; rfl) (i - o) hj
        rw [getElem_nth hj] at hv1
        cases hv1
        rw [show q + i = q + o + (i - o) from by omega]
        exact this
      · rename_i hout
        rw [hi] at hc0
        cases hc0
        refine ⟨v0, ?_, k4⟩
        rw [World.cell?_setCells_out]
        · exact k3
        · intro _ _
          simp only
          omega
    · rename_i e
      left
      exact ⟨fun e2 => e (by cases e2; rfl), hs⟩

theorem flat_lt {n i j k : Nat} (hj : j < n) (hi : i < k) : i * n + j < k * n := by
  have : (i + 1) * n ≤ k * n := Nat.mul_le_mul_right _ hi
  rw [Nat.add_mul] at this
  omega
theorem flat_ne {n i j i' j' : Nat} (hj : j < n) (hj' : j' < n) (h : i * n + j = i' * n + j') : i = i' ∧ j = j' := by
  have h1 : (i * n + j) / n = i := by rw [Nat.mul_comm, Nat.mul_add_div (by omega), Nat.div_eq_of_lt hj]; omega
  have h2 : (i' * n + j') / n = i' := by rw [Nat.mul_comm, Nat.mul_add_div (by omega), Nat.div_eq_of_lt hj']; omega
  have : i = i' := by rw [← h1, ← h2, h]
  subst this
  exact ⟨rfl, by omega⟩
/-- Cells of a block of cells written: what the block holds behind. -/
theorem setCells_block (b : Nat) {e : TypeId} {fr : Nat × Nat} : ∀ (vs : List Value) (o : Nat) (w : World) (cur : Array Value), w.heap[b]? = some (.cells cur e fr) → o + vs.length ≤ cur.size →
    ∃ cur', (w.setCells b o vs).heap[b]? = some (.cells cur' e fr) ∧ cur'.size = cur.size ∧ ∀ i, cur'[i]? = if o ≤ i ∧ i < o + vs.length then vs[i - o]? else cur[i]?
  | [], o, _, cur, h, _ => ⟨cur, h, rfl, fun i => by rw [if_neg (by simp only [List.length_nil]; omega)]⟩
  | v :: r, o, w, cur, h, hl => by
    simp only [List.length_cons] at hl ⊢
    have h1 : (w.setCell ⟨b, o, none⟩ v).heap[b]? = some (.cells (cur.setIfInBounds o v) e fr) := by simp [World.setCell, Array.getElem?_modify, h]
    obtain ⟨cur', h2, h3, h4⟩ := setCells_block b r (o + 1) _ _ h1 (by simp; omega)
    refine ⟨cur', h2, h3.trans (by simp), fun i => ?_⟩
    rw [h4 i]
    by_cases h5 : o + 1 ≤ i ∧ i < o + 1 + r.length
    · rw [if_pos h5, if_pos (by omega), show i - o = i - (o + 1) + 1 from by omega, List.getElem?_cons_succ]
    · rw [if_neg h5]
      by_cases h6 : i = o
      · subst h6
        rw [if_pos (by omega)]
        simp [show i < cur.size by omega]
      · rw [if_neg (by omega), Array.getElem?_setIfInBounds_ne (Ne.symm h6)]

/-- A store into an element of an array of one's own. -/
theorem RepH.storeArr (H : RepH B E p g h w) {a o : Nat} {A : Ar} {i : X} {ds : List X} {cs : List SC} {vs : List Value} (ha : nth h.arrs a = some (.at A)) {n : Nat} (hi : i.den E = .i n) (hin : n < (A.x.den E).rows.length)
    {kd : List Kd} (hkd : kd = (A.K.kd.drop o).take ds.length) (hds : scDatas kd cs = some ds) (hle : o + ds.length ≤ A.K.kd.length) (hv : All2 (SC.is E p g) cs vs) :
    ∃ b c, p.arr a = some (some ⟨b, 0, none⟩, c) ∧ (∀ j, j < vs.length → (w.cell? ⟨b, n * A.K.kd.length + o + j, none⟩).isSome = true) ∧ (∀ j, j < vs.length → w.frozen? ⟨b, n * A.K.kd.length + o + j, none⟩ = false) ∧
      RepH B E p g { h with arrs := setNth h.arrs a (.at { A with x := setCells A.x i o ds }) } (w.setCells b (n * A.K.kd.length + o) vs) := by
  obtain ⟨ad, cap, rows, e1, e2, e3, e4, e5, e6, e7, e8⟩ := (H.arr a A ha).ex
  rw [e2] at hin
  have hin : n < rows.length := hin
  obtain ⟨b, cur, k1, k2, k3, k4, k5, k6⟩ := e8 (by omega)
  subst k1
  obtain ⟨d1, d2, d3⟩ := scDatas_rd hds hv
  have hvl := hv.length
  have hkl : kd.length = ds.length := by rw [hkd]; simp; omega
  have hvn : vs.length = ds.length := by omega
  have hcap : n < cap := by omega
  have hfl : ∀ j, j < vs.length → n * A.K.kd.length + o + j < cur.size := fun j hj => by
    rw [k4]
    have := flat_lt (n := A.K.kd.length) (i := n) (j := o + j) (k := cap) (by omega) hcap
    omega
  refine ⟨b, cap, e1, fun j hj => ?_, fun j _ => by simp only [World.frozen?, k3]; simp, ?_⟩
  · simp [World.cell?, k3, hfl j hj]
  · have T := setCells_turn b vs (n * A.K.kd.length + o) w
    have hal := nth_lt ha
    refine H.turnAt T (o := .arr a) (by simp) (fun k i' _ ⟨e, h1, h2⟩ => ?_) (fun r cs' hr => .inl ⟨by simp, hr⟩) H.rfree (fun a' A' h2 => ?_) (fun s hs => H.afree s (free_set hs))
    · subst e
      refine ⟨k2, k5 i' ?_⟩
      have := hfl (i' - (n * A.K.kd.length + o)) (by omega)
      omega
    · rw [nth_setNth] at h2
      split at h2
      · rename_i e
        subst e
        simp only [Option.some.injEq, Pc.at.injEq] at h2
        subst h2
        right
        have hden := setCells_den (E := E) (i := i) ds A.x o e2
        have hni : (i.den E).int.toNat = n := by rw [hi]; simp
        rw [hni] at hden
        obtain ⟨cur', c1, c2, c3⟩ := setCells_block b vs (n * A.K.kd.length + o) w cur k3 (by
          rcases Nat.eq_zero_or_pos vs.length with h0 | h0
          · rw [h0, k4]
            have := flat_lt (n := A.K.kd.length) (i := n) (j := 0) (k := cap) e6 hcap
            have h9 : (n + 1) * A.K.kd.length ≤ cap * A.K.kd.length := Nat.mul_le_mul_right _ hcap
            rw [Nat.add_mul] at h9
            omega
          · have := hfl (vs.length - 1) (by omega); omega)
        refine ⟨some ⟨b, 0, none⟩, cap, _, e1, hden, by simpa using e3, e4, by simpa using e5, e6, e7, fun _ => ⟨b, cur', rfl, k2, c1, c2.trans k4, fun i' h' => k5 i' (by omega), fun i' row hrow => ?_⟩⟩
        rw [List.getElem?_modify] at hrow
        cases h0 : rows[i']? with
        | none => rw [h0] at hrow; simp at hrow
        | some row0 =>
          rw [h0] at hrow
          simp only [Option.map_eq_map, Option.map_some, Option.some.injEq] at hrow
          have R0 := k6 i' row0 h0
          have hl0 := R0.length
          by_cases hn : n = i'
          · subst hn
            rw [if_pos rfl] at hrow
            subst hrow
            refine RdRow.of (by rw [length_putRow]; exact hl0) fun j k hk => ?_
            have hj := (List.getElem?_eq_some_iff.1 hk).1
            simp only [c3, List.getD_eq_getElem?_getD]
            rw [getElem_putRow _ _ _ _ (by simp; omega)]
            simp only [List.length_map]
            by_cases h3 : o ≤ j ∧ j < o + ds.length
            · have hk2 : kd[j - o]? = some k := by
                rw [hkd, List.getElem?_take, if_pos (by omega), List.getElem?_drop, show o + (j - o) = j from by omega]; exact hk
              obtain ⟨v, x, g1, g2, g3⟩ := d3 (j - o) k hk2
              refine ⟨v, ?_, ?_⟩
              · rw [if_pos (by omega), show n * A.K.kd.length + j - (n * A.K.kd.length + o) = j - o from by omega]; exact g1
              · rw [if_pos h3]; simpa [g2] using g3
            · obtain ⟨v, g1, g2⟩ := R0.cell hk
              refine ⟨v, ?_, ?_⟩
              · rw [if_neg (by omega)]; exact g1
              · rw [if_neg h3]; simpa [List.getD_eq_getElem?_getD] using g2
          · rw [if_neg hn] at hrow
            subst hrow
            refine RdRow.of hl0 fun j k hk => ?_
            have hj : j < A.K.kd.length := (List.getElem?_eq_some_iff.1 hk).1
            obtain ⟨v, g1, g2⟩ := R0.cell hk
            refine ⟨v, ?_, g2⟩
            dsimp only
            rw [c3, if_neg]
            · exact g1
            · intro hcon
              have h5 : i' * A.K.kd.length + j = n * A.K.kd.length + (o + (i' * A.K.kd.length + j - (n * A.K.kd.length + o))) := by omega
              exact hn (flat_ne hj (by omega) h5).1.symm
      · rename_i e
        left
        exact ⟨fun e2 => e (by cases e2; rfl), h2⟩

/-- Places that are there stay. -/
theorem nth_putAt {α : Type} {l : List (Pc α)} {r : Nat} {x : α} (hf : isFree l r = true) (i : Nat) : nth (putAt l r x) i = if i = r then some (.at x) else nth l i := by
  unfold putAt
  simp only [isFree, Bool.or_eq_true] at hf
  split
  · rename_i h
    have h := Nat.eq_of_beq_eq_true h
    rw [nth_snoc]
    by_cases h1 : i < l.length
    · rw [if_pos h1, if_neg (by omega)]
    · rw [if_neg h1]
      by_cases h2 : i = r
      · rw [if_pos (by omega), if_pos h2]
      · rw [if_neg (by omega), if_neg h2, nth_none (by omega)]
  · rename_i h
    rcases hf with hf | hf
    · exact absurd hf h
    · split at hf
      · rename_i h2
        have := nth_lt h2
        rw [nth_setNth]
        by_cases h3 : i = r
        · subst h3; simp [this]
        · rw [if_neg (fun e => h3 e.symm), if_neg h3]
      · cases hf
theorem isFree_free {α : Type} {l : List (Pc α)} {r : Nat} (hf : isFree l r = true) : nth l r = none ∨ nth l r = some .fr := by
  simp only [isFree, Bool.or_eq_true] at hf
  rcases hf with hf | hf
  · exact .inl (nth_none (by rw [Nat.eq_of_beq_eq_true hf]; exact Nat.le_refl _))
  · split at hf
    · rename_i h; exact .inr h
    · cases hf

/-- What is known stays known. -/
def KnLe (E : Env) (p : Pl) (h : Hp) (q : Pl) (h' : Hp) (n : Nat) : Prop := ∀ k i, k < n → Kn E p h k i → Kn E q h' k i

/-- A new block, as a region. -/
theorem RepH.newReg (H : RepH B E p g h w) {r : Nat} (hf : isFree h.regs r = true) {cs : List SC} {vs : List Value} (e : TypeId) (hv : All2 (SC.is E p g) cs vs) :
    ∃ q, p.Le q ∧ q.reg r = some (w.heap.size, 0) ∧ RepH B E q g { h with regs := putAt h.regs r cs } (w.alloc (.cells vs.toArray e)) ∧ KnLe E p h q { h with regs := putAt h.regs r cs } w.heap.size := by
  have hpr := H.rfree r (isFree_free hf)
  let q : Pl := { p with reg := fun i => if i = r then some (w.heap.size, 0) else p.reg i, ow := fun k => if k = w.heap.size then .reg r else p.ow k }
  have hq : p.Le q := ⟨fun i x hx => by
    show (if i = r then _ else _) = _
    rw [if_neg (fun e => by rw [e, hpr] at hx; cases hx)]; exact hx, fun _ _ h => h, fun _ _ h => h⟩
  have how : ∀ k, k < w.heap.size → q.ow k = p.ow k := fun k hk => if_neg (by omega)
  have hqr : q.reg r = some (w.heap.size, 0) := if_pos rfl
  have hbel : Below w.heap.size w (w.alloc (.cells vs.toArray e)) := (Below.refl _ _).alloc (Nat.le_refl _) _
  have H1 := H.below hbel
  have T : Turn (fun _ _ => False) (w.alloc (.cells vs.toArray e)) (w.alloc (.cells vs.toArray e)) := Turn.refl _ _
  refine ⟨q, hq, hqr, ⟨H1.fr, H1.g0, H1.g1, fun k o v hk => ⟨(H1.gg k o v hk).1, (how k (H.gg_lt hk)).trans (H.gg k o v hk).2⟩, fun s cs' hs => ?_, fun s hs => ?_, fun a A ha => ?_, H.afree, H.mm.turn (Turn.of_below (Mc := fun _ _ => False) hbel) rfl fun a b e1 e2 e3 e4 => (how b e3).trans e2⟩, fun k i hk hkn => ?_⟩
  · rw [nth_putAt hf] at hs
    split at hs
    · rename_i e1
      subst e1
      cases hs
      refine ⟨w.heap.size, 0, hqr, if_pos rfl, by simp, fun o c ho => ?_⟩
      obtain ⟨v, hv1, hc⟩ := hv.nth ho
      refine ⟨.inr H.fr.size, ?_, v, ?_, SC.is_le hq (Gm.Le.refl _) hc⟩
      · rw [Nat.zero_add]; exact World.frozen?_alloc_new _ _ _ _
      · rw [Nat.zero_add, World.cell?_alloc_new]
        rw [nth_eq] at hv1
        simpa using hv1
    · rename_i hne
      refine (H1.reg s cs' hs).turn T (fun _ _ _ _ _ h => h) hq (Gm.Le.refl _) fun b q' e1 => ?_
      obtain ⟨b', q1, e2, e3, e4, _⟩ := (H.reg s cs' hs).ex
      rw [e1] at e2; cases e2
      rw [how _ e4]; exact e3
  · rw [nth_putAt hf] at hs
    split at hs
    · rcases hs with hs | hs <;> cases hs
    · rename_i hne
      show (if s = r then _ else _) = _
      rw [if_neg hne]; exact H.rfree s hs
  · exact (H.arr a A ha).turn (Turn.of_below (Mc := fun _ _ => False) hbel) (fun _ _ _ _ _ _ _ h => h) hq (Gm.Le.refl _) fun b c _ _ e1 e2 => (how b e1).trans e2
  · rcases hkn with h1 | ⟨s, cs', b, q', h1, h2, h3⟩ | ⟨a, A, b, c, h1, h2, h3⟩
    · exact .inl ((how k hk).trans h1)
    · refine .inr (.inl ⟨s, cs', b, q', ?_, hq.reg _ _ h2, h3⟩)
      rw [nth_putAt hf, if_neg]
      · exact h1
      · rintro rfl; rw [hpr] at h2; cases h2
    · exact .inr (.inr ⟨a, A, b, c, h1, h2, h3⟩)

/-- An array is let go. -/
theorem RepH.dropArr (H : RepH B E p g h w) (a : Nat) : RepH B E p g { h with arrs := setNth h.arrs a .go } w := by
  refine ⟨H.fr, H.g0, H.g1, H.gg, H.reg, H.rfree, fun b A hb => ?_, fun b hb => H.afree b (free_go hb), H.mm⟩
  rw [nth_setNth] at hb
  split at hb
  · split at hb <;> cases hb
  · exact H.arr b A hb

/-- An array of one's own, in a block that nobody has. -/
theorem RepH.addArr (H : RepH B E p g h w) {a : Nat} (hf : isFree h.arrs a = true) {A : Ar} {ad : Option Addr} {cap : Nat} {rows : List (List CD)} (hx : A.x.den E = .l rows) (h1 : rows.length ≤ cap) (h2 : cap ≤ maxLen) (h3 : rows.length * A.K.by_ ≤ B47)
    (h4 : 0 < A.K.kd.length) (h5 : 0 < A.K.by_) (hb : 0 < cap → ∃ b cur, ad = some ⟨b, 0, none⟩ ∧ w.heap[b]? = some (.cells cur A.e (0, 0)) ∧ cur.size = cap * A.K.kd.length ∧ (∀ i, i < cur.size → B.wr b i) ∧
      (∀ i row, rows[i]? = some row → RdRow g A.K.kd (fun j => cur[i * A.K.kd.length + j]?) row) ∧
      (∀ r cs q, nth h.regs r = some (.at cs) → p.reg r ≠ some (b, q)) ∧ (∀ a' A' c, nth h.arrs a' = some (.at A') → 0 < c → p.ow b = .arr a' → p.arr a' ≠ some (some ⟨b, 0, none⟩, c)) ∧ (∀ o v, g b o ≠ some v)) :
    ∃ q, p.Le q ∧ q.arr a = some (ad, cap) ∧ RepH B E q g { h with arrs := putAt h.arrs a A } w ∧ (∀ k, (∀ b, 0 < cap → ad = some ⟨b, 0, none⟩ → k ≠ b) → q.ow k = p.ow k) := by
  have hpa := H.afree a (isFree_free hf)
  let own : Nat → Prop := fun k => 0 < cap ∧ ad = some ⟨k, 0, none⟩
  open Classical in
  let q : Pl := { p with arr := fun i => if i = a then some (ad, cap) else p.arr i, ow := fun k => if own k then .arr a else p.ow k }
  have hq : p.Le q := ⟨fun _ _ h => h, fun i x hx => by
    show (if i = a then _ else _) = _
    rw [if_neg (fun e => by rw [e, hpa] at hx; cases hx)]; exact hx, fun _ _ h => h⟩
  have hqa : q.arr a = some (ad, cap) := if_pos rfl
  have how : ∀ k, ¬ own k → q.ow k = p.ow k := fun k hk => if_neg hk
  have T : Turn (fun _ _ => False) w w := Turn.refl _ _
  refine ⟨q, hq, hqa, ⟨H.fr, H.g0, H.g1, fun k o v hk => ⟨(H.gg k o v hk).1, ?_⟩, fun r cs hr => ?_, H.rfree, fun a' A' ha => ?_, fun s hs => ?_, H.mm.turn T rfl fun a' b' e1 e2 e3 e4 => (how b' fun ⟨c1, c2⟩ => by
    obtain ⟨b, cur, e, k1, _⟩ := hb c1
    rw [e] at c2; cases c2
    exact e4 _ _ _ k1).trans e2⟩, fun k hk => how k fun ⟨c1, c2⟩ => hk k c1 c2 rfl⟩
  · rw [how k fun ⟨c1, c2⟩ => ?_]
    · exact (H.gg k o v hk).2
    · obtain ⟨b, cur, e, _, _, _, _, _, _, n3⟩ := hb c1
      rw [e] at c2; cases c2
      exact n3 o v hk
  · refine (H.reg r cs hr).turn T (fun _ _ _ _ _ h => h) hq (Gm.Le.refl _) fun b q' e1 => ?_
    rw [how b fun ⟨c1, c2⟩ => ?_]
    · exact (H.reg r cs hr).own e1
    · obtain ⟨b', cur, e, _, _, _, _, n1, _⟩ := hb c1
      rw [e] at c2; cases c2
      exact n1 r cs q' hr e1
  · rw [nth_putAt hf] at ha
    split at ha
    · rename_i e1
      subst e1
      cases ha
      refine ⟨ad, cap, rows, hqa, hx, h1, h2, h3, h4, h5, fun hc => ?_⟩
      obtain ⟨b, cur, e, m1, m2, m3, m4, _⟩ := hb hc
      exact ⟨b, cur, e, if_pos ⟨hc, e⟩, m1, m2, m3, m4⟩
    · rename_i hne
      refine (H.arr a' A' ha).turn T (fun _ _ _ _ _ _ _ h => h) hq (Gm.Le.refl _) fun b c e1 e0 _ e3 => ?_
      rw [how b fun ⟨c1, c2⟩ => ?_]
      · exact e3
      · obtain ⟨b', cur, e, _, _, _, _, _, n2, _⟩ := hb c1
        rw [e] at c2; cases c2
        exact n2 a' A' c ha e0 e3 e1
  · rw [nth_putAt hf] at hs
    split at hs
    · rcases hs with hs | hs <;> cases hs
    · rename_i hne
      show (if s = a then _ else _) = _
      rw [if_neg hne]; exact H.afree s hs

/-- A new block, as an array. -/
theorem RepH.newArr (H : RepH B E p g h w) {a : Nat} (hf : isFree h.arrs a = true) {A : Ar} {rows : List (List CD)} {cap : Nat} {cur : Array Value} (hx : A.x.den E = .l rows) (h1 : rows.length ≤ cap) (h2 : cap ≤ maxLen) (h3 : rows.length * A.K.by_ ≤ B47)
    (h4 : 0 < A.K.kd.length) (h5 : 0 < A.K.by_) (hs : cur.size = cap * A.K.kd.length) (hr : ∀ i row, rows[i]? = some row → RdRow g A.K.kd (fun j => cur[i * A.K.kd.length + j]?) row) (hb : Below w.heap.size w w') (hw : w'.heap[w.heap.size]? = some (.cells cur A.e (0, 0))) :
    ∃ q, p.Le q ∧ q.arr a = some (some ⟨w.heap.size, 0, none⟩, cap) ∧ RepH B E q g { h with arrs := putAt h.arrs a A } w' ∧ KnLe E p h q { h with arrs := putAt h.arrs a A } w.heap.size := by
  have hside : ∃ b cur, (some ⟨w.heap.size, 0, none⟩ : Option Addr) = some ⟨b, 0, none⟩ ∧ w'.heap[b]? = some (.cells cur A.e (0, 0)) ∧ cur.size = cap * A.K.kd.length ∧ (∀ i, i < cur.size → B.wr b i) ∧
      (∀ i row, rows[i]? = some row → RdRow g A.K.kd (fun j => cur[i * A.K.kd.length + j]?) row) ∧
      (∀ r cs q, nth h.regs r = some (.at cs) → p.reg r ≠ some (b, q)) ∧ (∀ a' A' c, nth h.arrs a' = some (.at A') → 0 < c → p.ow b = .arr a' → p.arr a' ≠ some (some ⟨b, 0, none⟩, c)) ∧ (∀ o v, g b o ≠ some v) := by
    refine ⟨w.heap.size, cur, rfl, hw, hs, fun i _ => .inr H.fr.size, hr, fun r cs q hr1 e => ?_, fun a' A' c ha' e0 _ e2 => ?_, fun o v hg => ?_⟩
    · obtain ⟨b, q', e1, _, e3, _⟩ := (H.reg r cs hr1).ex
      rw [e] at e1; cases e1; omega
    · obtain ⟨ad, cap', rows', g1, _, _, _, _, _, _, g8⟩ := (H.arr a' A' ha').ex
      rw [e2] at g1; cases g1
      obtain ⟨b', cur', g9, _, g10, _⟩ := g8 e0
      cases g9
      exact absurd (lt_of_block g10) (by omega)
    · have := H.gg_lt hg; omega
  obtain ⟨q, k1, k2, k3, k4⟩ := (H.below hb).addArr hf (ad := some ⟨w.heap.size, 0, none⟩) hx h1 h2 h3 h4 h5 fun _ => hside
  refine ⟨q, k1, k2, k3, fun k i hk hkn => ?_⟩
  rcases hkn with g1 | ⟨s, cs', b, q', g1, g2, g3⟩ | ⟨a', A', b, c, g1, g2, g3⟩
  · exact .inl ((k4 k fun b _ e e2 => by cases e; omega).trans g1)
  · exact .inr (.inl ⟨s, cs', b, q', g1, k1.reg _ _ g2, g3⟩)
  · refine .inr (.inr ⟨a', A', b, c, ?_, k1.arr _ _ g2, g3⟩)
    rw [nth_putAt hf, if_neg]
    · exact g1
    · rintro rfl; rw [H.afree a' (isFree_free hf)] at g2; cases g2

/-- Nobody has the block of an array that is let go. -/
def Pl.disown (p : Pl) (b : Nat) : Pl := { p with ow := fun k => if p.ow k = .arr b then .z else p.ow k }
theorem Pl.le_disown (p : Pl) (b : Nat) : p.Le (p.disown b) := ⟨fun _ _ h => h, fun _ _ h => h, fun _ _ h => h⟩
theorem RepH.disown (H : RepH B E p g h w) {b : Nat} (hb : ∀ A, nth h.arrs b ≠ some (.at A)) : RepH B E (p.disown b) g h w := by
  have hq := p.le_disown b
  have T : Turn (fun _ _ => False) w w := Turn.refl _ _
  refine ⟨H.fr, H.g0, H.g1, fun k o v hk => ⟨(H.gg k o v hk).1, ?_⟩, fun r cs hr => ?_, H.rfree, fun a A ha => ?_, H.afree, H.mm.turn T rfl fun a b' e1 e2 e3 e4 => by
    show (if p.ow b' = .arr b then Ow.z else p.ow b') = _
    rw [e2]; simp⟩
  · show (if p.ow k = .arr b then Ow.z else p.ow k) = .z
    rw [(H.gg k o v hk).2]; simp
  · refine (H.reg r cs hr).turn T (fun _ _ _ _ _ h => h) hq (Gm.Le.refl _) fun b' q' e1 => ?_
    show (if p.ow b' = .arr b then Ow.z else p.ow b') = .reg r
    rw [(H.reg r cs hr).own e1]; simp
  · refine (H.arr a A ha).turn T (fun _ _ _ _ _ _ _ h => h) hq (Gm.Le.refl _) fun b' c _ _ _ e3 => ?_
    show (if p.ow b' = .arr b then Ow.z else p.ow b') = .arr a
    rw [e3, if_neg]
    intro e
    cases e
    exact hb A ha
end
end Go.Sy
