/- What a symbolic state says of memory; that this is kept. -/
import Derived.Test.YtpmamacjepcdmaaSyRun
namespace Go.Sy
open Go.RowKit

/-! ### Lists -/
def All2 {α β : Type} (R : α → β → Prop) : List α → List β → Prop
  | [], [] => True
  | a :: l, b :: m => R a b ∧ All2 R l m
  | _, _ => False
theorem nth_eq {α : Type} : ∀ (l : List α) (i : Nat), nth l i = l[i]?
  | [], i => by simp [nth]
  | a :: l, 0 => by simp [nth]
  | a :: l, i + 1 => by simp [nth, nth_eq l i]
theorem setNth_eq {α : Type} : ∀ (l : List α) (i : Nat) (b : α), setNth l i b = l.set i b
  | [], i, b => by simp [setNth]
  | a :: l, 0, b => by simp [setNth]
  | a :: l, i + 1, b => by simp [setNth, setNth_eq l i]
theorem nth_lt {α : Type} {l : List α} {i : Nat} {a : α} (h : nth l i = some a) : i < l.length := by
  rw [nth_eq] at h; exact (List.getElem?_eq_some_iff.1 h).1
theorem nth_some {α : Type} {l : List α} {i : Nat} (h : i < l.length) : ∃ a, nth l i = some a := ⟨l[i], by rw [nth_eq]; exact List.getElem?_eq_getElem h⟩
theorem nth_none {α : Type} {l : List α} {i : Nat} (h : l.length ≤ i) : nth l i = none := by rw [nth_eq]; exact List.getElem?_eq_none h
theorem length_setNth {α : Type} (l : List α) (i : Nat) (b : α) : (setNth l i b).length = l.length := by rw [setNth_eq]; simp
theorem nth_setNth {α : Type} (l : List α) (i j : Nat) (b : α) : nth (setNth l i b) j = if i = j then (if i < l.length then some b else none) else nth l j := by
  rw [setNth_eq, nth_eq, nth_eq, List.getElem?_set]
theorem nth_append {α : Type} (l m : List α) (i : Nat) : nth (l ++ m) i = if i < l.length then nth l i else nth m (i - l.length) := by
  simp only [nth_eq, List.getElem?_append]
theorem nth_snoc {α : Type} (l : List α) (a : α) (i : Nat) : nth (l ++ [a]) i = if i < l.length then nth l i else if i = l.length then some a else none := by
  rw [nth_append]
  split
  · rfl
  · split
    · rename_i h; subst h; simp [nth]
    · rename_i h1 h2
      have : i - l.length = (i - l.length - 1) + 1 := by omega
      rw [this]; simp [nth]
theorem All2.length {α β : Type} {R : α → β → Prop} : ∀ {l : List α} {m : List β}, All2 R l m → l.length = m.length
  | [], [], _ => rfl
  | _ :: _, _ :: _, h => by simp [All2.length h.2]
  | [], _ :: _, h => h.elim
  | _ :: _, [], h => h.elim
theorem All2.nth {α β : Type} {R : α → β → Prop} : ∀ {l : List α} {m : List β} {i : Nat} {a : α}, All2 R l m → nth l i = some a → ∃ b, Sy.nth m i = some b ∧ R a b
  | [], _, _, _, _, e => by simp [Sy.nth] at e
  | _ :: _, b :: m, 0, a, h, e => by simp [Sy.nth] at e; subst e; exact ⟨b, rfl, h.1⟩
  | _ :: _, _ :: m, i + 1, a, h, e => by simp only [Sy.nth] at e ⊢; exact All2.nth h.2 e
  | _ :: _, [], _, _, h, _ => h.elim
theorem All2.of {α β : Type} {R : α → β → Prop} : ∀ {l : List α} {m : List β}, l.length = m.length → (∀ i a b, Sy.nth l i = some a → Sy.nth m i = some b → R a b) → All2 R l m
  | [], [], _, _ => trivial
  | a :: l, b :: m, h, f => ⟨f 0 a b rfl rfl, All2.of (by simpa using h) fun i x y hx hy => f (i + 1) x y hx hy⟩
  | [], _ :: _, h, _ => by simp at h
  | _ :: _, [], h, _ => by simp at h
theorem All2.mono {α β : Type} {R S : α → β → Prop} : ∀ {l : List α} {m : List β}, All2 R l m → (∀ a b, R a b → S a b) → All2 S l m
  | [], [], _, _ => trivial
  | _ :: _, _ :: _, h, f => ⟨f _ _ h.1, All2.mono h.2 f⟩
  | [], _ :: _, h, _ => h.elim
  | _ :: _, [], h, _ => h.elim
theorem All2.imp {α β : Type} {R S : α → β → Prop} : ∀ {l : List α} {m : List β}, All2 R l m → (∀ x ∈ l, ∀ b, R x b → S x b) → All2 S l m
  | [], [], _, _ => trivial
  | x :: _, _ :: _, h, f => ⟨f x (by simp) _ h.1, All2.imp h.2 fun y hy b => f y (by simp [hy]) b⟩
  | [], _ :: _, h, _ => h.elim
  | _ :: _, [], h, _ => h.elim
theorem allB_mem {α : Type} {f : α → Bool} : ∀ {l : List α}, allB f l = true → ∀ x ∈ l, f x = true
  | [], _, _, hx => by simp at hx
  | b :: l, h, x, hx => by
    simp only [allB, Bool.and_eq_true] at h
    rcases List.mem_cons.1 hx with e | hx
    · subst e; exact h.1
    · exact allB_mem h.2 x hx
theorem nth_mem {α : Type} {l : List α} {i : Nat} {x : α} (e : nth l i = some x) : x ∈ l := by rw [nth_eq] at e; exact List.mem_of_getElem? e
theorem allB_nth {α : Type} {f : α → Bool} {l : List α} (h : allB f l = true) {i : Nat} {x : α} (e : nth l i = some x) : f x = true := allB_mem h x (nth_mem e)
theorem allB_of {α : Type} {f : α → Bool} : ∀ {l : List α}, (∀ x ∈ l, f x = true) → allB f l = true
  | [], _ => rfl
  | a :: l, h => by simp only [allB, Bool.and_eq_true]; exact ⟨h a (by simp), allB_of fun x hx => h x (by simp [hx])⟩
theorem nth_putFrom {α : Type} : ∀ (m l : List α) (o i : Nat), o + m.length ≤ l.length → nth (putFrom l o m) i = if o ≤ i ∧ i < o + m.length then nth m (i - o) else nth l i
  | [], l, o, i, _ => by
    cases l <;> simp only [putFrom] <;> rw [if_neg (by simp)]
  | c :: m, l, o, i, h => by
    have hp : putFrom l o (c :: m) = putFrom (setNth l o c) (o + 1) m := by cases l <;> rfl
    simp only [List.length_cons] at h
    rw [hp, nth_putFrom m (setNth l o c) (o + 1) i (by rw [length_setNth]; omega), nth_setNth]
    by_cases h1 : i = o
    · subst h1
      rw [if_neg (by omega), if_pos rfl, if_pos (by omega), if_pos (by simp)]
      simp [nth]
    · by_cases h2 : o + 1 ≤ i ∧ i < o + 1 + m.length
      · rw [if_pos h2, if_pos (by simp; omega)]
        have : i - o = (i - (o + 1)) + 1 := by omega
        rw [this]; rfl
      · rw [if_neg h2, if_neg (by omega), if_neg (by simp; omega)]
theorem length_putFrom {α : Type} : ∀ (m l : List α) (o : Nat), (putFrom l o m).length = l.length
  | [], l, o => by cases l <;> rfl
  | c :: m, l, o => by
    have hp : putFrom l o (c :: m) = putFrom (setNth l o c) (o + 1) m := by cases l <;> rfl
    rw [hp, length_putFrom m, length_setNth]
theorem takeFrom_nth {α : Type} {l m : List α} {o n : Nat} (h : takeFrom l o n = some m) : m.length = n ∧ (0 < n → o + n ≤ l.length) ∧ ∀ j, j < n → nth m j = nth l (o + j) := by
  simp only [takeFrom] at h
  split at h
  · rename_i hl
    cases h
    have hl := Nat.eq_of_beq_eq_true hl
    refine ⟨hl, fun hn => ?_, fun j hj => ?_⟩
    · rw [List.length_take, List.length_drop] at hl
      omega
    · rw [nth_eq, nth_eq, List.getElem?_take, if_pos hj, List.getElem?_drop]
  · cases h
theorem nth_drop {α : Type} (l : List α) (o j : Nat) : nth (l.drop o) j = nth l (o + j) := by rw [nth_eq, nth_eq, List.getElem?_drop]
theorem nth_take {α : Type} (l : List α) (o j : Nat) : nth (l.take o) j = if j < o then nth l j else none := by rw [nth_eq, nth_eq, List.getElem?_take]
theorem List.ext_nth {α : Type} {l m : List α} (hl : l.length = m.length) (h : ∀ j, j < l.length → nth l j = nth m j) : l = m := by
  apply List.ext_getElem?
  intro j
  by_cases hj : j < l.length
  · rw [← nth_eq, ← nth_eq]; exact h j hj
  · rw [List.getElem?_eq_none (by omega), List.getElem?_eq_none (by omega)]

theorem add_at (b o k : Nat) : (⟨b, o, none⟩ : Addr).add k = ⟨b, o + k, none⟩ := by
  unfold Addr.add; split
  · rename_i h; subst h; rfl
  · rfl

/-! ### What cells and values are -/
def SC.is (E : Env) (p : Pl) (g : Gm) : SC → Value → Prop
  | .any, _ => True
  | .undef, v => v = Go.undef
  | .int k x, v => ∃ n, x.den E = .i n ∧ v = .int k n
  | .bool x, v => ∃ b, x.den E = .b b ∧ v = .bool b
  | .str x, v => ∃ s : ByteArray, x.den E = .s s.data.toList ∧ v = .string s
  | .fz K x, v => Rd g (.sl K.by_ K.kd) v (x.den E)
  | .fp K x i o, v => ∃ (b q n : Nat) (row : List CD), v = .pointer (some ⟨b, q, none⟩) ∧ i.den E = .i n ∧ (x.den E).rows[n]? = some row ∧ row.length = K.kd.length ∧ RdRow g (K.kd.drop o) (fun j => g b (q + j)) (row.drop o)
  | .sl a n, v => ∃ (A : Option Addr) (c m : Nat), p.arr a = some (A, c) ∧ n.den E = .i m ∧ m ≤ c ∧ v = .slice A m c
  | .ep a z i o, v => ∃ b c n : Nat, p.arr a = some (some ⟨b, 0, none⟩, c) ∧ i.den E = .i n ∧ v = .pointer (some ⟨b, n * z + o, none⟩)
  | .loc r o, v => ∃ b q, p.reg r = some (b, q) ∧ v = .pointer (some ⟨b, q + o, none⟩)
  | .nilsl, v => v = .slice none 0 0
  | .z0, v => ∃ A, v = .slice A 0 0
  | .nilp, v => v = .pointer none
  | .nilmap, v => v = .map none
  | .mp a, v => ∃ b, p.mp a = some b ∧ v = .map (some b)
  | .fn f caps, v => ∃ vs : List Value, v = .func (.func f) #[] vs.toArray ∧ All2 (fun (x : Nat × Nat) u => ∃ b q, p.reg x.1 = some (b, q) ∧ u = .pointer (some ⟨b, q + x.2, none⟩)) caps vs
def SV.is (E : Env) (p : Pl) (g : Gm) (x : SV) (v : Value) : Prop := match x with
  | .one c => c.is E p g v
  | .agg l => ∃ vs : List Value, v = .agg vs.toArray ∧ All2 (SC.is E p g) l vs
def SR.is (E : Env) (p : Pl) (g : Gm) (x : SR) (v : Value) : Prop := match x with
  | .v x => x.is E p g v
  | .tup l => ∃ vs : List Value, v = .tuple vs.toArray ∧ All2 (SV.is E p g) l vs

mutual
theorem Rd.mono {g g' : Gm} (h : g.Le g') : ∀ (k : Kd) (v : Value) (d : CD), Rd g k v d → Rd g' k v d
  | .int _, _, _, hr => hr
  | .bool, _, _, hr => hr
  | .str, _, _, hr => hr
  | .sl by_ kd, v, d, hr => by
    simp only [Rd] at hr ⊢
    obtain ⟨A, n, c, rows, e1, e2, e3, h1, h2, h3, h4⟩ := hr
    refine ⟨A, n, c, rows, e1, e2, e3, h1, h2, h3, fun hn => ?_⟩
    obtain ⟨b, q, e, hrow⟩ := h4 hn
    exact ⟨b, q, e, fun i row hi => RdRow.mono h kd _ _ row (fun j v hv => h _ _ _ hv) (hrow i row hi)⟩
theorem RdRow.mono {g g' : Gm} (h : g.Le g') : ∀ (kd : List Kd) (f f' : Nat → Option Value) (row : List CD), (∀ j v, f j = some v → f' j = some v) → RdRow g kd f row → RdRow g' kd f' row
  | [], _, _, [], _, _ => trivial
  | k :: ks, f, f', d :: ds, hf, ⟨⟨v, hv, hr⟩, hrest⟩ => ⟨⟨v, hf 0 v hv, Rd.mono h k v d hr⟩, RdRow.mono h ks (fun j => f (j + 1)) (fun j => f' (j + 1)) ds (fun j v hv => hf (j + 1) v hv) hrest⟩
  | [], _, _, _ :: _, _, hr => hr.elim
  | _ :: _, _, _, [], _, hr => hr.elim
end
theorem RdRow.length {g : Gm} : ∀ {kd : List Kd} {f : Nat → Option Value} {row : List CD}, RdRow g kd f row → row.length = kd.length
  | [], _, [], _ => rfl
  | _ :: _, _, _ :: _, h => by simp only [List.length_cons]; rw [RdRow.length h.2]
  | [], _, _ :: _, hr => hr.elim
  | _ :: _, _, [], hr => hr.elim
theorem RdRow.cell {g : Gm} : ∀ {kd : List Kd} {f : Nat → Option Value} {row : List CD}, RdRow g kd f row → ∀ {j : Nat} {k : Kd}, kd[j]? = some k → ∃ v, f j = some v ∧ Rd g k v (row.getD j .u)
  | k :: ks, f, d :: ds, h, 0, _, e => by
    simp only [List.getElem?_cons_zero, Option.some.injEq] at e
    subst e
    obtain ⟨⟨v, h1, h2⟩, _⟩ := h
    exact ⟨v, h1, by simpa using h2⟩
  | k :: ks, f, d :: ds, h, j + 1, k', e => by
    obtain ⟨v, h1, h2⟩ := RdRow.cell h.2 (j := j) (k := k') (by simpa using e)
    exact ⟨v, h1, by simpa using h2⟩
  | [], _, _, _, j, _, e => by simp at e
  | _ :: _, _, [], h, _, _, _ => h.elim
theorem RdRow.of {g : Gm} : ∀ {kd : List Kd} {f : Nat → Option Value} {row : List CD}, row.length = kd.length → (∀ j k, kd[j]? = some k → ∃ v, f j = some v ∧ Rd g k v (row.getD j .u)) → RdRow g kd f row
  | [], _, [], _, _ => trivial
  | k :: ks, f, d :: ds, hl, h => ⟨by
      obtain ⟨v, h1, h2⟩ := h 0 k rfl
      exact ⟨v, h1, by simpa using h2⟩, RdRow.of (by simpa using hl) fun j k' e => by
      obtain ⟨v, h1, h2⟩ := h (j + 1) k' (by simpa using e)
      exact ⟨v, h1, by simpa using h2⟩⟩
  | [], _, _ :: _, hl, _ => by simp at hl
  | _ :: _, _, [], hl, _ => by simp at hl
theorem RdRow.drop {g : Gm} {kd : List Kd} {f : Nat → Option Value} {row : List CD} (h : RdRow g kd f row) (o : Nat) : RdRow g (kd.drop o) (fun j => f (o + j)) (row.drop o) := by
  refine RdRow.of (by simp [h.length]) fun j k e => ?_
  obtain ⟨v, h1, h2⟩ := h.cell (j := o + j) (k := k) (by rw [List.getElem?_drop] at e; exact e)
  refine ⟨v, h1, ?_⟩
  simpa [List.getD_eq_getElem?_getD, List.getElem?_drop] using h2

theorem SC.is_le {E : Env} {p q : Pl} {g g' : Gm} (hp : p.Le q) (hg : g.Le g') {c : SC} {v : Value} (h : c.is E p g v) : c.is E q g' v := by
  cases c with
  | fz K x => exact Rd.mono hg _ _ _ h
  | fp K x i o =>
    obtain ⟨b, q', n, row, h1, h2, h3, h4, h5⟩ := h
    exact ⟨b, q', n, row, h1, h2, h3, h4, RdRow.mono hg _ _ _ _ (fun j v hv => hg _ _ _ hv) h5⟩
  | sl a n =>
    obtain ⟨A, c, m, h1, h2⟩ := h
    exact ⟨A, c, m, hp.arr _ _ h1, h2⟩
  | ep a z i o =>
    obtain ⟨b, c, n, h1, h2⟩ := h
    exact ⟨b, c, n, hp.arr _ _ h1, h2⟩
  | loc r o =>
    obtain ⟨b, q', h1, h2⟩ := h
    exact ⟨b, q', hp.reg _ _ h1, h2⟩
  | mp a =>
    obtain ⟨b, h1, h2⟩ := h
    exact ⟨b, hp.mp _ _ h1, h2⟩
  | fn f caps =>
    obtain ⟨vs, h1, h2⟩ := h
    exact ⟨vs, h1, h2.mono fun x u ⟨b, q', h3, h4⟩ => ⟨b, q', hp.reg _ _ h3, h4⟩⟩
  | _ => exact h
theorem SV.is_le {E : Env} {p q : Pl} {g g' : Gm} (hp : p.Le q) (hg : g.Le g') {c : SV} {v : Value} (h : c.is E p g v) : c.is E q g' v := by
  cases c with
  | one c => exact SC.is_le hp hg h
  | agg l => obtain ⟨vs, e, hv⟩ := h; exact ⟨vs, e, hv.mono fun _ _ => SC.is_le hp hg⟩
theorem SR.is_le {E : Env} {p q : Pl} {g g' : Gm} (hp : p.Le q) (hg : g.Le g') {c : SR} {v : Value} (h : c.is E p g v) : c.is E q g' v := by
  cases c with
  | v c => exact SV.is_le hp hg h
  | tup l => obtain ⟨vs, e, hv⟩ := h; exact ⟨vs, e, hv.mono fun _ _ => SV.is_le hp hg⟩
theorem SC.is_agree {E F : Env} {n : Nat} (hE : E.Agree n F) {p : Pl} {g : Gm} {c : SC} {v : Value} (u : c.under n = true) (h : c.is E p g v) : c.is F p g v := by
  cases c <;> simp only [SC.under, Bool.and_eq_true] at u <;> simp only [SC.is] at h ⊢ <;> first
    | exact h
    | (rw [← X.den_agree hE u]; exact h)
    | (rw [← X.den_agree hE u.1, ← X.den_agree hE u.2]; exact h)
theorem SV.is_agree {E F : Env} {n : Nat} (hE : E.Agree n F) {p : Pl} {g : Gm} {c : SV} {v : Value} (u : c.under n = true) (h : c.is E p g v) : c.is F p g v := by
  cases c with
  | one c => exact SC.is_agree hE u h
  | agg l => obtain ⟨vs, e, hv⟩ := h; exact ⟨vs, e, hv.imp fun x hx b hb => SC.is_agree hE (allB_mem u x hx) hb⟩
theorem SR.is_agree {E F : Env} {n : Nat} (hE : E.Agree n F) {p : Pl} {g : Gm} {c : SR} {v : Value} (u : c.under n = true) (h : c.is E p g v) : c.is F p g v := by
  cases c with
  | v c => exact SV.is_agree hE u h
  | tup l => obtain ⟨vs, e, hv⟩ := h; exact ⟨vs, e, hv.imp fun x hx b hb => SV.is_agree hE (allB_mem u x hx) hb⟩

/-! ### How memory turns -/
def ObjFr (m : Nat → Prop) (o o' : Obj) : Prop := match o with
  | .cells c e f => ∃ c', o' = .cells c' e f ∧ c'.size = c.size ∧ ∀ i, ¬ m i → c'[i]? = c[i]?
  | o => o' = o
theorem ObjFr.refl (m : Nat → Prop) (o : Obj) : ObjFr m o o := by
  cases o <;> first | exact rfl | exact ⟨_, rfl, rfl, fun _ _ => rfl⟩
theorem ObjFr.trans {m n : Nat → Prop} {a b c : Obj} (h : ObjFr m a b) (k : ObjFr n b c) : ObjFr (fun i => m i ∨ n i) a c := by
  cases a with
  | cells ca e f =>
    obtain ⟨cb, rfl, h1, h2⟩ := h
    obtain ⟨cc, rfl, h3, h4⟩ := k
    exact ⟨cc, rfl, h3.trans h1, fun i hi => (h4 i fun x => hi (.inr x)).trans (h2 i fun x => hi (.inl x))⟩
  | _ => simp only [ObjFr] at h; subst h; simpa only [ObjFr] using k
theorem ObjFr.mono {m n : Nat → Prop} {a b : Obj} (h : ObjFr m a b) (hm : ∀ i, m i → n i) : ObjFr n a b := by
  cases a with
  | cells ca e f =>
    obtain ⟨cb, rfl, h1, h2⟩ := h
    exact ⟨cb, rfl, h1, fun i hi => h2 i fun x => hi (hm i x)⟩
  | _ => exact h
theorem ObjFr.none {m : Nat → Prop} {a b : Obj} (h : ObjFr m a b) (hm : ∀ i, ¬ m i) : b = a := by
  cases a with
  | cells ca e f =>
    obtain ⟨cb, rfl, h1, h2⟩ := h
    congr 1
    exact Array.ext_getElem? fun i => h2 i (hm i)
  | _ => exact h

/-- Cells that are not in Mc, and whatever is no row of cells, stay; new blocks may come. -/
structure Turn (Mc : Nat → Nat → Prop) (w w' : World) : Prop where
  os : w'.os = w.os
  tape : w'.tape = w.tape
  output : w'.output = w.output
  size : w.heap.size ≤ w'.heap.size
  obj : ∀ k o, w.heap[k]? = some o → ∃ o', w'.heap[k]? = some o' ∧ ObjFr (Mc k) o o'

theorem lt_of_block {w : World} {k : Nat} {o : Obj} (h : w.heap[k]? = some o) : k < w.heap.size := by
  rcases Nat.lt_or_ge k w.heap.size with hl | hg
  · exact hl
  · rw [Array.getElem?_eq_none hg] at h; cases h
theorem block_of_lt {w : World} {k : Nat} (h : k < w.heap.size) : ∃ o, w.heap[k]? = some o := ⟨w.heap[k], Array.getElem?_eq_getElem h⟩
theorem lt_of_cell {w : World} {k i : Nat} {v : Value} (h : w.cell? ⟨k, i, none⟩ = some v) : k < w.heap.size := by
  cases hb : w.heap[k]? with
  | none => simp [World.cell?, hb] at h
  | some o => exact lt_of_block hb

section
variable {Mc Nc : Nat → Nat → Prop} {w w' w'' : World}
theorem Turn.refl (Mc : Nat → Nat → Prop) (w : World) : Turn Mc w w := ⟨rfl, rfl, rfl, Nat.le_refl _, fun _ o h => ⟨o, h, ObjFr.refl _ _⟩⟩
theorem Turn.trans (h : Turn Mc w w') (k : Turn Nc w' w'') : Turn (fun b i => Mc b i ∨ Nc b i) w w'' :=
  ⟨k.os.trans h.os, k.tape.trans h.tape, k.output.trans h.output, Nat.le_trans h.size k.size, fun b o hb => by
    obtain ⟨o1, h1, h2⟩ := h.obj b o hb
    obtain ⟨o2, h3, h4⟩ := k.obj b o1 h1
    exact ⟨o2, h3, h2.trans h4⟩⟩
/-- What turns may be told of blocks that were there alone. -/
theorem Turn.mono (h : Turn Mc w w') (hm : ∀ k i, k < w.heap.size → Mc k i → Nc k i) : Turn Nc w w' :=
  ⟨h.os, h.tape, h.output, h.size, fun k o hk => by
    obtain ⟨o1, h1, h2⟩ := h.obj k o hk
    exact ⟨o1, h1, h2.mono fun i => hm k i (lt_of_block hk)⟩⟩
theorem Turn.of_below (h : Below w.heap.size w w') : Turn Mc w w' :=
  ⟨h.os, h.tape, h.output, h.size, fun k o hk => ⟨o, (h.block k (lt_of_block hk)).trans hk, ObjFr.refl _ _⟩⟩
theorem Turn.below (h : Turn Mc w w') (hm : ∀ k i, ¬ Mc k i) : Below w.heap.size w w' :=
  ⟨h.os, h.tape, h.output, h.size, fun k hk => by
    obtain ⟨o, ho⟩ := block_of_lt hk
    obtain ⟨o1, h1, h2⟩ := h.obj k o ho
    rw [h1, h2.none (hm k), ho]⟩
theorem Turn.block (h : Turn Mc w w') {k : Nat} {o : Obj} (hk : w.heap[k]? = some o) (hm : ∀ i, ¬ Mc k i) : w'.heap[k]? = some o := by
  obtain ⟨o1, h1, h2⟩ := h.obj k o hk
  rw [h1, h2.none hm]
theorem Turn.cell (h : Turn Mc w w') {k i : Nat} (hk : k < w.heap.size) (hm : ¬ Mc k i) : w'.cell? ⟨k, i, none⟩ = w.cell? ⟨k, i, none⟩ := by
  obtain ⟨o, ho⟩ := block_of_lt hk
  obtain ⟨o1, h1, h2⟩ := h.obj k o ho
  cases o with
  | cells c e f =>
    obtain ⟨c', rfl, h3, h4⟩ := h2
    simp only [World.cell?, ho, h1]
    simpa using h4 i hm
  | _ => simp only [ObjFr] at h2; subst h2; simp only [World.cell?, ho, h1]
theorem Turn.isSome (h : Turn Mc w w') {k i : Nat} (hk : (w.cell? ⟨k, i, none⟩).isSome = true) : (w'.cell? ⟨k, i, none⟩).isSome = true := by
  cases hb : w.heap[k]? with
  | none => simp [World.cell?, hb] at hk
  | some o =>
    obtain ⟨o1, h1, h2⟩ := h.obj k o hb
    cases o with
    | cells c e f =>
      obtain ⟨c', rfl, h3, h4⟩ := h2
      simp only [World.cell?, hb] at hk
      simp only [World.cell?, h1]
      simpa [h3] using hk
    | _ => simp [World.cell?, hb] at hk
theorem Turn.frozen (h : Turn Mc w w') {k : Nat} (hk : k < w.heap.size) (i : Nat) : w'.frozen? ⟨k, i, none⟩ = w.frozen? ⟨k, i, none⟩ := by
  obtain ⟨o, ho⟩ := block_of_lt hk
  obtain ⟨o1, h1, h2⟩ := h.obj k o ho
  cases o with
  | cells c e f =>
    obtain ⟨c', rfl, h3, h4⟩ := h2
    simp only [World.frozen?, ho, h1]
  | _ => simp only [ObjFr] at h2; subst h2; simp only [World.frozen?, ho, h1]
end

/-! ### What is known of memory -/
/-- Where a call began: its world, the cells that may turn, what was only read, the places of what was handed over. -/
structure Base where
  w0 : World
  M : Nat → Nat → Prop
  g0 : Gm
  r0 : Nat → Option (Nat × Nat)
/-- May the cell be written? -/
def Base.wr (B : Base) (k i : Nat) : Prop := B.M k i ∨ B.w0.heap.size ≤ k

structure RegOk (B : Base) (E : Env) (p : Pl) (g : Gm) (r : Nat) (cs : List SC) (w : World) : Prop where
  ex : ∃ b q, p.reg r = some (b, q) ∧ p.ow b = .reg r ∧ b < w.heap.size ∧ ∀ o c, nth cs o = some c →
    B.wr b (q + o) ∧ w.frozen? ⟨b, q + o, none⟩ = false ∧ ∃ v, w.cell? ⟨b, q + o, none⟩ = some v ∧ c.is E p g v
structure ArOk (B : Base) (E : Env) (p : Pl) (g : Gm) (a : Nat) (A : Ar) (w : World) : Prop where
  ex : ∃ (ad : Option Addr) (cap : Nat) (rows : List (List CD)), p.arr a = some (ad, cap) ∧ A.x.den E = .l rows ∧ rows.length ≤ cap ∧ cap ≤ maxLen ∧ rows.length * A.K.by_ ≤ B47 ∧ 0 < A.K.kd.length ∧ 0 < A.K.by_ ∧
    (0 < cap → ∃ b cur, ad = some ⟨b, 0, none⟩ ∧ p.ow b = .arr a ∧ w.heap[b]? = some (.cells cur A.e (0, 0)) ∧ cur.size = cap * A.K.kd.length ∧ (∀ i, i < cur.size → B.wr b i) ∧
      ∀ i row, rows[i]? = some row → RdRow g A.K.kd (fun j => cur[i * A.K.kd.length + j]?) row)

def vof (agg : Bool) (l : List Value) : Value := if agg then .agg l.toArray else l.headD Go.undef
/-! Maps. -/
def FlatIs : Kd → Value → CD → Prop
  | .int k, v, d => ∃ n, v = .int k n ∧ d = .i n
  | .bool, v, d => ∃ b, v = .bool b ∧ d = .b b
  | _, _, _ => False
def FlatRow : List Kd → List Value → List CD → Prop
  | [], [], [] => True
  | k :: ks, v :: vs, d :: ds => FlatIs k v d ∧ FlatRow ks vs ds
  | _, _, _ => False
structure EntOk (kk : List Kd) (agg : Bool) (vk : Kd) (e : MapEntry) (x : List CD × CD) : Prop where
  key : ∃ vs, e.key = vof agg vs ∧ FlatRow kk vs x.1
  val : FlatIs vk e.val x.2
def rowFind (rows : List (List CD)) (k : List CD) (n : Nat) : Option CD := (CD.find rows k n).map fun r => r.getD n .u
/-- A map's entries read as these rows. -/
def MapRd (kk : List Kd) (agg : Bool) (vk : Kd) (es : List MapEntry) (rows : List (List CD)) : Prop :=
  ∃ ents, All2 (EntOk kk agg vk) es ents ∧ (∀ row ∈ rows, ∃ vs, FlatRow (kk ++ [vk]) vs row) ∧ (∀ x ∈ ents, rowFind rows x.1 kk.length = some x.2) ∧
    (∀ vs k, FlatRow kk vs k → (∀ x ∈ ents, x.1 ≠ k) → rowFind rows k kk.length = none) ∧ ents.Pairwise fun x y => x.1 ≠ y.1
def MpOk (B : Base) (E : Env) (p : Pl) (a : Nat) (M : Mp) (w : World) : Prop :=
  ∃ b es clock rows, p.mp a = some b ∧ p.ow b = .mp a ∧ B.w0.heap.size ≤ b ∧ w.heap[b]? = some (.map es clock) ∧ M.x.den E = .l rows ∧ MapRd M.kk M.agg M.vk es.toList rows
structure MpsOk (B : Base) (E : Env) (p : Pl) (mps : List (Pc Mp)) (w : World) : Prop where
  at_ : ∀ a M, nth mps a = some (.at M) → MpOk B E p a M w
  free : ∀ a, mps.length ≤ a → p.mp a = none

structure RepH (B : Base) (E : Env) (p : Pl) (g : Gm) (h : Hp) (w : World) : Prop where
  fr : Turn B.M B.w0 w
  g0 : B.g0.Le g
  g1 : ∀ k o v, g k o = some v → B.g0 k o = some v ∨ B.wr k o
  gg : ∀ k o v, g k o = some v → w.cell? ⟨k, o, none⟩ = some v ∧ p.ow k = .z
  reg : ∀ r cs, nth h.regs r = some (.at cs) → RegOk B E p g r cs w
  rfree : ∀ r, nth h.regs r = none ∨ nth h.regs r = some .fr → p.reg r = none
  arr : ∀ a A, nth h.arrs a = some (.at A) → ArOk B E p g a A w
  afree : ∀ a, nth h.arrs a = none ∨ nth h.arrs a = some .fr → p.arr a = none
  mm : MpsOk B E p h.mps w

/-- The cells that are known. -/
def Kn (E : Env) (p : Pl) (h : Hp) (k i : Nat) : Prop :=
  p.ow k = .z ∨ (∃ r cs b q, nth h.regs r = some (.at cs) ∧ p.reg r = some (b, q) ∧ k = b ∧ q ≤ i ∧ i < q + cs.length) ∨
    (∃ a A b c, nth h.arrs a = some (.at A) ∧ p.arr a = some (some ⟨b, 0, none⟩, c) ∧ k = b ∧ i < (A.x.den E).rows.length * A.K.kd.length)

structure FrameOk (E : Env) (p : Pl) (g : Gm) (tmps : List SR) (a : Act) : Prop where
  defers : a.defers = []
  size : a.tmps.size = tmps.length
  tmp : ∀ i c, nth tmps i = some c → c.is E p g (a.tmps.getD i Go.undef)
structure Rep (B : Base) (E : Env) (p : Pl) (g : Gm) (s : St) (a : Act) (as : List Act) (w : World) : Prop where
  mem : RepH B E p g s.h w
  frame : FrameOk E p g s.tmps a
  stk : All2 (FrameOk E p g) s.stk as
  known : ∀ b ∈ s.known, (b.den E).bool = true
  keep : ∀ i x, B.r0 i = some x → p.reg i = some x

section
variable {B : Base} {E F : Env} {p q : Pl} {g g' : Gm} {h : Hp} {w w' : World} {Mc : Nat → Nat → Prop}

theorem FrameOk.le {t : List SR} {a : Act} (h : FrameOk E p g t a) (hp : p.Le q) (hg : g.Le g') : FrameOk E q g' t a := ⟨h.defers, h.size, fun i c hc => SR.is_le hp hg (h.tmp i c hc)⟩
theorem FrameOk.agree {n : Nat} {t : List SR} {a : Act} (h : FrameOk E p g t a) (hE : E.Agree n F) (u : allB (SR.under n) t = true) : FrameOk F p g t a := ⟨h.defers, h.size, fun i c hc => SR.is_agree hE (allB_nth u hc) (h.tmp i c hc)⟩

/-- Cells in which nothing turns. -/
theorem RegOk.turn {r : Nat} {cs : List SC} (R : RegOk B E p g r cs w) (T : Turn Mc w w') (hm : ∀ b q o, p.reg r = some (b, q) → o < cs.length → ¬ Mc b (q + o)) (hp : p.Le q) (hg : g.Le g') (ho : ∀ b q', p.reg r = some (b, q') → q.ow b = .reg r) : RegOk B E q g' r cs w' := by
  obtain ⟨b, q', h1, h2, h3, h4⟩ := R.ex
  refine ⟨b, q', hp.reg _ _ h1, ho b q' h1, Nat.lt_of_lt_of_le h3 T.size, fun o c hc => ?_⟩
  obtain ⟨k1, k2, v, k3, k4⟩ := h4 o c hc
  exact ⟨k1, (T.frozen h3 _).trans k2, v, (T.cell h3 (hm b q' o h1 (nth_lt hc))).trans k3, SC.is_le hp hg k4⟩
theorem ArOk.turn {a : Nat} {A : Ar} (R : ArOk B E p g a A w) (T : Turn Mc w w') (hm : ∀ b c i, p.arr a = some (some ⟨b, 0, none⟩, c) → 0 < c → b < w.heap.size → p.ow b = .arr a → ¬ Mc b i) (hp : p.Le q) (hg : g.Le g') (ho : ∀ b c, p.arr a = some (some ⟨b, 0, none⟩, c) → 0 < c → b < w.heap.size → p.ow b = .arr a → q.ow b = .arr a) : ArOk B E q g' a A w' := by
  obtain ⟨ad, cap, rows, h1, h2, h3, h4, h5, h6, h7, h8⟩ := R.ex
  refine ⟨ad, cap, rows, hp.arr _ _ h1, h2, h3, h4, h5, h6, h7, fun hc => ?_⟩
  obtain ⟨b, cur, e, k1, k2, k3, k4, k5⟩ := h8 hc
  subst e
  exact ⟨b, cur, rfl, ho b cap h1 hc (lt_of_block k2) k1, T.block k2 fun i => hm b cap i h1 hc (lt_of_block k2) k1, k3, k4, fun i row hi => RdRow.mono hg _ _ _ _ (fun _ _ hv => hv) (k5 i row hi)⟩

theorem MpsOk.turn {mps : List (Pc Mp)} (H : MpsOk B E p mps w) (T : Turn Mc w w') (hq : q.mp = p.mp) (ho : ∀ a b, p.mp a = some b → p.ow b = .mp a → b < w.heap.size → (∀ c e f, w.heap[b]? ≠ some (.cells c e f)) → q.ow b = .mp a) : MpsOk B E q mps w' := by
  refine ⟨fun a M h => ?_, fun a h => by rw [hq]; exact H.free a h⟩
  obtain ⟨b, es, clock, rows, h1, h2, h3, h4, h5, h6⟩ := H.at_ a M h
  obtain ⟨o, e1, e2⟩ := T.obj b _ h4
  have e2 : o = .map es clock := e2
  subst e2
  exact ⟨b, es, clock, rows, by rw [hq]; exact h1, ho a b h1 h2 (lt_of_block h4) (fun c e f hx => by rw [h4] at hx; cases hx), h3, e1, h5, h6⟩
theorem MpsOk.keep {mps : List (Pc Mp)} (H : MpsOk B E p mps w) (T : Turn Mc w w') : MpsOk B E p mps w' := H.turn T rfl fun _ _ _ h _ _ => h
theorem MpsOk.agree {n : Nat} {mps : List (Pc Mp)} (H : MpsOk B E p mps w) (hE : E.Agree n F) (u : allB (Pc.all fun A => A.x.under n) mps = true) : MpsOk B F p mps w := by
  refine ⟨fun a M h => ?_, H.free⟩
  obtain ⟨b, es, clock, rows, h1, h2, h3, h4, h5, h6⟩ := H.at_ a M h
  have hu : M.x.under n = true := allB_nth u h
  exact ⟨b, es, clock, rows, h1, h2, h3, h4, by rw [← X.den_agree hE hu]; exact h5, h6⟩

theorem RepH.gg_lt (H : RepH B E p g h w) {k o : Nat} {v : Value} (hk : g k o = some v) : k < w.heap.size := lt_of_cell (H.gg k o v hk).1
/-- The frame, where cells of one's own turn. -/
theorem RepH.fr_turn (H : RepH B E p g h w) (T : Turn Mc w w') (hM : ∀ k i, k < w.heap.size → Mc k i → B.wr k i) : Turn B.M B.w0 w' :=
  (H.fr.trans (T.mono (Nc := fun k i => B.wr k i) hM)).mono fun k i hk hm => by
    rcases hm with hm | hm | hm
    · exact hm
    · exact hm
    · omega
theorem RepH.gg_turn (H : RepH B E p g h w) (T : Turn Mc w w') (hM : ∀ k i, k < w.heap.size → Mc k i → p.ow k ≠ .z) {k o : Nat} {v : Value} (hk : g k o = some v) : w'.cell? ⟨k, o, none⟩ = some v := by
  obtain ⟨h1, h2⟩ := H.gg k o v hk
  exact (T.cell (H.gg_lt hk) fun hm => hM k o (H.gg_lt hk) hm h2).trans h1

/-- Where nothing turns that was there. -/
theorem RepH.below (H : RepH B E p g h w) (hb : Below w.heap.size w w') : RepH B E p g h w' := by
  have T : Turn (fun _ _ => False) w w' := Turn.of_below hb
  exact ⟨H.fr_turn T fun _ _ _ h => h.elim, H.g0, H.g1, fun k o v hk => ⟨H.gg_turn T (fun _ _ _ h => h.elim) hk, (H.gg k o v hk).2⟩,
    fun r cs hr => (H.reg r cs hr).turn T (fun _ _ _ _ _ h => h) (Pl.Le.refl _) (Gm.Le.refl _) fun b q' e => by
      obtain ⟨b', q1, e1, e2, _⟩ := (H.reg r cs hr).ex
      rw [e] at e1; cases e1; exact e2, H.rfree,
    fun a A ha => (H.arr a A ha).turn T (fun _ _ _ _ _ _ _ h => h) (Pl.Le.refl _) (Gm.Le.refl _) fun _ _ _ _ _ h => h, H.afree, H.mm.keep T⟩

/-- Letters that are not met may be others. -/
theorem RegOk.agree {n r : Nat} {cs : List SC} (R : RegOk B E p g r cs w) (hE : E.Agree n F) (u : allB (SC.under n) cs = true) : RegOk B F p g r cs w := by
  obtain ⟨b, q', h1, h2, h3, h4⟩ := R.ex
  refine ⟨b, q', h1, h2, h3, fun o c hc => ?_⟩
  obtain ⟨k1, k2, v, k3, k4⟩ := h4 o c hc
  exact ⟨k1, k2, v, k3, SC.is_agree hE (allB_nth u hc) k4⟩
theorem ArOk.agree {n a : Nat} {A : Ar} (R : ArOk B E p g a A w) (hE : E.Agree n F) (u : A.x.under n = true) : ArOk B F p g a A w := by
  obtain ⟨ad, cap, rows, h1, h2, h3⟩ := R.ex
  exact ⟨ad, cap, rows, h1, by rw [← X.den_agree hE u]; exact h2, h3⟩
theorem RepH.agree {n : Nat} (H : RepH B E p g h w) (hE : E.Agree n F) (u : h.under n = true) : RepH B F p g h w := by
  simp only [Hp.under, Bool.and_eq_true] at u
  exact ⟨H.fr, H.g0, H.g1, H.gg, fun r cs hr => (H.reg r cs hr).agree hE (allB_nth u.1 hr), H.rfree, fun a A ha => (H.arr a A ha).agree hE (allB_nth u.2.1 ha), H.afree, H.mm.agree hE u.2.2⟩
end
end Go.Sy
