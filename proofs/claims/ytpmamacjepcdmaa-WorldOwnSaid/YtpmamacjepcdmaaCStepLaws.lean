import Derived.Test.YtpmamacjepcdmaaCRef
import Derived.Test.YtpmamacjepcdmaaCStep
namespace Go.Proofs.Ytpmamacjepcdmaa
open Go Go.Sy Go.RowKit
theorem getD_modify {α : Type} [Inhabited α] (f : α → α) : ∀ (l : List α) (a i : Nat), (l.modify a f).getD i default = if a = i ∧ a < l.length then f (l.getD i default) else l.getD i default
  | [], a, i => by simp
  | x :: l, 0, 0 => by simp
  | x :: l, 0, i + 1 => by simp
  | x :: l, a + 1, 0 => by simp
  | x :: l, a + 1, i + 1 => by
    have := getD_modify f l a i
    simp only [List.modify_succ_cons, List.getD_cons_succ, this, List.length_cons, Nat.add_lt_add_iff_right, Nat.add_right_cancel_iff]
theorem all_of_getD {α : Type} [Inhabited α] {P : α → Prop} {l : List α} (h : ∀ i, i < l.length → P (l.getD i default)) : ∀ s ∈ l, P s := fun s hs => by
  obtain ⟨i, hi, rfl⟩ := List.getElem_of_mem hs
  have := h i hi
  rwa [List.getD_eq_getElem?_getD, List.getElem?_eq_getElem hi, Option.getD_some] at this
theorem ext_getD {α : Type} [Inhabited α] {l m : List α} (hl : l.length = m.length) (h : ∀ i, i < l.length → l.getD i default = m.getD i default) : l = m := by
  apply List.ext_getElem hl
  intro i h1 h2
  have := h i h1
  rwa [List.getD_eq_getElem?_getD, List.getD_eq_getElem?_getD, List.getElem?_eq_getElem h1, List.getElem?_eq_getElem h2, Option.getD_some, Option.getD_some] at this
theorem modify_id {α : Type} [Inhabited α] (f : α → α) (l : List α) (a : Nat) (h : f (l.getD a default) = l.getD a default) : l.modify a f = l := by
  refine ext_getD (by simp) fun i _ => ?_
  rw [getD_modify]
  split
  · rename_i hx; rw [← hx.1, h]
  · rfl
def turned (m : Mem) (a : Nat) (f : Slot → Slot) (free : List Int) : Mem := { m with slots := m.slots.modify a f, free := free }
theorem msl_turned (m : Mem) (a : Nat) (f : Slot → Slot) (free : List Int) (i : Nat) : msl (turned m a f free) i = if a = i ∧ a < m.slots.length then f (msl m i) else msl m i := getD_modify f m.slots a i
theorem turned_length (m : Mem) (a : Nat) (f : Slot → Slot) (free : List Int) : (turned m a f free).slots.length = m.slots.length := by simp [turned]
theorem MemOk.turned {m : Mem} (h : MemOk m) {a : Nat} {f : Slot → Slot} {free : List Int} (ha : a < m.slots.length) (hs : SlotOk m.slots.length m.heads.length (f (msl m a)))
    (hf : ∀ b ∈ free, 0 ≤ b ∧ b < m.slots.length ∧ (if a = b.toNat then (f (msl m a)).refs = 0 else (msl m b.toNat).refs = 0)) (hn : free.Nodup)
    (hl : ∀ i, i < m.slots.length → (if a = i then (f (msl m a)).refs = 0 else (msl m i).refs = 0) → (i : Int) ∈ free) : MemOk (turned m a f free) := by
  have e := turned_length m a f free
  refine ⟨by rw [e]; exact h.ns, h.nh1, h.nh4, h.nl, h.now0, h.now1, ?_, by rw [e]; exact h.head, fun b hb => ?_, hn, fun i hi hr => ?_⟩
  · rw [e]
    refine all_of_getD fun i hi => ?_
    have : i < m.slots.length := by rw [e] at hi; exact hi
    show SlotOk _ _ (msl (Ytpmamacjepcdmaa.turned m a f free) i)
    rw [msl_turned]
    split
    · rename_i hx; rw [← hx.1]; exact hs
    · exact h.sl this
  · obtain ⟨h1, h2, h3⟩ := hf b hb
    refine ⟨h1, by rw [e]; exact h2, ?_⟩
    rw [msl_turned]
    by_cases hx : a = b.toNat
    · rw [if_pos hx] at h3
      rw [if_pos ⟨hx, ha⟩, ← hx]; exact h3
    · rw [if_neg hx] at h3
      rw [if_neg (fun y => hx y.1)]; exact h3
  · rw [e] at hi
    rw [msl_turned] at hr
    refine hl i hi ?_
    by_cases hx : a = i
    · rw [if_pos hx]
      rw [if_pos ⟨hx, ha⟩, ← hx] at hr; exact hr
    · rw [if_neg hx]
      rw [if_neg (fun y => hx y.1)] at hr; exact hr
theorem free_split {m : Mem} (h : m.free.length ≠ 0) : m.free = m.free.take (m.free.length - 1) ++ [lastFree m] := by
  have h1 : m.free.length - 1 < m.free.length := by omega
  have e : m.free.take (m.free.length - 1 + 1) = m.free := by rw [List.take_of_length_le (by omega)]
  rw [List.take_succ_eq_append_getElem h1] at e
  unfold lastFree
  rw [List.getD_eq_getElem?_getD, List.getElem?_eq_getElem h1, Option.getD_some, e]
theorem take_ok {m : Mem} (h : MemOk m) {k : Key} {till : Int} (hn : m.free.length ≠ 0) (hk : Key.Ok k) (h0 : 0 ≤ till) (h1 : till ≤ 2000000) : MemOk (turned m (lastFree m).toNat (takeSlot k till) (m.free.take (m.free.length - 1))) := by
  have hl := h.free _ (lastFree_mem hn)
  have hlt : (lastFree m).toNat < m.slots.length := by omega
  have hs := h.sl hlt
  have hsp := free_split hn
  have hnd := h.nodup
  rw [hsp] at hnd
  have hnd := List.nodup_append.1 hnd
  have hnot : ∀ b ∈ m.free.take (m.free.length - 1), b ≠ lastFree m := fun b hb => hnd.2.2 b hb (lastFree m) (by simp)
  refine h.turned hlt ⟨?_, ?_, h0, h1, hk, hs.n0, hs.n1⟩ (fun b hb => ?_) hnd.1 (fun i hi hr => ?_)
  · simp [takeSlot]
  · simp [takeSlot]
  · have := h.free b (by rw [hsp]; simp [hb])
    refine ⟨this.1, this.2.1, ?_⟩
    rw [if_neg]
    · exact this.2.2
    · intro e
      exact hnot b hb (by omega)
  · split at hr
    · simp [takeSlot] at hr
    · rename_i hne
      have := h.leak i hi hr
      rw [hsp, List.mem_append, List.mem_singleton] at this
      rcases this with h2 | h2
      · exact h2
      · exact absurd (by omega) hne
theorem refs_ok {m : Mem} (hm : MemOk m) {a : Nat} {n : Int} (h1 : a < m.slots.length) (h0 : 1 ≤ (msl m a).refs) (h2 : 1 ≤ (msl m a).refs + n) (h3 : (msl m a).refs + n ≤ 1000) : MemOk (turned m a (refsBy n) m.free) := by
  have hs := hm.sl h1
  refine hm.turned h1 ⟨by show 0 ≤ (msl m a).refs + n; omega, h3, hs.t0, hs.t1, hs.k, hs.n0, hs.n1⟩ (fun b hb => ?_) hm.nodup (fun i hi hr => ?_)
  · have := hm.free b hb
    refine ⟨this.1, this.2.1, ?_⟩
    rw [if_neg (fun e => by rw [e] at h0; omega)]
    exact this.2.2
  · split at hr
    · have hr : (msl m a).refs + n = 0 := hr
      omega
    · exact hm.leak i hi hr
theorem freed_ok {m : Mem} (hm : MemOk m) {a : Int} (h0 : 0 ≤ a) (h1 : a < m.slots.length) (h2 : (msl m a.toNat).refs = 1) : MemOk (turned m a.toNat (refsBy (-1)) (m.free ++ [a])) := by
  have hlt : a.toNat < m.slots.length := by omega
  have hs := hm.sl hlt
  have hna : a ∉ m.free := fun h => by have := (hm.free a h).2.2; omega
  refine hm.turned hlt ⟨by show 0 ≤ (msl m a.toNat).refs + -1; omega, by show (msl m a.toNat).refs + -1 ≤ 1000; omega, hs.t0, hs.t1, hs.k, hs.n0, hs.n1⟩ (fun b hb => ?_) ?_ (fun i hi hr => ?_)
  · rcases List.mem_append.1 hb with hb | hb
    · have := hm.free b hb
      refine ⟨this.1, this.2.1, ?_⟩
      rw [if_neg (fun e => by
        have : a = b := by omega
        exact hna (by rw [this]; exact hb))]
      exact this.2.2
    · rw [List.mem_singleton] at hb
      subst hb
      refine ⟨h0, h1, ?_⟩
      rw [if_pos rfl]
      show (msl m b.toNat).refs + -1 = 0
      omega
  · exact List.nodup_append.2 ⟨hm.nodup, by simp, fun x hx y hy => by
      rw [List.mem_singleton] at hy
      subst hy
      intro e
      exact hna (by rw [← e]; exact hx)⟩
  · split at hr
    · rename_i e
      rw [List.mem_append, List.mem_singleton]
      right; omega
    · rw [List.mem_append]
      exact .inl (hm.leak i hi hr)
end Go.Proofs.Ytpmamacjepcdmaa

namespace Go.Proofs.Ytpmamacjepcdmaa
open Go Go.Sy Go.RowKit
set_option linter.unusedSimpArgs false
set_option linter.unusedVariables false
theorem checkCall_len {m x : Mem} (h1 : x.slots.length = m.slots.length) (h2 : x.heads.length = m.heads.length) (c : Cal) : checkCall x c = checkCall m c := by
  unfold checkCall
  rw [h1, h2]
theorem FrmOk.with {m x : Mem} {f g : Frm} (h : FrmOk m f) (h1 : x.slots.length = m.slots.length) (h2 : x.heads.length = m.heads.length) (hc : g.c = f.c) (hd : g.done = false)
    (pc : 0 ≤ g.pc ∧ g.pc ≤ 9) (n : 0 ≤ g.n ∧ g.n ≤ 1000000) (cur : -(m.heads.length : Int) ≤ g.cur ∧ g.cur ≤ m.slots.length) (prev : 0 ≤ g.prev ∧ g.prev ≤ m.slots.length)
    (slot : -1 ≤ g.slot ∧ g.slot < m.slots.length) (keys : g.keys.length ≤ 100) : FrmOk x g :=
  ⟨by rw [hc, checkCall_len h1 h2]; exact h.call, pc.1, pc.2, n.1, n.2, hd, by rw [h2]; exact cur.1, by rw [h1]; exact cur.2, prev.1, by rw [h1]; exact prev.2, slot.1, by rw [h1]; exact slot.2, keys⟩
theorem hold_len (m : Mem) (a : Int) : (hold m a).1.slots.length = m.slots.length ∧ (hold m a).1.heads = m.heads ∧ (hold m a).1.locks = m.locks ∧ (hold m a).1.now = m.now := by
  unfold hold
  split
  · exact ⟨rfl, rfl, rfl, rfl⟩
  · exact ⟨by simp, rfl, rfl, rfl⟩
theorem put_len (m : Mem) (a : Int) : (put m a).slots.length = m.slots.length ∧ (put m a).heads = m.heads ∧ (put m a).locks = m.locks ∧ (put m a).now = m.now := by
  unfold put
  split
  · exact ⟨rfl, rfl, rfl, rfl⟩
  · split <;> exact ⟨by simp, rfl, rfl, rfl⟩
theorem fix_put (m : Mem) (a : Int) : fix (put m a) = put (fix m) a := by
  have e : msl (fix m) a.toNat = msl m a.toNat := rfl
  unfold put
  rw [e]
  split
  · rfl
  · split <;> rfl
theorem fix_hold (m : Mem) (a : Int) : fix (hold m a).1 = (hold (fix m) a).1 := by
  have e : msl (fix m) a.toNat = msl m a.toNat := rfl
  unfold hold
  rw [e]
  split <;> rfl
theorem hold_ok {m : Mem} (hm : MemOk m) {a : Int} (h0 : 0 ≤ a) (h1 : a < m.slots.length) : MemOk (hold m a).1 := by
  unfold hold
  split
  · exact hm
  · rename_i h
    have hs := hm.sl (i := a.toNat) (by omega)
    have r0 := hs.r0
    have r1 := hs.r1
    exact refs_ok hm (a := a.toNat) (n := 1) (by omega) (by omega) (by omega) (by omega)
theorem put_ok {m : Mem} (hm : MemOk m) {a : Int} (h0 : 0 ≤ a) (h1 : a < m.slots.length) : MemOk (put m a) := by
  unfold put
  split
  · exact hm
  · rename_i h
    have hs := hm.sl (i := a.toNat) (by omega)
    have r0 := hs.r0
    have r1 := hs.r1
    split
    · rename_i h'
      exact freed_ok hm h0 h1 h'
    · rename_i h'
      exact refs_ok hm (a := a.toNat) (n := -1) (by omega) (by omega) (by omega) (by omega)
theorem take_mem {m : Mem} (hm : MemOk m) {k : Key} {t : Int} (hk : Key.Ok k) (h0 : 0 ≤ t) (h1 : t ≤ 2000000) : MemOk (take m k t).1 := by
  unfold take
  split
  · exact hm
  · rename_i h; exact take_ok hm h hk h0 h1
theorem next_ok {m : Mem} (hm : MemOk m) {a : Nat} {f : Slot → Slot} (ha : a < m.slots.length) (h1 : ∀ s, (f s).refs = s.refs) (hs : SlotOk m.slots.length m.heads.length (f (msl m a))) : MemOk (turned m a f m.free) := by
  refine MemOk.turned hm ha hs (fun b hb => ?_) hm.nodup fun i hi hr => ?_
  · obtain ⟨k1, k2, k3⟩ := hm.free b hb
    refine ⟨k1, k2, ?_⟩
    split
    · rename_i e; rw [h1, e]; exact k3
    · exact k3
  · refine hm.leak i hi ?_
    split at hr
    · rename_i e; rw [h1, e] at hr; exact hr
    · exact hr
theorem MemIn.put {m : Mem} (hm : MemIn m) {a : Int} (h0 : 0 ≤ a) (h1 : a < m.slots.length) : MemIn (put m a) := by
  obtain ⟨e1, e2, e3, _⟩ := put_len m a
  exact ⟨by rw [fix_put]; exact put_ok hm.fx h0 h1, by rw [e2, e3]; exact hm.nl, by rw [e1, e2]; exact hm.hd⟩
theorem MemIn.hold {m : Mem} (hm : MemIn m) {a : Int} (h0 : 0 ≤ a) (h1 : a < m.slots.length) : MemIn (hold m a).1 := by
  obtain ⟨e1, e2, e3, _⟩ := hold_len m a
  exact ⟨by rw [fix_hold]; exact hold_ok hm.fx h0 h1, by rw [e2, e3]; exact hm.nl, by rw [e1, e2]; exact hm.hd⟩
theorem MemIn.take {m : Mem} (hm : MemIn m) {k : Key} {t : Int} (hk : Key.Ok k) (h0 : 0 ≤ t) (h1 : t ≤ 2000000) : MemIn (take m k t).1 := by
  have e : fix (Ytpmamacjepcdmaa.take m k t).1 = (Ytpmamacjepcdmaa.take (fix m) k t).1 := by
    unfold Ytpmamacjepcdmaa.take
    show _ = (if m.free.length = 0 then _ else _ : Mem × Int × Int).1
    split <;> rfl
  have e2 : (Ytpmamacjepcdmaa.take m k t).1.slots.length = m.slots.length ∧ (Ytpmamacjepcdmaa.take m k t).1.heads = m.heads ∧ (Ytpmamacjepcdmaa.take m k t).1.locks = m.locks := by
    unfold Ytpmamacjepcdmaa.take
    split
    · exact ⟨rfl, rfl, rfl⟩
    · exact ⟨by simp, rfl, rfl⟩
  exact ⟨by rw [e]; exact take_mem hm.fx hk h0 h1, by rw [e2.2.1, e2.2.2]; exact hm.nl, by rw [e2.1, e2.2.1]; exact hm.hd⟩
theorem MemIn.lock {m : Mem} (hm : MemIn m) (b t : Int) : MemIn (lock m b t).1 := by
  unfold Ytpmamacjepcdmaa.lock
  split
  · exact ⟨hm.fx, by simp [hm.nl], hm.hd⟩
  · exact hm
theorem MemIn.unlock {m : Mem} (hm : MemIn m) (b t : Int) : MemIn (unlock m b t) := by
  unfold Ytpmamacjepcdmaa.unlock
  split
  · exact ⟨hm.fx, by simp [hm.nl], hm.hd⟩
  · exact hm
theorem fix_set (m : Mem) (s : List Slot) (b : Nat) (v : Int) : fix { m with slots := s, heads := m.heads.set b v } = { fix m with slots := s } := by
  simp [fix]
theorem set_in {m : Mem} (hm : MemIn m) {b : Nat} {v : Int} (h0 : -(m.heads.length : Int) ≤ v) (h1 : v ≤ m.slots.length) (i : Nat) (hi : i < m.heads.length) : -(m.heads.length : Int) ≤ (m.heads.set b v).getD i 0 ∧ (m.heads.set b v).getD i 0 ≤ m.slots.length := by
  by_cases e : b = i
  · subst e
    rw [List.getD_eq_getElem?_getD, List.getElem?_set_self hi]
    exact ⟨h0, h1⟩
  · rw [List.getD_eq_getElem?_getD, List.getElem?_set_ne e, ← List.getD_eq_getElem?_getD]
    exact hm.hd i hi
theorem head_in {m : Mem} (hm : MemIn m) {b : Int} (h0 : 0 ≤ b) (h1 : b < m.heads.length) : -(m.heads.length : Int) ≤ headAt m b ∧ headAt m b ≤ m.slots.length := hm.hd b.toNat (by omega)
theorem next_in {m : Mem} (hm : MemIn m) {a : Nat} (h : a < m.slots.length) : -(m.heads.length : Int) ≤ (msl m a).next ∧ (msl m a).next ≤ m.slots.length := by
  have := hm.sl h
  exact ⟨this.n1, this.n0⟩
theorem MemIn.link {m : Mem} (hm : MemIn m) {a b : Int} (h0 : 0 ≤ a) (h1 : a < m.slots.length) (h2 : 0 ≤ b) (h3 : b < m.heads.length) : MemIn (link m a b) := by
  have hs := hm.fx.sl (i := a.toNat) (by show _ < m.slots.length; omega)
  have hh := head_in hm h2 h3
  have l1 : (Ytpmamacjepcdmaa.link m a b).slots.length = m.slots.length := by simp [Ytpmamacjepcdmaa.link]
  have l2 : (Ytpmamacjepcdmaa.link m a b).heads.length = m.heads.length := by simp [Ytpmamacjepcdmaa.link]
  refine ⟨?_, by rw [l2]; exact hm.nl, ?_⟩
  · show MemOk (fix { m with slots := _, heads := m.heads.set b.toNat (a + 1) })
    rw [fix_set]
    exact next_ok hm.fx (a := a.toNat) (f := linkSlot (headAt m b)) (by show _ < m.slots.length; omega) (fun _ => rfl) ⟨hs.r0, hs.r1, hs.t0, hs.t1, hs.k, hh.2, by rw [fix_heads]; exact hh.1⟩
  · rw [l1, l2]; exact set_in hm (by omega) (by omega)
theorem MemIn.cut {m : Mem} (hm : MemIn m) {p a b : Int} (h0 : 0 ≤ a) (h1 : a < m.slots.length) (hp : p ≤ m.slots.length) : MemIn (cut m p a b) := by
  have hn := next_in hm (a := a.toNat) (by omega)
  unfold Ytpmamacjepcdmaa.cut
  split
  · have hs := hm.fx.sl (i := (p - 1).toNat) (by show _ < m.slots.length; omega)
    refine ⟨?_, hm.nl, by simpa using hm.hd⟩
    exact next_ok hm.fx (a := (p - 1).toNat) (f := nextTo (msl m a.toNat).next) (by show _ < m.slots.length; omega) (fun _ => rfl) ⟨hs.r0, hs.r1, hs.t0, hs.t1, hs.k, hn.2, by rw [fix_heads]; exact hn.1⟩
  · refine ⟨?_, by simp [hm.nl], by simpa using set_in hm hn.1 hn.2⟩
    have := fix_set m m.slots b.toNat (msl m a.toNat).next
    rw [this]
    exact hm.fx
end Go.Proofs.Ytpmamacjepcdmaa
