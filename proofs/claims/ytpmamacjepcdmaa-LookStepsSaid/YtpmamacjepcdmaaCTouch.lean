import Derived.Test.YtpmamacjepcdmaaCStep
import Derived.Test.YtpmamacjepcdmaaCMemLaws
/- Steps keep memory right, and frames fitting. -/
namespace Go.Proofs.Ytpmamacjepcdmaa
open Go Go.Sy Go.RowKit
set_option linter.unusedSimpArgs false
set_option linter.unusedVariables false

theorem checkCall_len {m x : Mem} (h1 : x.slots.length = m.slots.length) (h2 : x.heads.length = m.heads.length) (c : Cal) : checkCall x c = checkCall m c := by
  unfold checkCall
  rw [h1, h2]
theorem FrmOk.with {m x : Mem} {f g : Frm} (h : FrmOk m f) (h1 : x.slots.length = m.slots.length) (h2 : x.heads.length = m.heads.length) (hc : g.c = f.c) (hd : g.done = false)
    (pc : 0 ≤ g.pc ∧ g.pc ≤ 9) (n : 0 ≤ g.n ∧ g.n ≤ 1000000) (cur : -(m.heads.length : Int) ≤ g.cur ∧ g.cur ≤ m.slots.length) (prev : 0 ≤ g.prev ∧ g.prev ≤ m.slots.length)
    (slot : -1 ≤ g.slot ∧ g.slot < m.slots.length) (keys : g.keys.length ≤ 100) : FrmOk x g :=
  ⟨by rw [hc, checkCall_len h1 h2]; exact h.call, pc.1, pc.2, n.1, n.2, hd, by rw [h2]; exact cur.1, by rw [h1]; exact cur.2, prev.1, by rw [h1]; exact prev.2, slot.1, by rw [h1]; exact slot.2, keys⟩
theorem hold_len (m : Mem) (a : Int) : (hold m a).1.slots.length = m.slots.length ∧ (hold m a).1.heads = m.heads ∧ (hold m a).1.locks = m.locks ∧ (hold m a).1.now = m.now := by
  unfold hold
  split
  · exact ⟨rfl, rfl, rfl, rfl⟩
  · exact ⟨by simp, rfl, rfl, rfl⟩
theorem put_len (m : Mem) (a : Int) : (put m a).slots.length = m.slots.length ∧ (put m a).heads = m.heads ∧ (put m a).locks = m.locks ∧ (put m a).now = m.now := by
  unfold put
  split
  · exact ⟨rfl, rfl, rfl, rfl⟩
  · split <;> exact ⟨by simp, rfl, rfl, rfl⟩
theorem fix_put (m : Mem) (a : Int) : fix (put m a) = put (fix m) a := by
  have e : msl (fix m) a.toNat = msl m a.toNat := rfl
  unfold put
  rw [e]
  split
  · rfl
  · split <;> rfl
theorem fix_hold (m : Mem) (a : Int) : fix (hold m a).1 = (hold (fix m) a).1 := by
  have e : msl (fix m) a.toNat = msl m a.toNat := rfl
  unfold hold
  rw [e]
  split <;> rfl
theorem hold_ok {m : Mem} (hm : MemOk m) {a : Int} (h0 : 0 ≤ a) (h1 : a < m.slots.length) : MemOk (hold m a).1 := by
  unfold hold
  split
  · exact hm
  · rename_i h
    have hs := hm.sl (i := a.toNat) (by omega)
    have r0 := hs.r0
    have r1 := hs.r1
    exact refs_ok hm (a := a.toNat) (n := 1) (by omega) (by omega) (by omega) (by omega)
theorem put_ok {m : Mem} (hm : MemOk m) {a : Int} (h0 : 0 ≤ a) (h1 : a < m.slots.length) : MemOk (put m a) := by
  unfold put
  split
  · exact hm
  · rename_i h
    have hs := hm.sl (i := a.toNat) (by omega)
    have r0 := hs.r0
    have r1 := hs.r1
    split
    · rename_i h'
      exact freed_ok hm h0 h1 h'
    · rename_i h'
      exact refs_ok hm (a := a.toNat) (n := -1) (by omega) (by omega) (by omega) (by omega)
theorem take_mem {m : Mem} (hm : MemOk m) {k : Key} {t : Int} (hk : Key.Ok k) (h0 : 0 ≤ t) (h1 : t ≤ 2000000) : MemOk (take m k t).1 := by
  unfold take
  split
  · exact hm
  · rename_i h; exact take_ok hm h hk h0 h1
/-- one slot's next, and whether it is in, changes nothing about what is free -/
theorem next_ok {m : Mem} (hm : MemOk m) {a : Nat} {f : Slot → Slot} (ha : a < m.slots.length) (h1 : ∀ s, (f s).refs = s.refs) (hs : SlotOk m.slots.length m.heads.length (f (msl m a))) : MemOk (turned m a f m.free) := by
  refine MemOk.turned hm ha hs (fun b hb => ?_) hm.nodup fun i hi hr => ?_
  · obtain ⟨k1, k2, k3⟩ := hm.free b hb
    refine ⟨k1, k2, ?_⟩
    split
    · rename_i e; rw [h1, e]; exact k3
    · exact k3
  · refine hm.leak i hi ?_
    split at hr
    · rename_i e; rw [h1, e] at hr; exact hr
    · exact hr
theorem MemIn.put {m : Mem} (hm : MemIn m) {a : Int} (h0 : 0 ≤ a) (h1 : a < m.slots.length) : MemIn (put m a) := by
  obtain ⟨e1, e2, e3, _⟩ := put_len m a
  exact ⟨by rw [fix_put]; exact put_ok hm.fx h0 h1, by rw [e2, e3]; exact hm.nl, by rw [e1, e2]; exact hm.hd⟩
theorem MemIn.hold {m : Mem} (hm : MemIn m) {a : Int} (h0 : 0 ≤ a) (h1 : a < m.slots.length) : MemIn (hold m a).1 := by
  obtain ⟨e1, e2, e3, _⟩ := hold_len m a
  exact ⟨by rw [fix_hold]; exact hold_ok hm.fx h0 h1, by rw [e2, e3]; exact hm.nl, by rw [e1, e2]; exact hm.hd⟩
theorem MemIn.take {m : Mem} (hm : MemIn m) {k : Key} {t : Int} (hk : Key.Ok k) (h0 : 0 ≤ t) (h1 : t ≤ 2000000) : MemIn (take m k t).1 := by
  have e : fix (Ytpmamacjepcdmaa.take m k t).1 = (Ytpmamacjepcdmaa.take (fix m) k t).1 := by
    unfold Ytpmamacjepcdmaa.take
    show _ = (if m.free.length = 0 then _ else _ : Mem × Int × Int).1
    split <;> rfl
  have e2 : (Ytpmamacjepcdmaa.take m k t).1.slots.length = m.slots.length ∧ (Ytpmamacjepcdmaa.take m k t).1.heads = m.heads ∧ (Ytpmamacjepcdmaa.take m k t).1.locks = m.locks := by
    unfold Ytpmamacjepcdmaa.take
    split
    · exact ⟨rfl, rfl, rfl⟩
    · exact ⟨by simp, rfl, rfl⟩
  exact ⟨by rw [e]; exact take_mem hm.fx hk h0 h1, by rw [e2.2.1, e2.2.2]; exact hm.nl, by rw [e2.1, e2.2.1]; exact hm.hd⟩
theorem MemIn.lock {m : Mem} (hm : MemIn m) (b t : Int) : MemIn (lock m b t).1 := by
  unfold Ytpmamacjepcdmaa.lock
  split
  · exact ⟨hm.fx, by simp [hm.nl], hm.hd⟩
  · exact hm
theorem MemIn.unlock {m : Mem} (hm : MemIn m) (b t : Int) : MemIn (unlock m b t) := by
  unfold Ytpmamacjepcdmaa.unlock
  split
  · exact ⟨hm.fx, by simp [hm.nl], hm.hd⟩
  · exact hm
theorem fix_set (m : Mem) (s : List Slot) (b : Nat) (v : Int) : fix { m with slots := s, heads := m.heads.set b v } = { fix m with slots := s } := by
  simp [fix]
theorem set_in {m : Mem} (hm : MemIn m) {b : Nat} {v : Int} (h0 : -(m.heads.length : Int) ≤ v) (h1 : v ≤ m.slots.length) (i : Nat) (hi : i < m.heads.length) : -(m.heads.length : Int) ≤ (m.heads.set b v).getD i 0 ∧ (m.heads.set b v).getD i 0 ≤ m.slots.length := by
  by_cases e : b = i
  · subst e
    rw [List.getD_eq_getElem?_getD, List.getElem?_set_self hi]
    exact ⟨h0, h1⟩
  · rw [List.getD_eq_getElem?_getD, List.getElem?_set_ne e, ← List.getD_eq_getElem?_getD]
    exact hm.hd i hi
theorem head_in {m : Mem} (hm : MemIn m) {b : Int} (h0 : 0 ≤ b) (h1 : b < m.heads.length) : -(m.heads.length : Int) ≤ headAt m b ∧ headAt m b ≤ m.slots.length := hm.hd b.toNat (by omega)
theorem next_in {m : Mem} (hm : MemIn m) {a : Nat} (h : a < m.slots.length) : -(m.heads.length : Int) ≤ (msl m a).next ∧ (msl m a).next ≤ m.slots.length := by
  have := hm.sl h
  exact ⟨this.n1, this.n0⟩
theorem MemIn.link {m : Mem} (hm : MemIn m) {a b : Int} (h0 : 0 ≤ a) (h1 : a < m.slots.length) (h2 : 0 ≤ b) (h3 : b < m.heads.length) : MemIn (link m a b) := by
  have hs := hm.fx.sl (i := a.toNat) (by show _ < m.slots.length; omega)
  have hh := head_in hm h2 h3
  have l1 : (Ytpmamacjepcdmaa.link m a b).slots.length = m.slots.length := by simp [Ytpmamacjepcdmaa.link]
  have l2 : (Ytpmamacjepcdmaa.link m a b).heads.length = m.heads.length := by simp [Ytpmamacjepcdmaa.link]
  refine ⟨?_, by rw [l2]; exact hm.nl, ?_⟩
  · show MemOk (fix { m with slots := _, heads := m.heads.set b.toNat (a + 1) })
    rw [fix_set]
    exact next_ok hm.fx (a := a.toNat) (f := linkSlot (headAt m b)) (by show _ < m.slots.length; omega) (fun _ => rfl) ⟨hs.r0, hs.r1, hs.t0, hs.t1, hs.k, hh.2, by rw [fix_heads]; exact hh.1⟩
  · rw [l1, l2]; exact set_in hm (by omega) (by omega)
theorem MemIn.cut {m : Mem} (hm : MemIn m) {p a b : Int} (h0 : 0 ≤ a) (h1 : a < m.slots.length) (hp : p ≤ m.slots.length) : MemIn (cut m p a b) := by
  have hn := next_in hm (a := a.toNat) (by omega)
  unfold Ytpmamacjepcdmaa.cut
  split
  · have hs := hm.fx.sl (i := (p - 1).toNat) (by show _ < m.slots.length; omega)
    refine ⟨?_, hm.nl, by simpa using hm.hd⟩
    exact next_ok hm.fx (a := (p - 1).toNat) (f := nextTo (msl m a.toNat).next) (by show _ < m.slots.length; omega) (fun _ => rfl) ⟨hs.r0, hs.r1, hs.t0, hs.t1, hs.k, hn.2, by rw [fix_heads]; exact hn.1⟩
  · refine ⟨?_, by simp [hm.nl], by simpa using set_in hm hn.1 hn.2⟩
    have := fix_set m m.slots b.toNat (msl m a.toNat).next
    rw [this]
    exact hm.fx
end Go.Proofs.Ytpmamacjepcdmaa

/- What a step touches. -/
namespace Go.Proofs.Ytpmamacjepcdmaa
open Go Go.Sy Go.RowKit
set_option linter.unusedSimpArgs false
set_option linter.unusedVariables false

/-- one slot at most, one chain's begin and lock; time stays -/
structure Touch (m x : Mem) (b : Int) (free : Int) : Prop where
  sl : ∃ i g, x.slots = m.slots.modify i g
  hl : x.heads.length = m.heads.length
  ll : x.locks.length = m.locks.length
  hd : ∀ i : Nat, (i : Int) ≠ b → x.heads.getD i 0 = m.heads.getD i 0
  lk : ∀ i : Nat, (i : Int) ≠ b → x.locks.getD i 0 = m.locks.getD i 0
  now : x.now = m.now
  f0 : (m.free.length : Int) - free ≤ x.free.length
  f1 : x.free.length ≤ m.free.length + 1
/-- keys, times and flags of slots stay -/
def Keeps (m x : Mem) : Prop := ∀ i : Nat, (msl x i).k = (msl m i).k ∧ (msl x i).till = (msl m i).till ∧ (msl x i).inn = (msl m i).inn
theorem modify_same {α : Type} : ∀ (l : List α) (i : Nat), l.modify i (fun a => a) = l
  | [], _ => by simp
  | a :: l, 0 => by simp
  | a :: l, i + 1 => by simp [modify_same l i]
theorem getD_setN (l : List Int) {a : Int} (v : Int) {i : Nat} (h0 : 0 ≤ a) (h : (i : Int) ≠ a) : (l.set a.toNat v).getD i 0 = l.getD i 0 := by
  rw [List.getD_eq_getElem?_getD, List.getElem?_set_ne (by omega), ← List.getD_eq_getElem?_getD]
theorem keeps_modify {m x : Mem} {i : Nat} {g : Slot → Slot} (h : x.slots = m.slots.modify i g) (hg : ∀ s, (g s).k = s.k ∧ (g s).till = s.till ∧ (g s).inn = s.inn) : Keeps m x := fun j => by
  have e : msl x j = if i = j ∧ i < m.slots.length then g (msl m j) else msl m j := by
    show x.slots.getD j default = _
    rw [h]; exact getD_modify g m.slots i j
  rw [e]
  split
  · exact hg _
  · exact ⟨rfl, rfl, rfl⟩
theorem keeps_rfl (m : Mem) : Keeps m m := fun _ => ⟨rfl, rfl, rfl⟩
theorem keeps_slots {m x : Mem} (h : x.slots = m.slots) : Keeps m x := fun i => by
  have e : msl x i = msl m i := by show x.slots.getD i default = _; rw [h]; rfl
  rw [e]; exact ⟨rfl, rfl, rfl⟩
theorem touch_rfl (m : Mem) (b : Int) : Touch m m b 0 := ⟨⟨0, fun s => s, (modify_same _ _).symm⟩, rfl, rfl, fun _ _ => rfl, fun _ _ => rfl, rfl, by omega, by omega⟩
theorem touch_put (m : Mem) (a b : Int) : Touch m (put m a) b 0 := by
  unfold put
  split
  · exact touch_rfl m b
  · split
    · exact ⟨⟨_, _, rfl⟩, rfl, rfl, fun _ _ => rfl, fun _ _ => rfl, rfl, by simp; omega, by simp⟩
    · exact ⟨⟨_, _, rfl⟩, rfl, rfl, fun _ _ => rfl, fun _ _ => rfl, rfl, by simp, by simp⟩
theorem keeps_put (m : Mem) (a : Int) : Keeps m (put m a) := by
  unfold put
  split
  · exact keeps_rfl m
  · split <;> exact keeps_modify rfl fun _ => ⟨rfl, rfl, rfl⟩
theorem touch_hold (m : Mem) (a b : Int) : Touch m (hold m a).1 b 0 := by
  unfold hold
  split
  · exact touch_rfl m b
  · exact ⟨⟨_, _, rfl⟩, rfl, rfl, fun _ _ => rfl, fun _ _ => rfl, rfl, by simp, by simp⟩
theorem keeps_hold (m : Mem) (a : Int) : Keeps m (hold m a).1 := by
  unfold hold
  split
  · exact keeps_rfl m
  · exact keeps_modify rfl fun _ => ⟨rfl, rfl, rfl⟩
theorem touch_lock (m : Mem) {b : Int} (t : Int) (h0 : 0 ≤ b) : Touch m (lock m b t).1 b 0 := by
  unfold lock
  split
  · exact ⟨⟨0, fun s => s, (modify_same _ _).symm⟩, rfl, by simp, fun _ _ => rfl, fun _ h => getD_setN _ _ h0 h, rfl, by simp, by simp⟩
  · exact touch_rfl m b
theorem keeps_lock (m : Mem) (b t : Int) : Keeps m (lock m b t).1 := by
  unfold lock
  split
  · exact keeps_slots rfl
  · exact keeps_rfl m
theorem touch_unlock (m : Mem) {b : Int} (t : Int) (h0 : 0 ≤ b) : Touch m (unlock m b t) b 0 := by
  unfold unlock
  split
  · exact ⟨⟨0, fun s => s, (modify_same _ _).symm⟩, rfl, by simp, fun _ _ => rfl, fun _ h => getD_setN _ _ h0 h, rfl, by simp, by simp⟩
  · exact touch_rfl m b
theorem keeps_unlock (m : Mem) (b t : Int) : Keeps m (unlock m b t) := by
  unfold unlock
  split
  · exact keeps_slots rfl
  · exact keeps_rfl m
theorem touch_link (m : Mem) (a : Int) {b : Int} (h0 : 0 ≤ b) : Touch m (link m a b) b 0 :=
  ⟨⟨_, _, rfl⟩, by simp [link], rfl, fun _ h => getD_setN _ _ h0 h, fun _ _ => rfl, rfl, by simp [link], by simp [link]⟩
theorem touch_cut (m : Mem) (p a : Int) {b : Int} (h0 : 0 ≤ b) : Touch m (cut m p a b) b 0 := by
  unfold cut
  split
  · exact ⟨⟨_, _, rfl⟩, by simp, rfl, fun _ _ => rfl, fun _ _ => rfl, rfl, by simp, by simp⟩
  · exact ⟨⟨0, fun s => s, (modify_same _ _).symm⟩, by simp, rfl, fun _ h => getD_setN _ _ h0 h, fun _ _ => rfl, rfl, by simp, by simp⟩
theorem keeps_cut (m : Mem) (p a b : Int) : Keeps m (cut m p a b) := by
  unfold cut
  split
  · exact keeps_modify rfl fun _ => ⟨rfl, rfl, rfl⟩
  · exact keeps_slots rfl
theorem touch_take (m : Mem) (k : Key) (t b : Int) : Touch m (take m k t).1 b 1 := by
  unfold take
  split
  · exact ⟨⟨0, fun s => s, (modify_same _ _).symm⟩, rfl, rfl, fun _ _ => rfl, fun _ _ => rfl, rfl, by omega, by dsimp only; omega⟩
  · exact ⟨⟨_, _, rfl⟩, rfl, rfl, fun _ _ => rfl, fun _ _ => rfl, rfl, by simp; omega, by simp; omega⟩
structure FrmIn (m : Mem) (f g : Frm) : Prop where
  c : g.c = f.c
  pc : 0 ≤ g.pc ∧ g.pc ≤ 9
  n : f.n ≤ g.n ∧ g.n ≤ 1000000
  cur : -(m.heads.length : Int) ≤ g.cur ∧ g.cur ≤ m.slots.length
  prev : 0 ≤ g.prev ∧ g.prev ≤ m.slots.length
  slot : -1 ≤ g.slot ∧ g.slot < m.slots.length
  keys : g.keys.length ≤ 100
theorem Touch.len {m x : Mem} {b n : Int} (h : Touch m x b n) : x.slots.length = m.slots.length := by
  obtain ⟨i, g, e⟩ := h.sl
  rw [e, List.length_modify]
theorem FrmIn.ok {m x : Mem} {f g : Frm} {b n : Int} (h : FrmIn m f g) (hf : FrmOk m f) (ht : Touch m x b n) (hd : g.done = false) : FrmOk x g :=
  hf.with ht.len ht.hl h.c hd h.pc ⟨by have := h.n.1; have := hf.n0; omega, h.n.2⟩ h.cur h.prev h.slot h.keys
theorem lookStep_in {m : Mem} {f : Frm} (hm : MemIn m) (hf : FrmOk m f) (hk : f.c.kind = 1) : FrmIn m f (lookStep m f).1 := by
  have hb := bucketFor_range hm hf.call (by omega)
  have hh := head_in hm hb.1 hb.2
  have hn : 0 < f.cur → -(m.heads.length : Int) ≤ (at1 m f).next ∧ (at1 m f).next ≤ m.slots.length := fun h => next_in hm (by have := hf.cur1; omega)
  obtain ⟨f1, f2, f3, f4, f5, f6, f7, f8, f9, f10, f11, f12, f13⟩ := id hf
  unfold lookStep
  repeat' split
  all_goals refine ⟨rfl, ?_, ?_, ?_, ?_, ?_, ?_⟩
  all_goals first
    | exact ⟨by omega, by omega⟩
    | exact hh
    | exact hn (by omega)
    | exact f13
    | (show (f.keys ++ [(at1 m f).k]).length ≤ 100; simp only [List.length_append, List.length_singleton]; omega)
    | (dsimp only [endFrame]; exact ⟨by omega, by omega⟩)
theorem lookStep_touch {m : Mem} {f : Frm} : Touch m (lookStep m f).2 (bucketFor m f.c) 0 ∧ Keeps m (lookStep m f).2 ∧ (lookStep m f).2.heads = m.heads ∧ (lookStep m f).2.locks = m.locks := by
  unfold lookStep
  have hH := hold_len m (f.cur - 1)
  have hP := put_len m f.slot
  repeat' split
  all_goals first
    | exact ⟨touch_rfl m _, keeps_rfl m, rfl, rfl⟩
    | exact ⟨touch_put m _ _, keeps_put m _, hP.2.1, hP.2.2.1⟩
    | exact ⟨touch_hold m _ _, keeps_hold m _, hH.2.1, hH.2.2.1⟩
theorem lookStep_mem {m : Mem} {f : Frm} (hm : MemOk m) (hf : FrmOk m f) : MemOk (lookStep m f).2 := by
  obtain ⟨f1, f2, f3, f4, f5, f6, f7, f8, f9, f10, f11, f12, f13⟩ := id hf
  unfold lookStep
  repeat' split
  all_goals first
    | exact hm
    | exact hold_ok hm (by omega) (by omega)
    | exact put_ok hm (by omega) (by omega)
theorem dropStep_in {m : Mem} {f : Frm} (t : Int) (hm : MemIn m) (hf : FrmOk m f) (hk : f.c.kind = 3) : FrmIn m f (dropStep m f t).1 := by
  have hb := bucketFor_range hm hf.call (by omega)
  have hh := head_in hm hb.1 hb.2
  have hn : 0 < f.cur → -(m.heads.length : Int) ≤ (at1 m f).next ∧ (at1 m f).next ≤ m.slots.length := fun h => next_in hm (by have := hf.cur1; omega)
  obtain ⟨f1, f2, f3, f4, f5, f6, f7, f8, f9, f10, f11, f12, f13⟩ := id hf
  unfold dropStep
  repeat' split
  all_goals refine ⟨rfl, ?_, ?_, ?_, ?_, ?_, ?_⟩
  all_goals first
    | exact ⟨by omega, by omega⟩
    | exact hh
    | exact hn (by omega)
    | exact f13
    | (show (f.keys ++ [(at1 m f).k]).length ≤ 100; simp only [List.length_append, List.length_singleton]; omega)
    | (dsimp only [endFrame]; exact ⟨by omega, by omega⟩)
theorem dropStep_touch {m : Mem} {f : Frm} (t : Int) (hm : MemIn m) (hf : FrmOk m f) (hk : f.c.kind = 3) : Touch m (dropStep m f t).2 (bucketFor m f.c) 0 := by
  have hb := bucketFor_range hm hf.call (by omega)
  unfold dropStep
  repeat' split
  all_goals first
    | exact touch_rfl m _
    | exact touch_put m _ _
    | exact touch_hold m _ _
    | exact touch_lock m _ hb.1
    | exact touch_unlock m _ hb.1
    | exact touch_link m _ hb.1
    | exact touch_cut m _ _ hb.1
theorem dropStep_keeps {m : Mem} {f : Frm} (t : Int) : Keeps m (dropStep m f t).2 := by
  unfold dropStep
  repeat' split
  all_goals first
    | exact keeps_rfl m
    | exact keeps_put m _
    | exact keeps_hold m _
    | exact keeps_lock m _ _
    | exact keeps_unlock m _ _
    | exact keeps_cut m _ _ _
theorem sweepStep_in {m : Mem} {f : Frm} (t : Int) (hm : MemIn m) (hf : FrmOk m f) (hk : f.c.kind = 4 ∨ f.c.kind = 5) : FrmIn m f (sweepStep m f t).1 := by
  have hb := bucketFor_range hm hf.call (by omega)
  have hh := head_in hm hb.1 hb.2
  have hn : 0 < f.cur → -(m.heads.length : Int) ≤ (at1 m f).next ∧ (at1 m f).next ≤ m.slots.length := fun h => next_in hm (by have := hf.cur1; omega)
  obtain ⟨f1, f2, f3, f4, f5, f6, f7, f8, f9, f10, f11, f12, f13⟩ := id hf
  unfold sweepStep
  repeat' split
  all_goals refine ⟨rfl, ?_, ?_, ?_, ?_, ?_, ?_⟩
  all_goals first
    | exact ⟨by omega, by omega⟩
    | exact hh
    | exact hn (by omega)
    | exact f13
    | (show (f.keys ++ [(at1 m f).k]).length ≤ 100; simp only [List.length_append, List.length_singleton]; omega)
    | (dsimp only [endFrame]; exact ⟨by omega, by omega⟩)
theorem sweepStep_touch {m : Mem} {f : Frm} (t : Int) (hm : MemIn m) (hf : FrmOk m f) (hk : f.c.kind = 4 ∨ f.c.kind = 5) : Touch m (sweepStep m f t).2 (bucketFor m f.c) 0 := by
  have hb := bucketFor_range hm hf.call (by omega)
  unfold sweepStep
  repeat' split
  all_goals first
    | exact touch_rfl m _
    | exact touch_put m _ _
    | exact touch_hold m _ _
    | exact touch_lock m _ hb.1
    | exact touch_unlock m _ hb.1
    | exact touch_link m _ hb.1
    | exact touch_cut m _ _ hb.1
theorem sweepStep_keeps {m : Mem} {f : Frm} (t : Int) : Keeps m (sweepStep m f t).2 := by
  unfold sweepStep
  repeat' split
  all_goals first
    | exact keeps_rfl m
    | exact keeps_put m _
    | exact keeps_hold m _
    | exact keeps_lock m _ _
    | exact keeps_unlock m _ _
    | exact keeps_cut m _ _ _
theorem addStep_in {m : Mem} {f : Frm} (t : Int) (hm : MemIn m) (hf : FrmOk m f) (hk : f.c.kind = 2) : FrmIn m f (addStep m f t).1 := by
  have hb := bucketFor_range hm hf.call (by omega)
  have hh := head_in hm hb.1 hb.2
  have hn : 0 < f.cur → -(m.heads.length : Int) ≤ (at1 m f).next ∧ (at1 m f).next ≤ m.slots.length := fun h => next_in hm (by have := hf.cur1; omega)
  obtain ⟨f1, f2, f3, f4, f5, f6, f7, f8, f9, f10, f11, f12, f13⟩ := id hf
  have ht : (take m f.c.k (addTill m f)).2.2 = 0 → 0 ≤ (take m f.c.k (addTill m f)).2.1 ∧ (take m f.c.k (addTill m f)).2.1 < m.slots.length := by
    unfold take
    split
    · intro h; cases h
    · rename_i h; exact fun _ => lastFree_in hm h
  unfold addStep
  repeat' split
  all_goals refine ⟨rfl, ?_, ?_, ?_, ?_, ?_, ?_⟩
  all_goals first
    | exact ⟨by omega, by omega⟩
    | exact hh
    | exact hn (by omega)
    | exact f13
    | (rename_i h; exact ⟨by have := ht (Classical.not_not.1 h); dsimp only; omega, (ht (Classical.not_not.1 h)).2⟩)
    | (dsimp only [endFrame]; exact ⟨by omega, by omega⟩)
theorem addStep_touch {m : Mem} {f : Frm} (t : Int) (hm : MemIn m) (hf : FrmOk m f) (hk : f.c.kind = 2) : Touch m (addStep m f t).2 (bucketFor m f.c) 1 := by
  have hb := bucketFor_range hm hf.call (by omega)
  have up : ∀ {x : Mem}, Touch m x (bucketFor m f.c) 0 → Touch m x (bucketFor m f.c) 1 := fun h => ⟨h.sl, h.hl, h.ll, h.hd, h.lk, h.now, by have := h.f0; omega, h.f1⟩
  unfold addStep
  repeat' split
  all_goals first
    | exact up (touch_rfl m _)
    | exact touch_take m _ _ _
    | exact up (touch_put m _ _)
    | exact up (touch_lock m _ hb.1)
    | exact up (touch_unlock m _ hb.1)
    | exact up (touch_link m _ hb.1)
theorem lookStep_into {m : Mem} {f : Frm} (hm : MemIn m) (hf : FrmOk m f) : MemIn (lookStep m f).2 := by
  obtain ⟨f1, f2, f3, f4, f5, f6, f7, f8, f9, f10, f11, f12, f13⟩ := id hf
  unfold lookStep
  repeat' split
  all_goals first
    | exact hm
    | exact hm.hold (by omega) (by omega)
    | exact hm.put (by omega) (by omega)
theorem dropStep_into {m : Mem} {f : Frm} (t : Int) (hm : MemIn m) (hf : FrmOk m f) : MemIn (dropStep m f t).2 := by
  obtain ⟨f1, f2, f3, f4, f5, f6, f7, f8, f9, f10, f11, f12, f13⟩ := id hf
  unfold dropStep
  repeat' split
  all_goals first
    | exact hm
    | exact hm.lock _ _
    | exact hm.unlock _ _
    | exact hm.put (by omega) (by omega)
    | exact hm.cut (by omega) (by omega) (by omega)
theorem sweepStep_into {m : Mem} {f : Frm} (t : Int) (hm : MemIn m) (hf : FrmOk m f) : MemIn (sweepStep m f t).2 := by
  obtain ⟨f1, f2, f3, f4, f5, f6, f7, f8, f9, f10, f11, f12, f13⟩ := id hf
  unfold sweepStep
  repeat' split
  all_goals first
    | exact hm
    | exact hm.lock _ _
    | exact hm.unlock _ _
    | exact hm.put (by omega) (by omega)
    | exact hm.cut (by omega) (by omega) (by omega)
theorem addStep_into {m : Mem} {f : Frm} (t : Int) (hm : MemIn m) (hf : FrmOk m f) (hk : f.c.kind = 2) : MemIn (addStep m f t).2 := by
  have hb := bucketFor_range hm hf.call (by omega)
  have hK := call_key hf.call (by omega)
  have ht := call_time hf.call hk
  have n0 := hm.now0
  have n1 := hm.now1
  obtain ⟨f1, f2, f3, f4, f5, f6, f7, f8, f9, f10, f11, f12, f13⟩ := id hf
  unfold addStep
  repeat' split
  all_goals first
    | exact hm
    | exact hm.lock _ _
    | exact hm.unlock _ _
    | exact hm.put (by omega) (by omega)
    | exact hm.link (by omega) (by omega) hb.1 hb.2
    | (refine hm.take hK ?_ ?_ <;> unfold addTill <;> split <;> omega)
end Go.Proofs.Ytpmamacjepcdmaa
