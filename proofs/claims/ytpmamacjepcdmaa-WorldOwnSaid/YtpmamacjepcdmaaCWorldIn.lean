import Derived.Test.YtpmamacjepcdmaaCStepLaws
import Derived.Test.YtpmamacjepcdmaaCWorld4
namespace Go.Proofs.Ytpmamacjepcdmaa
open Go Go.Sy Go.RowKit
set_option linter.unusedSimpArgs false
set_option linter.unusedVariables false
structure Touch (m x : Mem) (b : Int) (free : Int) : Prop where
  sl : ∃ i g, x.slots = m.slots.modify i g
  hl : x.heads.length = m.heads.length
  ll : x.locks.length = m.locks.length
  hd : ∀ i : Nat, (i : Int) ≠ b → x.heads.getD i 0 = m.heads.getD i 0
  lk : ∀ i : Nat, (i : Int) ≠ b → x.locks.getD i 0 = m.locks.getD i 0
  now : x.now = m.now
  f0 : (m.free.length : Int) - free ≤ x.free.length
  f1 : x.free.length ≤ m.free.length + 1
def Keeps (m x : Mem) : Prop := ∀ i : Nat, (msl x i).k = (msl m i).k ∧ (msl x i).till = (msl m i).till ∧ (msl x i).inn = (msl m i).inn
theorem modify_same {α : Type} : ∀ (l : List α) (i : Nat), l.modify i (fun a => a) = l
  | [], _ => by simp
  | a :: l, 0 => by simp
  | a :: l, i + 1 => by simp [modify_same l i]
theorem getD_setN (l : List Int) {a : Int} (v : Int) {i : Nat} (h0 : 0 ≤ a) (h : (i : Int) ≠ a) : (l.set a.toNat v).getD i 0 = l.getD i 0 := by
  rw [List.getD_eq_getElem?_getD, List.getElem?_set_ne (by omega), ← List.getD_eq_getElem?_getD]
theorem keeps_modify {m x : Mem} {i : Nat} {g : Slot → Slot} (h : x.slots = m.slots.modify i g) (hg : ∀ s, (g s).k = s.k ∧ (g s).till = s.till ∧ (g s).inn = s.inn) : Keeps m x := fun j => by
  have e : msl x j = if i = j ∧ i < m.slots.length then g (msl m j) else msl m j := by
    show x.slots.getD j default = _
    rw [h]; exact getD_modify g m.slots i j
  rw [e]
  split
  · exact hg _
  · exact ⟨rfl, rfl, rfl⟩
theorem keeps_rfl (m : Mem) : Keeps m m := fun _ => ⟨rfl, rfl, rfl⟩
theorem touch_rfl (m : Mem) (b : Int) : Touch m m b 0 := ⟨⟨0, fun s => s, (modify_same _ _).symm⟩, rfl, rfl, fun _ _ => rfl, fun _ _ => rfl, rfl, by omega, by omega⟩
theorem touch_put (m : Mem) (a b : Int) : Touch m (put m a) b 0 := by
  unfold put
  split
  · exact touch_rfl m b
  · split
    · exact ⟨⟨_, _, rfl⟩, rfl, rfl, fun _ _ => rfl, fun _ _ => rfl, rfl, by simp; omega, by simp⟩
    · exact ⟨⟨_, _, rfl⟩, rfl, rfl, fun _ _ => rfl, fun _ _ => rfl, rfl, by simp, by simp⟩
theorem keeps_put (m : Mem) (a : Int) : Keeps m (put m a) := by
  unfold put
  split
  · exact keeps_rfl m
  · split <;> exact keeps_modify rfl fun _ => ⟨rfl, rfl, rfl⟩
theorem touch_hold (m : Mem) (a b : Int) : Touch m (hold m a).1 b 0 := by
  unfold hold
  split
  · exact touch_rfl m b
  · exact ⟨⟨_, _, rfl⟩, rfl, rfl, fun _ _ => rfl, fun _ _ => rfl, rfl, by simp, by simp⟩
theorem keeps_hold (m : Mem) (a : Int) : Keeps m (hold m a).1 := by
  unfold hold
  split
  · exact keeps_rfl m
  · exact keeps_modify rfl fun _ => ⟨rfl, rfl, rfl⟩
theorem touch_lock (m : Mem) {b : Int} (t : Int) (h0 : 0 ≤ b) : Touch m (lock m b t).1 b 0 := by
  unfold lock
  split
  · exact ⟨⟨0, fun s => s, (modify_same _ _).symm⟩, rfl, by simp, fun _ _ => rfl, fun _ h => getD_setN _ _ h0 h, rfl, by simp, by simp⟩
  · exact touch_rfl m b
theorem touch_unlock (m : Mem) {b : Int} (t : Int) (h0 : 0 ≤ b) : Touch m (unlock m b t) b 0 := by
  unfold unlock
  split
  · exact ⟨⟨0, fun s => s, (modify_same _ _).symm⟩, rfl, by simp, fun _ _ => rfl, fun _ h => getD_setN _ _ h0 h, rfl, by simp, by simp⟩
  · exact touch_rfl m b
theorem touch_link (m : Mem) (a : Int) {b : Int} (h0 : 0 ≤ b) : Touch m (link m a b) b 0 :=
  ⟨⟨_, _, rfl⟩, by simp [link], rfl, fun _ h => getD_setN _ _ h0 h, fun _ _ => rfl, rfl, by simp [link], by simp [link]⟩
theorem touch_cut (m : Mem) (p a : Int) {b : Int} (h0 : 0 ≤ b) : Touch m (cut m p a b) b 0 := by
  unfold cut
  split
  · exact ⟨⟨_, _, rfl⟩, by simp, rfl, fun _ _ => rfl, fun _ _ => rfl, rfl, by simp, by simp⟩
  · exact ⟨⟨0, fun s => s, (modify_same _ _).symm⟩, by simp, rfl, fun _ h => getD_setN _ _ h0 h, fun _ _ => rfl, rfl, by simp, by simp⟩
theorem touch_take (m : Mem) (k : Key) (t b : Int) : Touch m (take m k t).1 b 1 := by
  unfold take
  split
  · exact ⟨⟨0, fun s => s, (modify_same _ _).symm⟩, rfl, rfl, fun _ _ => rfl, fun _ _ => rfl, rfl, by omega, by dsimp only; omega⟩
  · exact ⟨⟨_, _, rfl⟩, rfl, rfl, fun _ _ => rfl, fun _ _ => rfl, rfl, by simp; omega, by simp; omega⟩
structure FrmIn (m : Mem) (f g : Frm) : Prop where
  c : g.c = f.c
  pc : 0 ≤ g.pc ∧ g.pc ≤ 9
  n : f.n ≤ g.n ∧ g.n ≤ 1000000
  cur : -(m.heads.length : Int) ≤ g.cur ∧ g.cur ≤ m.slots.length
  prev : 0 ≤ g.prev ∧ g.prev ≤ m.slots.length
  slot : -1 ≤ g.slot ∧ g.slot < m.slots.length
  keys : g.keys.length ≤ 100
theorem Touch.len {m x : Mem} {b n : Int} (h : Touch m x b n) : x.slots.length = m.slots.length := by
  obtain ⟨i, g, e⟩ := h.sl
  rw [e, List.length_modify]
theorem FrmIn.ok {m x : Mem} {f g : Frm} {b n : Int} (h : FrmIn m f g) (hf : FrmOk m f) (ht : Touch m x b n) (hd : g.done = false) : FrmOk x g :=
  hf.with ht.len ht.hl h.c hd h.pc ⟨by have := h.n.1; have := hf.n0; omega, h.n.2⟩ h.cur h.prev h.slot h.keys
theorem lookStep_in {m : Mem} {f : Frm} (hm : MemIn m) (hf : FrmOk m f) (hk : f.c.kind = 1) : FrmIn m f (lookStep m f).1 := by
  have hb := bucketFor_range hm hf.call (by omega)
  have hh := head_in hm hb.1 hb.2
  have hn : 0 < f.cur → -(m.heads.length : Int) ≤ (at1 m f).next ∧ (at1 m f).next ≤ m.slots.length := fun h => next_in hm (by have := hf.cur1; omega)
  obtain ⟨f1, f2, f3, f4, f5, f6, f7, f8, f9, f10, f11, f12, f13⟩ := id hf
  unfold lookStep
  repeat' split
  all_goals refine ⟨rfl, ?_, ?_, ?_, ?_, ?_, ?_⟩
  all_goals first
    | exact ⟨by omega, by omega⟩
    | exact hh
    | exact hn (by omega)
    | exact f13
    | (show (f.keys ++ [(at1 m f).k]).length ≤ 100; simp only [List.length_append, List.length_singleton]; omega)
    | (dsimp only [endFrame]; exact ⟨by omega, by omega⟩)
theorem lookStep_touch {m : Mem} {f : Frm} : Touch m (lookStep m f).2 (bucketFor m f.c) 0 ∧ Keeps m (lookStep m f).2 ∧ (lookStep m f).2.heads = m.heads ∧ (lookStep m f).2.locks = m.locks := by
  unfold lookStep
  have hH := hold_len m (f.cur - 1)
  have hP := put_len m f.slot
  repeat' split
  all_goals first
    | exact ⟨touch_rfl m _, keeps_rfl m, rfl, rfl⟩
    | exact ⟨touch_put m _ _, keeps_put m _, hP.2.1, hP.2.2.1⟩
    | exact ⟨touch_hold m _ _, keeps_hold m _, hH.2.1, hH.2.2.1⟩
theorem dropStep_in {m : Mem} {f : Frm} (t : Int) (hm : MemIn m) (hf : FrmOk m f) (hk : f.c.kind = 3) : FrmIn m f (dropStep m f t).1 := by
  have hb := bucketFor_range hm hf.call (by omega)
  have hh := head_in hm hb.1 hb.2
  have hn : 0 < f.cur → -(m.heads.length : Int) ≤ (at1 m f).next ∧ (at1 m f).next ≤ m.slots.length := fun h => next_in hm (by have := hf.cur1; omega)
  obtain ⟨f1, f2, f3, f4, f5, f6, f7, f8, f9, f10, f11, f12, f13⟩ := id hf
  unfold dropStep
  repeat' split
  all_goals refine ⟨rfl, ?_, ?_, ?_, ?_, ?_, ?_⟩
  all_goals first
    | exact ⟨by omega, by omega⟩
    | exact hh
    | exact hn (by omega)
    | exact f13
    | (show (f.keys ++ [(at1 m f).k]).length ≤ 100; simp only [List.length_append, List.length_singleton]; omega)
    | (dsimp only [endFrame]; exact ⟨by omega, by omega⟩)
theorem dropStep_touch {m : Mem} {f : Frm} (t : Int) (hm : MemIn m) (hf : FrmOk m f) (hk : f.c.kind = 3) : Touch m (dropStep m f t).2 (bucketFor m f.c) 0 := by
  have hb := bucketFor_range hm hf.call (by omega)
  unfold dropStep
  repeat' split
  all_goals first
    | exact touch_rfl m _
    | exact touch_put m _ _
    | exact touch_hold m _ _
    | exact touch_lock m _ hb.1
    | exact touch_unlock m _ hb.1
    | exact touch_link m _ hb.1
    | exact touch_cut m _ _ hb.1
theorem sweepStep_in {m : Mem} {f : Frm} (t : Int) (hm : MemIn m) (hf : FrmOk m f) (hk : f.c.kind = 4 ∨ f.c.kind = 5) : FrmIn m f (sweepStep m f t).1 := by
  have hb := bucketFor_range hm hf.call (by omega)
  have hh := head_in hm hb.1 hb.2
  have hn : 0 < f.cur → -(m.heads.length : Int) ≤ (at1 m f).next ∧ (at1 m f).next ≤ m.slots.length := fun h => next_in hm (by have := hf.cur1; omega)
  obtain ⟨f1, f2, f3, f4, f5, f6, f7, f8, f9, f10, f11, f12, f13⟩ := id hf
  unfold sweepStep
  repeat' split
  all_goals refine ⟨rfl, ?_, ?_, ?_, ?_, ?_, ?_⟩
  all_goals first
    | exact ⟨by omega, by omega⟩
    | exact hh
    | exact hn (by omega)
    | exact f13
    | (show (f.keys ++ [(at1 m f).k]).length ≤ 100; simp only [List.length_append, List.length_singleton]; omega)
    | (dsimp only [endFrame]; exact ⟨by omega, by omega⟩)
theorem sweepStep_touch {m : Mem} {f : Frm} (t : Int) (hm : MemIn m) (hf : FrmOk m f) (hk : f.c.kind = 4 ∨ f.c.kind = 5) : Touch m (sweepStep m f t).2 (bucketFor m f.c) 0 := by
  have hb := bucketFor_range hm hf.call (by omega)
  unfold sweepStep
  repeat' split
  all_goals first
    | exact touch_rfl m _
    | exact touch_put m _ _
    | exact touch_hold m _ _
    | exact touch_lock m _ hb.1
    | exact touch_unlock m _ hb.1
    | exact touch_link m _ hb.1
    | exact touch_cut m _ _ hb.1
theorem addStep_in {m : Mem} {f : Frm} (t : Int) (hm : MemIn m) (hf : FrmOk m f) (hk : f.c.kind = 2) : FrmIn m f (addStep m f t).1 := by
  have hb := bucketFor_range hm hf.call (by omega)
  have hh := head_in hm hb.1 hb.2
  have hn : 0 < f.cur → -(m.heads.length : Int) ≤ (at1 m f).next ∧ (at1 m f).next ≤ m.slots.length := fun h => next_in hm (by have := hf.cur1; omega)
  obtain ⟨f1, f2, f3, f4, f5, f6, f7, f8, f9, f10, f11, f12, f13⟩ := id hf
  have ht : (take m f.c.k (addTill m f)).2.2 = 0 → 0 ≤ (take m f.c.k (addTill m f)).2.1 ∧ (take m f.c.k (addTill m f)).2.1 < m.slots.length := by
    unfold take
    split
    · intro h; cases h
    · rename_i h; exact fun _ => lastFree_in hm h
  unfold addStep
  repeat' split
  all_goals refine ⟨rfl, ?_, ?_, ?_, ?_, ?_, ?_⟩
  all_goals first
    | exact ⟨by omega, by omega⟩
    | exact hh
    | exact hn (by omega)
    | exact f13
    | (rename_i h; exact ⟨by have := ht (Classical.not_not.1 h); dsimp only; omega, (ht (Classical.not_not.1 h)).2⟩)
    | (dsimp only [endFrame]; exact ⟨by omega, by omega⟩)
theorem addStep_touch {m : Mem} {f : Frm} (t : Int) (hm : MemIn m) (hf : FrmOk m f) (hk : f.c.kind = 2) : Touch m (addStep m f t).2 (bucketFor m f.c) 1 := by
  have hb := bucketFor_range hm hf.call (by omega)
  have up : ∀ {x : Mem}, Touch m x (bucketFor m f.c) 0 → Touch m x (bucketFor m f.c) 1 := fun h => ⟨h.sl, h.hl, h.ll, h.hd, h.lk, h.now, by have := h.f0; omega, h.f1⟩
  unfold addStep
  repeat' split
  all_goals first
    | exact up (touch_rfl m _)
    | exact touch_take m _ _ _
    | exact up (touch_put m _ _)
    | exact up (touch_lock m _ hb.1)
    | exact up (touch_unlock m _ hb.1)
    | exact up (touch_link m _ hb.1)
theorem lookStep_into {m : Mem} {f : Frm} (hm : MemIn m) (hf : FrmOk m f) : MemIn (lookStep m f).2 := by
  obtain ⟨f1, f2, f3, f4, f5, f6, f7, f8, f9, f10, f11, f12, f13⟩ := id hf
  unfold lookStep
  repeat' split
  all_goals first
    | exact hm
    | exact hm.hold (by omega) (by omega)
    | exact hm.put (by omega) (by omega)
theorem dropStep_into {m : Mem} {f : Frm} (t : Int) (hm : MemIn m) (hf : FrmOk m f) : MemIn (dropStep m f t).2 := by
  obtain ⟨f1, f2, f3, f4, f5, f6, f7, f8, f9, f10, f11, f12, f13⟩ := id hf
  unfold dropStep
  repeat' split
  all_goals first
    | exact hm
    | exact hm.lock _ _
    | exact hm.unlock _ _
    | exact hm.put (by omega) (by omega)
    | exact hm.cut (by omega) (by omega) (by omega)
theorem sweepStep_into {m : Mem} {f : Frm} (t : Int) (hm : MemIn m) (hf : FrmOk m f) : MemIn (sweepStep m f t).2 := by
  obtain ⟨f1, f2, f3, f4, f5, f6, f7, f8, f9, f10, f11, f12, f13⟩ := id hf
  unfold sweepStep
  repeat' split
  all_goals first
    | exact hm
    | exact hm.lock _ _
    | exact hm.unlock _ _
    | exact hm.put (by omega) (by omega)
    | exact hm.cut (by omega) (by omega) (by omega)
theorem addStep_into {m : Mem} {f : Frm} (t : Int) (hm : MemIn m) (hf : FrmOk m f) (hk : f.c.kind = 2) : MemIn (addStep m f t).2 := by
  have hb := bucketFor_range hm hf.call (by omega)
  have hK := call_key hf.call (by omega)
  have ht := call_time hf.call hk
  have n0 := hm.now0
  have n1 := hm.now1
  obtain ⟨f1, f2, f3, f4, f5, f6, f7, f8, f9, f10, f11, f12, f13⟩ := id hf
  unfold addStep
  repeat' split
  all_goals first
    | exact hm
    | exact hm.lock _ _
    | exact hm.unlock _ _
    | exact hm.put (by omega) (by omega)
    | exact hm.link (by omega) (by omega) hb.1 hb.2
    | (refine hm.take hK ?_ ?_ <;> unfold addTill <;> split <;> omega)
end Go.Proofs.Ytpmamacjepcdmaa

namespace Go.Proofs.Ytpmamacjepcdmaa
open Go Go.Sy Go.RowKit
set_option linter.unusedSimpArgs false
set_option linter.unusedVariables false
structure WInB (n : Nat) (w : Wrd) : Prop where
  m : MemIn w.m
  t : ∀ t ∈ w.ts, t.own = true ∧ t.held.length ≤ n ∧ (t.busy = true → FrmOk w.m t.f)
theorem WInB.in {n : Nat} {w : Wrd} (h : WInB n w) (hn : n ≤ 10000) : WIn w := ⟨h.m, fun t ht => ⟨(h.t t ht).1, by have := (h.t t ht).2.1; omega, (h.t t ht).2.2⟩⟩
theorem WInB.mono {n k : Nat} {w : Wrd} (h : WInB n w) (hn : n ≤ k) : WInB k w := ⟨h.m, fun t ht => ⟨(h.t t ht).1, by have := (h.t t ht).2.1; omega, (h.t t ht).2.2⟩⟩
theorem winb_of {w : Wrd} (h : checkWorld w = 0) : WInB 100 w.mine := by
  unfold checkWorld at h
  split at h
  · rename_i h1; exact absurd h h1
  · rename_i h1
    split at h
    · cases h
    · refine ⟨((checkMem_iff w.m).1 (Classical.not_not.1 h1)).into, fun t ht => ?_⟩
      obtain ⟨u, hu, rfl⟩ := List.mem_map.1 ht
      obtain ⟨k1, _, k2⟩ := taskErr_ok (tasksErr_ok h u hu)
      exact ⟨rfl, k1, k2⟩
theorem FrmOk.len {m x : Mem} {f : Frm} (h : FrmOk m f) (h1 : x.slots.length = m.slots.length) (h2 : x.heads.length = m.heads.length) : FrmOk x f :=
  h.with h1 h2 rfl h.nd ⟨h.pc0, h.pc9⟩ ⟨h.n0, h.n9⟩ ⟨h.cur0, h.cur1⟩ ⟨h.prev0, h.prev1⟩ ⟨h.slot0, h.slot1⟩ h.keys
theorem mem_mod {g : Tsk → Tsk} {u : Tsk} : ∀ {l : List Tsk} {i : Nat}, u ∈ l.modify i g → u ∈ l ∨ (i < l.length ∧ u = g (l.getD i default))
  | [], i, h => by simp at h
  | a :: l, 0, h => by
    rcases List.mem_cons.1 (by simpa using h : u ∈ g a :: l) with e | h
    · exact .inr ⟨by simp, e⟩
    · exact .inl (List.mem_cons_of_mem _ h)
  | a :: l, i + 1, h => by
    rcases List.mem_cons.1 (by simpa using h : u ∈ a :: l.modify i g) with e | h
    · exact .inl (by rw [e]; exact List.mem_cons_self)
    · rcases mem_mod h with h | ⟨h1, h2⟩
      · exact .inl (List.mem_cons_of_mem _ h)
      · exact .inr ⟨by simpa using h1, by simpa using h2⟩
theorem at_in {n : Nat} {w : Wrd} (h : WInB n w) (x : Int) {m' : Mem} (hm : MemIn m') (l1 : m'.slots.length = w.m.slots.length) (l2 : m'.heads.length = w.m.heads.length) {g : Tsk → Tsk}
    (hg : tsk w x ∈ w.ts → (g (tsk w x)).own = true ∧ (g (tsk w x)).held.length ≤ n + 1 ∧ ((g (tsk w x)).busy = true → FrmOk m' (g (tsk w x)).f)) : WInB (n + 1) ⟨m', w.ts.modify x.toNat g⟩ :=
  ⟨hm, fun u hu => by
    rcases mem_mod hu with hu | ⟨hl, rfl⟩
    · obtain ⟨k1, k2, k3⟩ := h.t u hu
      exact ⟨k1, by omega, fun hb => (k3 hb).len l1 l2⟩
    · exact hg (getD_cell hl)⟩
theorem gone_in {n : Nat} {w : Wrd} (h : WInB n w) (x : Int) {r : Frm × Mem} (hm : MemIn r.2) (l1 : r.2.slots.length = w.m.slots.length) (l2 : r.2.heads.length = w.m.heads.length) (hf : r.1.done = false → FrmOk r.2 r.1) : WInB (n + 1) (w.gone x r) :=
  at_in h x hm l1 l2 fun ht => ⟨(h.t _ ht).1, by have := (h.t _ ht).2.1; exact Nat.le_succ_of_le this, fun hb => hf (by simpa using hb)⟩
theorem new_ok {m : Mem} {c : Cal} (hc : checkCall m c = 0) : FrmOk m (newFrame c) :=
  ⟨hc, (by decide : (0 : Int) ≤ 0), (by decide : (0 : Int) ≤ 9), (by decide : (0 : Int) ≤ 0), (by decide : (0 : Int) ≤ 1000000), rfl, by show -(m.heads.length : Int) ≤ 0; omega, by show (0 : Int) ≤ _; omega, (by decide : (0 : Int) ≤ 0), by show (0 : Int) ≤ _; omega, (by decide : (-1 : Int) ≤ -1), by show (-1 : Int) < _; omega, by show 0 ≤ 100; omega⟩
theorem begin_in {n : Nat} {w : Wrd} (h : WInB n w) (x : Int) (c : Cal) : WInB (n + 1) (beginW w x c).1 := by
  unfold beginW
  split
  · exact h.mono (by omega)
  · split
    · exact h.mono (by omega)
    · rename_i hc
      split
      · exact h.mono (by omega)
      · split
        · exact h.mono (by omega)
        · have hc : checkCall w.m c = 0 := Classical.not_not.1 hc
          refine at_in h x h.m rfl rfl fun ht => ⟨(h.t _ ht).1, by have := (h.t _ ht).2.1; exact Nat.le_succ_of_le this, fun _ => ?_⟩
          exact new_ok hc
theorem step_in {n : Nat} {w : Wrd} (h : WInB n w) {x : Int} (hx : tsk w x ∈ w.ts) : WInB (n + 1) (stepW w x).1 := by
  unfold stepW
  split
  · exact h.mono (by omega)
  rename_i hb
  obtain ⟨k1, k2, k3⟩ := h.t _ hx
  have hf := k3 (by simpa using hb)
  have hm := h.m
  split
  · rename_i hk
    have ht := (lookStep_touch (m := w.m) (f := (tsk w x).f)).1
    split
    · rename_i hd
      refine at_in h x (lookStep_into hm hf) ht.len ht.hl fun _ => ⟨k1, by simp only [List.length_append, List.length_cons, List.length_nil]; omega, fun hb => ?_⟩
      rw [hd.1] at hb; cases hb
    · exact gone_in h x (lookStep_into hm hf) ht.len ht.hl fun hd => (lookStep_in hm hf hk).ok hf ht hd
  split
  · rename_i _ hk
    have ht := addStep_touch x hm hf hk
    exact gone_in h x (addStep_into x hm hf hk) ht.len ht.hl fun hd => (addStep_in x hm hf hk).ok hf ht hd
  split
  · rename_i _ _ hk
    have ht := dropStep_touch x hm hf hk
    exact gone_in h x (dropStep_into x hm hf) ht.len ht.hl fun hd => (dropStep_in x hm hf hk).ok hf ht hd
  split
  · rename_i _ _ _ hk
    have ht := sweepStep_touch x hm hf hk
    exact gone_in h x (sweepStep_into x hm hf) ht.len ht.hl fun hd => (sweepStep_in x hm hf hk).ok hf ht hd
  rename_i q1 q2 q3 q4
  split
  · have h6 : (tsk w x).f.c.kind = 6 ∧ 0 ≤ (tsk w x).f.c.slot ∧ (tsk w x).f.c.slot < w.m.slots.length := by
      have := hf.call
      unfold checkCall at this
      rw [if_neg (by omega), if_neg (by omega), if_neg (by omega)] at this
      split at this
      · split at this
        · cases this
        · exact ⟨by assumption, by omega, by omega⟩
      · cases this
    obtain ⟨l1, l2, _⟩ := put_len w.m (tsk w x).f.c.slot
    refine at_in h x (hm.put h6.2.1 h6.2.2) l1 (by rw [l2]) fun _ => ⟨k1, ?_, fun hb => ?_⟩
    · simp only [List.length_append, List.length_take, List.length_drop]
      omega
    · cases hb
  · exact gone_in h x hm rfl rfl fun hd => by cases hd
theorem MemIn.tick {m : Mem} (hm : MemIn m) {n : Int} (h0 : 0 ≤ n) (h1 : n ≤ 1000000) : MemIn { m with now := n } :=
  ⟨⟨hm.fx.ns, hm.fx.nh1, hm.fx.nh4, hm.fx.nl, h0, h1, hm.fx.slot, hm.fx.head, hm.fx.free, hm.fx.nodup, hm.fx.leak⟩, hm.nl, hm.hd⟩
theorem pick_in {n : Nat} {w : Wrd} (h : WInB n w) (x : Pik) : WInB (n + 1) (pickW w x).1 := by
  unfold pickW
  split
  · split
    · exact h.mono (by omega)
    · have h0 := h.m.now0
      have h1 := h.m.now1
      refine ⟨h.m.tick (by omega) (by omega), fun t ht => ?_⟩
      obtain ⟨k1, k2, k3⟩ := h.t t ht
      exact ⟨k1, by omega, fun hb => (k3 hb).len rfl rfl⟩
  · split
    · exact h.mono (by omega)
    · rename_i hx
      split
      · exact step_in h (getD_cell (by omega))
      · exact begin_in h _ _
end Go.Proofs.Ytpmamacjepcdmaa
