import Derived.Test.YtpmamacjepcdmaaCStepLaws
/- What a step touches. -/
namespace Go.Proofs.Ytpmamacjepcdmaa
open Go Go.Sy Go.RowKit
set_option linter.unusedSimpArgs false
set_option linter.unusedVariables false

/-- one slot at most, one chain's begin and lock; time stays -/
structure Touch (m x : Mem) (b : Int) (free : Int) : Prop where
  sl : ∃ i g, x.slots = m.slots.modify i g
  hl : x.heads.length = m.heads.length
  ll : x.locks.length = m.locks.length
  hd : ∀ i : Nat, (i : Int) ≠ b → x.heads.getD i 0 = m.heads.getD i 0
  lk : ∀ i : Nat, (i : Int) ≠ b → x.locks.getD i 0 = m.locks.getD i 0
  now : x.now = m.now
  f0 : (m.free.length : Int) - free ≤ x.free.length
  f1 : x.free.length ≤ m.free.length + 1
/-- keys, times and flags of slots stay -/
def Keeps (m x : Mem) : Prop := ∀ i : Nat, (msl x i).k = (msl m i).k ∧ (msl x i).till = (msl m i).till ∧ (msl x i).inn = (msl m i).inn
theorem modify_same {α : Type} : ∀ (l : List α) (i : Nat), l.modify i (fun a => a) = l
  | [], _ => by simp
  | a :: l, 0 => by simp
  | a :: l, i + 1 => by simp [modify_same l i]
theorem getD_setN (l : List Int) {a : Int} (v : Int) {i : Nat} (h0 : 0 ≤ a) (h : (i : Int) ≠ a) : (l.set a.toNat v).getD i 0 = l.getD i 0 := by
  rw [List.getD_eq_getElem?_getD, List.getElem?_set_ne (by omega), ← List.getD_eq_getElem?_getD]
theorem keeps_modify {m x : Mem} {i : Nat} {g : Slot → Slot} (h : x.slots = m.slots.modify i g) (hg : ∀ s, (g s).k = s.k ∧ (g s).till = s.till ∧ (g s).inn = s.inn) : Keeps m x := fun j => by
  have e : msl x j = if i = j ∧ i < m.slots.length then g (msl m j) else msl m j := by
    show x.slots.getD j default = _
    rw [h]; exact getD_modify g m.slots i j
  rw [e]
  split
  · exact hg _
  · exact ⟨rfl, rfl, rfl⟩
theorem keeps_rfl (m : Mem) : Keeps m m := fun _ => ⟨rfl, rfl, rfl⟩
theorem keeps_slots {m x : Mem} (h : x.slots = m.slots) : Keeps m x := fun i => by
  have e : msl x i = msl m i := by show x.slots.getD i default = _; rw [h]; rfl
  rw [e]; exact ⟨rfl, rfl, rfl⟩
theorem touch_rfl (m : Mem) (b : Int) : Touch m m b 0 := ⟨⟨0, fun s => s, (modify_same _ _).symm⟩, rfl, rfl, fun _ _ => rfl, fun _ _ => rfl, rfl, by omega, by omega⟩
theorem touch_put (m : Mem) (a b : Int) : Touch m (put m a) b 0 := by
  unfold put
  split
  · exact touch_rfl m b
  · split
    · exact ⟨⟨_, _, rfl⟩, rfl, rfl, fun _ _ => rfl, fun _ _ => rfl, rfl, by simp; omega, by simp⟩
    · exact ⟨⟨_, _, rfl⟩, rfl, rfl, fun _ _ => rfl, fun _ _ => rfl, rfl, by simp, by simp⟩
theorem keeps_put (m : Mem) (a : Int) : Keeps m (put m a) := by
  unfold put
  split
  · exact keeps_rfl m
  · split <;> exact keeps_modify rfl fun _ => ⟨rfl, rfl, rfl⟩
theorem touch_hold (m : Mem) (a b : Int) : Touch m (hold m a).1 b 0 := by
  unfold hold
  split
  · exact touch_rfl m b
  · exact ⟨⟨_, _, rfl⟩, rfl, rfl, fun _ _ => rfl, fun _ _ => rfl, rfl, by simp, by simp⟩
theorem keeps_hold (m : Mem) (a : Int) : Keeps m (hold m a).1 := by
  unfold hold
  split
  · exact keeps_rfl m
  · exact keeps_modify rfl fun _ => ⟨rfl, rfl, rfl⟩
theorem touch_lock (m : Mem) {b : Int} (t : Int) (h0 : 0 ≤ b) : Touch m (lock m b t).1 b 0 := by
  unfold lock
  split
  · exact ⟨⟨0, fun s => s, (modify_same _ _).symm⟩, rfl, by simp, fun _ _ => rfl, fun _ h => getD_setN _ _ h0 h, rfl, by simp, by simp⟩
  · exact touch_rfl m b
theorem keeps_lock (m : Mem) (b t : Int) : Keeps m (lock m b t).1 := by
  unfold lock
  split
  · exact keeps_slots rfl
  · exact keeps_rfl m
theorem touch_unlock (m : Mem) {b : Int} (t : Int) (h0 : 0 ≤ b) : Touch m (unlock m b t) b 0 := by
  unfold unlock
  split
  · exact ⟨⟨0, fun s => s, (modify_same _ _).symm⟩, rfl, by simp, fun _ _ => rfl, fun _ h => getD_setN _ _ h0 h, rfl, by simp, by simp⟩
  · exact touch_rfl m b
theorem keeps_unlock (m : Mem) (b t : Int) : Keeps m (unlock m b t) := by
  unfold unlock
  split
  · exact keeps_slots rfl
  · exact keeps_rfl m
theorem touch_link (m : Mem) (a : Int) {b : Int} (h0 : 0 ≤ b) : Touch m (link m a b) b 0 :=
  ⟨⟨_, _, rfl⟩, by simp [link], rfl, fun _ h => getD_setN _ _ h0 h, fun _ _ => rfl, rfl, by simp [link], by simp [link]⟩
theorem touch_cut (m : Mem) (p a : Int) {b : Int} (h0 : 0 ≤ b) : Touch m (cut m p a b) b 0 := by
  unfold cut
  split
  · exact ⟨⟨_, _, rfl⟩, by simp, rfl, fun _ _ => rfl, fun _ _ => rfl, rfl, by simp, by simp⟩
  · exact ⟨⟨0, fun s => s, (modify_same _ _).symm⟩, by simp, rfl, fun _ h => getD_setN _ _ h0 h, fun _ _ => rfl, rfl, by simp, by simp⟩
theorem keeps_cut (m : Mem) (p a b : Int) : Keeps m (cut m p a b) := by
  unfold cut
  split
  · exact keeps_modify rfl fun _ => ⟨rfl, rfl, rfl⟩
  · exact keeps_slots rfl
theorem touch_take (m : Mem) (k : Key) (t b : Int) : Touch m (take m k t).1 b 1 := by
  unfold take
  split
  · exact ⟨⟨0, fun s => s, (modify_same _ _).symm⟩, rfl, rfl, fun _ _ => rfl, fun _ _ => rfl, rfl, by omega, by dsimp only; omega⟩
  · exact ⟨⟨_, _, rfl⟩, rfl, rfl, fun _ _ => rfl, fun _ _ => rfl, rfl, by simp; omega, by simp; omega⟩
structure FrmIn (m : Mem) (f g : Frm) : Prop where
  c : g.c = f.c
  pc : 0 ≤ g.pc ∧ g.pc ≤ 9
  n : f.n ≤ g.n ∧ g.n ≤ 1000000
  cur : -(m.heads.length : Int) ≤ g.cur ∧ g.cur ≤ m.slots.length
  prev : 0 ≤ g.prev ∧ g.prev ≤ m.slots.length
  slot : -1 ≤ g.slot ∧ g.slot < m.slots.length
  keys : g.keys.length ≤ 100
theorem Touch.len {m x : Mem} {b n : Int} (h : Touch m x b n) : x.slots.length = m.slots.length := by
  obtain ⟨i, g, e⟩ := h.sl
  rw [e, List.length_modify]
theorem FrmIn.ok {m x : Mem} {f g : Frm} {b n : Int} (h : FrmIn m f g) (hf : FrmOk m f) (ht : Touch m x b n) (hd : g.done = false) : FrmOk x g :=
  hf.with ht.len ht.hl h.c hd h.pc ⟨by have := h.n.1; have := hf.n0; omega, h.n.2⟩ h.cur h.prev h.slot h.keys
theorem lookStep_in {m : Mem} {f : Frm} (hm : MemIn m) (hf : FrmOk m f) (hk : f.c.kind = 1) : FrmIn m f (lookStep m f).1 := by
  have hb := bucketFor_range hm hf.call (by omega)
  have hh := head_in hm hb.1 hb.2
  have hn : 0 < f.cur → -(m.heads.length : Int) ≤ (at1 m f).next ∧ (at1 m f).next ≤ m.slots.length := fun h => next_in hm (by have := hf.cur1; omega)
  obtain ⟨f1, f2, f3, f4, f5, f6, f7, f8, f9, f10, f11, f12, f13⟩ := id hf
  unfold lookStep
  repeat' split
  all_goals refine ⟨rfl, ?_, ?_, ?_, ?_, ?_, ?_⟩
  all_goals first
    | exact ⟨by omega, by omega⟩
    | exact hh
    | exact hn (by omega)
    | exact f13
    | (show (f.keys ++ [(at1 m f).k]).length ≤ 100; simp only [List.length_append, List.length_singleton]; omega)
    | (dsimp only [endFrame]; exact ⟨by omega, by omega⟩)
theorem lookStep_touch {m : Mem} {f : Frm} : Touch m (lookStep m f).2 (bucketFor m f.c) 0 ∧ Keeps m (lookStep m f).2 ∧ (lookStep m f).2.heads = m.heads ∧ (lookStep m f).2.locks = m.locks := by
  unfold lookStep
  have hH := hold_len m (f.cur - 1)
  have hP := put_len m f.slot
  repeat' split
  all_goals first
    | exact ⟨touch_rfl m _, keeps_rfl m, rfl, rfl⟩
    | exact ⟨touch_put m _ _, keeps_put m _, hP.2.1, hP.2.2.1⟩
    | exact ⟨touch_hold m _ _, keeps_hold m _, hH.2.1, hH.2.2.1⟩
theorem lookStep_mem {m : Mem} {f : Frm} (hm : MemOk m) (hf : FrmOk m f) : MemOk (lookStep m f).2 := by
  obtain ⟨f1, f2, f3, f4, f5, f6, f7, f8, f9, f10, f11, f12, f13⟩ := id hf
  unfold lookStep
  repeat' split
  all_goals first
    | exact hm
    | exact hold_ok hm (by omega) (by omega)
    | exact put_ok hm (by omega) (by omega)
theorem dropStep_in {m : Mem} {f : Frm} (t : Int) (hm : MemIn m) (hf : FrmOk m f) (hk : f.c.kind = 3) : FrmIn m f (dropStep m f t).1 := by
  have hb := bucketFor_range hm hf.call (by omega)
  have hh := head_in hm hb.1 hb.2
  have hn : 0 < f.cur → -(m.heads.length : Int) ≤ (at1 m f).next ∧ (at1 m f).next ≤ m.slots.length := fun h => next_in hm (by have := hf.cur1; omega)
  obtain ⟨f1, f2, f3, f4, f5, f6, f7, f8, f9, f10, f11, f12, f13⟩ := id hf
  unfold dropStep
  repeat' split
  all_goals refine ⟨rfl, ?_, ?_, ?_, ?_, ?_, ?_⟩
  all_goals first
    | exact ⟨by omega, by omega⟩
    | exact hh
    | exact hn (by omega)
    | exact f13
    | (show (f.keys ++ [(at1 m f).k]).length ≤ 100; simp only [List.length_append, List.length_singleton]; omega)
    | (dsimp only [endFrame]; exact ⟨by omega, by omega⟩)
theorem dropStep_touch {m : Mem} {f : Frm} (t : Int) (hm : MemIn m) (hf : FrmOk m f) (hk : f.c.kind = 3) : Touch m (dropStep m f t).2 (bucketFor m f.c) 0 := by
  have hb := bucketFor_range hm hf.call (by omega)
  unfold dropStep
  repeat' split
  all_goals first
    | exact touch_rfl m _
    | exact touch_put m _ _
    | exact touch_hold m _ _
    | exact touch_lock m _ hb.1
    | exact touch_unlock m _ hb.1
    | exact touch_link m _ hb.1
    | exact touch_cut m _ _ hb.1
theorem dropStep_keeps {m : Mem} {f : Frm} (t : Int) : Keeps m (dropStep m f t).2 := by
  unfold dropStep
  repeat' split
  all_goals first
    | exact keeps_rfl m
    | exact keeps_put m _
    | exact keeps_hold m _
    | exact keeps_lock m _ _
    | exact keeps_unlock m _ _
    | exact keeps_cut m _ _ _
theorem sweepStep_in {m : Mem} {f : Frm} (t : Int) (hm : MemIn m) (hf : FrmOk m f) (hk : f.c.kind = 4 ∨ f.c.kind = 5) : FrmIn m f (sweepStep m f t).1 := by
  have hb := bucketFor_range hm hf.call (by omega)
  have hh := head_in hm hb.1 hb.2
  have hn : 0 < f.cur → -(m.heads.length : Int) ≤ (at1 m f).next ∧ (at1 m f).next ≤ m.slots.length := fun h => next_in hm (by have := hf.cur1; omega)
  obtain ⟨f1, f2, f3, f4, f5, f6, f7, f8, f9, f10, f11, f12, f13⟩ := id hf
  unfold sweepStep
  repeat' split
  all_goals refine ⟨rfl, ?_, ?_, ?_, ?_, ?_, ?_⟩
  all_goals first
    | exact ⟨by omega, by omega⟩
    | exact hh
    | exact hn (by omega)
    | exact f13
    | (show (f.keys ++ [(at1 m f).k]).length ≤ 100; simp only [List.length_append, List.length_singleton]; omega)
    | (dsimp only [endFrame]; exact ⟨by omega, by omega⟩)
theorem sweepStep_touch {m : Mem} {f : Frm} (t : Int) (hm : MemIn m) (hf : FrmOk m f) (hk : f.c.kind = 4 ∨ f.c.kind = 5) : Touch m (sweepStep m f t).2 (bucketFor m f.c) 0 := by
  have hb := bucketFor_range hm hf.call (by omega)
  unfold sweepStep
  repeat' split
  all_goals first
    | exact touch_rfl m _
    | exact touch_put m _ _
    | exact touch_hold m _ _
    | exact touch_lock m _ hb.1
    | exact touch_unlock m _ hb.1
    | exact touch_link m _ hb.1
    | exact touch_cut m _ _ hb.1
theorem sweepStep_keeps {m : Mem} {f : Frm} (t : Int) : Keeps m (sweepStep m f t).2 := by
  unfold sweepStep
  repeat' split
  all_goals first
    | exact keeps_rfl m
    | exact keeps_put m _
    | exact keeps_hold m _
    | exact keeps_lock m _ _
    | exact keeps_unlock m _ _
    | exact keeps_cut m _ _ _
theorem addStep_in {m : Mem} {f : Frm} (t : Int) (hm : MemIn m) (hf : FrmOk m f) (hk : f.c.kind = 2) : FrmIn m f (addStep m f t).1 := by
  have hb := bucketFor_range hm hf.call (by omega)
  have hh := head_in hm hb.1 hb.2
  have hn : 0 < f.cur → -(m.heads.length : Int) ≤ (at1 m f).next ∧ (at1 m f).next ≤ m.slots.length := fun h => next_in hm (by have := hf.cur1; omega)
  obtain ⟨f1, f2, f3, f4, f5, f6, f7, f8, f9, f10, f11, f12, f13⟩ := id hf
  have ht : (take m f.c.k (addTill m f)).2.2 = 0 → 0 ≤ (take m f.c.k (addTill m f)).2.1 ∧ (take m f.c.k (addTill m f)).2.1 < m.slots.length := by
    unfold take
    split
    · intro h; cases h
    · rename_i h; exact fun _ => lastFree_in hm h
  unfold addStep
  repeat' split
  all_goals refine ⟨rfl, ?_, ?_, ?_, ?_, ?_, ?_⟩
  all_goals first
    | exact ⟨by omega, by omega⟩
    | exact hh
    | exact hn (by omega)
    | exact f13
    | (rename_i h; exact ⟨by have := ht (Classical.not_not.1 h); dsimp only; omega, (ht (Classical.not_not.1 h)).2⟩)
    | (dsimp only [endFrame]; exact ⟨by omega, by omega⟩)
theorem addStep_touch {m : Mem} {f : Frm} (t : Int) (hm : MemIn m) (hf : FrmOk m f) (hk : f.c.kind = 2) : Touch m (addStep m f t).2 (bucketFor m f.c) 1 := by
  have hb := bucketFor_range hm hf.call (by omega)
  have up : ∀ {x : Mem}, Touch m x (bucketFor m f.c) 0 → Touch m x (bucketFor m f.c) 1 := fun h => ⟨h.sl, h.hl, h.ll, h.hd, h.lk, h.now, by have := h.f0; omega, h.f1⟩
  unfold addStep
  repeat' split
  all_goals first
    | exact up (touch_rfl m _)
    | exact touch_take m _ _ _
    | exact up (touch_put m _ _)
    | exact up (touch_lock m _ hb.1)
    | exact up (touch_unlock m _ hb.1)
    | exact up (touch_link m _ hb.1)
theorem lookStep_into {m : Mem} {f : Frm} (hm : MemIn m) (hf : FrmOk m f) : MemIn (lookStep m f).2 := by
  obtain ⟨f1, f2, f3, f4, f5, f6, f7, f8, f9, f10, f11, f12, f13⟩ := id hf
  unfold lookStep
  repeat' split
  all_goals first
    | exact hm
    | exact hm.hold (by omega) (by omega)
    | exact hm.put (by omega) (by omega)
theorem dropStep_into {m : Mem} {f : Frm} (t : Int) (hm : MemIn m) (hf : FrmOk m f) : MemIn (dropStep m f t).2 := by
  obtain ⟨f1, f2, f3, f4, f5, f6, f7, f8, f9, f10, f11, f12, f13⟩ := id hf
  unfold dropStep
  repeat' split
  all_goals first
    | exact hm
    | exact hm.lock _ _
    | exact hm.unlock _ _
    | exact hm.put (by omega) (by omega)
    | exact hm.cut (by omega) (by omega) (by omega)
theorem sweepStep_into {m : Mem} {f : Frm} (t : Int) (hm : MemIn m) (hf : FrmOk m f) : MemIn (sweepStep m f t).2 := by
  obtain ⟨f1, f2, f3, f4, f5, f6, f7, f8, f9, f10, f11, f12, f13⟩ := id hf
  unfold sweepStep
  repeat' split
  all_goals first
    | exact hm
    | exact hm.lock _ _
    | exact hm.unlock _ _
    | exact hm.put (by omega) (by omega)
    | exact hm.cut (by omega) (by omega) (by omega)
theorem addStep_into {m : Mem} {f : Frm} (t : Int) (hm : MemIn m) (hf : FrmOk m f) (hk : f.c.kind = 2) : MemIn (addStep m f t).2 := by
  have hb := bucketFor_range hm hf.call (by omega)
  have hK := call_key hf.call (by omega)
  have ht := call_time hf.call hk
  have n0 := hm.now0
  have n1 := hm.now1
  obtain ⟨f1, f2, f3, f4, f5, f6, f7, f8, f9, f10, f11, f12, f13⟩ := id hf
  unfold addStep
  repeat' split
  all_goals first
    | exact hm
    | exact hm.lock _ _
    | exact hm.unlock _ _
    | exact hm.put (by omega) (by omega)
    | exact hm.link (by omega) (by omega) hb.1 hb.2
    | (refine hm.take hK ?_ ?_ <;> unfold addTill <;> split <;> omega)
end Go.Proofs.Ytpmamacjepcdmaa

/- Closed: one flow in one chain; frames that fit. -/
namespace Go.Proofs.Ytpmamacjepcdmaa
open Go Go.Sy Go.RowKit
set_option linter.unusedSimpArgs false
set_option linter.unusedVariables false

def sM0 : Mem := ⟨[default, default], [-1], [1, 0], [-1], 0⟩
def sM1 : Mem := ⟨[⟨1, ⟨3, 0⟩, 5, false, 0⟩, default], [-1], [1], [-1], 0⟩
def sM : Mem := ⟨[⟨1, ⟨3, 0⟩, 5, true, -1⟩, default], [1], [1], [-1], 0⟩
theorem sm0 : newMem 2 1 = (sM0, 0) := by decide +kernel
theorem sm1 : taken sM0 ⟨3, 0⟩ 5 = (sM1, 0, 0) := by decide +kernel
theorem sm2 : linked sM1 0 = (sM, 0) := by decide +kernel
theorem sm_ok : MemIn sM := ((checkMem_iff sM).1 (by decide +kernel)).into
theorem fs57 (a b : Int) : d57.fn [.i a, .i b] = (newMem a b).1.cds ++ [.i (newMem a b).2] := rfl
def s180 : Sig := ⟨[], [.agg [.own 52 kS, .own 3 kI, .own 3 kI, .own 3 kI, .int .i64], .one (.bool)]⟩
def d180 : DC := ⟨s180, fun _ => True, fun _ => sM.cds ++ [.b true]⟩
def l180 : List (Nat × Ct) := [(57, d57.ct), (54, d54.ct), (82, d82.ct)]
def z180 : Cx := { T := ttA, C := sigs l180, F := [], hints := [], sig := s180 }
def t180 : Tree :=
 (.call 57 [.int 2, .int 1] 0
 (.call 54 [.var 0, .var 1, .var 2, .var 3, .var 4, .int 3, .int 0, .int 5] 6
 (.call 82 [.var 6, .var 7, .var 8, .var 9, .var 10, .var 11] 13
 (.ite (.eq (.var 5) (.int 0))
  (.ite (.eq (.var 12) (.int 0))
   (.ite (.eq (.var 18) (.int 0))
    (.ite (.eq (.var 11) (.int 0))
     (.ret [.var 13, .var 14, .var 15, .var 16, .var 17, .eq (.len (.var 13)) (.int 2)])
     (.ret [.var 13, .var 14, .var 15, .var 16, .var 17, .bool false]))
    (.ret [.var 13, .var 14, .var 15, .var 16, .var 17, .bool false]))
   (.ret [.var 13, .var 14, .var 15, .var 16, .var 17, .bool false]))
  (.ret [.var 13, .var 14, .var 15, .var 16, .var 17, .bool false])))))
theorem run180 : run z180 6000 [.code (Try.f180.body.getD .skip), .fin (topRet z180 Try.f180.results.toList 50)] { fn := 180, tmps := z180.sig.args0 ++ List.replicate (Try.f180.ntmps - z180.sig.args0.length) (.v (.one .undef)), stk := [], h := z180.sig.h0, nx := z180.sig.ins.length, known := [] } = t180 := by kernel_rfl
theorem ok180 : CtOk Try.prog 180 d180.ct := by
  refine dc_of_tree (d := d180) (Z := z180) (Γ := gam l180) (fn := Try.f180) (c := Try.f180.body.getD .skip) (told_of tok mixed (all_cons ok57 (all_cons ok54 (all_cons ok82 all_nil))) fok_nil) Try.func180 (by kernel_rfl) (by kernel_rfl) rfl run180 fun E hk hp => ?_
  clear hk
  have el : letters E d180.sig.ins.length = [] := rfl
  rw [el] at hp
  rw [el]
  rw [Env.pre_eq el]
  clear el
  simp only [d180]
  unfold t180
  refine den_calle d57 (sM0.cds ++ [.i 0]) rfl trivial (by simp only [nrm, X.den, Env.put, Env.pre, reduceIte, Nat.reduceLT, Nat.reduceSub, Nat.reduceAdd, fs57, sm0]) ?_
  refine den_calle d54 (sM1.cds ++ [.i 0, .i 0]) rfl trivial (by simp only [nrm, X.den, Env.put, Env.pre, reduceIte, Nat.reduceLT, Nat.reduceSub, Nat.reduceAdd, Mem.cds, List.cons_append, List.nil_append, fn54, sm1]) ?_
  refine den_calle d82 (sM.cds ++ [.i 0]) rfl trivial (by simp only [nrm, X.den, Env.put, Env.pre, reduceIte, Nat.reduceLT, Nat.reduceSub, Nat.reduceAdd, Mem.cds, List.cons_append, List.nil_append, fn82, sm2]) ?_
  repeat (refine den_ite (fun _ => ?_) (fun h => absurd h (by simp only [nrm, X.den, Env.put, Env.pre, reduceIte, Nat.reduceLT, Nat.reduceSub, Nat.reduceAdd, Mem.cds, List.cons_append, List.nil_append]; decide)))
  refine den_ret ?_
  simp only [nrm, X.den, Env.put, Env.pre, reduceIte, Nat.reduceLT, Nat.reduceSub, Nat.reduceAdd, Mem.cds, List.cons_append, List.nil_append, len_slots]
  rfl
def s100 : Sig := ⟨[.agg [.fz kS, .fz kI, .fz kI, .fz kI, .int .i64], .agg [.int .i64, .int .i64, .int .i64, .int .i64, .int .i64, .int .i64, .int .i64, .int .i64, .int .i64, .int .i64, .int .i64, .fz kK, .bool, .int .i64]], [.one (.bool)]⟩
def d100 : DC := ⟨s100, fun _ => True, fun l => [.b (decide (checkMem (Mem.of l) = 0 ∧ checkFrame (Mem.of l) (Frm.of (l.drop 5)) = 0))]⟩
theorem fn100 (m : Mem) (f : Frm) : d100.fn [slotsD m.slots, intsD m.heads, intsD m.free, intsD m.locks, .i m.now, .i f.c.kind, .i f.c.k.a, .i f.c.k.b, .i f.c.time, .i f.c.bucket, .i f.c.slot, .i f.pc, .i f.cur, .i f.prev, .i f.slot, .i f.n, keysD f.keys, .b f.done, .i f.e] = [.b (decide (checkMem m = 0 ∧ checkFrame m f = 0))] := by
  simp only [d100, mem_of, mem_eta, List.drop_succ_cons, List.drop_zero, frm_of]
def l100 : List (Nat × Ct) := [(58, d58.ct), (46, d46.ct)]
def z100 : Cx := { T := ttA, C := sigs l100, F := [], hints := [], sig := s100 }
def t100 : Tree :=
 (.call 58 [.var 0, .var 1, .var 2, .var 3, .var 4] 19
 (.ite (.eq (.var 19) (.int 0))
  (.call 46 [.var 0, .var 1, .var 2, .var 3, .var 4, .var 5, .var 6, .var 7, .var 8, .var 9, .var 10, .var 11, .var 12, .var 13, .var 14, .var 15, .var 16, .var 17, .var 18] 20
  (.ret [.eq (.var 20) (.int 0)]))
  (.ret [.bool false])))
theorem run100 : run z100 6000 [.code (Try.f100.body.getD .skip), .fin (topRet z100 Try.f100.results.toList 50)] { fn := 100, tmps := z100.sig.args0 ++ List.replicate (Try.f100.ntmps - z100.sig.args0.length) (.v (.one .undef)), stk := [], h := z100.sig.h0, nx := z100.sig.ins.length, known := [] } = t100 := by kernel_rfl
theorem ok100 : CtOk Try.prog 100 d100.ct := by
  refine dc_of_tree (d := d100) (Z := z100) (Γ := gam l100) (fn := Try.f100) (c := Try.f100.body.getD .skip) (told_of tok mixed (all_cons ok58 (all_cons ok46 all_nil)) fok_nil) Try.func100 (by kernel_rfl) (by kernel_rfl) rfl run100 fun E hk hp => ?_
  obtain ⟨hk0, hk1, hk2, hk3, hk4, hk5, hk6, hk7, hk8, hk9, hk10, hk11, hk12, hk13, hk14, hk15, hk16, hk17, hk18, _⟩ := hk
  obtain ⟨m, e0, e1, e2, e3, e4, b0, b1, b2, b3⟩ := ok_mem (d0 := E 0) (d1 := E 1) (d2 := E 2) (d3 := E 3) (d4 := E 4) hk0 hk1 hk2 hk3 hk4
  obtain ⟨f, e5, e6, e7, e8, e9, e10, e11, e12, e13, e14, e15, e16, e17, e18, b16⟩ := ok_frame (d0 := E 5) (d1 := E 6) (d2 := E 7) (d3 := E 8) (d4 := E 9) (d5 := E 10) (d6 := E 11) (d7 := E 12) (d8 := E 13) (d9 := E 14) (d10 := E 15) (d11 := E 16) (d12 := E 17) (d13 := E 18) hk5 hk6 hk7 hk8 hk9 hk10 hk11 hk12 hk13 hk14 hk15 hk16 hk17 hk18
  have el : letters E d100.sig.ins.length = [slotsD m.slots, intsD m.heads, intsD m.free, intsD m.locks, .i m.now, .i f.c.kind, .i f.c.k.a, .i f.c.k.b, .i f.c.time, .i f.c.bucket, .i f.c.slot, .i f.pc, .i f.cur, .i f.prev, .i f.slot, .i f.n, keysD f.keys, .b f.done, .i f.e] := by
    show [E 0, E 1, E 2, E 3, E 4, E 5, E 6, E 7, E 8, E 9, E 10, E 11, E 12, E 13, E 14, E 15, E 16, E 17, E 18] = _
    rw [e0, e1, e2, e3, e4, e5, e6, e7, e8, e9, e10, e11, e12, e13, e14, e15, e16, e17, e18]
  rw [el] at hp
  rw [el]
  rw [Env.pre_eq el]
  clear el e0 e1 e2 e3 e4 e5 e6 e7 e8 e9 e10 e11 e12 e13 e14 e15 e16 e17 e18
  rw [fn100]
  unfold t100
  refine den_calle d58 [.i (checkMem m)] rfl trivial (by simp only [nrm, X.den, Env.put, Env.pre, reduceIte, Nat.reduceLT, Nat.reduceSub, Nat.reduceAdd, fn58]) (den_ite (fun h => ?_) (fun h => den_ret ?_))
  · simp only [nrm, X.den, Env.put, Env.pre, reduceIte, Nat.reduceLT, Nat.reduceSub, Nat.reduceAdd] at h
    refine den_calle d46 [.i (checkFrame m f)] rfl trivial (by simp only [nrm, X.den, Env.put, Env.pre, reduceIte, Nat.reduceLT, Nat.reduceSub, Nat.reduceAdd, fn46]) (den_ret ?_)
    simp only [nrm, X.den, Env.put, Env.pre, reduceIte, Nat.reduceLT, Nat.reduceSub, Nat.reduceAdd, h, true_and]
    by_cases e : checkFrame m f = 0 <;> simp [e]
  · simp only [nrm, X.den, Env.put, Env.pre, reduceIte, Nat.reduceLT, Nat.reduceSub, Nat.reduceAdd] at h ⊢
    simp [h]
end Go.Proofs.Ytpmamacjepcdmaa
