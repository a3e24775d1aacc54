/- Plain: what it is for memory to be right. -/
import Derived.Test.YtpmamacjepcdmaaCMem
namespace Go.Proofs.Ytpmamacjepcdmaa
open Go Go.Sy Go.RowKit

structure SlotOk (ns nh : Nat) (s : Slot) : Prop where
  r0 : 0 ≤ s.refs
  r1 : s.refs ≤ 1000
  t0 : 0 ≤ s.till
  t1 : s.till ≤ 2000000
  k : Key.Ok s.k
  n0 : s.next ≤ ns
  n1 : -(nh : Int) ≤ s.next
theorem checkKey_iff (k : Key) : checkKey k = 0 ↔ Key.Ok k := by
  unfold checkKey
  split
  · rename_i h; exact ⟨fun _ => h, fun _ => rfl⟩
  · rename_i h; exact ⟨fun e => (by cases e), fun e => absurd e h⟩
theorem slotErr_iff {ns nh : Nat} {s : Slot} : slotErr ns nh s = 0 ↔ SlotOk ns nh s := by
  unfold slotErr
  constructor
  · intro h
    split at h
    · cases h
    · split at h
      · cases h
      · rename_i h1 h2
        split at h
        · rename_i h3
          exact ⟨by omega, by omega, by omega, by omega, (checkKey_iff _).1 (by omega), h3.1, h3.2⟩
        · cases h
  · intro h
    have := (checkKey_iff _).2 h.k
    have h0 := h.r0
    have h1 := h.r1
    have h2 := h.t0
    have h3 := h.t1
    rw [if_neg (by omega), if_neg (by omega), if_pos ⟨h.n0, h.n1⟩]
theorem slotsErr_iff {ns nh : Nat} : ∀ {l : List Slot}, slotsErr ns nh l = 0 ↔ ∀ s ∈ l, SlotOk ns nh s
  | [] => by simp [slotsErr]
  | s :: l => by
    have ih := slotsErr_iff (ns := ns) (nh := nh) (l := l)
    simp only [slotsErr, List.mem_cons, forall_eq_or_imp, ← slotErr_iff] at ih ⊢
    split
    · rename_i h; constructor
      · intro h'; exact absurd h' h
      · intro h'; exact absurd h'.1 h
    · rename_i h; constructor
      · intro h'; exact ⟨by omega, ih.1 h'⟩
      · intro h'; exact ih.2 h'.2
structure HeadOk (ns nh : Nat) (h k : Int) : Prop where
  h0 : h ≠ 0
  n0 : h ≤ ns
  n1 : -(nh : Int) ≤ h
  k0 : -1 ≤ k
  k1 : k < 5
theorem headErr_iff {ns nh : Nat} {h k : Int} : headErr ns nh h k = 0 ↔ HeadOk ns nh h k := by
  unfold headErr
  constructor
  · intro e
    split at e
    · cases e
    · split at e
      · rename_i h1 h2
        split at e
        · cases e
        · exact ⟨h1, h2.1, h2.2, by omega, by omega⟩
      · cases e
  · intro h
    have h3 := h.k0
    have h4 := h.k1
    rw [if_neg h.h0, if_pos ⟨h.n0, h.n1⟩, if_neg (by omega)]
theorem headsErr_iff {ns nh : Nat} : ∀ {l m : List Int}, m.length = l.length → (headsErr ns nh l m = 0 ↔ ∀ i, i < l.length → HeadOk ns nh (l.getD i 0) (m.getD i 0))
  | [], _, _ => by simp [headsErr]
  | h :: l, [], e => by simp at e
  | h :: l, k :: m, e => by
    have ih := headsErr_iff (ns := ns) (nh := nh) (l := l) (m := m) (by simpa using e)
    simp only [headsErr]
    split
    · rename_i hx; constructor
      · intro h'; exact absurd h' hx
      · intro h'; exact absurd (headErr_iff.2 (by simpa using h' 0 (by simp))) hx
    · rename_i hx
      rw [ih]
      constructor
      · intro h' i hi
        cases i with
        | zero => exact headErr_iff.1 (by simpa using hx)
        | succ i => simpa using h' i (by simpa using hi)
      · intro h' i hi
        simpa using h' (i + 1) (by simpa using hi)
theorem getD_set_bool (l : List Bool) (i j : Nat) (b : Bool) : (l.set i b).getD j false = if i = j ∧ i < l.length then b else l.getD j false := by
  simp only [List.getD_eq_getElem?_getD, List.getElem?_set]
  by_cases h : i = j
  · subst h
    by_cases h' : i < l.length
    · simp [h']
    · simp [h']
  · simp [h]
theorem freeScan_iff {slots : List Slot} : ∀ {l : List Int} {seen : List Bool}, seen.length = slots.length → ((freeScan slots l seen).1 = 0 ↔ (∀ a ∈ l, 0 ≤ a ∧ a < slots.length ∧ (slots.getD a.toNat default).refs = 0) ∧ l.Nodup ∧ ∀ a ∈ l, seen.getD a.toNat false = false)
  | [], _, _ => by simp [freeScan]
  | k :: l, seen, hs => by
    have ih := freeScan_iff (slots := slots) (l := l) (seen := seen.set k.toNat true) (by simpa using hs)
    simp only [freeScan]
    split
    · rename_i h; constructor
      · intro h'; cases h'
      · intro h'; have := h'.1 k (by simp); omega
    · rename_i h
      split
      · rename_i h1; constructor
        · intro h'; cases h'
        · intro h'; exact absurd (h'.1 k (by simp)).2.2 h1
      · rename_i h1
        split
        · rename_i h2; constructor
          · intro h'; cases h'
          · intro h'; have := h'.2.2 k (by simp); rw [h2] at this; cases this
        · rename_i h2
          rw [ih]
          constructor
          · rintro ⟨a1, a2, a3⟩
            have hk : k ∉ l := fun hk => by
              have := a3 k hk
              rw [getD_set_bool, if_pos ⟨rfl, by omega⟩] at this
              cases this
            refine ⟨fun a ha => ?_, List.nodup_cons.2 ⟨hk, a2⟩, fun a ha => ?_⟩
            · rcases List.mem_cons.1 ha with rfl | ha
              · exact ⟨by omega, by omega, by omega⟩
              · exact a1 a ha
            · rcases List.mem_cons.1 ha with rfl | ha
              · simpa using h2
              · have := a3 a ha
                rw [getD_set_bool] at this
                split at this
                · cases this
                · exact this
          · rintro ⟨a1, a2, a3⟩
            have a2 := List.nodup_cons.1 a2
            refine ⟨fun a ha => a1 a (by simp [ha]), a2.2, fun a ha => ?_⟩
            rw [getD_set_bool, if_neg]
            · exact a3 a (by simp [ha])
            · rintro ⟨e, _⟩
              have h3 := a1 a (by simp [ha])
              have : k = a := by omega
              subst this
              exact a2.1 ha
theorem freeScan_seen {slots : List Slot} : ∀ {l : List Int} {seen : List Bool}, seen.length = slots.length → (freeScan slots l seen).1 = 0 → ∀ i, i < slots.length → ((freeScan slots l seen).2.getD i false = true ↔ seen.getD i false = true ∨ (i : Int) ∈ l)
  | [], _, _, _, i, _ => by simp [freeScan]
  | k :: l, seen, hs, h0, i, hi => by
    simp only [freeScan] at h0 ⊢
    split at h0
    · cases h0
    · rename_i h
      split at h0
      · cases h0
      · rename_i h1
        split at h0
        · cases h0
        · rename_i h2
          rw [if_neg h, if_neg h1, if_neg h2, freeScan_seen (by simpa using hs) h0 i hi, getD_set_bool, List.mem_cons]
          by_cases e : k.toNat = i
          · have : (i : Int) = k := by omega
            simp [e, this, hs, hi]
          · have : (i : Int) ≠ k := by omega
            simp [e, this]
theorem leakErr_iff : ∀ {l : List Slot} {m : List Bool}, m.length = l.length → (leakErr l m = 0 ↔ ∀ i, i < l.length → (l.getD i default).refs = 0 → m.getD i false = true)
  | [], _, _ => by simp [leakErr]
  | s :: l, [], e => by simp at e
  | s :: l, b :: m, e => by
    have ih := leakErr_iff (l := l) (m := m) (by simpa using e)
    simp only [leakErr]
    split
    · rename_i hx; constructor
      · intro h'; cases h'
      · intro h'
        have := h' 0 (by simp) (by simpa using hx.1)
        rw [List.getD_cons_zero, hx.2] at this
        cases this
    · rename_i hx
      rw [ih]
      constructor
      · intro h' i hi hr
        cases i with
        | zero =>
          simp only [List.getD_cons_zero] at hr ⊢
          cases b with
          | true => rfl
          | false => exact absurd ⟨hr, rfl⟩ hx
        | succ i => simpa using h' i (by simpa using hi) (by simpa using hr)
      · intro h' i hi hr
        simpa using h' (i + 1) (by simpa using hi) (by simpa using hr)

/-- Slot number i. -/
def msl (m : Mem) (i : Nat) : Slot := m.slots.getD i default
structure MemOk (m : Mem) : Prop where
  ns : m.slots.length ≤ 12
  nh1 : 1 ≤ m.heads.length
  nh4 : m.heads.length ≤ 4
  nl : m.locks.length = m.heads.length
  now0 : 0 ≤ m.now
  now1 : m.now ≤ 1000000
  slot : ∀ s ∈ m.slots, SlotOk m.slots.length m.heads.length s
  head : ∀ i, i < m.heads.length → HeadOk m.slots.length m.heads.length (m.heads.getD i 0) (m.locks.getD i 0)
  free : ∀ a ∈ m.free, 0 ≤ a ∧ a < m.slots.length ∧ (msl m a.toNat).refs = 0
  nodup : m.free.Nodup
  leak : ∀ i, i < m.slots.length → (msl m i).refs = 0 → (i : Int) ∈ m.free
theorem checkMem_iff (m : Mem) : checkMem m = 0 ↔ MemOk m := by
  have hsl : (List.replicate m.slots.length false).length = m.slots.length := by simp
  have hrep : ∀ i, (List.replicate m.slots.length false).getD i false = false := fun i => by
    simp only [List.getD_eq_getElem?_getD, List.getElem?_replicate]
    split <;> rfl
  have hF := freeScan_iff (slots := m.slots) (l := m.free) hsl
  unfold checkMem
  constructor
  · intro h
    split at h
    · cases h
    · rename_i h1
      split at h
      · cases h
      · rename_i h2
        split at h
        · cases h
        · rename_i h3
          split at h
          · rename_i h4; exact absurd h h4
          · rename_i h4
            split at h
            · rename_i h5; exact absurd h h5
            · rename_i h5
              split at h
              · rename_i h6; exact absurd h h6
              · rename_i h6
                have h6 : (freeScan m.slots m.free (List.replicate m.slots.length false)).1 = 0 := Classical.not_not.1 h6
                obtain ⟨f1, f2, _⟩ := hF.1 h6
                have hL := (leakErr_iff (by rw [freeScan_length, hsl])).1 h
                refine ⟨by omega, by omega, by omega, by omega, by omega, by omega, slotsErr_iff.1 (Classical.not_not.1 h4), (headsErr_iff (by omega)).1 (Classical.not_not.1 h5), f1, f2, fun i hi hr => ?_⟩
                have := (freeScan_seen hsl h6 i hi).1 (hL i hi hr)
                rw [hrep] at this
                simpa using this
  · intro h
    have h1 := h.ns
    have h2 := h.nh1
    have h3 := h.nh4
    have h4 := h.nl
    have h5 := h.now0
    have h6 := h.now1
    have hs := slotsErr_iff.2 h.slot
    have hh := (headsErr_iff h.nl).2 h.head
    have hf := hF.2 ⟨h.free, h.nodup, fun a _ => hrep _⟩
    rw [if_neg (by omega), if_neg (by omega), if_neg (by omega), hs, if_neg (fun x => x rfl), hh, if_neg (fun x => x rfl), hf, if_neg (fun x => x rfl)]
    refine (leakErr_iff (by rw [freeScan_length, hsl])).2 fun i hi hr => ?_
    exact (freeScan_seen hsl hf i hi).2 (.inr (h.leak i hi hr))
theorem MemOk.sl {m : Mem} (h : MemOk m) {i : Nat} (hi : i < m.slots.length) : SlotOk m.slots.length m.heads.length (msl m i) := by
  refine h.slot _ ?_
  unfold msl
  rw [List.getD_eq_getElem?_getD, List.getElem?_eq_getElem hi, Option.getD_some]
  exact List.getElem_mem hi
end Go.Proofs.Ytpmamacjepcdmaa
