import Derived.Test.YtpmamacjepcdmaaCChainLaws
/- Plain: flows and keys; what Linked and Without answer. -/
namespace Go.Proofs.Ytpmamacjepcdmaa
open Go Go.Sy Go.RowKit
set_option linter.unusedSimpArgs false
set_option linter.unusedVariables false

theorem getD_memF {l : List Flow} {i : Nat} (h : i < l.length) : l.getD i default ∈ l := by
  rw [List.getD_eq_getElem?_getD, List.getElem?_eq_getElem h, Option.getD_some]; exact List.getElem_mem h
theorem mem_getDF {l : List Flow} {f : Flow} (h : f ∈ l) : ∃ i, i < l.length ∧ f = l.getD i default := by
  obtain ⟨i, hi, e⟩ := List.getElem_of_mem h
  exact ⟨i, hi, by rw [List.getD_eq_getElem?_getD, List.getElem?_eq_getElem hi, Option.getD_some, e]⟩
theorem key_ext {k j : Key} (h1 : k.a = j.a) (h2 : k.b = j.b) : k = j := by
  cases k; cases j; simp only at h1 h2; rw [h1, h2]
theorem drop_getDI {l : List Int} {j : Nat} (h : j < l.length) : l.drop j = l.getD j 0 :: l.drop (j + 1) := drop_getD h
/-- Where no flow has the key, none stands in its chain. -/
theorem no_flow {m : Mem} (hC : ChainsOk m) {k : Key} (h : ∀ i, i < (flowsOf m).length → ((flowsOf m).getD i default).k ≠ k) {b : Nat} (hb : b < m.heads.length) : ∀ a ∈ chL m b, kys m a ≠ k := fun a ha e => by
  obtain ⟨i, hi, e'⟩ := mem_getDF (flows_of hb ha)
  exact h i hi (by rw [← e']; exact e)
theorem bk_range {m : Mem} (hm : MemOk m) {k : Key} (hk : Key.Ok k) : 0 ≤ bk m k ∧ bk m k < m.heads.length ∧ (bucketOf k m.heads.length).2 = 0 := bucket_ok hk (by have := hm.nh1; omega) (by have := hm.nh4; omega)
theorem without_none {m : Mem} (hC : ChainsOk m) {k : Key} (hk : Key.Ok k) (h : ∀ i, i < (flowsOf m).length → ((flowsOf m).getD i default).k ≠ k) : without m k = (Mem.none, 0, 5) := by
  obtain ⟨h1, h2, h3⟩ := bk_range hC.mem hk
  unfold without
  rw [if_neg (fun hx => hx ((checkChains_iff m).2 hC)), if_neg (fun hx => hx h3)]
  refine cutScan_none ?_
  have := no_flow hC h (b := (bk m k).toNat) (by omega)
  unfold chL at this
  rwa [show (((bk m k).toNat : Nat) : Int) = bk m k from by omega] at this
theorem without_at {m : Mem} (hC : ChainsOk m) {f : Flow} (hf : f ∈ flowsOf m) (hk : Key.Ok f.k) : without m f.k = (cut m (prevOf f.slot (chL m (bk m f.k).toNat) 0) f.slot (bk m f.k), f.slot, 0) := by
  obtain ⟨h1, h2, h3⟩ := bk_range hC.mem hk
  obtain ⟨_, _, g3, _, _, _, g7⟩ := flows_at hC hf
  unfold without
  rw [if_neg (fun hx => hx ((checkChains_iff m).2 hC)), if_neg (fun hx => hx h3)]
  have hc := hC.ch (b := (bk m f.k).toNat) (by omega)
  have := cutScan_at (b := bk m f.k) (p := 0) g3 hc.nd g7
  unfold chL at this ⊢
  rw [show (((bk m f.k).toNat : Nat) : Int) = bk m f.k from by omega] at this ⊢
  exact this
theorem linked_twice {m : Mem} (hC : ChainsOk m) {a : Int} (h1 : 0 ≤ a) (h2 : a < m.slots.length) (h3 : (msl m a.toNat).refs ≠ 0) {f : Flow} (hf : f ∈ flowsOf m) (hk : f.k = kys m a) : linked m a = (Mem.none, 6) := by
  unfold linked
  rw [if_neg (fun hx => hx ((checkChains_iff m).2 hC)), if_neg (by omega), if_neg h3, if_pos]
  obtain ⟨_, _, g3, _, g5, _, g7⟩ := flows_at hC hf
  rw [hk] at g5 g7
  refine List.any_eq_true.2 ⟨f.slot, ?_, decide_eq_true (.inr (by rw [hk] at g3; exact g3))⟩
  unfold chL at g7
  rw [show (((bk m (kys m a)).toNat : Nat) : Int) = bk m (kys m a) from by omega] at g7
  exact g7
theorem linked_new {m : Mem} (hC : ChainsOk m) {a : Int} (h1 : 0 ≤ a) (h2 : a < m.slots.length) (h3 : (msl m a.toNat).refs ≠ 0) (h : ∀ i, i < (flowsOf m).length → ((flowsOf m).getD i default).k ≠ kys m a) : linked m a = (link m a (bk m (kys m a)), 0) := by
  unfold linked
  rw [if_neg (fun hx => hx ((checkChains_iff m).2 hC)), if_neg (by omega), if_neg h3, if_neg]
  · rfl
  · have hk := (hC.mem.sl (i := a.toNat) (by omega)).k
    obtain ⟨b1, b2, b3⟩ := bk_range hC.mem hk
    have hn := no_flow hC h (b := (bk m (kys m a)).toNat) (by show (bk m (msl m a.toNat).k).toNat < _; omega)
    unfold chL at hn
    rw [show (((bk m (kys m a)).toNat : Nat) : Int) = bk m (kys m a) from by show (((bk m (msl m a.toNat).k).toNat : Nat) : Int) = bk m (msl m a.toNat).k; omega] at hn
    intro hx
    obtain ⟨c, hc, e⟩ := List.any_eq_true.1 hx
    rcases of_decide_eq_true e with e | e
    · rw [e] at hc; exact hn a hc rfl
    · exact hn c hc e
end Go.Proofs.Ytpmamacjepcdmaa

/- Plain: chains that change. -/
namespace Go.Proofs.Ytpmamacjepcdmaa
open Go Go.Sy Go.RowKit
set_option linter.unusedSimpArgs false
set_option linter.unusedVariables false

def nxt (m : Mem) (a : Int) : Int := (msl m a.toNat).next
/-- From n through these slots to where it ends. -/
def Path (m : Mem) : Int → List Int → Int → Prop
  | n, [], e => n = e ∧ n ≤ 0
  | n, c :: l, e => n = c + 1 ∧ 0 < n ∧ Path m (nxt m c) l e
/-- From n through these slots to a next one. -/
def Seg (m : Mem) : Int → List Int → Int → Prop
  | n, [], q => n = q
  | n, c :: l, q => n = c + 1 ∧ 0 < n ∧ Seg m (nxt m c) l q
theorem walk_iff {m : Mem} : ∀ {f : Nat} {n : Int} {l : List Int} {e : Int}, walk m f n = some (l, e) ↔ Path m n l e ∧ l.length < f
  | 0, n, l, e => by simp [walk]
  | f + 1, n, l, e => by
    by_cases h0 : n ≤ 0
    · rw [walk_end h0]
      cases l with
      | nil => simp only [Path, Option.some.injEq, Prod.mk.injEq, true_and, List.length_nil]; exact ⟨fun h => ⟨⟨h, h0⟩, by omega⟩, fun h => h.1.1⟩
      | cons c l => simp only [Path, Option.some.injEq, Prod.mk.injEq]; exact ⟨fun h => (by cases h.1), fun h => by omega⟩
    · rw [walk_pos h0]
      cases l with
      | nil =>
        simp only [Path]
        constructor
        · intro h
          cases hw : walk m f (msl m (n - 1).toNat).next <;> rw [hw] at h <;> cases h
        · intro h; omega
      | cons c l =>
        have ih := walk_iff (m := m) (f := f) (n := (msl m (n - 1).toNat).next) (l := l) (e := e)
        simp only [Path, List.length_cons, Nat.add_lt_add_iff_right]
        constructor
        · intro h
          cases hw : walk m f (msl m (n - 1).toNat).next with
          | none => rw [hw] at h; cases h
          | some p =>
            rw [hw] at h
            cases h
            have := ih.1 hw
            refine ⟨⟨by omega, by omega, ?_⟩, this.2⟩
            exact this.1
        · rintro ⟨⟨h1, h2, h3⟩, h4⟩
          have e1 : n - 1 = c := by omega
          have := ih.2 ⟨by rw [e1]; exact h3, h4⟩
          rw [this, Option.map_some, e1]
theorem chainOf_iff {m : Mem} {b : Int} {l : List Int} : chainOf m b = some l ↔ Path m (headAt m b) l (-1 - b) ∧ l.length ≤ m.slots.length := by
  constructor
  · intro h
    have := walk_iff.1 (chainOf_walked h)
    exact ⟨this.1, by omega⟩
  · rintro ⟨h1, h2⟩
    have : walked m b = some (l, -1 - b) := walk_iff.2 ⟨h1, by omega⟩
    unfold chainOf
    rw [this]
    simp
theorem Path.congr {m x : Mem} : ∀ {l : List Int} {n e : Int}, (∀ c ∈ l, nxt x c = nxt m c) → Path m n l e → Path x n l e
  | [], _, _, _, h => h
  | c :: l, n, e, hc, h => ⟨h.1, h.2.1, by rw [hc c (by simp)]; exact Path.congr (fun d hd => hc d (by simp [hd])) h.2.2⟩
theorem Seg.congr {m x : Mem} : ∀ {l : List Int} {n e : Int}, (∀ c ∈ l, nxt x c = nxt m c) → Seg m n l e → Seg x n l e
  | [], _, _, _, h => h
  | c :: l, n, e, hc, h => ⟨h.1, h.2.1, by rw [hc c (by simp)]; exact Seg.congr (fun d hd => hc d (by simp [hd])) h.2.2⟩
theorem path_append {m : Mem} : ∀ {l1 l2 : List Int} {n e : Int}, Path m n (l1 ++ l2) e ↔ ∃ q, Seg m n l1 q ∧ Path m q l2 e
  | [], l2, n, e => by simp [Seg]
  | c :: l1, l2, n, e => by
    simp only [List.cons_append, Path, Seg, path_append (l1 := l1) (l2 := l2)]
    constructor
    · rintro ⟨h1, h2, q, h3, h4⟩; exact ⟨q, ⟨h1, h2, h3⟩, h4⟩
    · rintro ⟨q, ⟨h1, h2, h3⟩, h4⟩; exact ⟨h1, h2, q, h3, h4⟩
theorem seg_append {m : Mem} : ∀ {l1 l2 : List Int} {n e : Int}, Seg m n (l1 ++ l2) e ↔ ∃ q, Seg m n l1 q ∧ Seg m q l2 e
  | [], l2, n, e => by simp [Seg]
  | c :: l1, l2, n, e => by
    simp only [List.cons_append, Seg, seg_append (l1 := l1) (l2 := l2)]
    constructor
    · rintro ⟨h1, h2, q, h3, h4⟩; exact ⟨q, ⟨h1, h2, h3⟩, h4⟩
    · rintro ⟨q, ⟨h1, h2, h3⟩, h4⟩; exact ⟨h1, h2, q, h3, h4⟩

/-! ### Slots and heads that are written -/
theorem msl_modify {m : Mem} {i j : Nat} {f : Slot → Slot} (hi : i < m.slots.length) : (m.slots.modify i f).getD j default = if i = j then f (msl m i) else msl m j := by
  unfold msl
  simp only [List.getD_eq_getElem?_getD, List.getElem?_modify]
  by_cases h : i = j
  · subst h
    rw [List.getElem?_eq_getElem hi]
    simp
  · simp [h]
theorem mem_modify {l : List Slot} {i : Nat} {f : Slot → Slot} {s : Slot} (h : s ∈ l.modify i f) : s ∈ l ∨ ∃ t ∈ l, s = f t := by
  obtain ⟨j, hj⟩ := List.getElem?_of_mem h
  rw [List.getElem?_modify] at hj
  cases hl : l[j]? with
  | none => rw [hl] at hj; simp at hj
  | some t =>
    rw [hl] at hj
    have hm := List.mem_of_getElem? hl
    simp only [Option.map_eq_map, Option.map_some, Option.some.injEq] at hj
    split at hj
    · exact .inr ⟨t, hm, hj.symm⟩
    · exact .inl (by rw [← hj]; exact hm)
theorem head_set {m : Mem} {b i v : Int} (hb : 0 ≤ b) (hb' : b < m.heads.length) (hi : 0 ≤ i) : (m.heads.set b.toNat v).getD i.toNat 0 = if i = b then v else headAt m i := by
  unfold headAt
  simp only [List.getD_eq_getElem?_getD, List.getElem?_set]
  by_cases h : i = b
  · subst h
    have : i.toNat < m.heads.length := by omega
    simp [this]
  · have : b.toNat ≠ i.toNat := by omega
    simp [this, h]
/-- Memory whose slots' ends and In, and whose heads, are others, is right where these are. -/
theorem MemOk.with {m x : Mem} (hm : MemOk m) (h1 : x.slots.length = m.slots.length) (h2 : x.heads.length = m.heads.length) (h3 : x.free = m.free) (h4 : x.locks = m.locks) (h5 : x.now = m.now)
    (hs : ∀ i, i < m.slots.length → (msl x i).refs = (msl m i).refs ∧ (msl x i).k = (msl m i).k ∧ (msl x i).till = (msl m i).till ∧ (msl x i).next ≤ m.slots.length ∧ -(m.heads.length : Int) ≤ (msl x i).next)
    (hh : ∀ i, i < m.heads.length → x.heads.getD i 0 ≠ 0 ∧ x.heads.getD i 0 ≤ m.slots.length ∧ -(m.heads.length : Int) ≤ x.heads.getD i 0) : MemOk x := by
  refine ⟨by rw [h1]; exact hm.ns, by rw [h2]; exact hm.nh1, by rw [h2]; exact hm.nh4, by rw [h4, h2]; exact hm.nl, by rw [h5]; exact hm.now0, by rw [h5]; exact hm.now1, fun s hs' => ?_, fun i hi => ?_, fun a ha => ?_, by rw [h3]; exact hm.nodup, fun i hi hr => ?_⟩
  · obtain ⟨i, hi, e⟩ := List.getElem_of_mem hs'
    have e : s = msl x i := by unfold msl; rw [List.getD_eq_getElem?_getD, List.getElem?_eq_getElem hi, Option.getD_some, e]
    rw [h1] at hi
    obtain ⟨g1, g2, g3, g4, g5⟩ := hs i hi
    have ho := hm.sl hi
    rw [e, h1, h2]
    exact ⟨by rw [g1]; exact ho.r0, by rw [g1]; exact ho.r1, by rw [g3]; exact ho.t0, by rw [g3]; exact ho.t1, by rw [g2]; exact ho.k, g4, g5⟩
  · rw [h2] at hi
    obtain ⟨g1, g2, g3⟩ := hh i hi
    have ho := hm.head i hi
    rw [h1, h2, h4]
    exact ⟨g1, g2, g3, ho.k0, ho.k1⟩
  · rw [h3] at ha
    have := hm.free a ha
    rw [h1, (hs a.toNat (by omega)).1]
    exact this
  · rw [h1] at hi
    rw [h3]
    exact hm.leak i hi (by rw [← (hs i hi).1]; exact hr)
theorem MemOk.hd0 {m : Mem} (hm : MemOk m) {b : Int} (h1 : 0 ≤ b) (h2 : b < m.heads.length) : headAt m b ≠ 0 ∧ headAt m b ≤ m.slots.length ∧ -(m.heads.length : Int) ≤ headAt m b := by
  have := hm.head b.toNat (by omega)
  exact ⟨this.h0, this.n0, this.n1⟩
theorem ChainOk.ndl {m : Mem} {b : Nat} {l : List Int} (h : ChainOk m b l) : l.Nodup := by
  have := h.nd
  exact List.Pairwise.of_map (kys m) (fun a b hab e => hab (by rw [e])) this
end Go.Proofs.Ytpmamacjepcdmaa
