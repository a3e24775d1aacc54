import Derived.Test.YtpmamacjepcdmaaCChain4
/- Plain: chains that are right. Contracts: the document's Link and Cut. -/
namespace Go.Proofs.Ytpmamacjepcdmaa
open Go Go.Sy Go.RowKit
set_option linter.unusedSimpArgs false
set_option linter.unusedVariables false

def kys (m : Mem) (a : Int) : Key := (msl m a.toNat).k
structure InOk (m : Mem) (b : Int) (a : Int) : Prop where
  refs : (msl m a.toNat).refs ≠ 0
  inn : (msl m a.toNat).inn = true
  bk : bk m (kys m a) = b
structure ChainOk (m : Mem) (b : Nat) (l : List Int) : Prop where
  of : chainOf m b = some l
  ok : ∀ a ∈ l, InOk m b a
  nd : (l.map (kys m)).Nodup
structure ChainsOk (m : Mem) : Prop where
  mem : MemOk m
  all : ∀ b : Nat, b < m.heads.length → ∃ l, ChainOk m b l
theorem linkErr_iff {m : Mem} {b : Int} {ks : List Key} {a : Int} : linkErr m b ks a = 0 ↔ InOk m b a ∧ kys m a ∉ ks := by
  unfold linkErr
  constructor
  · intro h
    split at h
    · cases h
    · rename_i h1
      split at h
      · cases h
      · rename_i h2
        split at h
        · cases h
        · rename_i h3
          refine ⟨⟨fun e => h1 (.inl e), ?_, Classical.not_not.1 h2⟩, h3⟩
          cases hx : (msl m a.toNat).inn with
          | true => rfl
          | false => exact absurd (.inr hx) h1
  · rintro ⟨⟨h1, h2, h3⟩, h4⟩
    rw [if_neg, if_neg (fun h => h h3), if_neg (show (msl m a.toNat).k ∉ ks from h4)]
    rintro (e | e)
    · exact h1 e
    · rw [h2] at e; cases e
theorem chainScan_iff {m : Mem} {b : Int} : ∀ {l : List Int} {ks : List Key}, ((chainScan m b l ks).1 = 0 ↔ (∀ a ∈ l, InOk m b a ∧ kys m a ∉ ks) ∧ (l.map (kys m)).Nodup)
  | [], ks => by simp [chainScan]
  | a :: l, ks => by
    have ih := chainScan_iff (m := m) (b := b) (l := l) (ks := kys m a :: ks)
    simp only [chainScan]
    split
    · rename_i h
      constructor
      · intro e; exact absurd e h
      · intro e; exact absurd (linkErr_iff.2 (e.1 a (by simp))) h
    · rename_i h
      have h0 := linkErr_iff.1 (Classical.not_not.1 h)
      show (chainScan m b l (kys m a :: ks)).1 = 0 ↔ _
      rw [ih]
      simp only [List.map_cons, List.nodup_cons, List.mem_cons, not_or, forall_eq_or_imp]
      constructor
      · rintro ⟨h1, h2⟩
        refine ⟨⟨h0, fun x hx => ⟨(h1 x hx).1, (h1 x hx).2.2⟩⟩, fun hm => ?_, h2⟩
        obtain ⟨y, hy, e⟩ := List.mem_map.1 hm
        exact (h1 y hy).2.1 e
      · rintro ⟨⟨_, h1⟩, h2, h3⟩
        exact ⟨fun x hx => ⟨(h1 x hx).1, fun e => h2 (List.mem_map.2 ⟨x, hx, e⟩), (h1 x hx).2⟩, h3⟩
theorem chainScan_ks {m : Mem} {b : Int} : ∀ {l : List Int} {ks : List Key}, (chainScan m b l ks).1 = 0 → ∀ k ∈ (chainScan m b l ks).2, k ∈ ks ∨ ∃ a ∈ l, k = kys m a
  | [], ks, _, k, hk => .inl hk
  | a :: l, ks, h, k, hk => by
    simp only [chainScan] at h hk
    split at h
    · rename_i hx; exact absurd h hx
    · rename_i hx
      rw [if_neg hx] at hk
      rcases chainScan_ks h k hk with h1 | ⟨x, h1, h2⟩
      · rcases List.mem_cons.1 h1 with rfl | h1
        · exact .inr ⟨a, by simp, rfl⟩
        · exact .inl h1
      · exact .inr ⟨x, by simp [h1], h2⟩
theorem chainsErr_iff {m : Mem} : ∀ {n b : Nat} {ks : List Key}, (∀ k ∈ ks, bk m k < b) → (chainsErr m n b ks = 0 ↔ ∀ i, b ≤ i → i < b + n → ∃ l, ChainOk m i l)
  | 0, b, ks, _ => by simp only [chainsErr, true_iff]; intro i h1 h2; omega
  | n + 1, b, ks, hk => by
    cases hc : chainOf m b with
    | none =>
      rw [chainsErr_none hc]
      constructor
      · intro h; cases h
      · intro h
        obtain ⟨l, hl⟩ := h b (Nat.le_refl _) (by omega)
        rw [hl.of] at hc; cases hc
    | some l =>
      rw [chainsErr_some hc]
      by_cases h0 : (chainScan m b l ks).1 = 0
      · rw [if_neg (fun h => h h0)]
        obtain ⟨h1, h2⟩ := chainScan_iff.1 h0
        have ih := chainsErr_iff (m := m) (n := n) (b := b + 1) (ks := (chainScan m b l ks).2) fun k hk' => by
          rcases chainScan_ks h0 k hk' with h | ⟨a, ha, e⟩
          · have := hk k h; omega
          · rw [e, (h1 a ha).1.bk]; omega
        rw [ih]
        constructor
        · intro h i hi1 hi2
          rcases Nat.lt_or_ge b i with hl | hg
          · exact h i (by omega) (by omega)
          · have : i = b := by omega
            subst this
            exact ⟨l, hc, fun a ha => (h1 a ha).1, h2⟩
        · intro h i hi1 hi2
          exact h i (by omega) (by omega)
      · rw [if_pos h0]
        constructor
        · intro h; exact absurd h h0
        · intro h
          obtain ⟨l', hl⟩ := h b (Nat.le_refl _) (by omega)
          have := hl.of
          rw [hc] at this
          cases this
          refine absurd (chainScan_iff.2 ⟨fun a ha => ⟨hl.ok a ha, fun hm => ?_⟩, hl.nd⟩) h0
          have h3 := hk _ hm
          rw [(hl.ok a ha).bk] at h3
          omega
theorem checkChains_iff (m : Mem) : checkChains m = 0 ↔ ChainsOk m := by
  unfold checkChains
  constructor
  · intro h
    split at h
    · rename_i hx; exact absurd h hx
    · rename_i hx
      have hm := (checkMem_iff m).1 (Classical.not_not.1 hx)
      exact ⟨hm, fun b hb => (chainsErr_iff (by simp)).1 h b (by omega) (by omega)⟩
  · intro h
    rw [if_neg (fun hx => hx ((checkMem_iff m).2 h.mem))]
    exact (chainsErr_iff (by simp)).2 fun i _ hi => h.all i (by omega)
theorem ChainOk.r {m : Mem} {b : Nat} {l : List Int} (h : ChainOk m b l) : (chainR m b).1 = l := by unfold chainR; rw [h.of]
/-- What chain b is. -/
def chL (m : Mem) (b : Nat) : List Int := (chainR m b).1
theorem ChainsOk.ch {m : Mem} (h : ChainsOk m) {b : Nat} (hb : b < m.heads.length) : ChainOk m b (chL m b) := by
  obtain ⟨l, hl⟩ := h.all b hb
  have := hl.r
  unfold chL
  rw [this]; exact hl
theorem chL_mem {m : Mem} (h : ChainsOk m) {b : Nat} {a : Int} (ha : a ∈ chL m b) : 0 ≤ a ∧ a < m.slots.length := (chainR_mem h.mem b).2 a ha
theorem nodup_map_inj {α β : Type} {f : α → β} : ∀ {l : List α}, (l.map f).Nodup → ∀ {a b : α}, a ∈ l → b ∈ l → f a = f b → a = b
  | [], _, _, _, h, _, _ => by cases h
  | x :: l, hd, a, b, ha, hb, e => by
    rw [List.map_cons, List.nodup_cons] at hd
    rcases List.mem_cons.1 ha with h1 | h1
    · rcases List.mem_cons.1 hb with h2 | h2
      · rw [h1, h2]
      · exact absurd (List.mem_map.2 ⟨b, h2, by rw [← h1]; exact e.symm⟩) hd.1
    · rcases List.mem_cons.1 hb with h2 | h2
      · exact absurd (List.mem_map.2 ⟨a, h1, by rw [← h2]; exact e⟩) hd.1
      · exact nodup_map_inj hd.2 h1 h2 e
theorem flowsFrom_mem {m : Mem} {f : Flow} : ∀ {n b : Nat} {acc : List Flow}, f ∈ flowsFrom m n b acc ↔ f ∈ acc ∨ ∃ i, b ≤ i ∧ i < b + n ∧ ∃ a ∈ chL m i, f = flowAt m a
  | 0, b, acc => by
    simp only [flowsFrom]
    exact ⟨.inl, fun h => h.resolve_right (by rintro ⟨i, h1, h2, _⟩; omega)⟩
  | n + 1, b, acc => by
    rw [flowsFrom, flowsFrom_mem (n := n) (b := b + 1)]
    constructor
    · rintro (h | ⟨i, h1, h2, h3⟩)
      · rcases List.mem_append.1 h with h | h
        · exact .inl h
        · obtain ⟨a, ha, e⟩ := List.mem_map.1 h
          exact .inr ⟨b, Nat.le_refl _, by omega, a, ha, e.symm⟩
      · exact .inr ⟨i, by omega, by omega, h3⟩
    · rintro (h | ⟨i, h1, h2, a, ha, e⟩)
      · exact .inl (List.mem_append_left _ h)
      · rcases Nat.lt_or_ge b i with hl | hg
        · exact .inr ⟨i, by omega, by omega, a, ha, e⟩
        · have : i = b := by omega
          subst this
          exact .inl (List.mem_append_right _ (List.mem_map.2 ⟨a, ha, e.symm⟩))
theorem flows_mem {m : Mem} {f : Flow} : f ∈ flowsOf m ↔ ∃ b, b < m.heads.length ∧ ∃ a ∈ chL m b, f = flowAt m a := by
  unfold flowsOf
  rw [flowsFrom_mem]
  constructor
  · rintro (h | ⟨i, _, h2, h3⟩)
    · cases h
    · exact ⟨i, by omega, h3⟩
  · rintro ⟨b, h1, h2⟩
    exact .inr ⟨b, by omega, by omega, h2⟩
/-- A flow's slot stands in its key's chain. -/
theorem flows_at {m : Mem} (h : ChainsOk m) {f : Flow} (hf : f ∈ flowsOf m) : 0 ≤ f.slot ∧ f.slot < m.slots.length ∧ kys m f.slot = f.k ∧ f = flowAt m f.slot ∧ 0 ≤ bk m f.k ∧ bk m f.k < m.heads.length ∧ f.slot ∈ chL m (bk m f.k).toNat := by
  obtain ⟨b, hb, a, ha, e⟩ := flows_mem.1 hf
  have hc := h.ch hb
  have h1 := chL_mem h ha
  have h2 := (hc.ok a ha).bk
  have e1 : f.slot = a := by rw [e]; rfl
  have e2 : f.k = kys m a := by rw [e]; rfl
  rw [e1, e2, h2]
  refine ⟨h1.1, h1.2, rfl, e, by omega, by omega, ?_⟩
  rw [show ((b : Int)).toNat = b from by omega]
  exact ha
theorem flows_of {m : Mem} {b : Nat} (hb : b < m.heads.length) {a : Int} (ha : a ∈ chL m b) : flowAt m a ∈ flowsOf m := flows_mem.2 ⟨b, hb, a, ha, rfl⟩
theorem flowsFrom_length {m : Mem} (hm : MemOk m) : ∀ {n b : Nat} {acc : List Flow}, (flowsFrom m n b acc).length ≤ acc.length + n * 12
  | 0, b, acc => by simp [flowsFrom]
  | n + 1, b, acc => by
    rw [flowsFrom]
    have ih := flowsFrom_length hm (n := n) (b := b + 1) (acc := acc ++ (chainR m b).1.map (flowAt m))
    have h1 := (chainR_mem hm b).1
    have h2 := hm.ns
    rw [List.length_append, List.length_map] at ih
    omega
theorem flows_length {m : Mem} (hm : MemOk m) : (flowsOf m).length ≤ 48 := by
  have := flowsFrom_length hm (n := m.heads.length) (b := 0) (acc := [])
  have h1 := hm.nh4
  unfold flowsOf
  simp only [List.length_nil] at this
  omega
def prevOf (t : Int) : List Int → Int → Int
  | [], p => p
  | a :: l, p => if a = t then p else prevOf t l (a + 1)
theorem cutScan_at {m : Mem} {k : Key} {b t : Int} (hk : kys m t = k) : ∀ {l : List Int} {p : Int}, (l.map (kys m)).Nodup → t ∈ l → cutScan m k b l p = (cut m (prevOf t l p) t b, t, 0)
  | [], _, _, h => by cases h
  | a :: l, p, hd, h => by
    simp only [cutScan, prevOf]
    by_cases e : a = t
    · subst e
      rw [if_pos (show (msl m a.toNat).k = k from hk), if_pos rfl]
    · have hne : kys m a ≠ k := fun e' => e (nodup_map_inj hd (by simp) h (by rw [e', hk]))
      have ht : t ∈ l := (List.mem_cons.1 h).resolve_left (fun e' => e e'.symm)
      rw [if_neg (show (msl m a.toNat).k ≠ k from hne), if_neg e]
      exact cutScan_at hk (by rw [List.map_cons, List.nodup_cons] at hd; exact hd.2) ht
theorem cutScan_none {m : Mem} {k : Key} {b : Int} : ∀ {l : List Int} {p : Int}, (∀ a ∈ l, kys m a ≠ k) → cutScan m k b l p = (Mem.none, 0, 5)
  | [], _, _ => rfl
  | a :: l, p, h => by
    simp only [cutScan]
    rw [if_neg (show (msl m a.toNat).k ≠ k from h a (by simp))]
    exact cutScan_none fun x hx => h x (by simp [hx])

def s87 : Sig := ⟨[.ptr [.own 52 kS, .own 3 kI, .own 3 kI, .own 3 kI, .int .i64], .one (.int .i64), .one (.int .i64)], []⟩
def d87 : DC := ⟨s87, fun l => 0 ≤ (l.getD 5 .u).int ∧ (l.getD 5 .u).int < (Mem.of l).slots.length ∧ 0 ≤ (l.getD 6 .u).int ∧ (l.getD 6 .u).int < (Mem.of l).heads.length, fun l => (link (Mem.of l) (l.getD 5 .u).int (l.getD 6 .u).int).cds⟩
theorem fn87 (m : Mem) (a b : Int) : d87.fn [slotsD m.slots, intsD m.heads, intsD m.free, intsD m.locks, .i m.now, .i a, .i b] = (link m a b).cds := by simp only [d87, mem_of, mem_eta, List.getD_cons_zero, List.getD_cons_succ, CD.int_i]
theorem pre87 {m : Mem} {a b : Int} (h1 : 0 ≤ a) (h2 : a < m.slots.length) (h3 : 0 ≤ b) (h4 : b < m.heads.length) : d87.pre [slotsD m.slots, intsD m.heads, intsD m.free, intsD m.locks, .i m.now, .i a, .i b] := by
  simp only [d87, mem_of, mem_eta, List.getD_cons_zero, List.getD_cons_succ, CD.int_i]
  exact ⟨h1, h2, h3, h4⟩
def l87 : List (Nat × Ct) := []
def z87 : Cx := { T := ttA, C := sigs l87, F := [], hints := [], sig := s87 }
def t87 : Tree :=
 (.need (.le (.int 0) (.var 5))
 (.need (.lt (.var 5) (.len (.var 0)))
 (.need (.le (.int 0) (.var 6))
 (.need (.lt (.var 6) (.len (.var 1)))
 (.need (.fit (.add (.var 5) (.int 1)))
 (.ret [.set (.set (.set (.set (.set (.set (.var 0) (.var 5) 0 (.cell (.var 0) (.var 5) 0)) (.var 5) 1 (.cell (.var 0) (.var 5) 1)) (.var 5) 2 (.cell (.var 0) (.var 5) 2)) (.var 5) 3 (.cell (.var 0) (.var 5) 3)) (.var 5) 4 (.bool true)) (.var 5) 5 (.cell (.var 1) (.var 6) 0), .set (.var 1) (.var 6) 0 (.add (.var 5) (.int 1)), .var 2, .var 3, .var 4]))))))
theorem run87 : run z87 6000 [.code (Try.f87.body.getD .skip), .fin (topRet z87 Try.f87.results.toList 50)] { fn := 87, tmps := z87.sig.args0 ++ List.replicate (Try.f87.ntmps - z87.sig.args0.length) (.v (.one .undef)), stk := [], h := z87.sig.h0, nx := z87.sig.ins.length, known := [] } = t87 := by kernel_rfl
theorem ok87 : CtOk Try.prog 87 d87.ct := by
  refine dc_of_tree (d := d87) (Z := z87) (Γ := gam l87) (fn := Try.f87) (c := Try.f87.body.getD .skip) (told_of tok mixed all_nil fok_nil) Try.func87 (by kernel_rfl) (by kernel_rfl) rfl run87 fun E hk hp => ?_
  obtain ⟨hk0, hk1, hk2, hk3, hk4, hk5, hk6, _⟩ := hk
  obtain ⟨m, e0, e1, e2, e3, e4, b0, b1, b2, b3⟩ := ok_mem (d0 := E 0) (d1 := E 1) (d2 := E 2) (d3 := E 3) (d4 := E 4) hk0 hk1 hk2 hk3 hk4
  obtain ⟨x, e5⟩ := ok_int (d := E 5) hk5
  obtain ⟨x2, e6⟩ := ok_int (d := E 6) hk6
  have el : letters E d87.sig.ins.length = [slotsD m.slots, intsD m.heads, intsD m.free, intsD m.locks, .i m.now, .i x, .i x2] := by
    show [E 0, E 1, E 2, E 3, E 4, E 5, E 6] = _
    rw [e0, e1, e2, e3, e4, e5, e6]
  rw [el] at hp
  rw [el]
  rw [Env.pre_eq el]
  clear el e0 e1 e2 e3 e4 e5 e6
  rw [fn87]
  simp only [d87, mem_of, mem_eta, List.getD_cons_zero, List.getD_cons_succ, CD.int_i] at hp
  obtain ⟨h1, h2, h3, h4⟩ := hp
  unfold t87
  have r0 : ((slotsD m.slots).rows.getD x.toNat []).getD 0 .u = .i (msl m x.toNat).refs := raw_s0 (by omega)
  have r1 : ((slotsD m.slots).rows.getD x.toNat []).getD 1 .u = .i (msl m x.toNat).k.a := raw_s1 (by omega)
  have r2 : ((slotsD m.slots).rows.getD x.toNat []).getD 2 .u = .i (msl m x.toNat).k.b := raw_s2 (by omega)
  have r3 : ((slotsD m.slots).rows.getD x.toNat []).getD 3 .u = .i (msl m x.toNat).till := raw_s3 (by omega)
  refine den_need (by simp only [nrm, X.den, Env.put, Env.pre, reduceIte, Nat.reduceLT, Nat.reduceSub, Nat.reduceAdd]; omega) (den_need (by simp only [nrm, X.den, Env.put, Env.pre, reduceIte, Nat.reduceLT, Nat.reduceSub, Nat.reduceAdd, len_slots]; omega) (den_need (by simp only [nrm, X.den, Env.put, Env.pre, reduceIte, Nat.reduceLT, Nat.reduceSub, Nat.reduceAdd]; omega) (den_need (by simp only [nrm, X.den, Env.put, Env.pre, reduceIte, Nat.reduceLT, Nat.reduceSub, Nat.reduceAdd, len_ints]; omega) (den_fit (by simp only [nrm, X.den, Env.put, Env.pre, reduceIte, Nat.reduceLT, Nat.reduceSub, Nat.reduceAdd]; omega) (den_ret ?_)))))
  simp only [nrm, X.den, Env.put, Env.pre, reduceIte, Nat.reduceLT, Nat.reduceSub, Nat.reduceAdd, r0, r1, r2, r3, raw_int (show x2.toNat < m.heads.length by omega), set_s0, set_s1, set_s2, set_s3, set_s5, set_s4, set_int, modify_modify, Mem.cds]
  rw [modify_here (fun s : Slot => (⟨(msl m x.toNat).refs, ⟨(msl m x.toNat).k.a, (msl m x.toNat).k.b⟩, (msl m x.toNat).till, true, m.heads.getD x2.toNat 0⟩ : Slot)) (linkSlot (headAt m x2)) m.slots x.toNat rfl]
  rfl
def s89 : Sig := ⟨[.ptr [.own 52 kS, .own 3 kI, .own 3 kI, .own 3 kI, .int .i64], .one (.int .i64), .one (.int .i64), .one (.int .i64)], []⟩
def d89 : DC := ⟨s89, fun l => 0 ≤ (l.getD 5 .u).int ∧ (l.getD 5 .u).int ≤ (Mem.of l).slots.length ∧ 0 ≤ (l.getD 6 .u).int ∧ (l.getD 6 .u).int < (Mem.of l).slots.length ∧ 0 ≤ (l.getD 7 .u).int ∧ (l.getD 7 .u).int < (Mem.of l).heads.length, fun l => (cut (Mem.of l) (l.getD 5 .u).int (l.getD 6 .u).int (l.getD 7 .u).int).cds⟩
theorem fn89 (m : Mem) (p a b : Int) : d89.fn [slotsD m.slots, intsD m.heads, intsD m.free, intsD m.locks, .i m.now, .i p, .i a, .i b] = (cut m p a b).cds := by simp only [d89, mem_of, mem_eta, List.getD_cons_zero, List.getD_cons_succ, CD.int_i]
theorem pre89 {m : Mem} {p a b : Int} (h0 : 0 ≤ p) (h1 : p ≤ m.slots.length) (h2 : 0 ≤ a) (h3 : a < m.slots.length) (h4 : 0 ≤ b) (h5 : b < m.heads.length) : d89.pre [slotsD m.slots, intsD m.heads, intsD m.free, intsD m.locks, .i m.now, .i p, .i a, .i b] := by
  simp only [d89, mem_of, mem_eta, List.getD_cons_zero, List.getD_cons_succ, CD.int_i]
  exact ⟨h0, h1, h2, h3, h4, h5⟩
def l89 : List (Nat × Ct) := []
def z89 : Cx := { T := ttA, C := sigs l89, F := [], hints := [], sig := s89 }
def t89 : Tree :=
 (.need (.le (.int 0) (.var 6))
 (.need (.lt (.var 6) (.len (.var 0)))
 (.ite (.eq (.var 5) (.int 0))
  (.need (.le (.int 0) (.var 7))
  (.need (.lt (.var 7) (.len (.var 1)))
  (.ret [.var 0, .set (.var 1) (.var 7) 0 (.cell (.var 0) (.var 6) 5), .var 2, .var 3, .var 4])))
  (.need (.fit (.sub (.var 5) (.int 1)))
  (.need (.le (.int 0) (.sub (.var 5) (.int 1)))
  (.need (.lt (.sub (.var 5) (.int 1)) (.len (.var 0)))
  (.ret [.set (.var 0) (.sub (.var 5) (.int 1)) 5 (.cell (.var 0) (.var 6) 5), .var 1, .var 2, .var 3, .var 4])))))))
theorem run89 : run z89 6000 [.code (Try.f89.body.getD .skip), .fin (topRet z89 Try.f89.results.toList 50)] { fn := 89, tmps := z89.sig.args0 ++ List.replicate (Try.f89.ntmps - z89.sig.args0.length) (.v (.one .undef)), stk := [], h := z89.sig.h0, nx := z89.sig.ins.length, known := [] } = t89 := by kernel_rfl
theorem ok89 : CtOk Try.prog 89 d89.ct := by
  refine dc_of_tree (d := d89) (Z := z89) (Γ := gam l89) (fn := Try.f89) (c := Try.f89.body.getD .skip) (told_of tok mixed all_nil fok_nil) Try.func89 (by kernel_rfl) (by kernel_rfl) rfl run89 fun E hk hp => ?_
  obtain ⟨hk0, hk1, hk2, hk3, hk4, hk5, hk6, hk7, _⟩ := hk
  obtain ⟨m, e0, e1, e2, e3, e4, b0, b1, b2, b3⟩ := ok_mem (d0 := E 0) (d1 := E 1) (d2 := E 2) (d3 := E 3) (d4 := E 4) hk0 hk1 hk2 hk3 hk4
  obtain ⟨x, e5⟩ := ok_int (d := E 5) hk5
  obtain ⟨x2, e6⟩ := ok_int (d := E 6) hk6
  obtain ⟨x3, e7⟩ := ok_int (d := E 7) hk7
  have el : letters E d89.sig.ins.length = [slotsD m.slots, intsD m.heads, intsD m.free, intsD m.locks, .i m.now, .i x, .i x2, .i x3] := by
    show [E 0, E 1, E 2, E 3, E 4, E 5, E 6, E 7] = _
    rw [e0, e1, e2, e3, e4, e5, e6, e7]
  rw [el] at hp
  rw [el]
  rw [Env.pre_eq el]
  clear el e0 e1 e2 e3 e4 e5 e6 e7
  rw [fn89]
  simp only [d89, mem_of, mem_eta, List.getD_cons_zero, List.getD_cons_succ, CD.int_i] at hp
  obtain ⟨h0, h1, h2, h3, h4, h5⟩ := hp
  have hn : ((slotsD m.slots).rows.getD x2.toNat []).getD 5 .u = .i (msl m x2.toNat).next := raw_s5 (by omega)
  unfold cut
  unfold t89
  refine den_need (by simp only [nrm, X.den, Env.put, Env.pre, reduceIte, Nat.reduceLT, Nat.reduceSub, Nat.reduceAdd]; omega) (den_need (by simp only [nrm, X.den, Env.put, Env.pre, reduceIte, Nat.reduceLT, Nat.reduceSub, Nat.reduceAdd, len_slots]; omega) (den_ite (fun h => ?_) (fun h => ?_)))
  · simp only [nrm, X.den, Env.put, Env.pre, reduceIte, Nat.reduceLT, Nat.reduceSub, Nat.reduceAdd] at h
    rw [if_neg (by omega)]
    refine den_need (by simp only [nrm, X.den, Env.put, Env.pre, reduceIte, Nat.reduceLT, Nat.reduceSub, Nat.reduceAdd]; omega) (den_need (by simp only [nrm, X.den, Env.put, Env.pre, reduceIte, Nat.reduceLT, Nat.reduceSub, Nat.reduceAdd, len_ints]; omega) (den_ret ?_))
    simp only [nrm, X.den, Env.put, Env.pre, reduceIte, Nat.reduceLT, Nat.reduceSub, Nat.reduceAdd, hn, set_int, Mem.cds]
  · simp only [nrm, X.den, Env.put, Env.pre, reduceIte, Nat.reduceLT, Nat.reduceSub, Nat.reduceAdd] at h
    rw [if_pos (by omega)]
    refine den_fit (by simp only [nrm, X.den, Env.put, Env.pre, reduceIte, Nat.reduceLT, Nat.reduceSub, Nat.reduceAdd]; omega) (den_need (by simp only [nrm, X.den, Env.put, Env.pre, reduceIte, Nat.reduceLT, Nat.reduceSub, Nat.reduceAdd]; omega) (den_need (by simp only [nrm, X.den, Env.put, Env.pre, reduceIte, Nat.reduceLT, Nat.reduceSub, Nat.reduceAdd, len_slots]; omega) (den_ret ?_)))
    simp only [nrm, X.den, Env.put, Env.pre, reduceIte, Nat.reduceLT, Nat.reduceSub, Nat.reduceAdd, hn, set_s5, Mem.cds]
    rfl
end Go.Proofs.Ytpmamacjepcdmaa

/- Contracts: a step of a Sweep or a List, the program's and the document's. -/
namespace Go.Proofs.Ytpmamacjepcdmaa
open Go Go.Sy Go.RowKit
set_option linter.unusedSimpArgs false
set_option linter.unusedVariables false

def s110 : Sig := ⟨[.ptr [.own 52 kS, .own 3 kI, .own 3 kI, .own 3 kI, .int .i64], .agg [.int .i64, .int .i64, .int .i64, .int .i64, .int .i64, .int .i64, .int .i64, .int .i64, .int .i64, .int .i64, .int .i64, .fz kK, .bool, .int .i64], .one (.int .i64)], [.agg [.int .i64, .int .i64, .int .i64, .int .i64, .int .i64, .int .i64, .int .i64, .int .i64, .int .i64, .int .i64, .int .i64, .fz kK, .bool, .int .i64]]⟩
def d110 : DC := ⟨s110, fun l => MemIn (Mem.of l) ∧ FrmOk (Mem.of l) (Frm.of (l.drop 5)) ∧ ((Frm.of (l.drop 5)).c.kind = 4 ∨ (Frm.of (l.drop 5)).c.kind = 5), fun l => (sweepStep (Mem.of l) (Frm.of (l.drop 5)) (l.getD 19 .u).int).2.cds ++ (sweepStep (Mem.of l) (Frm.of (l.drop 5)) (l.getD 19 .u).int).1.cds⟩
theorem fn110 (m : Mem) (f : Frm) (x : Int) : d110.fn [slotsD m.slots, intsD m.heads, intsD m.free, intsD m.locks, .i m.now, .i f.c.kind, .i f.c.k.a, .i f.c.k.b, .i f.c.time, .i f.c.bucket, .i f.c.slot, .i f.pc, .i f.cur, .i f.prev, .i f.slot, .i f.n, keysD f.keys, .b f.done, .i f.e, .i x] = (sweepStep m f x).2.cds ++ (sweepStep m f x).1.cds := by
  simp only [d110, mem_of, mem_eta, List.drop_succ_cons, List.drop_zero, frm_of, List.getD_cons_zero, List.getD_cons_succ, CD.int_i]
theorem pi110 {m : Mem} {f : Frm} (hm : MemIn m) (hf : FrmOk m f) (hk : f.c.kind = 4 ∨ f.c.kind = 5) (x : Int) : d110.pre [slotsD m.slots, intsD m.heads, intsD m.free, intsD m.locks, .i m.now, .i f.c.kind, .i f.c.k.a, .i f.c.k.b, .i f.c.time, .i f.c.bucket, .i f.c.slot, .i f.pc, .i f.cur, .i f.prev, .i f.slot, .i f.n, keysD f.keys, .b f.done, .i f.e, .i x] := by
  simp only [d110, mem_of, mem_eta, List.drop_succ_cons, List.drop_zero, frm_of]
  exact ⟨hm, hf, hk⟩
def l110 : List (Nat × Ct) := [(48, d48.ct), (177, d177.ct), (167, d167.ct), (186, d186.ct), (172, d172.ct), (187, d187.ct), (44, d44.ct)]
def z110 : Cx := { T := ttA, C := sigs l110, F := [], hints := [], sig := s110 }
def t110 : Tree :=
 (.call 48 [.var 0, .var 1, .var 2, .var 3, .var 4, .var 5, .var 6, .var 7, .var 8, .var 9, .var 10] 20
 (.ite (.eq (.var 11) (.int 3))
  (.ite (.le (.var 12) (.int 0))
   (.ret [.var 0, .var 1, .var 2, .var 3, .var 4, .var 5, .var 6, .var 7, .var 8, .var 9, .var 10, .int 6, .var 12, .var 13, .var 14, .var 15, .var 16, .var 17, .var 18])
   (.need (.fit (.sub (.var 12) (.int 1)))
   (.need (.le (.int 0) (.sub (.var 12) (.int 1)))
   (.need (.lt (.sub (.var 12) (.int 1)) (.len (.var 0)))
   (.ret [.var 0, .var 1, .var 2, .var 3, .var 4, .var 5, .var 6, .var 7, .var 8, .var 9, .var 10, .int 2, .cell (.var 0) (.sub (.var 12) (.int 1)) 5, .var 12, .var 14, .var 15, .var 16, .var 17, .var 18])))))
  (.ite (.eq (.var 11) (.int 4))
   (.ite (.le (.var 12) (.int 0))
    (.ret [.var 0, .var 1, .var 2, .var 3, .var 4, .var 5, .var 6, .var 7, .var 8, .var 9, .var 10, .int 6, .var 12, .var 13, .var 14, .var 15, .var 16, .var 17, .var 18])
    (.need (.fit (.sub (.var 12) (.int 1)))
    (.need (.le (.int 0) (.sub (.var 12) (.int 1)))
    (.need (.lt (.sub (.var 12) (.int 1)) (.len (.var 0)))
    (.call 177 [.var 0, .var 1, .var 2, .var 3, .var 4, .var 13, .sub (.var 12) (.int 1), .var 20] 21
    (.ret [.var 21, .var 22, .var 23, .var 24, .var 25, .var 5, .var 6, .var 7, .var 8, .var 9, .var 10, .int 5, .cell (.var 0) (.sub (.var 12) (.int 1)) 5, .var 13, .sub (.var 12) (.int 1), .var 15, .var 16, .var 17, .var 18]))))))
   (.ite (.eq (.var 11) (.int 5))
    (.ite (.lt (.var 14) (.int 0))
     (.ret [.var 0, .var 1, .var 2, .var 3, .var 4, .var 5, .var 6, .var 7, .var 8, .var 9, .var 10, .int 6, .var 12, .var 13, .var 14, .var 15, .var 16, .var 17, .var 18])
     (.call 167 [.var 0, .var 1, .var 2, .var 3, .var 4, .var 14] 21
     (.need (.fit (.add (.var 15) (.int 1)))
     (.ret [.var 21, .var 22, .var 23, .var 24, .var 25, .var 5, .var 6, .var 7, .var 8, .var 9, .var 10, .int 2, .var 12, .var 13, .int (-1), .min (.add (.var 15) (.int 1)) (.int 1000000), .var 16, .var 17, .var 18]))))
    (.ite (.lt (.int 6) (.var 11))
     (.ret [.var 0, .var 1, .var 2, .var 3, .var 4, .var 5, .var 6, .var 7, .var 8, .var 9, .var 10, .int 6, .var 12, .var 13, .var 14, .var 15, .var 16, .var 17, .var 18])
     (.ite (.eq (.var 11) (.int 0))
      (.call 186 [.var 0, .var 1, .var 2, .var 3, .var 4, .var 20, .var 19] 21
      (.ite (.var 26)
       (.ret [.var 21, .var 22, .var 23, .var 24, .var 25, .var 5, .var 6, .var 7, .var 8, .var 9, .var 10, .int 1, .var 12, .var 13, .var 14, .var 15, .var 16, .var 17, .var 18])
       (.ret [.var 21, .var 22, .var 23, .var 24, .var 25, .var 5, .var 6, .var 7, .var 8, .var 9, .var 10, .var 11, .var 12, .var 13, .var 14, .var 15, .var 16, .var 17, .var 18])))
      (.ite (.eq (.var 11) (.int 1))
       (.need (.le (.int 0) (.var 20))
       (.need (.lt (.var 20) (.len (.var 1)))
       (.ret [.var 0, .var 1, .var 2, .var 3, .var 4, .var 5, .var 6, .var 7, .var 8, .var 9, .var 10, .int 2, .cell (.var 1) (.var 20) 0, .int 0, .var 14, .var 15, .var 16, .var 17, .var 18])))
       (.ite (.eq (.var 11) (.int 2))
        (.ite (.le (.var 12) (.int 0))
         (.ret [.var 0, .var 1, .var 2, .var 3, .var 4, .var 5, .var 6, .var 7, .var 8, .var 9, .var 10, .int 6, .var 12, .var 13, .var 14, .var 15, .var 16, .var 17, .var 18])
         (.ite (.eq (.var 5) (.int 5))
          (.ite (.lt (.len (.var 16)) (.int 100))
           (.need (.fit (.sub (.var 12) (.int 1)))
           (.need (.le (.int 0) (.sub (.var 12) (.int 1)))
           (.need (.lt (.sub (.var 12) (.int 1)) (.len (.var 0)))
           (.call 172 [.var 16] 21
           (.need (.le (.add (.len (.var 21)) (.int 1)) (.int 8796093022208))
           (.ret [.var 0, .var 1, .var 2, .var 3, .var 4, .var 5, .var 6, .var 7, .var 8, .var 9, .var 10, .int 3, .var 12, .var 13, .var 14, .var 15, .app (.var 21) (.cons (.cell (.var 0) (.sub (.var 12) (.int 1)) 1) (.cons (.cell (.var 0) (.sub (.var 12) (.int 1)) 2) .row0)), .var 17, .var 18]))))))
           (.ret [.var 0, .var 1, .var 2, .var 3, .var 4, .var 5, .var 6, .var 7, .var 8, .var 9, .var 10, .int 3, .var 12, .var 13, .var 14, .var 15, .var 16, .var 17, .var 18]))
          (.need (.fit (.sub (.var 12) (.int 1)))
          (.need (.le (.int 0) (.sub (.var 12) (.int 1)))
          (.need (.lt (.sub (.var 12) (.int 1)) (.len (.var 0)))
          (.ite (.le (.cell (.var 0) (.sub (.var 12) (.int 1)) 3) (.var 4))
           (.ret [.var 0, .var 1, .var 2, .var 3, .var 4, .var 5, .var 6, .var 7, .var 8, .var 9, .var 10, .int 4, .var 12, .var 13, .var 14, .var 15, .var 16, .var 17, .var 18])
           (.ret [.var 0, .var 1, .var 2, .var 3, .var 4, .var 5, .var 6, .var 7, .var 8, .var 9, .var 10, .int 3, .var 12, .var 13, .var 14, .var 15, .var 16, .var 17, .var 18])))))))
        (.ite (.eq (.var 11) (.int 6))
         (.call 187 [.var 0, .var 1, .var 2, .var 3, .var 4, .var 20, .var 19] 21
         (.call 44 [.var 5, .var 6, .var 7, .var 8, .var 9, .var 10, .var 11, .var 12, .var 13, .var 14, .var 15, .var 16, .var 17, .var 18, .int 0] 26
         (.ret [.var 21, .var 22, .var 23, .var 24, .var 25, .var 26, .var 27, .var 28, .var 29, .var 30, .var 31, .var 32, .var 33, .var 34, .var 35, .var 36, .var 37, .var 38, .var 39])))
         (.ret [.var 0, .var 1, .var 2, .var 3, .var 4, .var 5, .var 6, .var 7, .var 8, .var 9, .var 10, .var 11, .var 12, .var 13, .var 14, .var 15, .var 16, .var 17, .var 18]))))))))))
theorem run110 : run z110 6000 [.code (Try.f110.body.getD .skip), .fin (topRet z110 Try.f110.results.toList 50)] { fn := 110, tmps := z110.sig.args0 ++ List.replicate (Try.f110.ntmps - z110.sig.args0.length) (.v (.one .undef)), stk := [], h := z110.sig.h0, nx := z110.sig.ins.length, known := [] } = t110 := by kernel_rfl
theorem ok110 : CtOk Try.prog 110 d110.ct := by
  refine dc_of_tree (d := d110) (Z := z110) (Γ := gam l110) (fn := Try.f110) (c := Try.f110.body.getD .skip) (told_of tok mixed (all_cons ok48 (all_cons ok177 (all_cons ok167 (all_cons ok186 (all_cons ok172 (all_cons ok187 (all_cons ok44 all_nil))))))) fok_nil) Try.func110 (by kernel_rfl) (by kernel_rfl) rfl run110 fun E hk hp => ?_
  obtain ⟨hk0, hk1, hk2, hk3, hk4, hk5, hk6, hk7, hk8, hk9, hk10, hk11, hk12, hk13, hk14, hk15, hk16, hk17, hk18, hk19, _⟩ := hk
  obtain ⟨m, e0, e1, e2, e3, e4, b0, b1, b2, b3⟩ := ok_mem (d0 := E 0) (d1 := E 1) (d2 := E 2) (d3 := E 3) (d4 := E 4) hk0 hk1 hk2 hk3 hk4
  obtain ⟨f, e5, e6, e7, e8, e9, e10, e11, e12, e13, e14, e15, e16, e17, e18, b16⟩ := ok_frame (d0 := E 5) (d1 := E 6) (d2 := E 7) (d3 := E 8) (d4 := E 9) (d5 := E 10) (d6 := E 11) (d7 := E 12) (d8 := E 13) (d9 := E 14) (d10 := E 15) (d11 := E 16) (d12 := E 17) (d13 := E 18) hk5 hk6 hk7 hk8 hk9 hk10 hk11 hk12 hk13 hk14 hk15 hk16 hk17 hk18
  obtain ⟨x, e19⟩ := ok_int (d := E 19) hk19
  have el : letters E d110.sig.ins.length = [slotsD m.slots, intsD m.heads, intsD m.free, intsD m.locks, .i m.now, .i f.c.kind, .i f.c.k.a, .i f.c.k.b, .i f.c.time, .i f.c.bucket, .i f.c.slot, .i f.pc, .i f.cur, .i f.prev, .i f.slot, .i f.n, keysD f.keys, .b f.done, .i f.e, .i x] := by
    show [E 0, E 1, E 2, E 3, E 4, E 5, E 6, E 7, E 8, E 9, E 10, E 11, E 12, E 13, E 14, E 15, E 16, E 17, E 18, E 19] = _
    rw [e0, e1, e2, e3, e4, e5, e6, e7, e8, e9, e10, e11, e12, e13, e14, e15, e16, e17, e18, e19]
  rw [el] at hp
  rw [el]
  rw [Env.pre_eq el]
  clear el e0 e1 e2 e3 e4 e5 e6 e7 e8 e9 e10 e11 e12 e13 e14 e15 e16 e17 e18 e19
  rw [fn110]
  simp only [d110, mem_of, mem_eta, List.drop_succ_cons, List.drop_zero, frm_of] at hp
  obtain ⟨hm, hf, hk⟩ : MemIn m ∧ FrmOk m f ∧ (f.c.kind = 4 ∨ f.c.kind = 5) := hp
  have hb := bucketFor_range hm hf.call (by omega)
  have gs := hm.ns
  have g4 := hm.nh4
  have eH : ((intsD m.heads).rows.getD (bucketFor m f.c).toNat []).getD 0 .u = .i (headAt m (bucketFor m f.c)) := raw_int (by omega)
  obtain ⟨f1, f2, f3, f4, f5, f6, f7, f8, f9, f10, f11, f12, f13⟩ := id hf
  have eN : 0 < f.cur → ((slotsD m.slots).rows.getD (f.cur - 1).toNat []).getD 5 .u = .i (at1 m f).next := fun _ => raw_s5 (by omega)
  have eK1 : 0 < f.cur → ((slotsD m.slots).rows.getD (f.cur - 1).toNat []).getD 1 .u = .i (at1 m f).k.a := fun _ => raw_s1 (by omega)
  have eK2 : 0 < f.cur → ((slotsD m.slots).rows.getD (f.cur - 1).toNat []).getD 2 .u = .i (at1 m f).k.b := fun _ => raw_s2 (by omega)
  have a1 : m.slots.getD (f.cur - 1).toNat default = at1 m f := rfl
  have a2 : m.slots.getD f.slot.toNat default = at2 m f := rfl
  unfold t110
  refine den_calle d48 [.i (bucketFor m f.c)] rfl trivial (by simp only [nrm, X.den, Env.put, Env.pre, reduceIte, Nat.reduceLT, Nat.reduceSub, Nat.reduceAdd, fs48]) ?_
  refine den_ite (fun h1 => ?_) (fun h1 => ?_)
  · simp only [nrm, X.den, Env.put, Env.pre, reduceIte, Nat.reduceLT, Nat.reduceSub, Nat.reduceAdd, cell_s1, cell_s2, cell_s3, cell_s4, cell_s5, cell_int, a1, a2, len_keys, Mem.cds, List.cons_append, List.nil_append, Bool.not_eq_true', Bool.not_eq_false'] at h1
    refine den_ite (fun h2 => ?_) (fun h2 => ?_)
    · simp only [nrm, X.den, Env.put, Env.pre, reduceIte, Nat.reduceLT, Nat.reduceSub, Nat.reduceAdd, cell_s1, cell_s2, cell_s3, cell_s4, cell_s5, cell_int, a1, a2, len_keys, Mem.cds, List.cons_append, List.nil_append, Bool.not_eq_true', Bool.not_eq_false'] at h2
      refine den_ret ?_
      first | (exfalso; omega) | skip
      all_goals unfold sweepStep
      all_goals repeat (first | rw [if_neg (by omega)] | rw [if_pos (by omega)] | rw [if_pos (by assumption)] | rw [if_neg (by assumption)] | rw [if_neg (ne_true_of_eq_false (by assumption))] | rw [if_pos (Or.inl (by assumption))] | rw [if_pos (Or.inr (by assumption))] | rw [if_neg (fun y => Or.elim y (fun z => z (by assumption)) (fun z => Bool.false_ne_true (z.symm.trans (by assumption))))])
      all_goals simp only [nrm, X.den, Env.put, Env.pre, reduceIte, Nat.reduceLT, Nat.reduceSub, Nat.reduceAdd, Mem.cds, Frm.cds, endFrame, List.cons_append, List.nil_append, CD.row, List.headD_cons, eH, app_key, Bool.false_eq_true, Bool.true_eq_false]
      all_goals first | (have e14 : f.slot = -1 := (by omega); simp only [e14]; done) | (have e15 : f.n = 1000000 := (by omega); simp only [e15]; done)
    · simp only [nrm, X.den, Env.put, Env.pre, reduceIte, Nat.reduceLT, Nat.reduceSub, Nat.reduceAdd, cell_s1, cell_s2, cell_s3, cell_s4, cell_s5, cell_int, a1, a2, len_keys, Mem.cds, List.cons_append, List.nil_append, Bool.not_eq_true', Bool.not_eq_false'] at h2
      refine den_fit (by simp only [nrm, X.den, Env.put, Env.pre, reduceIte, Nat.reduceLT, Nat.reduceSub, Nat.reduceAdd, len_slots, len_ints, len_keys, cell_s1, cell_s2, cell_s3, cell_s4, cell_s5, cell_int, a1, a2]; omega) ?_
      refine den_le (by simp only [nrm, X.den, Env.put, Env.pre, reduceIte, Nat.reduceLT, Nat.reduceSub, Nat.reduceAdd, len_slots, len_ints, len_keys, cell_s1, cell_s2, cell_s3, cell_s4, cell_s5, cell_int, a1, a2]; omega) ?_
      refine den_lt (by simp only [nrm, X.den, Env.put, Env.pre, reduceIte, Nat.reduceLT, Nat.reduceSub, Nat.reduceAdd, len_slots, len_ints, len_keys, cell_s1, cell_s2, cell_s3, cell_s4, cell_s5, cell_int, a1, a2]; omega) ?_
      refine den_ret ?_
      first | (exfalso; omega) | skip
      all_goals unfold sweepStep
      all_goals repeat (first | rw [if_neg (by omega)] | rw [if_pos (by omega)] | rw [if_pos (by assumption)] | rw [if_neg (by assumption)] | rw [if_neg (ne_true_of_eq_false (by assumption))] | rw [if_pos (Or.inl (by assumption))] | rw [if_pos (Or.inr (by assumption))] | rw [if_neg (fun y => Or.elim y (fun z => z (by assumption)) (fun z => Bool.false_ne_true (z.symm.trans (by assumption))))])
      all_goals simp only [nrm, X.den, Env.put, Env.pre, reduceIte, Nat.reduceLT, Nat.reduceSub, Nat.reduceAdd, Mem.cds, Frm.cds, endFrame, List.cons_append, List.nil_append, CD.row, List.headD_cons, eH, app_key, Bool.false_eq_true, Bool.true_eq_false, eN (by omega), eK1 (by omega), eK2 (by omega)]
      all_goals first | (have e14 : f.slot = -1 := (by omega); simp only [e14]; done) | (have e15 : f.n = 1000000 := (by omega); simp only [e15]; done)
  · simp only [nrm, X.den, Env.put, Env.pre, reduceIte, Nat.reduceLT, Nat.reduceSub, Nat.reduceAdd, cell_s1, cell_s2, cell_s3, cell_s4, cell_s5, cell_int, a1, a2, len_keys, Mem.cds, List.cons_append, List.nil_append, Bool.not_eq_true', Bool.not_eq_false'] at h1
    refine den_ite (fun h2 => ?_) (fun h2 => ?_)
    · simp only [nrm, X.den, Env.put, Env.pre, reduceIte, Nat.reduceLT, Nat.reduceSub, Nat.reduceAdd, cell_s1, cell_s2, cell_s3, cell_s4, cell_s5, cell_int, a1, a2, len_keys, Mem.cds, List.cons_append, List.nil_append, Bool.not_eq_true', Bool.not_eq_false'] at h2
      refine den_ite (fun h3 => ?_) (fun h3 => ?_)
      · simp only [nrm, X.den, Env.put, Env.pre, reduceIte, Nat.reduceLT, Nat.reduceSub, Nat.reduceAdd, cell_s1, cell_s2, cell_s3, cell_s4, cell_s5, cell_int, a1, a2, len_keys, Mem.cds, List.cons_append, List.nil_append, Bool.not_eq_true', Bool.not_eq_false'] at h3
        refine den_ret ?_
        first | (exfalso; omega) | skip
        all_goals unfold sweepStep
        all_goals repeat (first | rw [if_neg (by omega)] | rw [if_pos (by omega)] | rw [if_pos (by assumption)] | rw [if_neg (by assumption)] | rw [if_neg (ne_true_of_eq_false (by assumption))] | rw [if_pos (Or.inl (by assumption))] | rw [if_pos (Or.inr (by assumption))] | rw [if_neg (fun y => Or.elim y (fun z => z (by assumption)) (fun z => Bool.false_ne_true (z.symm.trans (by assumption))))])
        all_goals simp only [nrm, X.den, Env.put, Env.pre, reduceIte, Nat.reduceLT, Nat.reduceSub, Nat.reduceAdd, Mem.cds, Frm.cds, endFrame, List.cons_append, List.nil_append, CD.row, List.headD_cons, eH, app_key, Bool.false_eq_true, Bool.true_eq_false]
        all_goals first | (have e14 : f.slot = -1 := (by omega); simp only [e14]; done) | (have e15 : f.n = 1000000 := (by omega); simp only [e15]; done)
      · simp only [nrm, X.den, Env.put, Env.pre, reduceIte, Nat.reduceLT, Nat.reduceSub, Nat.reduceAdd, cell_s1, cell_s2, cell_s3, cell_s4, cell_s5, cell_int, a1, a2, len_keys, Mem.cds, List.cons_append, List.nil_append, Bool.not_eq_true', Bool.not_eq_false'] at h3
        refine den_fit (by simp only [nrm, X.den, Env.put, Env.pre, reduceIte, Nat.reduceLT, Nat.reduceSub, Nat.reduceAdd, len_slots, len_ints, len_keys, cell_s1, cell_s2, cell_s3, cell_s4, cell_s5, cell_int, a1, a2]; omega) ?_
        refine den_le (by simp only [nrm, X.den, Env.put, Env.pre, reduceIte, Nat.reduceLT, Nat.reduceSub, Nat.reduceAdd, len_slots, len_ints, len_keys, cell_s1, cell_s2, cell_s3, cell_s4, cell_s5, cell_int, a1, a2]; omega) ?_
        refine den_lt (by simp only [nrm, X.den, Env.put, Env.pre, reduceIte, Nat.reduceLT, Nat.reduceSub, Nat.reduceAdd, len_slots, len_ints, len_keys, cell_s1, cell_s2, cell_s3, cell_s4, cell_s5, cell_int, a1, a2]; omega) ?_
        refine den_calle d177 (cut m f.prev (f.cur - 1) (bucketFor m f.c)).cds rfl (by simp only [nrm, X.den, Env.put, Env.pre, reduceIte, Nat.reduceLT, Nat.reduceSub, Nat.reduceAdd]; exact pre177 (by omega) (by omega) (by omega) hb.1 hb.2) (by simp only [nrm, X.den, Env.put, Env.pre, reduceIte, Nat.reduceLT, Nat.reduceSub, Nat.reduceAdd, fn177]) ?_
        refine den_ret ?_
        first | (exfalso; omega) | skip
        all_goals unfold sweepStep
        all_goals repeat (first | rw [if_neg (by omega)] | rw [if_pos (by omega)] | rw [if_pos (by assumption)] | rw [if_neg (by assumption)] | rw [if_neg (ne_true_of_eq_false (by assumption))] | rw [if_pos (Or.inl (by assumption))] | rw [if_pos (Or.inr (by assumption))] | rw [if_neg (fun y => Or.elim y (fun z => z (by assumption)) (fun z => Bool.false_ne_true (z.symm.trans (by assumption))))])
        all_goals simp only [nrm, X.den, Env.put, Env.pre, reduceIte, Nat.reduceLT, Nat.reduceSub, Nat.reduceAdd, Mem.cds, Frm.cds, endFrame, List.cons_append, List.nil_append, CD.row, List.headD_cons, eH, app_key, Bool.false_eq_true, Bool.true_eq_false, eN (by omega), eK1 (by omega), eK2 (by omega)]
        all_goals first | (have e14 : f.slot = -1 := (by omega); simp only [e14]; done) | (have e15 : f.n = 1000000 := (by omega); simp only [e15]; done)
    · simp only [nrm, X.den, Env.put, Env.pre, reduceIte, Nat.reduceLT, Nat.reduceSub, Nat.reduceAdd, cell_s1, cell_s2, cell_s3, cell_s4, cell_s5, cell_int, a1, a2, len_keys, Mem.cds, List.cons_append, List.nil_append, Bool.not_eq_true', Bool.not_eq_false'] at h2
      refine den_ite (fun h3 => ?_) (fun h3 => ?_)
      · simp only [nrm, X.den, Env.put, Env.pre, reduceIte, Nat.reduceLT, Nat.reduceSub, Nat.reduceAdd, cell_s1, cell_s2, cell_s3, cell_s4, cell_s5, cell_int, a1, a2, len_keys, Mem.cds, List.cons_append, List.nil_append, Bool.not_eq_true', Bool.not_eq_false'] at h3
        refine den_ite (fun h4 => ?_) (fun h4 => ?_)
        · simp only [nrm, X.den, Env.put, Env.pre, reduceIte, Nat.reduceLT, Nat.reduceSub, Nat.reduceAdd, cell_s1, cell_s2, cell_s3, cell_s4, cell_s5, cell_int, a1, a2, len_keys, Mem.cds, List.cons_append, List.nil_append, Bool.not_eq_true', Bool.not_eq_false'] at h4
          refine den_ret ?_
          first | (exfalso; omega) | skip
          all_goals unfold sweepStep
          all_goals repeat (first | rw [if_neg (by omega)] | rw [if_pos (by omega)] | rw [if_pos (by assumption)] | rw [if_neg (by assumption)] | rw [if_neg (ne_true_of_eq_false (by assumption))] | rw [if_pos (Or.inl (by assumption))] | rw [if_pos (Or.inr (by assumption))] | rw [if_neg (fun y => Or.elim y (fun z => z (by assumption)) (fun z => Bool.false_ne_true (z.symm.trans (by assumption))))])
          all_goals simp only [nrm, X.den, Env.put, Env.pre, reduceIte, Nat.reduceLT, Nat.reduceSub, Nat.reduceAdd, Mem.cds, Frm.cds, endFrame, List.cons_append, List.nil_append, CD.row, List.headD_cons, eH, app_key, Bool.false_eq_true, Bool.true_eq_false]
          all_goals first | (have e14 : f.slot = -1 := (by omega); simp only [e14]; done) | (have e15 : f.n = 1000000 := (by omega); simp only [e15]; done)
        · simp only [nrm, X.den, Env.put, Env.pre, reduceIte, Nat.reduceLT, Nat.reduceSub, Nat.reduceAdd, cell_s1, cell_s2, cell_s3, cell_s4, cell_s5, cell_int, a1, a2, len_keys, Mem.cds, List.cons_append, List.nil_append, Bool.not_eq_true', Bool.not_eq_false'] at h4
          refine den_calle d167 (put m f.slot).cds rfl (by simp only [nrm, X.den, Env.put, Env.pre, reduceIte, Nat.reduceLT, Nat.reduceSub, Nat.reduceAdd]; exact pi167 hm (by omega) (by omega)) (by simp only [nrm, X.den, Env.put, Env.pre, reduceIte, Nat.reduceLT, Nat.reduceSub, Nat.reduceAdd, fs167]) ?_
          refine den_fit (by simp only [nrm, X.den, Env.put, Env.pre, reduceIte, Nat.reduceLT, Nat.reduceSub, Nat.reduceAdd, len_slots, len_ints, len_keys, cell_s1, cell_s2, cell_s3, cell_s4, cell_s5, cell_int, a1, a2]; omega) ?_
          refine den_ret ?_
          first | (exfalso; omega) | skip
          all_goals unfold sweepStep
          all_goals repeat (first | rw [if_neg (by omega)] | rw [if_pos (by omega)] | rw [if_pos (by assumption)] | rw [if_neg (by assumption)] | rw [if_neg (ne_true_of_eq_false (by assumption))] | rw [if_pos (Or.inl (by assumption))] | rw [if_pos (Or.inr (by assumption))] | rw [if_neg (fun y => Or.elim y (fun z => z (by assumption)) (fun z => Bool.false_ne_true (z.symm.trans (by assumption))))])
          all_goals simp only [nrm, X.den, Env.put, Env.pre, reduceIte, Nat.reduceLT, Nat.reduceSub, Nat.reduceAdd, Mem.cds, Frm.cds, endFrame, List.cons_append, List.nil_append, CD.row, List.headD_cons, eH, app_key, Bool.false_eq_true, Bool.true_eq_false]
          all_goals first | (have e14 : f.slot = -1 := (by omega); simp only [e14]; done) | (have e15 : f.n = 1000000 := (by omega); simp only [e15]; done)
      · simp only [nrm, X.den, Env.put, Env.pre, reduceIte, Nat.reduceLT, Nat.reduceSub, Nat.reduceAdd, cell_s1, cell_s2, cell_s3, cell_s4, cell_s5, cell_int, a1, a2, len_keys, Mem.cds, List.cons_append, List.nil_append, Bool.not_eq_true', Bool.not_eq_false'] at h3
        refine den_ite (fun h4 => ?_) (fun h4 => ?_)
        · simp only [nrm, X.den, Env.put, Env.pre, reduceIte, Nat.reduceLT, Nat.reduceSub, Nat.reduceAdd, cell_s1, cell_s2, cell_s3, cell_s4, cell_s5, cell_int, a1, a2, len_keys, Mem.cds, List.cons_append, List.nil_append, Bool.not_eq_true', Bool.not_eq_false'] at h4
          refine den_ret ?_
          first | (exfalso; omega) | skip
          all_goals unfold sweepStep
          all_goals repeat (first | rw [if_neg (by omega)] | rw [if_pos (by omega)] | rw [if_pos (by assumption)] | rw [if_neg (by assumption)] | rw [if_neg (ne_true_of_eq_false (by assumption))] | rw [if_pos (Or.inl (by assumption))] | rw [if_pos (Or.inr (by assumption))] | rw [if_neg (fun y => Or.elim y (fun z => z (by assumption)) (fun z => Bool.false_ne_true (z.symm.trans (by assumption))))])
          all_goals simp only [nrm, X.den, Env.put, Env.pre, reduceIte, Nat.reduceLT, Nat.reduceSub, Nat.reduceAdd, Mem.cds, Frm.cds, endFrame, List.cons_append, List.nil_append, CD.row, List.headD_cons, eH, app_key, Bool.false_eq_true, Bool.true_eq_false]
          all_goals first | (have e14 : f.slot = -1 := (by omega); simp only [e14]; done) | (have e15 : f.n = 1000000 := (by omega); simp only [e15]; done)
        · simp only [nrm, X.den, Env.put, Env.pre, reduceIte, Nat.reduceLT, Nat.reduceSub, Nat.reduceAdd, cell_s1, cell_s2, cell_s3, cell_s4, cell_s5, cell_int, a1, a2, len_keys, Mem.cds, List.cons_append, List.nil_append, Bool.not_eq_true', Bool.not_eq_false'] at h4
          refine den_ite (fun h5 => ?_) (fun h5 => ?_)
          · simp only [nrm, X.den, Env.put, Env.pre, reduceIte, Nat.reduceLT, Nat.reduceSub, Nat.reduceAdd, cell_s1, cell_s2, cell_s3, cell_s4, cell_s5, cell_int, a1, a2, len_keys, Mem.cds, List.cons_append, List.nil_append, Bool.not_eq_true', Bool.not_eq_false'] at h5
            refine den_calle d186 ((lock m (bucketFor m f.c) x).1.cds ++ [.b (lock m (bucketFor m f.c) x).2]) rfl (by simp only [nrm, X.den, Env.put, Env.pre, reduceIte, Nat.reduceLT, Nat.reduceSub, Nat.reduceAdd]; exact pi186 hm hb.1 hb.2) (by simp only [nrm, X.den, Env.put, Env.pre, reduceIte, Nat.reduceLT, Nat.reduceSub, Nat.reduceAdd, fn186]) ?_
            refine den_ite (fun h6 => ?_) (fun h6 => ?_)
            · simp only [nrm, X.den, Env.put, Env.pre, reduceIte, Nat.reduceLT, Nat.reduceSub, Nat.reduceAdd, cell_s1, cell_s2, cell_s3, cell_s4, cell_s5, cell_int, a1, a2, len_keys, Mem.cds, List.cons_append, List.nil_append, Bool.not_eq_true', Bool.not_eq_false'] at h6
              refine den_ret ?_
              first | (exfalso; omega) | skip
              all_goals unfold sweepStep
              all_goals repeat (first | rw [if_neg (by omega)] | rw [if_pos (by omega)] | rw [if_pos (by assumption)] | rw [if_neg (by assumption)] | rw [if_neg (ne_true_of_eq_false (by assumption))] | rw [if_pos (Or.inl (by assumption))] | rw [if_pos (Or.inr (by assumption))] | rw [if_neg (fun y => Or.elim y (fun z => z (by assumption)) (fun z => Bool.false_ne_true (z.symm.trans (by assumption))))])
              all_goals try rw [hold_no h6]
              all_goals try rw [lock_no h6]
              all_goals simp only [nrm, X.den, Env.put, Env.pre, reduceIte, Nat.reduceLT, Nat.reduceSub, Nat.reduceAdd, Mem.cds, Frm.cds, endFrame, List.cons_append, List.nil_append, CD.row, List.headD_cons, eH, app_key, Bool.false_eq_true, Bool.true_eq_false, h6]
              all_goals first | (have e14 : f.slot = -1 := (by omega); simp only [e14]; done) | (have e15 : f.n = 1000000 := (by omega); simp only [e15]; done)
            · simp only [nrm, X.den, Env.put, Env.pre, reduceIte, Nat.reduceLT, Nat.reduceSub, Nat.reduceAdd, cell_s1, cell_s2, cell_s3, cell_s4, cell_s5, cell_int, a1, a2, len_keys, Mem.cds, List.cons_append, List.nil_append, Bool.not_eq_true', Bool.not_eq_false'] at h6
              refine den_ret ?_
              first | (exfalso; omega) | skip
              all_goals unfold sweepStep
              all_goals repeat (first | rw [if_neg (by omega)] | rw [if_pos (by omega)] | rw [if_pos (by assumption)] | rw [if_neg (by assumption)] | rw [if_neg (ne_true_of_eq_false (by assumption))] | rw [if_pos (Or.inl (by assumption))] | rw [if_pos (Or.inr (by assumption))] | rw [if_neg (fun y => Or.elim y (fun z => z (by assumption)) (fun z => Bool.false_ne_true (z.symm.trans (by assumption))))])
              all_goals try rw [hold_no h6]
              all_goals try rw [lock_no h6]
              all_goals simp only [nrm, X.den, Env.put, Env.pre, reduceIte, Nat.reduceLT, Nat.reduceSub, Nat.reduceAdd, Mem.cds, Frm.cds, endFrame, List.cons_append, List.nil_append, CD.row, List.headD_cons, eH, app_key, Bool.false_eq_true, Bool.true_eq_false, h6]
              all_goals first | (have e14 : f.slot = -1 := (by omega); simp only [e14]; done) | (have e15 : f.n = 1000000 := (by omega); simp only [e15]; done)
          · simp only [nrm, X.den, Env.put, Env.pre, reduceIte, Nat.reduceLT, Nat.reduceSub, Nat.reduceAdd, cell_s1, cell_s2, cell_s3, cell_s4, cell_s5, cell_int, a1, a2, len_keys, Mem.cds, List.cons_append, List.nil_append, Bool.not_eq_true', Bool.not_eq_false'] at h5
            refine den_ite (fun h6 => ?_) (fun h6 => ?_)
            · simp only [nrm, X.den, Env.put, Env.pre, reduceIte, Nat.reduceLT, Nat.reduceSub, Nat.reduceAdd, cell_s1, cell_s2, cell_s3, cell_s4, cell_s5, cell_int, a1, a2, len_keys, Mem.cds, List.cons_append, List.nil_append, Bool.not_eq_true', Bool.not_eq_false'] at h6
              refine den_le (by simp only [nrm, X.den, Env.put, Env.pre, reduceIte, Nat.reduceLT, Nat.reduceSub, Nat.reduceAdd, len_slots, len_ints, len_keys, cell_s1, cell_s2, cell_s3, cell_s4, cell_s5, cell_int, a1, a2]; omega) ?_
              refine den_lt (by simp only [nrm, X.den, Env.put, Env.pre, reduceIte, Nat.reduceLT, Nat.reduceSub, Nat.reduceAdd, len_slots, len_ints, len_keys, cell_s1, cell_s2, cell_s3, cell_s4, cell_s5, cell_int, a1, a2]; omega) ?_
              refine den_ret ?_
              first | (exfalso; omega) | skip
              all_goals unfold sweepStep
              all_goals repeat (first | rw [if_neg (by omega)] | rw [if_pos (by omega)] | rw [if_pos (by assumption)] | rw [if_neg (by assumption)] | rw [if_neg (ne_true_of_eq_false (by assumption))] | rw [if_pos (Or.inl (by assumption))] | rw [if_pos (Or.inr (by assumption))] | rw [if_neg (fun y => Or.elim y (fun z => z (by assumption)) (fun z => Bool.false_ne_true (z.symm.trans (by assumption))))])
              all_goals simp only [nrm, X.den, Env.put, Env.pre, reduceIte, Nat.reduceLT, Nat.reduceSub, Nat.reduceAdd, Mem.cds, Frm.cds, endFrame, List.cons_append, List.nil_append, CD.row, List.headD_cons, eH, app_key, Bool.false_eq_true, Bool.true_eq_false]
              all_goals first | (have e14 : f.slot = -1 := (by omega); simp only [e14]; done) | (have e15 : f.n = 1000000 := (by omega); simp only [e15]; done)
            · simp only [nrm, X.den, Env.put, Env.pre, reduceIte, Nat.reduceLT, Nat.reduceSub, Nat.reduceAdd, cell_s1, cell_s2, cell_s3, cell_s4, cell_s5, cell_int, a1, a2, len_keys, Mem.cds, List.cons_append, List.nil_append, Bool.not_eq_true', Bool.not_eq_false'] at h6
              refine den_ite (fun h7 => ?_) (fun h7 => ?_)
              · simp only [nrm, X.den, Env.put, Env.pre, reduceIte, Nat.reduceLT, Nat.reduceSub, Nat.reduceAdd, cell_s1, cell_s2, cell_s3, cell_s4, cell_s5, cell_int, a1, a2, len_keys, Mem.cds, List.cons_append, List.nil_append, Bool.not_eq_true', Bool.not_eq_false'] at h7
                refine den_ite (fun h8 => ?_) (fun h8 => ?_)
                · simp only [nrm, X.den, Env.put, Env.pre, reduceIte, Nat.reduceLT, Nat.reduceSub, Nat.reduceAdd, cell_s1, cell_s2, cell_s3, cell_s4, cell_s5, cell_int, a1, a2, len_keys, Mem.cds, List.cons_append, List.nil_append, Bool.not_eq_true', Bool.not_eq_false'] at h8
                  refine den_ret ?_
                  first | (exfalso; omega) | skip
                  all_goals unfold sweepStep
                  all_goals repeat (first | rw [if_neg (by omega)] | rw [if_pos (by omega)] | rw [if_pos (by assumption)] | rw [if_neg (by assumption)] | rw [if_neg (ne_true_of_eq_false (by assumption))] | rw [if_pos (Or.inl (by assumption))] | rw [if_pos (Or.inr (by assumption))] | rw [if_neg (fun y => Or.elim y (fun z => z (by assumption)) (fun z => Bool.false_ne_true (z.symm.trans (by assumption))))])
                  all_goals simp only [nrm, X.den, Env.put, Env.pre, reduceIte, Nat.reduceLT, Nat.reduceSub, Nat.reduceAdd, Mem.cds, Frm.cds, endFrame, List.cons_append, List.nil_append, CD.row, List.headD_cons, eH, app_key, Bool.false_eq_true, Bool.true_eq_false]
                  all_goals first | (have e14 : f.slot = -1 := (by omega); simp only [e14]; done) | (have e15 : f.n = 1000000 := (by omega); simp only [e15]; done)
                · simp only [nrm, X.den, Env.put, Env.pre, reduceIte, Nat.reduceLT, Nat.reduceSub, Nat.reduceAdd, cell_s1, cell_s2, cell_s3, cell_s4, cell_s5, cell_int, a1, a2, len_keys, Mem.cds, List.cons_append, List.nil_append, Bool.not_eq_true', Bool.not_eq_false'] at h8
                  refine den_ite (fun h9 => ?_) (fun h9 => ?_)
                  · simp only [nrm, X.den, Env.put, Env.pre, reduceIte, Nat.reduceLT, Nat.reduceSub, Nat.reduceAdd, cell_s1, cell_s2, cell_s3, cell_s4, cell_s5, cell_int, a1, a2, len_keys, Mem.cds, List.cons_append, List.nil_append, Bool.not_eq_true', Bool.not_eq_false'] at h9
                    refine den_ite (fun h10 => ?_) (fun h10 => ?_)
                    · simp only [nrm, X.den, Env.put, Env.pre, reduceIte, Nat.reduceLT, Nat.reduceSub, Nat.reduceAdd, cell_s1, cell_s2, cell_s3, cell_s4, cell_s5, cell_int, a1, a2, len_keys, Mem.cds, List.cons_append, List.nil_append, Bool.not_eq_true', Bool.not_eq_false'] at h10
                      refine den_fit (by simp only [nrm, X.den, Env.put, Env.pre, reduceIte, Nat.reduceLT, Nat.reduceSub, Nat.reduceAdd, len_slots, len_ints, len_keys, cell_s1, cell_s2, cell_s3, cell_s4, cell_s5, cell_int, a1, a2]; omega) ?_
                      refine den_le (by simp only [nrm, X.den, Env.put, Env.pre, reduceIte, Nat.reduceLT, Nat.reduceSub, Nat.reduceAdd, len_slots, len_ints, len_keys, cell_s1, cell_s2, cell_s3, cell_s4, cell_s5, cell_int, a1, a2]; omega) ?_
                      refine den_lt (by simp only [nrm, X.den, Env.put, Env.pre, reduceIte, Nat.reduceLT, Nat.reduceSub, Nat.reduceAdd, len_slots, len_ints, len_keys, cell_s1, cell_s2, cell_s3, cell_s4, cell_s5, cell_int, a1, a2]; omega) ?_
                      refine den_calle d172 [keysD f.keys] rfl trivial (by simp only [nrm, X.den, Env.put, Env.pre, reduceIte, Nat.reduceLT, Nat.reduceSub, Nat.reduceAdd, d172, keys_keysD]) ?_
                      refine den_le (by simp only [nrm, X.den, Env.put, Env.pre, reduceIte, Nat.reduceLT, Nat.reduceSub, Nat.reduceAdd, len_slots, len_ints, len_keys, cell_s1, cell_s2, cell_s3, cell_s4, cell_s5, cell_int, a1, a2]; omega) ?_
                      refine den_ret ?_
                      first | (exfalso; omega) | skip
                      all_goals unfold sweepStep
                      all_goals repeat (first | rw [if_neg (by omega)] | rw [if_pos (by omega)] | rw [if_pos (by assumption)] | rw [if_neg (by assumption)] | rw [if_neg (ne_true_of_eq_false (by assumption))] | rw [if_pos (Or.inl (by assumption))] | rw [if_pos (Or.inr (by assumption))] | rw [if_neg (fun y => Or.elim y (fun z => z (by assumption)) (fun z => Bool.false_ne_true (z.symm.trans (by assumption))))])
                      all_goals simp only [nrm, X.den, Env.put, Env.pre, reduceIte, Nat.reduceLT, Nat.reduceSub, Nat.reduceAdd, Mem.cds, Frm.cds, endFrame, List.cons_append, List.nil_append, CD.row, List.headD_cons, eH, app_key, Bool.false_eq_true, Bool.true_eq_false, eN (by omega), eK1 (by omega), eK2 (by omega)]
                      all_goals first | (have e14 : f.slot = -1 := (by omega); simp only [e14]; done) | (have e15 : f.n = 1000000 := (by omega); simp only [e15]; done)
                    · simp only [nrm, X.den, Env.put, Env.pre, reduceIte, Nat.reduceLT, Nat.reduceSub, Nat.reduceAdd, cell_s1, cell_s2, cell_s3, cell_s4, cell_s5, cell_int, a1, a2, len_keys, Mem.cds, List.cons_append, List.nil_append, Bool.not_eq_true', Bool.not_eq_false'] at h10
                      refine den_ret ?_
                      first | (exfalso; omega) | skip
                      all_goals unfold sweepStep
                      all_goals repeat (first | rw [if_neg (by omega)] | rw [if_pos (by omega)] | rw [if_pos (by assumption)] | rw [if_neg (by assumption)] | rw [if_neg (ne_true_of_eq_false (by assumption))] | rw [if_pos (Or.inl (by assumption))] | rw [if_pos (Or.inr (by assumption))] | rw [if_neg (fun y => Or.elim y (fun z => z (by assumption)) (fun z => Bool.false_ne_true (z.symm.trans (by assumption))))])
                      all_goals simp only [nrm, X.den, Env.put, Env.pre, reduceIte, Nat.reduceLT, Nat.reduceSub, Nat.reduceAdd, Mem.cds, Frm.cds, endFrame, List.cons_append, List.nil_append, CD.row, List.headD_cons, eH, app_key, Bool.false_eq_true, Bool.true_eq_false]
                      all_goals first | (have e14 : f.slot = -1 := (by omega); simp only [e14]; done) | (have e15 : f.n = 1000000 := (by omega); simp only [e15]; done)
                  · simp only [nrm, X.den, Env.put, Env.pre, reduceIte, Nat.reduceLT, Nat.reduceSub, Nat.reduceAdd, cell_s1, cell_s2, cell_s3, cell_s4, cell_s5, cell_int, a1, a2, len_keys, Mem.cds, List.cons_append, List.nil_append, Bool.not_eq_true', Bool.not_eq_false'] at h9
                    refine den_fit (by simp only [nrm, X.den, Env.put, Env.pre, reduceIte, Nat.reduceLT, Nat.reduceSub, Nat.reduceAdd, len_slots, len_ints, len_keys, cell_s1, cell_s2, cell_s3, cell_s4, cell_s5, cell_int, a1, a2]; omega) ?_
                    refine den_le (by simp only [nrm, X.den, Env.put, Env.pre, reduceIte, Nat.reduceLT, Nat.reduceSub, Nat.reduceAdd, len_slots, len_ints, len_keys, cell_s1, cell_s2, cell_s3, cell_s4, cell_s5, cell_int, a1, a2]; omega) ?_
                    refine den_lt (by simp only [nrm, X.den, Env.put, Env.pre, reduceIte, Nat.reduceLT, Nat.reduceSub, Nat.reduceAdd, len_slots, len_ints, len_keys, cell_s1, cell_s2, cell_s3, cell_s4, cell_s5, cell_int, a1, a2]; omega) ?_
                    refine den_ite (fun h10 => ?_) (fun h10 => ?_)
                    · simp only [nrm, X.den, Env.put, Env.pre, reduceIte, Nat.reduceLT, Nat.reduceSub, Nat.reduceAdd, cell_s1, cell_s2, cell_s3, cell_s4, cell_s5, cell_int, a1, a2, len_keys, Mem.cds, List.cons_append, List.nil_append, Bool.not_eq_true', Bool.not_eq_false'] at h10
                      refine den_ret ?_
                      first | (exfalso; omega) | skip
                      all_goals unfold sweepStep
                      all_goals repeat (first | rw [if_neg (by omega)] | rw [if_pos (by omega)] | rw [if_pos (by assumption)] | rw [if_neg (by assumption)] | rw [if_neg (ne_true_of_eq_false (by assumption))] | rw [if_pos (Or.inl (by assumption))] | rw [if_pos (Or.inr (by assumption))] | rw [if_neg (fun y => Or.elim y (fun z => z (by assumption)) (fun z => Bool.false_ne_true (z.symm.trans (by assumption))))])
                      all_goals simp only [nrm, X.den, Env.put, Env.pre, reduceIte, Nat.reduceLT, Nat.reduceSub, Nat.reduceAdd, Mem.cds, Frm.cds, endFrame, List.cons_append, List.nil_append, CD.row, List.headD_cons, eH, app_key, Bool.false_eq_true, Bool.true_eq_false]
                      all_goals first | (have e14 : f.slot = -1 := (by omega); simp only [e14]; done) | (have e15 : f.n = 1000000 := (by omega); simp only [e15]; done)
                    · simp only [nrm, X.den, Env.put, Env.pre, reduceIte, Nat.reduceLT, Nat.reduceSub, Nat.reduceAdd, cell_s1, cell_s2, cell_s3, cell_s4, cell_s5, cell_int, a1, a2, len_keys, Mem.cds, List.cons_append, List.nil_append, Bool.not_eq_true', Bool.not_eq_false'] at h10
                      refine den_ret ?_
                      first | (exfalso; omega) | skip
                      all_goals unfold sweepStep
                      all_goals repeat (first | rw [if_neg (by omega)] | rw [if_pos (by omega)] | rw [if_pos (by assumption)] | rw [if_neg (by assumption)] | rw [if_neg (ne_true_of_eq_false (by assumption))] | rw [if_pos (Or.inl (by assumption))] | rw [if_pos (Or.inr (by assumption))] | rw [if_neg (fun y => Or.elim y (fun z => z (by assumption)) (fun z => Bool.false_ne_true (z.symm.trans (by assumption))))])
                      all_goals simp only [nrm, X.den, Env.put, Env.pre, reduceIte, Nat.reduceLT, Nat.reduceSub, Nat.reduceAdd, Mem.cds, Frm.cds, endFrame, List.cons_append, List.nil_append, CD.row, List.headD_cons, eH, app_key, Bool.false_eq_true, Bool.true_eq_false]
                      all_goals first | (have e14 : f.slot = -1 := (by omega); simp only [e14]; done) | (have e15 : f.n = 1000000 := (by omega); simp only [e15]; done)
              · simp only [nrm, X.den, Env.put, Env.pre, reduceIte, Nat.reduceLT, Nat.reduceSub, Nat.reduceAdd, cell_s1, cell_s2, cell_s3, cell_s4, cell_s5, cell_int, a1, a2, len_keys, Mem.cds, List.cons_append, List.nil_append, Bool.not_eq_true', Bool.not_eq_false'] at h7
                refine den_ite (fun h8 => ?_) (fun h8 => ?_)
                · simp only [nrm, X.den, Env.put, Env.pre, reduceIte, Nat.reduceLT, Nat.reduceSub, Nat.reduceAdd, cell_s1, cell_s2, cell_s3, cell_s4, cell_s5, cell_int, a1, a2, len_keys, Mem.cds, List.cons_append, List.nil_append, Bool.not_eq_true', Bool.not_eq_false'] at h8
                  refine den_calle d187 (unlock m (bucketFor m f.c) x).cds rfl (by simp only [nrm, X.den, Env.put, Env.pre, reduceIte, Nat.reduceLT, Nat.reduceSub, Nat.reduceAdd]; exact pi187 hm hb.1 hb.2) (by simp only [nrm, X.den, Env.put, Env.pre, reduceIte, Nat.reduceLT, Nat.reduceSub, Nat.reduceAdd, fn187]) ?_
                  refine den_calle d44 (endFrame f 0).cds rfl trivial (by simp only [nrm, X.den, Env.put, Env.pre, reduceIte, Nat.reduceLT, Nat.reduceSub, Nat.reduceAdd, Frm.cds, List.cons_append, List.nil_append]; exact fs44 f 0) ?_
                  refine den_ret ?_
                  first | (exfalso; omega) | skip
                  all_goals unfold sweepStep
                  all_goals repeat (first | rw [if_neg (by omega)] | rw [if_pos (by omega)] | rw [if_pos (by assumption)] | rw [if_neg (by assumption)] | rw [if_neg (ne_true_of_eq_false (by assumption))] | rw [if_pos (Or.inl (by assumption))] | rw [if_pos (Or.inr (by assumption))] | rw [if_neg (fun y => Or.elim y (fun z => z (by assumption)) (fun z => Bool.false_ne_true (z.symm.trans (by assumption))))])
                  all_goals simp only [nrm, X.den, Env.put, Env.pre, reduceIte, Nat.reduceLT, Nat.reduceSub, Nat.reduceAdd, Mem.cds, Frm.cds, endFrame, List.cons_append, List.nil_append, CD.row, List.headD_cons, eH, app_key, Bool.false_eq_true, Bool.true_eq_false]
                  all_goals first | (have e14 : f.slot = -1 := (by omega); simp only [e14]; done) | (have e15 : f.n = 1000000 := (by omega); simp only [e15]; done)
                · simp only [nrm, X.den, Env.put, Env.pre, reduceIte, Nat.reduceLT, Nat.reduceSub, Nat.reduceAdd, cell_s1, cell_s2, cell_s3, cell_s4, cell_s5, cell_int, a1, a2, len_keys, Mem.cds, List.cons_append, List.nil_append, Bool.not_eq_true', Bool.not_eq_false'] at h8
                  refine den_ret ?_
                  first | (exfalso; omega) | skip
                  all_goals unfold sweepStep
                  all_goals repeat (first | rw [if_neg (by omega)] | rw [if_pos (by omega)] | rw [if_pos (by assumption)] | rw [if_neg (by assumption)] | rw [if_neg (ne_true_of_eq_false (by assumption))] | rw [if_pos (Or.inl (by assumption))] | rw [if_pos (Or.inr (by assumption))] | rw [if_neg (fun y => Or.elim y (fun z => z (by assumption)) (fun z => Bool.false_ne_true (z.symm.trans (by assumption))))])
                  all_goals simp only [nrm, X.den, Env.put, Env.pre, reduceIte, Nat.reduceLT, Nat.reduceSub, Nat.reduceAdd, Mem.cds, Frm.cds, endFrame, List.cons_append, List.nil_append, CD.row, List.headD_cons, eH, app_key, Bool.false_eq_true, Bool.true_eq_false]
                  all_goals first | (have e14 : f.slot = -1 := (by omega); simp only [e14]; done) | (have e15 : f.n = 1000000 := (by omega); simp only [e15]; done)
def s111 : Sig := ⟨[.ptr [.own 52 kS, .own 3 kI, .own 3 kI, .own 3 kI, .int .i64], .agg [.int .i64, .int .i64, .int .i64, .int .i64, .int .i64, .int .i64, .int .i64, .int .i64, .int .i64, .int .i64, .int .i64, .fz kK, .bool, .int .i64], .one (.int .i64)], [.agg [.int .i64, .int .i64, .int .i64, .int .i64, .int .i64, .int .i64, .int .i64, .int .i64, .int .i64, .int .i64, .int .i64, .fz kK, .bool, .int .i64]]⟩
def d111 : DC := ⟨s111, fun l => MemIn (Mem.of l) ∧ FrmOk (Mem.of l) (Frm.of (l.drop 5)) ∧ ((Frm.of (l.drop 5)).c.kind = 4 ∨ (Frm.of (l.drop 5)).c.kind = 5), fun l => (sweepStep (Mem.of l) (Frm.of (l.drop 5)) (l.getD 19 .u).int).2.cds ++ (sweepStep (Mem.of l) (Frm.of (l.drop 5)) (l.getD 19 .u).int).1.cds⟩
theorem fn111 (m : Mem) (f : Frm) (x : Int) : d111.fn [slotsD m.slots, intsD m.heads, intsD m.free, intsD m.locks, .i m.now, .i f.c.kind, .i f.c.k.a, .i f.c.k.b, .i f.c.time, .i f.c.bucket, .i f.c.slot, .i f.pc, .i f.cur, .i f.prev, .i f.slot, .i f.n, keysD f.keys, .b f.done, .i f.e, .i x] = (sweepStep m f x).2.cds ++ (sweepStep m f x).1.cds := by
  simp only [d111, mem_of, mem_eta, List.drop_succ_cons, List.drop_zero, frm_of, List.getD_cons_zero, List.getD_cons_succ, CD.int_i]
theorem pi111 {m : Mem} {f : Frm} (hm : MemIn m) (hf : FrmOk m f) (hk : f.c.kind = 4 ∨ f.c.kind = 5) (x : Int) : d111.pre [slotsD m.slots, intsD m.heads, intsD m.free, intsD m.locks, .i m.now, .i f.c.kind, .i f.c.k.a, .i f.c.k.b, .i f.c.time, .i f.c.bucket, .i f.c.slot, .i f.pc, .i f.cur, .i f.prev, .i f.slot, .i f.n, keysD f.keys, .b f.done, .i f.e, .i x] := by
  simp only [d111, mem_of, mem_eta, List.drop_succ_cons, List.drop_zero, frm_of]
  exact ⟨hm, hf, hk⟩
def l111 : List (Nat × Ct) := [(49, d49.ct), (189, d189.ct), (89, d89.ct), (68, d68.ct), (190, d190.ct)]
noncomputable def z111 : Cx := { T := ttA, C := sigs l111, F := [(194, Try.f194), (183, Try.f183), (184, Try.f184)], hints := [], sig := s111 }
def t111 : Tree :=
 (.call 49 [.var 0, .var 1, .var 2, .var 3, .var 4, .var 5, .var 6, .var 7, .var 8, .var 9, .var 10] 20
 (.ite (.eq (.var 11) (.int 0))
  (.call 189 [.var 0, .var 1, .var 2, .var 3, .var 4, .var 20, .var 19] 21
  (.ite (.var 26)
   (.ret [.var 21, .var 22, .var 23, .var 24, .var 25, .var 5, .var 6, .var 7, .var 8, .var 9, .var 10, .int 1, .var 12, .var 13, .var 14, .var 15, .var 16, .var 17, .var 18])
   (.ret [.var 21, .var 22, .var 23, .var 24, .var 25, .var 5, .var 6, .var 7, .var 8, .var 9, .var 10, .var 11, .var 12, .var 13, .var 14, .var 15, .var 16, .var 17, .var 18])))
  (.ite (.eq (.var 11) (.int 1))
   (.need (.le (.int 0) (.var 20))
   (.need (.lt (.var 20) (.len (.var 1)))
   (.ret [.var 0, .var 1, .var 2, .var 3, .var 4, .var 5, .var 6, .var 7, .var 8, .var 9, .var 10, .int 2, .cell (.var 1) (.var 20) 0, .int 0, .var 14, .var 15, .var 16, .var 17, .var 18])))
   (.ite (.eq (.var 11) (.int 2))
    (.ite (.not (.lt (.int 0) (.var 12)))
     (.ret [.var 0, .var 1, .var 2, .var 3, .var 4, .var 5, .var 6, .var 7, .var 8, .var 9, .var 10, .int 6, .var 12, .var 13, .var 14, .var 15, .var 16, .var 17, .var 18])
     (.need (.fit (.sub (.var 12) (.int 1)))
     (.need (.le (.int 0) (.sub (.var 12) (.int 1)))
     (.need (.lt (.sub (.var 12) (.int 1)) (.len (.var 0)))
     (.ite (.eq (.var 5) (.int 5))
      (.ite (.lt (.len (.var 16)) (.int 100))
       (.need (.le (.len (.var 16)) (.int 8796093022208))
       (.need (.le (.add (.len (.var 16)) (.int 1)) (.int 8796093022208))
       (.ret [.var 0, .var 1, .var 2, .var 3, .var 4, .var 5, .var 6, .var 7, .var 8, .var 9, .var 10, .int 3, .var 12, .var 13, .var 14, .var 15, .app (.app .nil (.var 16)) (.cons (.cell (.var 0) (.sub (.var 12) (.int 1)) 1) (.cons (.cell (.var 0) (.sub (.var 12) (.int 1)) 2) .row0)), .var 17, .var 18])))
       (.ret [.var 0, .var 1, .var 2, .var 3, .var 4, .var 5, .var 6, .var 7, .var 8, .var 9, .var 10, .int 3, .var 12, .var 13, .var 14, .var 15, .var 16, .var 17, .var 18]))
      (.ite (.lt (.var 4) (.cell (.var 0) (.sub (.var 12) (.int 1)) 3))
       (.ret [.var 0, .var 1, .var 2, .var 3, .var 4, .var 5, .var 6, .var 7, .var 8, .var 9, .var 10, .int 3, .var 12, .var 13, .var 14, .var 15, .var 16, .var 17, .var 18])
       (.ret [.var 0, .var 1, .var 2, .var 3, .var 4, .var 5, .var 6, .var 7, .var 8, .var 9, .var 10, .int 4, .var 12, .var 13, .var 14, .var 15, .var 16, .var 17, .var 18])))))))
    (.ite (.eq (.var 11) (.int 3))
     (.ite (.lt (.int 0) (.var 12))
      (.need (.fit (.sub (.var 12) (.int 1)))
      (.need (.le (.int 0) (.sub (.var 12) (.int 1)))
      (.need (.lt (.sub (.var 12) (.int 1)) (.len (.var 0)))
      (.ret [.var 0, .var 1, .var 2, .var 3, .var 4, .var 5, .var 6, .var 7, .var 8, .var 9, .var 10, .int 2, .cell (.var 0) (.sub (.var 12) (.int 1)) 5, .var 12, .var 14, .var 15, .var 16, .var 17, .var 18]))))
      (.ret [.var 0, .var 1, .var 2, .var 3, .var 4, .var 5, .var 6, .var 7, .var 8, .var 9, .var 10, .int 6, .var 12, .var 13, .var 14, .var 15, .var 16, .var 17, .var 18]))
     (.ite (.eq (.var 11) (.int 4))
      (.ite (.lt (.int 0) (.var 12))
       (.need (.fit (.sub (.var 12) (.int 1)))
       (.need (.le (.int 0) (.sub (.var 12) (.int 1)))
       (.need (.lt (.sub (.var 12) (.int 1)) (.len (.var 0)))
       (.call 89 [.var 0, .var 1, .var 2, .var 3, .var 4, .var 13, .sub (.var 12) (.int 1), .var 20] 21
       (.ret [.var 21, .var 22, .var 23, .var 24, .var 25, .var 5, .var 6, .var 7, .var 8, .var 9, .var 10, .int 5, .cell (.var 0) (.sub (.var 12) (.int 1)) 5, .var 13, .sub (.var 12) (.int 1), .var 15, .var 16, .var 17, .var 18])))))
       (.ret [.var 0, .var 1, .var 2, .var 3, .var 4, .var 5, .var 6, .var 7, .var 8, .var 9, .var 10, .int 6, .var 12, .var 13, .var 14, .var 15, .var 16, .var 17, .var 18]))
      (.ite (.eq (.var 11) (.int 5))
       (.ite (.le (.int 0) (.var 14))
        (.call 68 [.var 0, .var 1, .var 2, .var 3, .var 4, .var 14] 21
        (.ite (.lt (.var 15) (.int 1000000))
         (.need (.fit (.add (.var 15) (.int 1)))
         (.ret [.var 21, .var 22, .var 23, .var 24, .var 25, .var 5, .var 6, .var 7, .var 8, .var 9, .var 10, .int 2, .var 12, .var 13, .int (-1), .add (.var 15) (.int 1), .var 16, .var 17, .var 18]))
         (.ret [.var 21, .var 22, .var 23, .var 24, .var 25, .var 5, .var 6, .var 7, .var 8, .var 9, .var 10, .int 2, .var 12, .var 13, .int (-1), .var 15, .var 16, .var 17, .var 18])))
        (.ret [.var 0, .var 1, .var 2, .var 3, .var 4, .var 5, .var 6, .var 7, .var 8, .var 9, .var 10, .int 6, .var 12, .var 13, .var 14, .var 15, .var 16, .var 17, .var 18]))
       (.ite (.eq (.var 11) (.int 6))
        (.call 190 [.var 0, .var 1, .var 2, .var 3, .var 4, .var 20, .var 19] 21
        (.ret [.var 21, .var 22, .var 23, .var 24, .var 25, .var 5, .var 6, .var 7, .var 8, .var 9, .var 10, .var 11, .var 12, .var 13, .var 14, .var 15, .var 16, .bool true, .int 0]))
        (.ret [.var 0, .var 1, .var 2, .var 3, .var 4, .var 5, .var 6, .var 7, .var 8, .var 9, .var 10, .int 6, .var 12, .var 13, .var 14, .var 15, .var 16, .var 17, .var 18])))))))))
theorem run111 : run z111 6000 [.code (Try.f111.body.getD .skip), .fin (topRet z111 Try.f111.results.toList 50)] { fn := 111, tmps := z111.sig.args0 ++ List.replicate (Try.f111.ntmps - z111.sig.args0.length) (.v (.one .undef)), stk := [], h := z111.sig.h0, nx := z111.sig.ins.length, known := [] } = t111 := by kernel_rfl
theorem ok111 : CtOk Try.prog 111 d111.ct := by
  refine dc_of_tree (d := d111) (Z := z111) (Γ := gam l111) (fn := Try.f111) (c := Try.f111.body.getD .skip) (told_of tok mixed (all_cons ok49 (all_cons ok189 (all_cons ok89 (all_cons ok68 (all_cons ok190 all_nil))))) (fok_cons (c := Try.f194.body.getD .skip) Try.func194 (by kernel_rfl) (by kernel_rfl) (fok_cons (c := Try.f183.body.getD .skip) Try.func183 (by kernel_rfl) (by kernel_rfl) (fok_cons (c := Try.f184.body.getD .skip) Try.func184 (by kernel_rfl) (by kernel_rfl) fok_nil)))) Try.func111 (by kernel_rfl) (by kernel_rfl) rfl run111 fun E hk hp => ?_
  obtain ⟨hk0, hk1, hk2, hk3, hk4, hk5, hk6, hk7, hk8, hk9, hk10, hk11, hk12, hk13, hk14, hk15, hk16, hk17, hk18, hk19, _⟩ := hk
  obtain ⟨m, e0, e1, e2, e3, e4, b0, b1, b2, b3⟩ := ok_mem (d0 := E 0) (d1 := E 1) (d2 := E 2) (d3 := E 3) (d4 := E 4) hk0 hk1 hk2 hk3 hk4
  obtain ⟨f, e5, e6, e7, e8, e9, e10, e11, e12, e13, e14, e15, e16, e17, e18, b16⟩ := ok_frame (d0 := E 5) (d1 := E 6) (d2 := E 7) (d3 := E 8) (d4 := E 9) (d5 := E 10) (d6 := E 11) (d7 := E 12) (d8 := E 13) (d9 := E 14) (d10 := E 15) (d11 := E 16) (d12 := E 17) (d13 := E 18) hk5 hk6 hk7 hk8 hk9 hk10 hk11 hk12 hk13 hk14 hk15 hk16 hk17 hk18
  obtain ⟨x, e19⟩ := ok_int (d := E 19) hk19
  have el : letters E d111.sig.ins.length = [slotsD m.slots, intsD m.heads, intsD m.free, intsD m.locks, .i m.now, .i f.c.kind, .i f.c.k.a, .i f.c.k.b, .i f.c.time, .i f.c.bucket, .i f.c.slot, .i f.pc, .i f.cur, .i f.prev, .i f.slot, .i f.n, keysD f.keys, .b f.done, .i f.e, .i x] := by
    show [E 0, E 1, E 2, E 3, E 4, E 5, E 6, E 7, E 8, E 9, E 10, E 11, E 12, E 13, E 14, E 15, E 16, E 17, E 18, E 19] = _
    rw [e0, e1, e2, e3, e4, e5, e6, e7, e8, e9, e10, e11, e12, e13, e14, e15, e16, e17, e18, e19]
  rw [el] at hp
  rw [el]
  rw [Env.pre_eq el]
  clear el e0 e1 e2 e3 e4 e5 e6 e7 e8 e9 e10 e11 e12 e13 e14 e15 e16 e17 e18 e19
  rw [fn111]
  simp only [d111, mem_of, mem_eta, List.drop_succ_cons, List.drop_zero, frm_of] at hp
  obtain ⟨hm, hf, hk⟩ : MemIn m ∧ FrmOk m f ∧ (f.c.kind = 4 ∨ f.c.kind = 5) := hp
  have hb := bucketFor_range hm hf.call (by omega)
  have gs := hm.ns
  have g4 := hm.nh4
  have eH : ((intsD m.heads).rows.getD (bucketFor m f.c).toNat []).getD 0 .u = .i (headAt m (bucketFor m f.c)) := raw_int (by omega)
  obtain ⟨f1, f2, f3, f4, f5, f6, f7, f8, f9, f10, f11, f12, f13⟩ := id hf
  have eN : 0 < f.cur → ((slotsD m.slots).rows.getD (f.cur - 1).toNat []).getD 5 .u = .i (at1 m f).next := fun _ => raw_s5 (by omega)
  have eK1 : 0 < f.cur → ((slotsD m.slots).rows.getD (f.cur - 1).toNat []).getD 1 .u = .i (at1 m f).k.a := fun _ => raw_s1 (by omega)
  have eK2 : 0 < f.cur → ((slotsD m.slots).rows.getD (f.cur - 1).toNat []).getD 2 .u = .i (at1 m f).k.b := fun _ => raw_s2 (by omega)
  have a1 : m.slots.getD (f.cur - 1).toNat default = at1 m f := rfl
  have a2 : m.slots.getD f.slot.toNat default = at2 m f := rfl
  unfold t111
  refine den_calle d49 [.i (bucketFor m f.c)] rfl trivial (by simp only [nrm, X.den, Env.put, Env.pre, reduceIte, Nat.reduceLT, Nat.reduceSub, Nat.reduceAdd, fn49]) ?_
  refine den_ite (fun h1 => ?_) (fun h1 => ?_)
  · simp only [nrm, X.den, Env.put, Env.pre, reduceIte, Nat.reduceLT, Nat.reduceSub, Nat.reduceAdd, cell_s1, cell_s2, cell_s3, cell_s4, cell_s5, cell_int, a1, a2, len_keys, Mem.cds, List.cons_append, List.nil_append, Bool.not_eq_true', Bool.not_eq_false'] at h1
    refine den_calle d189 ((lock m (bucketFor m f.c) x).1.cds ++ [.b (lock m (bucketFor m f.c) x).2]) rfl (by simp only [nrm, X.den, Env.put, Env.pre, reduceIte, Nat.reduceLT, Nat.reduceSub, Nat.reduceAdd]; exact pi189 hm hb.1 hb.2) (by simp only [nrm, X.den, Env.put, Env.pre, reduceIte, Nat.reduceLT, Nat.reduceSub, Nat.reduceAdd, fn189]) ?_
    refine den_ite (fun h2 => ?_) (fun h2 => ?_)
    · simp only [nrm, X.den, Env.put, Env.pre, reduceIte, Nat.reduceLT, Nat.reduceSub, Nat.reduceAdd, cell_s1, cell_s2, cell_s3, cell_s4, cell_s5, cell_int, a1, a2, len_keys, Mem.cds, List.cons_append, List.nil_append, Bool.not_eq_true', Bool.not_eq_false'] at h2
      refine den_ret ?_
      first | (exfalso; omega) | skip
      all_goals unfold sweepStep
      all_goals repeat (first | rw [if_neg (by omega)] | rw [if_pos (by omega)] | rw [if_pos (by assumption)] | rw [if_neg (by assumption)] | rw [if_neg (ne_true_of_eq_false (by assumption))] | rw [if_pos (Or.inl (by assumption))] | rw [if_pos (Or.inr (by assumption))] | rw [if_neg (fun y => Or.elim y (fun z => z (by assumption)) (fun z => Bool.false_ne_true (z.symm.trans (by assumption))))])
      all_goals try rw [hold_no h2]
      all_goals try rw [lock_no h2]
      all_goals simp only [nrm, X.den, Env.put, Env.pre, reduceIte, Nat.reduceLT, Nat.reduceSub, Nat.reduceAdd, Mem.cds, Frm.cds, endFrame, List.cons_append, List.nil_append, CD.row, List.headD_cons, eH, app_key, Bool.false_eq_true, Bool.true_eq_false, h2]
      all_goals first | (have e14 : f.slot = -1 := (by omega); simp only [e14]; done) | (have e15 : f.n = 1000000 := (by omega); simp only [e15]; done)
    · simp only [nrm, X.den, Env.put, Env.pre, reduceIte, Nat.reduceLT, Nat.reduceSub, Nat.reduceAdd, cell_s1, cell_s2, cell_s3, cell_s4, cell_s5, cell_int, a1, a2, len_keys, Mem.cds, List.cons_append, List.nil_append, Bool.not_eq_true', Bool.not_eq_false'] at h2
      refine den_ret ?_
      first | (exfalso; omega) | skip
      all_goals unfold sweepStep
      all_goals repeat (first | rw [if_neg (by omega)] | rw [if_pos (by omega)] | rw [if_pos (by assumption)] | rw [if_neg (by assumption)] | rw [if_neg (ne_true_of_eq_false (by assumption))] | rw [if_pos (Or.inl (by assumption))] | rw [if_pos (Or.inr (by assumption))] | rw [if_neg (fun y => Or.elim y (fun z => z (by assumption)) (fun z => Bool.false_ne_true (z.symm.trans (by assumption))))])
      all_goals try rw [hold_no h2]
      all_goals try rw [lock_no h2]
      all_goals simp only [nrm, X.den, Env.put, Env.pre, reduceIte, Nat.reduceLT, Nat.reduceSub, Nat.reduceAdd, Mem.cds, Frm.cds, endFrame, List.cons_append, List.nil_append, CD.row, List.headD_cons, eH, app_key, Bool.false_eq_true, Bool.true_eq_false, h2]
      all_goals first | (have e14 : f.slot = -1 := (by omega); simp only [e14]; done) | (have e15 : f.n = 1000000 := (by omega); simp only [e15]; done)
  · simp only [nrm, X.den, Env.put, Env.pre, reduceIte, Nat.reduceLT, Nat.reduceSub, Nat.reduceAdd, cell_s1, cell_s2, cell_s3, cell_s4, cell_s5, cell_int, a1, a2, len_keys, Mem.cds, List.cons_append, List.nil_append, Bool.not_eq_true', Bool.not_eq_false'] at h1
    refine den_ite (fun h2 => ?_) (fun h2 => ?_)
    · simp only [nrm, X.den, Env.put, Env.pre, reduceIte, Nat.reduceLT, Nat.reduceSub, Nat.reduceAdd, cell_s1, cell_s2, cell_s3, cell_s4, cell_s5, cell_int, a1, a2, len_keys, Mem.cds, List.cons_append, List.nil_append, Bool.not_eq_true', Bool.not_eq_false'] at h2
      refine den_le (by simp only [nrm, X.den, Env.put, Env.pre, reduceIte, Nat.reduceLT, Nat.reduceSub, Nat.reduceAdd, len_slots, len_ints, len_keys, cell_s1, cell_s2, cell_s3, cell_s4, cell_s5, cell_int, a1, a2]; omega) ?_
      refine den_lt (by simp only [nrm, X.den, Env.put, Env.pre, reduceIte, Nat.reduceLT, Nat.reduceSub, Nat.reduceAdd, len_slots, len_ints, len_keys, cell_s1, cell_s2, cell_s3, cell_s4, cell_s5, cell_int, a1, a2]; omega) ?_
      refine den_ret ?_
      first | (exfalso; omega) | skip
      all_goals unfold sweepStep
      all_goals repeat (first | rw [if_neg (by omega)] | rw [if_pos (by omega)] | rw [if_pos (by assumption)] | rw [if_neg (by assumption)] | rw [if_neg (ne_true_of_eq_false (by assumption))] | rw [if_pos (Or.inl (by assumption))] | rw [if_pos (Or.inr (by assumption))] | rw [if_neg (fun y => Or.elim y (fun z => z (by assumption)) (fun z => Bool.false_ne_true (z.symm.trans (by assumption))))])
      all_goals simp only [nrm, X.den, Env.put, Env.pre, reduceIte, Nat.reduceLT, Nat.reduceSub, Nat.reduceAdd, Mem.cds, Frm.cds, endFrame, List.cons_append, List.nil_append, CD.row, List.headD_cons, eH, app_key, Bool.false_eq_true, Bool.true_eq_false]
      all_goals first | (have e14 : f.slot = -1 := (by omega); simp only [e14]; done) | (have e15 : f.n = 1000000 := (by omega); simp only [e15]; done)
    · simp only [nrm, X.den, Env.put, Env.pre, reduceIte, Nat.reduceLT, Nat.reduceSub, Nat.reduceAdd, cell_s1, cell_s2, cell_s3, cell_s4, cell_s5, cell_int, a1, a2, len_keys, Mem.cds, List.cons_append, List.nil_append, Bool.not_eq_true', Bool.not_eq_false'] at h2
      refine den_ite (fun h3 => ?_) (fun h3 => ?_)
      · simp only [nrm, X.den, Env.put, Env.pre, reduceIte, Nat.reduceLT, Nat.reduceSub, Nat.reduceAdd, cell_s1, cell_s2, cell_s3, cell_s4, cell_s5, cell_int, a1, a2, len_keys, Mem.cds, List.cons_append, List.nil_append, Bool.not_eq_true', Bool.not_eq_false'] at h3
        refine den_ite (fun h4 => ?_) (fun h4 => ?_)
        · simp only [nrm, X.den, Env.put, Env.pre, reduceIte, Nat.reduceLT, Nat.reduceSub, Nat.reduceAdd, cell_s1, cell_s2, cell_s3, cell_s4, cell_s5, cell_int, a1, a2, len_keys, Mem.cds, List.cons_append, List.nil_append, Bool.not_eq_true', Bool.not_eq_false'] at h4
          refine den_ret ?_
          first | (exfalso; omega) | skip
          all_goals unfold sweepStep
          all_goals repeat (first | rw [if_neg (by omega)] | rw [if_pos (by omega)] | rw [if_pos (by assumption)] | rw [if_neg (by assumption)] | rw [if_neg (ne_true_of_eq_false (by assumption))] | rw [if_pos (Or.inl (by assumption))] | rw [if_pos (Or.inr (by assumption))] | rw [if_neg (fun y => Or.elim y (fun z => z (by assumption)) (fun z => Bool.false_ne_true (z.symm.trans (by assumption))))])
          all_goals simp only [nrm, X.den, Env.put, Env.pre, reduceIte, Nat.reduceLT, Nat.reduceSub, Nat.reduceAdd, Mem.cds, Frm.cds, endFrame, List.cons_append, List.nil_append, CD.row, List.headD_cons, eH, app_key, Bool.false_eq_true, Bool.true_eq_false]
          all_goals first | (have e14 : f.slot = -1 := (by omega); simp only [e14]; done) | (have e15 : f.n = 1000000 := (by omega); simp only [e15]; done)
        · simp only [nrm, X.den, Env.put, Env.pre, reduceIte, Nat.reduceLT, Nat.reduceSub, Nat.reduceAdd, cell_s1, cell_s2, cell_s3, cell_s4, cell_s5, cell_int, a1, a2, len_keys, Mem.cds, List.cons_append, List.nil_append, Bool.not_eq_true', Bool.not_eq_false'] at h4
          refine den_fit (by simp only [nrm, X.den, Env.put, Env.pre, reduceIte, Nat.reduceLT, Nat.reduceSub, Nat.reduceAdd, len_slots, len_ints, len_keys, cell_s1, cell_s2, cell_s3, cell_s4, cell_s5, cell_int, a1, a2]; omega) ?_
          refine den_le (by simp only [nrm, X.den, Env.put, Env.pre, reduceIte, Nat.reduceLT, Nat.reduceSub, Nat.reduceAdd, len_slots, len_ints, len_keys, cell_s1, cell_s2, cell_s3, cell_s4, cell_s5, cell_int, a1, a2]; omega) ?_
          refine den_lt (by simp only [nrm, X.den, Env.put, Env.pre, reduceIte, Nat.reduceLT, Nat.reduceSub, Nat.reduceAdd, len_slots, len_ints, len_keys, cell_s1, cell_s2, cell_s3, cell_s4, cell_s5, cell_int, a1, a2]; omega) ?_
          refine den_ite (fun h5 => ?_) (fun h5 => ?_)
          · simp only [nrm, X.den, Env.put, Env.pre, reduceIte, Nat.reduceLT, Nat.reduceSub, Nat.reduceAdd, cell_s1, cell_s2, cell_s3, cell_s4, cell_s5, cell_int, a1, a2, len_keys, Mem.cds, List.cons_append, List.nil_append, Bool.not_eq_true', Bool.not_eq_false'] at h5
            refine den_ite (fun h6 => ?_) (fun h6 => ?_)
            · simp only [nrm, X.den, Env.put, Env.pre, reduceIte, Nat.reduceLT, Nat.reduceSub, Nat.reduceAdd, cell_s1, cell_s2, cell_s3, cell_s4, cell_s5, cell_int, a1, a2, len_keys, Mem.cds, List.cons_append, List.nil_append, Bool.not_eq_true', Bool.not_eq_false'] at h6
              refine den_le (by simp only [nrm, X.den, Env.put, Env.pre, reduceIte, Nat.reduceLT, Nat.reduceSub, Nat.reduceAdd, len_slots, len_ints, len_keys, cell_s1, cell_s2, cell_s3, cell_s4, cell_s5, cell_int, a1, a2]; omega) ?_
              refine den_le (by simp only [nrm, X.den, Env.put, Env.pre, reduceIte, Nat.reduceLT, Nat.reduceSub, Nat.reduceAdd, len_slots, len_ints, len_keys, cell_s1, cell_s2, cell_s3, cell_s4, cell_s5, cell_int, a1, a2]; omega) ?_
              refine den_ret ?_
              first | (exfalso; omega) | skip
              all_goals unfold sweepStep
              all_goals repeat (first | rw [if_neg (by omega)] | rw [if_pos (by omega)] | rw [if_pos (by assumption)] | rw [if_neg (by assumption)] | rw [if_neg (ne_true_of_eq_false (by assumption))] | rw [if_pos (Or.inl (by assumption))] | rw [if_pos (Or.inr (by assumption))] | rw [if_neg (fun y => Or.elim y (fun z => z (by assumption)) (fun z => Bool.false_ne_true (z.symm.trans (by assumption))))])
              all_goals simp only [nrm, X.den, Env.put, Env.pre, reduceIte, Nat.reduceLT, Nat.reduceSub, Nat.reduceAdd, Mem.cds, Frm.cds, endFrame, List.cons_append, List.nil_append, CD.row, List.headD_cons, eH, app_key, Bool.false_eq_true, Bool.true_eq_false, eN (by omega), eK1 (by omega), eK2 (by omega)]
              all_goals first | (have e14 : f.slot = -1 := (by omega); simp only [e14]; done) | (have e15 : f.n = 1000000 := (by omega); simp only [e15]; done)
            · simp only [nrm, X.den, Env.put, Env.pre, reduceIte, Nat.reduceLT, Nat.reduceSub, Nat.reduceAdd, cell_s1, cell_s2, cell_s3, cell_s4, cell_s5, cell_int, a1, a2, len_keys, Mem.cds, List.cons_append, List.nil_append, Bool.not_eq_true', Bool.not_eq_false'] at h6
              refine den_ret ?_
              first | (exfalso; omega) | skip
              all_goals unfold sweepStep
              all_goals repeat (first | rw [if_neg (by omega)] | rw [if_pos (by omega)] | rw [if_pos (by assumption)] | rw [if_neg (by assumption)] | rw [if_neg (ne_true_of_eq_false (by assumption))] | rw [if_pos (Or.inl (by assumption))] | rw [if_pos (Or.inr (by assumption))] | rw [if_neg (fun y => Or.elim y (fun z => z (by assumption)) (fun z => Bool.false_ne_true (z.symm.trans (by assumption))))])
              all_goals simp only [nrm, X.den, Env.put, Env.pre, reduceIte, Nat.reduceLT, Nat.reduceSub, Nat.reduceAdd, Mem.cds, Frm.cds, endFrame, List.cons_append, List.nil_append, CD.row, List.headD_cons, eH, app_key, Bool.false_eq_true, Bool.true_eq_false]
              all_goals first | (have e14 : f.slot = -1 := (by omega); simp only [e14]; done) | (have e15 : f.n = 1000000 := (by omega); simp only [e15]; done)
          · simp only [nrm, X.den, Env.put, Env.pre, reduceIte, Nat.reduceLT, Nat.reduceSub, Nat.reduceAdd, cell_s1, cell_s2, cell_s3, cell_s4, cell_s5, cell_int, a1, a2, len_keys, Mem.cds, List.cons_append, List.nil_append, Bool.not_eq_true', Bool.not_eq_false'] at h5
            refine den_ite (fun h6 => ?_) (fun h6 => ?_)
            · simp only [nrm, X.den, Env.put, Env.pre, reduceIte, Nat.reduceLT, Nat.reduceSub, Nat.reduceAdd, cell_s1, cell_s2, cell_s3, cell_s4, cell_s5, cell_int, a1, a2, len_keys, Mem.cds, List.cons_append, List.nil_append, Bool.not_eq_true', Bool.not_eq_false'] at h6
              refine den_ret ?_
              first | (exfalso; omega) | skip
              all_goals unfold sweepStep
              all_goals repeat (first | rw [if_neg (by omega)] | rw [if_pos (by omega)] | rw [if_pos (by assumption)] | rw [if_neg (by assumption)] | rw [if_neg (ne_true_of_eq_false (by assumption))] | rw [if_pos (Or.inl (by assumption))] | rw [if_pos (Or.inr (by assumption))] | rw [if_neg (fun y => Or.elim y (fun z => z (by assumption)) (fun z => Bool.false_ne_true (z.symm.trans (by assumption))))])
              all_goals simp only [nrm, X.den, Env.put, Env.pre, reduceIte, Nat.reduceLT, Nat.reduceSub, Nat.reduceAdd, Mem.cds, Frm.cds, endFrame, List.cons_append, List.nil_append, CD.row, List.headD_cons, eH, app_key, Bool.false_eq_true, Bool.true_eq_false]
              all_goals first | (have e14 : f.slot = -1 := (by omega); simp only [e14]; done) | (have e15 : f.n = 1000000 := (by omega); simp only [e15]; done)
            · simp only [nrm, X.den, Env.put, Env.pre, reduceIte, Nat.reduceLT, Nat.reduceSub, Nat.reduceAdd, cell_s1, cell_s2, cell_s3, cell_s4, cell_s5, cell_int, a1, a2, len_keys, Mem.cds, List.cons_append, List.nil_append, Bool.not_eq_true', Bool.not_eq_false'] at h6
              refine den_ret ?_
              first | (exfalso; omega) | skip
              all_goals unfold sweepStep
              all_goals repeat (first | rw [if_neg (by omega)] | rw [if_pos (by omega)] | rw [if_pos (by assumption)] | rw [if_neg (by assumption)] | rw [if_neg (ne_true_of_eq_false (by assumption))] | rw [if_pos (Or.inl (by assumption))] | rw [if_pos (Or.inr (by assumption))] | rw [if_neg (fun y => Or.elim y (fun z => z (by assumption)) (fun z => Bool.false_ne_true (z.symm.trans (by assumption))))])
              all_goals simp only [nrm, X.den, Env.put, Env.pre, reduceIte, Nat.reduceLT, Nat.reduceSub, Nat.reduceAdd, Mem.cds, Frm.cds, endFrame, List.cons_append, List.nil_append, CD.row, List.headD_cons, eH, app_key, Bool.false_eq_true, Bool.true_eq_false]
              all_goals first | (have e14 : f.slot = -1 := (by omega); simp only [e14]; done) | (have e15 : f.n = 1000000 := (by omega); simp only [e15]; done)
      · simp only [nrm, X.den, Env.put, Env.pre, reduceIte, Nat.reduceLT, Nat.reduceSub, Nat.reduceAdd, cell_s1, cell_s2, cell_s3, cell_s4, cell_s5, cell_int, a1, a2, len_keys, Mem.cds, List.cons_append, List.nil_append, Bool.not_eq_true', Bool.not_eq_false'] at h3
        refine den_ite (fun h4 => ?_) (fun h4 => ?_)
        · simp only [nrm, X.den, Env.put, Env.pre, reduceIte, Nat.reduceLT, Nat.reduceSub, Nat.reduceAdd, cell_s1, cell_s2, cell_s3, cell_s4, cell_s5, cell_int, a1, a2, len_keys, Mem.cds, List.cons_append, List.nil_append, Bool.not_eq_true', Bool.not_eq_false'] at h4
          refine den_ite (fun h5 => ?_) (fun h5 => ?_)
          · simp only [nrm, X.den, Env.put, Env.pre, reduceIte, Nat.reduceLT, Nat.reduceSub, Nat.reduceAdd, cell_s1, cell_s2, cell_s3, cell_s4, cell_s5, cell_int, a1, a2, len_keys, Mem.cds, List.cons_append, List.nil_append, Bool.not_eq_true', Bool.not_eq_false'] at h5
            refine den_fit (by simp only [nrm, X.den, Env.put, Env.pre, reduceIte, Nat.reduceLT, Nat.reduceSub, Nat.reduceAdd, len_slots, len_ints, len_keys, cell_s1, cell_s2, cell_s3, cell_s4, cell_s5, cell_int, a1, a2]; omega) ?_
            refine den_le (by simp only [nrm, X.den, Env.put, Env.pre, reduceIte, Nat.reduceLT, Nat.reduceSub, Nat.reduceAdd, len_slots, len_ints, len_keys, cell_s1, cell_s2, cell_s3, cell_s4, cell_s5, cell_int, a1, a2]; omega) ?_
            refine den_lt (by simp only [nrm, X.den, Env.put, Env.pre, reduceIte, Nat.reduceLT, Nat.reduceSub, Nat.reduceAdd, len_slots, len_ints, len_keys, cell_s1, cell_s2, cell_s3, cell_s4, cell_s5, cell_int, a1, a2]; omega) ?_
            refine den_ret ?_
            first | (exfalso; omega) | skip
            all_goals unfold sweepStep
            all_goals repeat (first | rw [if_neg (by omega)] | rw [if_pos (by omega)] | rw [if_pos (by assumption)] | rw [if_neg (by assumption)] | rw [if_neg (ne_true_of_eq_false (by assumption))] | rw [if_pos (Or.inl (by assumption))] | rw [if_pos (Or.inr (by assumption))] | rw [if_neg (fun y => Or.elim y (fun z => z (by assumption)) (fun z => Bool.false_ne_true (z.symm.trans (by assumption))))])
            all_goals simp only [nrm, X.den, Env.put, Env.pre, reduceIte, Nat.reduceLT, Nat.reduceSub, Nat.reduceAdd, Mem.cds, Frm.cds, endFrame, List.cons_append, List.nil_append, CD.row, List.headD_cons, eH, app_key, Bool.false_eq_true, Bool.true_eq_false, eN (by omega), eK1 (by omega), eK2 (by omega)]
            all_goals first | (have e14 : f.slot = -1 := (by omega); simp only [e14]; done) | (have e15 : f.n = 1000000 := (by omega); simp only [e15]; done)
          · simp only [nrm, X.den, Env.put, Env.pre, reduceIte, Nat.reduceLT, Nat.reduceSub, Nat.reduceAdd, cell_s1, cell_s2, cell_s3, cell_s4, cell_s5, cell_int, a1, a2, len_keys, Mem.cds, List.cons_append, List.nil_append, Bool.not_eq_true', Bool.not_eq_false'] at h5
            refine den_ret ?_
            first | (exfalso; omega) | skip
            all_goals unfold sweepStep
            all_goals repeat (first | rw [if_neg (by omega)] | rw [if_pos (by omega)] | rw [if_pos (by assumption)] | rw [if_neg (by assumption)] | rw [if_neg (ne_true_of_eq_false (by assumption))] | rw [if_pos (Or.inl (by assumption))] | rw [if_pos (Or.inr (by assumption))] | rw [if_neg (fun y => Or.elim y (fun z => z (by assumption)) (fun z => Bool.false_ne_true (z.symm.trans (by assumption))))])
            all_goals simp only [nrm, X.den, Env.put, Env.pre, reduceIte, Nat.reduceLT, Nat.reduceSub, Nat.reduceAdd, Mem.cds, Frm.cds, endFrame, List.cons_append, List.nil_append, CD.row, List.headD_cons, eH, app_key, Bool.false_eq_true, Bool.true_eq_false]
            all_goals first | (have e14 : f.slot = -1 := (by omega); simp only [e14]; done) | (have e15 : f.n = 1000000 := (by omega); simp only [e15]; done)
        · simp only [nrm, X.den, Env.put, Env.pre, reduceIte, Nat.reduceLT, Nat.reduceSub, Nat.reduceAdd, cell_s1, cell_s2, cell_s3, cell_s4, cell_s5, cell_int, a1, a2, len_keys, Mem.cds, List.cons_append, List.nil_append, Bool.not_eq_true', Bool.not_eq_false'] at h4
          refine den_ite (fun h5 => ?_) (fun h5 => ?_)
          · simp only [nrm, X.den, Env.put, Env.pre, reduceIte, Nat.reduceLT, Nat.reduceSub, Nat.reduceAdd, cell_s1, cell_s2, cell_s3, cell_s4, cell_s5, cell_int, a1, a2, len_keys, Mem.cds, List.cons_append, List.nil_append, Bool.not_eq_true', Bool.not_eq_false'] at h5
            refine den_ite (fun h6 => ?_) (fun h6 => ?_)
            · simp only [nrm, X.den, Env.put, Env.pre, reduceIte, Nat.reduceLT, Nat.reduceSub, Nat.reduceAdd, cell_s1, cell_s2, cell_s3, cell_s4, cell_s5, cell_int, a1, a2, len_keys, Mem.cds, List.cons_append, List.nil_append, Bool.not_eq_true', Bool.not_eq_false'] at h6
              refine den_fit (by simp only [nrm, X.den, Env.put, Env.pre, reduceIte, Nat.reduceLT, Nat.reduceSub, Nat.reduceAdd, len_slots, len_ints, len_keys, cell_s1, cell_s2, cell_s3, cell_s4, cell_s5, cell_int, a1, a2]; omega) ?_
              refine den_le (by simp only [nrm, X.den, Env.put, Env.pre, reduceIte, Nat.reduceLT, Nat.reduceSub, Nat.reduceAdd, len_slots, len_ints, len_keys, cell_s1, cell_s2, cell_s3, cell_s4, cell_s5, cell_int, a1, a2]; omega) ?_
              refine den_lt (by simp only [nrm, X.den, Env.put, Env.pre, reduceIte, Nat.reduceLT, Nat.reduceSub, Nat.reduceAdd, len_slots, len_ints, len_keys, cell_s1, cell_s2, cell_s3, cell_s4, cell_s5, cell_int, a1, a2]; omega) ?_
              refine den_calle d89 (cut m f.prev (f.cur - 1) (bucketFor m f.c)).cds rfl (by simp only [nrm, X.den, Env.put, Env.pre, reduceIte, Nat.reduceLT, Nat.reduceSub, Nat.reduceAdd]; exact pre89 (by omega) (by omega) (by omega) (by omega) hb.1 hb.2) (by simp only [nrm, X.den, Env.put, Env.pre, reduceIte, Nat.reduceLT, Nat.reduceSub, Nat.reduceAdd, fn89]) ?_
              refine den_ret ?_
              first | (exfalso; omega) | skip
              all_goals unfold sweepStep
              all_goals repeat (first | rw [if_neg (by omega)] | rw [if_pos (by omega)] | rw [if_pos (by assumption)] | rw [if_neg (by assumption)] | rw [if_neg (ne_true_of_eq_false (by assumption))] | rw [if_pos (Or.inl (by assumption))] | rw [if_pos (Or.inr (by assumption))] | rw [if_neg (fun y => Or.elim y (fun z => z (by assumption)) (fun z => Bool.false_ne_true (z.symm.trans (by assumption))))])
              all_goals simp only [nrm, X.den, Env.put, Env.pre, reduceIte, Nat.reduceLT, Nat.reduceSub, Nat.reduceAdd, Mem.cds, Frm.cds, endFrame, List.cons_append, List.nil_append, CD.row, List.headD_cons, eH, app_key, Bool.false_eq_true, Bool.true_eq_false, eN (by omega), eK1 (by omega), eK2 (by omega)]
              all_goals first | (have e14 : f.slot = -1 := (by omega); simp only [e14]; done) | (have e15 : f.n = 1000000 := (by omega); simp only [e15]; done)
            · simp only [nrm, X.den, Env.put, Env.pre, reduceIte, Nat.reduceLT, Nat.reduceSub, Nat.reduceAdd, cell_s1, cell_s2, cell_s3, cell_s4, cell_s5, cell_int, a1, a2, len_keys, Mem.cds, List.cons_append, List.nil_append, Bool.not_eq_true', Bool.not_eq_false'] at h6
              refine den_ret ?_
              first | (exfalso; omega) | skip
              all_goals unfold sweepStep
              all_goals repeat (first | rw [if_neg (by omega)] | rw [if_pos (by omega)] | rw [if_pos (by assumption)] | rw [if_neg (by assumption)] | rw [if_neg (ne_true_of_eq_false (by assumption))] | rw [if_pos (Or.inl (by assumption))] | rw [if_pos (Or.inr (by assumption))] | rw [if_neg (fun y => Or.elim y (fun z => z (by assumption)) (fun z => Bool.false_ne_true (z.symm.trans (by assumption))))])
              all_goals simp only [nrm, X.den, Env.put, Env.pre, reduceIte, Nat.reduceLT, Nat.reduceSub, Nat.reduceAdd, Mem.cds, Frm.cds, endFrame, List.cons_append, List.nil_append, CD.row, List.headD_cons, eH, app_key, Bool.false_eq_true, Bool.true_eq_false]
              all_goals first | (have e14 : f.slot = -1 := (by omega); simp only [e14]; done) | (have e15 : f.n = 1000000 := (by omega); simp only [e15]; done)
          · simp only [nrm, X.den, Env.put, Env.pre, reduceIte, Nat.reduceLT, Nat.reduceSub, Nat.reduceAdd, cell_s1, cell_s2, cell_s3, cell_s4, cell_s5, cell_int, a1, a2, len_keys, Mem.cds, List.cons_append, List.nil_append, Bool.not_eq_true', Bool.not_eq_false'] at h5
            refine den_ite (fun h6 => ?_) (fun h6 => ?_)
            · simp only [nrm, X.den, Env.put, Env.pre, reduceIte, Nat.reduceLT, Nat.reduceSub, Nat.reduceAdd, cell_s1, cell_s2, cell_s3, cell_s4, cell_s5, cell_int, a1, a2, len_keys, Mem.cds, List.cons_append, List.nil_append, Bool.not_eq_true', Bool.not_eq_false'] at h6
              refine den_ite (fun h7 => ?_) (fun h7 => ?_)
              · simp only [nrm, X.den, Env.put, Env.pre, reduceIte, Nat.reduceLT, Nat.reduceSub, Nat.reduceAdd, cell_s1, cell_s2, cell_s3, cell_s4, cell_s5, cell_int, a1, a2, len_keys, Mem.cds, List.cons_append, List.nil_append, Bool.not_eq_true', Bool.not_eq_false'] at h7
                refine den_calle d68 (put m f.slot).cds rfl (by simp only [nrm, X.den, Env.put, Env.pre, reduceIte, Nat.reduceLT, Nat.reduceSub, Nat.reduceAdd]; exact pi68 hm (by omega) (by omega)) (by simp only [nrm, X.den, Env.put, Env.pre, reduceIte, Nat.reduceLT, Nat.reduceSub, Nat.reduceAdd, fn68]) ?_
                refine den_ite (fun h8 => ?_) (fun h8 => ?_)
                · simp only [nrm, X.den, Env.put, Env.pre, reduceIte, Nat.reduceLT, Nat.reduceSub, Nat.reduceAdd, cell_s1, cell_s2, cell_s3, cell_s4, cell_s5, cell_int, a1, a2, len_keys, Mem.cds, List.cons_append, List.nil_append, Bool.not_eq_true', Bool.not_eq_false'] at h8
                  refine den_fit (by simp only [nrm, X.den, Env.put, Env.pre, reduceIte, Nat.reduceLT, Nat.reduceSub, Nat.reduceAdd, len_slots, len_ints, len_keys, cell_s1, cell_s2, cell_s3, cell_s4, cell_s5, cell_int, a1, a2]; omega) ?_
                  refine den_ret ?_
                  first | (exfalso; omega) | skip
                  all_goals unfold sweepStep
                  all_goals repeat (first | rw [if_neg (by omega)] | rw [if_pos (by omega)] | rw [if_pos (by assumption)] | rw [if_neg (by assumption)] | rw [if_neg (ne_true_of_eq_false (by assumption))] | rw [if_pos (Or.inl (by assumption))] | rw [if_pos (Or.inr (by assumption))] | rw [if_neg (fun y => Or.elim y (fun z => z (by assumption)) (fun z => Bool.false_ne_true (z.symm.trans (by assumption))))])
                  all_goals simp only [nrm, X.den, Env.put, Env.pre, reduceIte, Nat.reduceLT, Nat.reduceSub, Nat.reduceAdd, Mem.cds, Frm.cds, endFrame, List.cons_append, List.nil_append, CD.row, List.headD_cons, eH, app_key, Bool.false_eq_true, Bool.true_eq_false]
                  all_goals first | (have e14 : f.slot = -1 := (by omega); simp only [e14]; done) | (have e15 : f.n = 1000000 := (by omega); simp only [e15]; done)
                · simp only [nrm, X.den, Env.put, Env.pre, reduceIte, Nat.reduceLT, Nat.reduceSub, Nat.reduceAdd, cell_s1, cell_s2, cell_s3, cell_s4, cell_s5, cell_int, a1, a2, len_keys, Mem.cds, List.cons_append, List.nil_append, Bool.not_eq_true', Bool.not_eq_false'] at h8
                  refine den_ret ?_
                  first | (exfalso; omega) | skip
                  all_goals unfold sweepStep
                  all_goals repeat (first | rw [if_neg (by omega)] | rw [if_pos (by omega)] | rw [if_pos (by assumption)] | rw [if_neg (by assumption)] | rw [if_neg (ne_true_of_eq_false (by assumption))] | rw [if_pos (Or.inl (by assumption))] | rw [if_pos (Or.inr (by assumption))] | rw [if_neg (fun y => Or.elim y (fun z => z (by assumption)) (fun z => Bool.false_ne_true (z.symm.trans (by assumption))))])
                  all_goals simp only [nrm, X.den, Env.put, Env.pre, reduceIte, Nat.reduceLT, Nat.reduceSub, Nat.reduceAdd, Mem.cds, Frm.cds, endFrame, List.cons_append, List.nil_append, CD.row, List.headD_cons, eH, app_key, Bool.false_eq_true, Bool.true_eq_false]
                  all_goals first | (have e14 : f.slot = -1 := (by omega); simp only [e14]; done) | (have e15 : f.n = 1000000 := (by omega); simp only [e15]; done)
              · simp only [nrm, X.den, Env.put, Env.pre, reduceIte, Nat.reduceLT, Nat.reduceSub, Nat.reduceAdd, cell_s1, cell_s2, cell_s3, cell_s4, cell_s5, cell_int, a1, a2, len_keys, Mem.cds, List.cons_append, List.nil_append, Bool.not_eq_true', Bool.not_eq_false'] at h7
                refine den_ret ?_
                first | (exfalso; omega) | skip
                all_goals unfold sweepStep
                all_goals repeat (first | rw [if_neg (by omega)] | rw [if_pos (by omega)] | rw [if_pos (by assumption)] | rw [if_neg (by assumption)] | rw [if_neg (ne_true_of_eq_false (by assumption))] | rw [if_pos (Or.inl (by assumption))] | rw [if_pos (Or.inr (by assumption))] | rw [if_neg (fun y => Or.elim y (fun z => z (by assumption)) (fun z => Bool.false_ne_true (z.symm.trans (by assumption))))])
                all_goals simp only [nrm, X.den, Env.put, Env.pre, reduceIte, Nat.reduceLT, Nat.reduceSub, Nat.reduceAdd, Mem.cds, Frm.cds, endFrame, List.cons_append, List.nil_append, CD.row, List.headD_cons, eH, app_key, Bool.false_eq_true, Bool.true_eq_false]
                all_goals first | (have e14 : f.slot = -1 := (by omega); simp only [e14]; done) | (have e15 : f.n = 1000000 := (by omega); simp only [e15]; done)
            · simp only [nrm, X.den, Env.put, Env.pre, reduceIte, Nat.reduceLT, Nat.reduceSub, Nat.reduceAdd, cell_s1, cell_s2, cell_s3, cell_s4, cell_s5, cell_int, a1, a2, len_keys, Mem.cds, List.cons_append, List.nil_append, Bool.not_eq_true', Bool.not_eq_false'] at h6
              refine den_ite (fun h7 => ?_) (fun h7 => ?_)
              · simp only [nrm, X.den, Env.put, Env.pre, reduceIte, Nat.reduceLT, Nat.reduceSub, Nat.reduceAdd, cell_s1, cell_s2, cell_s3, cell_s4, cell_s5, cell_int, a1, a2, len_keys, Mem.cds, List.cons_append, List.nil_append, Bool.not_eq_true', Bool.not_eq_false'] at h7
                refine den_calle d190 (unlock m (bucketFor m f.c) x).cds rfl (by simp only [nrm, X.den, Env.put, Env.pre, reduceIte, Nat.reduceLT, Nat.reduceSub, Nat.reduceAdd]; exact pi190 hm hb.1 hb.2) (by simp only [nrm, X.den, Env.put, Env.pre, reduceIte, Nat.reduceLT, Nat.reduceSub, Nat.reduceAdd, fn190]) ?_
                refine den_ret ?_
                first | (exfalso; omega) | skip
                all_goals unfold sweepStep
                all_goals repeat (first | rw [if_neg (by omega)] | rw [if_pos (by omega)] | rw [if_pos (by assumption)] | rw [if_neg (by assumption)] | rw [if_neg (ne_true_of_eq_false (by assumption))] | rw [if_pos (Or.inl (by assumption))] | rw [if_pos (Or.inr (by assumption))] | rw [if_neg (fun y => Or.elim y (fun z => z (by assumption)) (fun z => Bool.false_ne_true (z.symm.trans (by assumption))))])
                all_goals simp only [nrm, X.den, Env.put, Env.pre, reduceIte, Nat.reduceLT, Nat.reduceSub, Nat.reduceAdd, Mem.cds, Frm.cds, endFrame, List.cons_append, List.nil_append, CD.row, List.headD_cons, eH, app_key, Bool.false_eq_true, Bool.true_eq_false]
                all_goals first | (have e14 : f.slot = -1 := (by omega); simp only [e14]; done) | (have e15 : f.n = 1000000 := (by omega); simp only [e15]; done)
              · simp only [nrm, X.den, Env.put, Env.pre, reduceIte, Nat.reduceLT, Nat.reduceSub, Nat.reduceAdd, cell_s1, cell_s2, cell_s3, cell_s4, cell_s5, cell_int, a1, a2, len_keys, Mem.cds, List.cons_append, List.nil_append, Bool.not_eq_true', Bool.not_eq_false'] at h7
                refine den_ret ?_
                first | (exfalso; omega) | skip
                all_goals unfold sweepStep
                all_goals repeat (first | rw [if_neg (by omega)] | rw [if_pos (by omega)] | rw [if_pos (by assumption)] | rw [if_neg (by assumption)] | rw [if_neg (ne_true_of_eq_false (by assumption))] | rw [if_pos (Or.inl (by assumption))] | rw [if_pos (Or.inr (by assumption))] | rw [if_neg (fun y => Or.elim y (fun z => z (by assumption)) (fun z => Bool.false_ne_true (z.symm.trans (by assumption))))])
                all_goals simp only [nrm, X.den, Env.put, Env.pre, reduceIte, Nat.reduceLT, Nat.reduceSub, Nat.reduceAdd, Mem.cds, Frm.cds, endFrame, List.cons_append, List.nil_append, CD.row, List.headD_cons, eH, app_key, Bool.false_eq_true, Bool.true_eq_false]
                all_goals first | (have e14 : f.slot = -1 := (by omega); simp only [e14]; done) | (have e15 : f.n = 1000000 := (by omega); simp only [e15]; done)
end Go.Proofs.Ytpmamacjepcdmaa
