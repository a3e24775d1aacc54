import Derived.Test.YtpmamacjepcdmaaCAloneAdd
/- Plain: a Drop that goes on alone; what is mapped, but for what is cut out. -/
namespace Go.Proofs.Ytpmamacjepcdmaa
open Go Go.Sy Go.RowKit
set_option linter.unusedSimpArgs false
set_option linter.unusedVariables false

theorem flowsFrom_filter {m x : Mem} {P : Flow → Bool} : ∀ {n b : Nat} {acc : List Flow}, (∀ i, b ≤ i → i < b + n → (chL x i).map (flowAt x) = ((chL m i).map (flowAt m)).filter P) → flowsFrom x n b (acc.filter P) = (flowsFrom m n b acc).filter P
  | 0, _, _, _ => rfl
  | n + 1, b, acc, h => by
    rw [flowsFrom, flowsFrom]
    have e : acc.filter P ++ (chainR x b).1.map (flowAt x) = (acc ++ (chainR m b).1.map (flowAt m)).filter P := by
      rw [List.filter_append]
      exact congrArg _ (h b (Nat.le_refl _) (by omega))
    rw [e]
    exact flowsFrom_filter fun i h3 h4 => h i (by omega) (by omega)
theorem flowsOf_filter {m x : Mem} {P : Flow → Bool} (hh : x.heads.length = m.heads.length) (h : ∀ i, i < m.heads.length → (chL x i).map (flowAt x) = ((chL m i).map (flowAt m)).filter P) : flowsOf x = (flowsOf m).filter P := by
  unfold flowsOf
  rw [hh]
  exact flowsFrom_filter (acc := []) fun i _ hi => h i (by omega)
theorem erase_filter {m : Mem} {t : Int} {k : Key} : ∀ {l : List Int}, (l.map (kys m)).Nodup → t ∈ l → kys m t = k → l.erase t = l.filter fun c => decide (kys m c ≠ k)
  | [], _, h, _ => by cases h
  | c :: l, hn, ht, e => by
    rw [List.map_cons, List.nodup_cons] at hn
    by_cases hc : c = t
    · subst hc
      have hall : l.filter (fun d => decide (kys m d ≠ k)) = l := List.filter_eq_self.2 fun d hd => decide_eq_true fun z => hn.1 (List.mem_map.2 ⟨d, hd, by rw [z, e]⟩)
      rw [List.erase_cons_head, List.filter_cons_of_neg (by simp [e]), hall]
    · have ht : t ∈ l := by rcases List.mem_cons.1 ht with h | h; exact absurd h.symm hc; exact h
      rw [List.erase_cons_tail (by simpa using hc), List.filter_cons_of_pos (by rw [decide_eq_true_eq]; exact fun z => hn.1 (List.mem_map.2 ⟨t, ht, by rw [e, z]⟩)), erase_filter hn.2 ht e]
theorem cut_keeps (m : Mem) (p a b : Int) : (cut m p a b).locks = m.locks ∧ (cut m p a b).free = m.free ∧ (cut m p a b).now = m.now := by
  unfold cut
  split <;> exact ⟨rfl, rfl, rfl⟩
theorem cut_lock (m : Mem) (p a b : Int) (l : List Int) : cut { m with locks := l } p a b = { cut m p a b with locks := l } := by
  unfold cut
  split <;> rfl
theorem put_lock (m : Mem) (a : Int) (l : List Int) : put { m with locks := l } a = { put m a with locks := l } := by
  unfold put
  show (if (msl m a.toNat).refs = 0 then _ else if (msl m a.toNat).refs = 1 then _ else _) = _
  split
  · rfl
  · split <;> rfl
theorem msl_put (m : Mem) {a : Int} (i : Nat) : (msl (put m a) i).k = (msl m i).k ∧ (msl (put m a) i).till = (msl m i).till ∧ (a.toNat ≠ i → msl (put m a) i = msl m i) := by
  unfold put
  split
  · exact ⟨rfl, rfl, fun _ => rfl⟩
  · split
    · have e : msl { m with slots := m.slots.modify a.toNat (refsBy (-1)), free := m.free ++ [a] } i = if a.toNat = i ∧ a.toNat < m.slots.length then refsBy (-1) (msl m i) else msl m i := getD_modify _ _ _ _
      rw [e]
      refine ⟨?_, ?_, fun h => by rw [if_neg fun z => h z.1]⟩ <;> split <;> rfl
    · have e : msl { m with slots := m.slots.modify a.toNat (refsBy (-1)) } i = if a.toNat = i ∧ a.toNat < m.slots.length then refsBy (-1) (msl m i) else msl m i := getD_modify _ _ _ _
      rw [e]
      refine ⟨?_, ?_, fun h => by rw [if_neg fun z => h z.1]⟩ <;> split <;> rfl
/-- A slot that is in no chain is put: chains stay. -/
theorem put_off {y : Mem} (hC : ChainsOk y) {t : Int} (h0 : 0 ≤ t) (h1 : t < y.slots.length) (hn : ∀ i, i < y.heads.length → t ∉ chL y i) :
    ChainsOk (put y t) ∧ (∀ b, b < y.heads.length → chL (put y t) b = chL y b) ∧ flowsOf (put y t) = flowsOf y := by
  obtain ⟨e1, e2, _, _⟩ := put_len y t
  refine off_ok hC (put_ok hC.mem h0 h1) e1 e2 fun b hb c hc => (msl_put y c.toNat).2.2 fun z => hn b hb ?_
  have := chL_mem hC hc
  rw [show t = c from by omega]
  exact hc
/-- A chain's lock is had, or let go. -/
theorem lock_chains {m : Mem} (hC : ChainsOk m) {b : Nat} {v : Int} (h0 : -1 ≤ v) (h1 : v < 5) : ChainsOk { m with locks := m.locks.set b v } ∧ (∀ i, i < m.heads.length → chL { m with locks := m.locks.set b v } i = chL m i) ∧ flowsOf { m with locks := m.locks.set b v } = flowsOf m := by
  have hm := hC.mem
  refine off_ok hC ⟨hm.ns, hm.nh1, hm.nh4, by simp [hm.nl], hm.now0, hm.now1, hm.slot, fun i hi => ?_, hm.free, hm.nodup, hm.leak⟩ rfl rfl fun _ _ _ _ => rfl
  have h := hm.head i hi
  show HeadOk _ _ (m.heads.getD i 0) ((m.locks.set b v).getD i 0)
  by_cases e : b = i
  · subst e
    rw [getD_set_self (by rw [hm.nl]; exact hi)]
    exact ⟨h.h0, h.n0, h.n1, h0, h1⟩
  · have : (m.locks.set b v).getD i 0 = m.locks.getD i 0 := by rw [List.getD_eq_getElem?_getD, List.getElem?_set_ne e, ← List.getD_eq_getElem?_getD]
    rw [this]; exact h

/-- A Drop of a key in its chain. -/
def dpF (k : Key) (pc cur prev slot e : Int) : Frm := ⟨⟨3, k, 0, 0, 0⟩, pc, cur, prev, slot, 0, [], false, e⟩
def dp (m : Mem) (f : Frm) : Frm × Mem := dropStep m f 0
theorem dp_bf {m : Mem} {k : Key} {pc cur p s e : Int} : bucketFor m (dpF k pc cur p s e).c = bk m k := rfl
theorem dp_lock {m : Mem} {k : Key} {c p s e : Int} (h : m.locks.getD (bk m k).toNat 0 = -1) : dp m (dpF k 0 c p s e) = (dpF k 1 c p s e, { m with locks := m.locks.set (bk m k).toNat 0 }) := by
  have hl : lock m (bk m k) 0 = ({ m with locks := m.locks.set (bk m k).toNat 0 }, true) := by unfold lock; rw [if_pos h]
  unfold dp dropStep
  rw [if_pos (show (dpF _ 0 _ _ _ _).pc = 0 from rfl), dp_bf, hl]; rfl
theorem dp_begin {m : Mem} {k : Key} {c p s e : Int} : dp m (dpF k 1 c p s e) = (dpF k 2 (headAt m (bk m k)) 0 s e, m) := by
  unfold dp dropStep
  rw [if_neg (by simp [dpF]), if_pos (show (dpF _ 1 _ _ _ _).pc = 1 from rfl), dp_bf]; rfl
theorem dp_end {m : Mem} {k : Key} {c p s e : Int} (h : c ≤ 0) : dp m (dpF k 2 c p s e) = (dpF k 5 c p s 5, m) := by
  unfold dp dropStep
  rw [if_neg (by simp [dpF]), if_neg (by simp [dpF]), if_pos (show (dpF _ 2 _ _ _ _).pc = 2 from rfl), if_pos (show (dpF k 2 c p s e).cur ≤ 0 from h)]; rfl
theorem dp_no {m : Mem} {k : Key} {a p s e : Int} (h : 0 ≤ a) (hk : kys m a ≠ k) : dp m (dpF k 2 (a + 1) p s e) = (dpF k 3 (a + 1) p s e, m) := by
  have e1 : at1 m (dpF k 2 (a + 1) p s e) = msl m a.toNat := by unfold at1 dpF; rw [show a + 1 - 1 = a from by omega]
  unfold dp dropStep
  rw [if_neg (by simp [dpF]), if_neg (by simp [dpF]), if_pos (show (dpF _ 2 _ _ _ _).pc = 2 from rfl), if_neg (by simp only [dpF]; omega), e1, if_neg (show ¬ (msl m a.toNat).k = (dpF k 2 (a + 1) p s e).c.k from hk)]; rfl
theorem dp_yes {m : Mem} {k : Key} {a p s e : Int} (h : 0 ≤ a) (hk : kys m a = k) : dp m (dpF k 2 (a + 1) p s e) = (dpF k 4 (a + 1) p s e, m) := by
  have e1 : at1 m (dpF k 2 (a + 1) p s e) = msl m a.toNat := by unfold at1 dpF; rw [show a + 1 - 1 = a from by omega]
  unfold dp dropStep
  rw [if_neg (by simp [dpF]), if_neg (by simp [dpF]), if_pos (show (dpF _ 2 _ _ _ _).pc = 2 from rfl), if_neg (by simp only [dpF]; omega), e1, if_pos (show (msl m a.toNat).k = (dpF k 2 (a + 1) p s e).c.k from hk)]; rfl
theorem dp_next {m : Mem} {k : Key} {a p s e : Int} (h : 0 ≤ a) : dp m (dpF k 3 (a + 1) p s e) = (dpF k 2 (nxt m a) (a + 1) s e, m) := by
  have e1 : at1 m (dpF k 3 (a + 1) p s e) = msl m a.toNat := by unfold at1 dpF; rw [show a + 1 - 1 = a from by omega]
  unfold dp dropStep
  rw [if_neg (by simp [dpF]), if_neg (by simp [dpF]), if_neg (by simp [dpF]), if_pos ⟨rfl, by simp only [dpF]; omega⟩, e1]; rfl
theorem dp_cut {m : Mem} {k : Key} {a p s e : Int} (h : 0 ≤ a) : dp m (dpF k 4 (a + 1) p s e) = (dpF k 5 (a + 1) p a 0, cut m p a (bk m k)) := by
  have e1 : (dpF k 4 (a + 1) p s e).cur - 1 = a := by simp only [dpF]; omega
  unfold dp dropStep
  rw [if_neg (by simp [dpF]), if_neg (by simp [dpF]), if_neg (by simp [dpF]), if_neg (by simp [dpF]), if_pos ⟨rfl, by simp only [dpF]; omega⟩, dp_bf, e1]; rfl
theorem dp_unlock {m : Mem} {k : Key} {c p s e : Int} (h : m.locks.getD (bk m k).toNat 0 = 0) : dp m (dpF k 5 c p s e) = (dpF k 6 c p s e, { m with locks := m.locks.set (bk m k).toNat (-1) }) := by
  have hl : unlock m (bk m k) 0 = { m with locks := m.locks.set (bk m k).toNat (-1) } := by unfold unlock; rw [if_pos h]
  unfold dp dropStep
  rw [if_neg (by simp [dpF]), if_neg (by simp [dpF]), if_neg (by simp [dpF]), if_neg (by simp [dpF]), if_neg (by simp [dpF]), if_pos (show (dpF _ 5 _ _ _ _).pc = 5 from rfl), dp_bf, hl]; rfl
theorem dp_put {m : Mem} {k : Key} {c p s e : Int} (h : 0 ≤ s) : dp m (dpF k 6 c p s e) = (endFrame (dpF k 6 c p (-1) e) e, put m s) := by
  unfold dp dropStep
  rw [if_neg (by simp [dpF]), if_neg (by simp [dpF]), if_neg (by simp [dpF]), if_neg (by simp [dpF]), if_neg (by simp [dpF]), if_neg (by simp [dpF]), if_pos (show (dpF _ 6 _ _ _ _).pc = 6 from rfl), if_pos (show 0 ≤ (dpF k 6 c p s e).slot from h), if_pos (show 0 ≤ (dpF k 6 c p s e).slot from h)]; rfl
theorem dp_none {m : Mem} {k : Key} {c p e : Int} : dp m (dpF k 6 c p (-1) e) = (endFrame (dpF k 6 c p (-1) e) e, m) := by
  unfold dp dropStep
  rw [if_neg (by simp [dpF]), if_neg (by simp [dpF]), if_neg (by simp [dpF]), if_neg (by simp [dpF]), if_neg (by simp [dpF]), if_neg (by simp [dpF]), if_pos (show (dpF _ 6 _ _ _ _).pc = 6 from rfl), if_neg (by simp [dpF]), if_neg (by simp [dpF])]; rfl
/-- What stands ahead of what comes next. -/
def lastOf (l : List Int) (p : Int) : Int := match l.getLast? with | none => p | some c => c + 1
theorem lastOf_cons (c : Int) (l : List Int) (p : Int) : lastOf (c :: l) p = lastOf l (c + 1) := by
  unfold lastOf
  cases l with
  | nil => rfl
  | cons d l =>
    rw [List.getLast?_cons_cons]
    cases h : (d :: l).getLast? with
    | none => simp at h
    | some e => rfl
theorem dp_walk {m : Mem} {k : Key} {s e : Int} : ∀ {l : List Int} {n p q : Int} {N : Nat}, Seg m n l q → (∀ a ∈ l, kys m a ≠ k) → aloneR dp (2 * l.length + N) (dpF k 2 n p s e) m = aloneR dp N (dpF k 2 q (lastOf l p) s e) m
  | [], n, p, q, N, h, _ => by
    have h : n = q := h
    subst h
    rw [List.length_nil, Nat.mul_zero, Nat.zero_add]; rfl
  | c :: l, n, p, q, N, h, hk => by
    obtain ⟨h1, h2, h3⟩ := h
    subst h1
    rw [List.length_cons, show 2 * (l.length + 1) + N = 2 * l.length + N + 1 + 1 from by omega, alone_on (dp_no (by omega) (hk c (by simp))) rfl, alone_on (dp_next (by omega)) rfl, lastOf_cons]
    exact dp_walk h3 fun a ha => hk a (by simp [ha])
/-- A Drop that goes on alone. -/
theorem drop_alone {m : Mem} (hC : ChainsOk m) {k : Key} (hk : Key.Ok k) (hl : ∀ i, i < m.heads.length → m.locks.getD i 0 = -1) :
    ∃ f x, aloneR dp (2 * m.slots.length + 6) (newFrame ⟨3, k, 0, 0, 0⟩) m = (f, x, true) ∧ ChainsOk x ∧ x.locks = m.locks ∧ x.slots.length = m.slots.length ∧
      (((∀ w ∈ flowsOf m, w.k ≠ k) ∧ f.e = 5 ∧ x = m) ∨
       ((∃ w ∈ flowsOf m, w.k = k) ∧ f.e = 0 ∧ flowsOf x = (flowsOf m).filter (fun w => decide (w.k ≠ k)) ∧ ∀ w ∈ flowsOf m, w.k = k → (msl x w.slot.toNat).refs = (msl m w.slot.toNat).refs - 1)) := by
  have hm := hC.mem
  have hb := bk_range hm hk
  have hst : newFrame ⟨3, k, 0, 0, 0⟩ = dpF k 0 0 0 (-1) 0 := rfl
  have hlk : m.locks.getD (bk m k).toNat 0 = -1 := hl _ (by omega)
  have hll : (bk m k).toNat < m.locks.length := by rw [hm.nl]; omega
  rw [hst, show 2 * m.slots.length + 6 = 2 * m.slots.length + 5 + 1 from rfl, alone_on (dp_lock hlk) rfl]
  obtain ⟨z, hz⟩ : ∃ z : Mem, z = { m with locks := m.locks.set (bk m k).toNat 0 } := ⟨_, rfl⟩
  rw [← hz]
  have zm : ∀ i, msl z i = msl m i := fun i => by rw [hz]; rfl
  have zk : ∀ c, kys z c = kys m c := fun c => by unfold kys; rw [zm]
  have zb : bk z k = bk m k := by rw [hz]; rfl
  have zl : z.locks.getD (bk m k).toNat 0 = 0 := by rw [hz]; exact getD_set_self hll
  have back : z.locks.set (bk m k).toNat (-1) = m.locks := by rw [hz]; exact set_back hlk hll
  rw [show 2 * m.slots.length + 5 = 2 * m.slots.length + 4 + 1 from rfl, alone_on dp_begin rfl, zb]
  obtain ⟨b, hbb⟩ : ∃ b : Nat, bk m k = b := ⟨(bk m k).toNat, by omega⟩
  have hch := hC.ch (b := b) (by omega)
  obtain ⟨hp, hle⟩ := chainOf_iff.1 hch.of
  have hp : Path z (headAt z (bk m k)) (chL m b) (-1 - b) := by
    have e : headAt z (bk m k) = headAt m b := by rw [hz, hbb]; rfl
    rw [e]; exact Path.congr (fun c _ => by unfold nxt; rw [zm]) hp
  rcases path_split (k := k) hp with ⟨k1, k2⟩ | ⟨l1, c, l2, e1, k1, k2, k3, k4⟩
  · rw [show 2 * m.slots.length + 4 = 2 * (chL m b).length + ((2 * m.slots.length + 1 - 2 * (chL m b).length) + 1 + 1 + 1) from by omega, dp_walk k2 k1, alone_on (dp_end (by omega)) rfl, alone_on (dp_unlock (by rw [zb]; exact zl)) rfl, alone_end dp_none rfl, zb]
    have ex : ({ z with locks := z.locks.set (bk m k).toNat (-1) } : Mem) = m := by rw [back, hz]
    rw [ex]
    refine ⟨_, _, rfl, hC, rfl, rfl, .inl ⟨fun w hw e => ?_, rfl, rfl⟩⟩
    obtain ⟨_, _, q3, _, _, _, q7⟩ := flows_at hC hw
    rw [e] at q3 q7
    rw [hbb, Int.toNat_natCast] at q7
    exact k1 _ q7 (by rw [zk]; exact q3)
  · have hc : c ∈ chL m b := by rw [e1]; simp
    have hl1 : l1.length + 1 ≤ (chL m b).length := by rw [e1]; simp
    have hcr := chL_mem hC hc
    have k2 : kys m c = k := by rw [← zk]; exact k2
    have hnl : c ∉ l1 := fun h => k1 c h (by rw [zk]; exact k2)
    have hpv : lastOf l1 0 = prevOf c (chL m b) 0 := by rw [e1]; exact (prevOf_split hnl).symm
    obtain ⟨y, hy⟩ : ∃ y, y = cut m (lastOf l1 0) c (bk m k) := ⟨_, rfl⟩
    obtain ⟨g1, g2, g3, g4, g5⟩ := cut_ok hC (b := b) (by omega) hc
    rw [← hpv, ← hbb, ← hy] at g1 g2 g3 g4 g5
    have hzy : cut z (lastOf l1 0) c (bk m k) = { y with locks := z.locks } := by rw [hy, hz]; exact cut_lock _ _ _ _ _
    have ylk : y.locks = m.locks := by rw [hy]; exact (cut_keeps _ _ _ _).1
    rw [show 2 * m.slots.length + 4 = 2 * l1.length + ((2 * m.slots.length - 2 * l1.length) + 1 + 1 + 1 + 1) from by omega, dp_walk k3 k1, alone_on (dp_yes k4 (by rw [zk]; exact k2)) rfl, alone_on (dp_cut k4) rfl, zb, hzy]
    have yb : bk ({ y with locks := z.locks } : Mem) k = bk m k := by
      show (bucketOf k y.heads.length).1 = bk m k
      rw [g5]; rfl
    rw [alone_on (dp_unlock (by rw [yb]; exact zl)) rfl, yb, alone_end (dp_put k4) rfl]
    have ex : ({ ({ y with locks := z.locks } : Mem) with locks := ({ y with locks := z.locks } : Mem).locks.set (bk m k).toNat (-1) } : Mem) = y := by
      show ({ y with locks := z.locks.set (bk m k).toNat (-1) } : Mem) = y
      rw [back, ← ylk]
    rw [ex]
    have offc : ∀ i, i < y.heads.length → c ∉ chL y i := fun i hi hci => by
      rw [g2 i (by omega)] at hci
      split at hci
      · rename_i e
        subst e
        exact (List.Nodup.mem_erase_iff hch.ndl).1 hci |>.1 rfl
      · rename_i e
        have h1 := ((hC.ch (b := i) (by omega)).ok c hci).bk
        have h2 := (hch.ok c hc).bk
        rw [h1] at h2
        exact e (by omega)
    obtain ⟨xC, xch, xfl⟩ := put_off g1 hcr.1 (by rw [g4]; exact hcr.2) offc
    obtain ⟨p1, p2, p3, p4⟩ := put_len y c
    have yf : ∀ d, flowAt y d = flowAt m d := fun d => flowAt_like (g3 d.toNat).2.1 (g3 d.toNat).2.2.1
    have yfl : flowsOf y = (flowsOf m).filter (fun w => decide (w.k ≠ k)) := flowsOf_filter g5 fun i hi => by
      have e0 : (chL y i).map (flowAt y) = (chL y i).map (flowAt m) := List.map_congr_left fun d _ => yf d
      rw [e0, List.filter_map, g2 i hi]
      congr 1
      split
      · rename_i e
        subst e
        exact erase_filter hch.nd hc k2
      · rename_i e
        refine (List.filter_eq_self.2 fun d hd => ?_).symm
        have h1 := ((hC.ch hi).ok d hd).bk
        show decide (kys m d ≠ k) = true
        exact decide_eq_true fun z => by
          rw [z, hbb] at h1
          exact e (by omega)
    refine ⟨_, _, rfl, xC, p3.trans ylk, p1.trans g4, .inr ⟨⟨flowAt m c, flows_of (by omega) hc, k2⟩, rfl, by rw [xfl]; exact yfl, fun w hw e => ?_⟩⟩
    obtain ⟨q1, q2, q3, _, _, _, q7⟩ := flows_at hC hw
    rw [e] at q3 q7
    rw [hbb, Int.toNat_natCast] at q7
    have hwc : w.slot = c := nodup_map_inj hch.nd q7 hc (q3.trans k2.symm)
    rw [hwc]
    have r0 := (g1.mem.refs hcr.1 (by rw [g4]; exact hcr.2)).1
    have rl := (g3 c.toNat).1
    have rn : (msl y c.toNat).refs ≠ 0 := by rw [rl]; exact (hch.ok c hc).refs
    rw [← rl]
    unfold put
    rw [if_neg rn]
    have em : ∀ l : List Int, msl { y with slots := y.slots.modify c.toNat (refsBy (-1)), free := l } c.toNat = refsBy (-1) (msl y c.toNat) := fun l => by
      show (y.slots.modify c.toNat (refsBy (-1))).getD c.toNat default = _
      rw [getD_modify, if_pos ⟨rfl, by rw [g4]; omega⟩]; rfl
    split
    · rw [em]; show _ + -1 = _ - 1; omega
    · have := em y.free
      rw [show ({ y with slots := y.slots.modify c.toNat (refsBy (-1)), free := y.free } : Mem) = { y with slots := y.slots.modify c.toNat (refsBy (-1)) } from rfl] at this
      rw [this]; show _ + -1 = _ - 1; omega
end Go.Proofs.Ytpmamacjepcdmaa

/- Plain: a Sweep, and a List, that go on alone. -/
namespace Go.Proofs.Ytpmamacjepcdmaa
open Go Go.Sy Go.RowKit
set_option linter.unusedSimpArgs false
set_option linter.unusedVariables false

/-- A Sweep (4) or a List (5) of a chain. -/
def swF (kd : Int) (b : Int) (pc cur prev slot n : Int) (ks : List Key) : Frm := ⟨⟨kd, ⟨0, 0⟩, 0, b, 0⟩, pc, cur, prev, slot, n, ks, false, 0⟩
def sw (m : Mem) (f : Frm) : Frm × Mem := sweepStep m f 0
section
variable {m : Mem} {kd b pc c p s n a : Int} {ks : List Key}
theorem sw_bf (h : kd = 4 ∨ kd = 5) : bucketFor m (swF kd b pc c p s n ks).c = b := by
  unfold bucketFor
  rw [if_pos (show (swF kd b pc c p s n ks).c.kind = 4 ∨ (swF kd b pc c p s n ks).c.kind = 5 from h)]; rfl
theorem sw_lock (hk : kd = 4 ∨ kd = 5) (h : m.locks.getD b.toNat 0 = -1) : sw m (swF kd b 0 c p s n ks) = (swF kd b 1 c p s n ks, { m with locks := m.locks.set b.toNat 0 }) := by
  have hl : lock m b 0 = ({ m with locks := m.locks.set b.toNat 0 }, true) := by unfold lock; rw [if_pos h]
  unfold sw sweepStep
  rw [if_pos (show (swF _ _ 0 _ _ _ _ _).pc = 0 from rfl), sw_bf hk, hl]; rfl
theorem sw_begin (hk : kd = 4 ∨ kd = 5) : sw m (swF kd b 1 c p s n ks) = (swF kd b 2 (headAt m b) 0 s n ks, m) := by
  unfold sw sweepStep
  rw [if_neg (by simp [swF]), if_pos (show (swF _ _ 1 _ _ _ _ _).pc = 1 from rfl), sw_bf hk]; rfl
theorem sw_end (h : c ≤ 0) : sw m (swF kd b 2 c p s n ks) = (swF kd b 6 c p s n ks, m) := by
  unfold sw sweepStep
  rw [if_neg (by simp [swF]), if_neg (by simp [swF]), if_pos ⟨rfl, h⟩]; rfl
theorem sw_at1 (pc : Int) : at1 m (swF kd b pc (a + 1) p s n ks) = msl m a.toNat := by unfold at1 swF; rw [show a + 1 - 1 = a from by omega]
theorem sw_keep (h : 0 ≤ a) (ht : m.now < (msl m a.toNat).till) : sw m (swF 4 b 2 (a + 1) p s n ks) = (swF 4 b 3 (a + 1) p s n ks, m) := by
  unfold sw sweepStep
  rw [if_neg (by simp [swF]), if_neg (by simp [swF]), if_neg (by simp only [swF]; omega), if_neg (by simp [swF]), if_pos (show (swF _ _ 2 _ _ _ _ _).pc = 2 from rfl), sw_at1, if_neg (by omega)]; rfl
theorem sw_over (h : 0 ≤ a) (ht : (msl m a.toNat).till ≤ m.now) : sw m (swF 4 b 2 (a + 1) p s n ks) = (swF 4 b 4 (a + 1) p s n ks, m) := by
  unfold sw sweepStep
  rw [if_neg (by simp [swF]), if_neg (by simp [swF]), if_neg (by simp only [swF]; omega), if_neg (by simp [swF]), if_pos (show (swF _ _ 2 _ _ _ _ _).pc = 2 from rfl), sw_at1, if_pos ht]; rfl
theorem sw_key (h : 0 ≤ a) (hl : ks.length < 100) : sw m (swF 5 b 2 (a + 1) p s n ks) = (swF 5 b 3 (a + 1) p s n (ks ++ [kys m a]), m) := by
  unfold sw sweepStep
  rw [if_neg (by simp [swF]), if_neg (by simp [swF]), if_neg (by simp only [swF]; omega), if_pos ⟨rfl, rfl⟩, sw_at1, if_pos (show (swF 5 b 2 (a + 1) p s n ks).keys.length < 100 from hl)]; rfl
theorem sw_next (h : 0 ≤ a) : sw m (swF kd b 3 (a + 1) p s n ks) = (swF kd b 2 (nxt m a) (a + 1) s n ks, m) := by
  unfold sw sweepStep
  rw [if_neg (by simp [swF]), if_neg (by simp [swF]), if_neg (by simp [swF]), if_neg (by simp [swF]), if_neg (by simp [swF]), if_pos ⟨rfl, by simp only [swF]; omega⟩, sw_at1]; rfl
theorem sw_cut (hk : kd = 4 ∨ kd = 5) (h : 0 ≤ a) : sw m (swF kd b 4 (a + 1) p s n ks) = (swF kd b 5 (nxt m a) p a n ks, cut m p a b) := by
  have e1 : (swF kd b 4 (a + 1) p s n ks).cur - 1 = a := by simp only [swF]; omega
  unfold sw sweepStep
  rw [if_neg (by simp [swF]), if_neg (by simp [swF]), if_neg (by simp [swF]), if_neg (by simp [swF]), if_neg (by simp [swF]), if_neg (by simp [swF]), if_pos ⟨rfl, by simp only [swF]; omega⟩, sw_bf hk, e1, sw_at1]; rfl
theorem sw_put (h : 0 ≤ s) (hn : n < 1000000) : sw m (swF kd b 5 c p s n ks) = (swF kd b 2 c p (-1) (n + 1) ks, put m s) := by
  unfold sw sweepStep
  rw [if_neg (by simp [swF]), if_neg (by simp [swF]), if_neg (by simp [swF]), if_neg (by simp [swF]), if_neg (by simp [swF]), if_neg (by simp [swF]), if_neg (by simp [swF]), if_pos ⟨rfl, h⟩, if_neg (by simp only [swF]; omega)]; rfl
theorem sw_done (hk : kd = 4 ∨ kd = 5) (h : m.locks.getD b.toNat 0 = 0) : sw m (swF kd b 6 c p s n ks) = (endFrame (swF kd b 6 c p s n ks) 0, { m with locks := m.locks.set b.toNat (-1) }) := by
  have hl : unlock m b 0 = { m with locks := m.locks.set b.toNat (-1) } := by unfold unlock; rw [if_pos h]
  unfold sw sweepStep
  rw [if_neg (by simp [swF]), if_neg (by simp [swF]), if_neg (by simp [swF]), if_neg (by simp [swF]), if_neg (by simp [swF]), if_neg (by simp [swF]), if_neg (by simp [swF]), if_neg (by simp [swF]), if_pos (show (swF _ _ 6 _ _ _ _ _).pc = 6 from rfl), sw_bf hk, hl]
end
theorem ls_walk {m : Mem} {b s n : Int} : ∀ {l : List Int} {c p q : Int} {ks : List Key} {N : Nat}, Seg m c l q → ks.length + l.length ≤ 100 → aloneR sw (2 * l.length + N) (swF 5 b 2 c p s n ks) m = aloneR sw N (swF 5 b 2 q (lastOf l p) s n (ks ++ l.map (kys m))) m
  | [], c, p, q, ks, N, h, _ => by
    have h : c = q := h
    subst h
    rw [List.length_nil, Nat.mul_zero, Nat.zero_add, List.map_nil, List.append_nil]; rfl
  | d :: l, c, p, q, ks, N, h, hk => by
    obtain ⟨h1, h2, h3⟩ := h
    subst h1
    rw [List.length_cons] at hk
    rw [List.length_cons, show 2 * (l.length + 1) + N = 2 * l.length + N + 1 + 1 from by omega, alone_on (sw_key (by omega) (by omega)) rfl, alone_on (sw_next (by omega)) rfl, lastOf_cons, ls_walk h3 (by simp; omega), List.map_cons, List.append_assoc, List.singleton_append]
theorem lastOf_snoc (l : List Int) (c p : Int) : lastOf (l ++ [c]) p = c + 1 := by
  unfold lastOf
  rw [List.getLast?_append]; rfl
/-- Where a chain's rest begins. -/
def headOf (b : Nat) : List Int → Int
  | [] => -1 - b
  | c :: _ => c + 1
/-- What a Sweep leaves behind from where it stands. -/
theorem sw_walk {b : Nat} : ∀ {l kept : List Int} {m : Mem} {s N : Int} {M : Nat}, ChainsOk m → b < m.heads.length → chL m b = kept ++ l → (∀ c ∈ kept, m.now < (msl m c.toNat).till) → 0 ≤ N → N + l.length ≤ 1000000 →
    ∃ (x : Mem) (p' s' N' : Int) (j : Nat), aloneR sw (3 * l.length + M) (swF 4 b 2 (headOf b l) (lastOf kept 0) s N []) m = aloneR sw (M + j) (swF 4 b 2 (-1 - b) p' s' N' []) x ∧
      ChainsOk x ∧ x.locks = m.locks ∧ x.now = m.now ∧ x.heads.length = m.heads.length ∧ x.slots.length = m.slots.length ∧ chL x b = (chL m b).filter (fun c => decide (m.now < (msl m c.toNat).till)) ∧ (∀ i, i < m.heads.length → i ≠ b → chL x i = chL m i) ∧
      (∀ c, flowAt x c = flowAt m c) ∧ N' + (chL x b).length = N + (chL m b).length
  | [], kept, m, s, N, M, hC, hb, hl, hk, _, _ => by
    have hf : (chL m b).filter (fun c => decide (m.now < (msl m c.toNat).till)) = chL m b := List.filter_eq_self.2 fun c hc => by
      rw [hl, List.append_nil] at hc
      exact decide_eq_true (hk c hc)
    exact ⟨m, lastOf kept 0, s, N, 0, by rw [List.length_nil, Nat.mul_zero, Nat.zero_add, Nat.add_zero]; rfl, hC, rfl, rfl, rfl, rfl, hf.symm, fun _ _ _ => rfl, fun _ => rfl, rfl⟩
  | c :: l, kept, m, s, N, M, hC, hb, hl, hk, h0, hN => by
    have hch := hC.ch hb
    have hc : c ∈ chL m b := by rw [hl]; simp
    have hcr := chL_mem hC hc
    obtain ⟨hp, _⟩ := chainOf_iff.1 hch.of
    rw [hl] at hp
    obtain ⟨q, _, hp2⟩ := path_append.1 hp
    obtain ⟨hq, _, hp3⟩ := hp2
    have hnx : nxt m c = headOf b l := by
      cases l with
      | nil => exact hp3.1
      | cons d l => exact hp3.1
    rw [List.length_cons] at hN
    rw [List.length_cons]
    rw [show headOf b (c :: l) = c + 1 from rfl]
    by_cases ht : m.now < (msl m c.toNat).till
    · rw [show 3 * (l.length + 1) + M = 3 * l.length + (M + 1) + 1 + 1 from by omega, alone_on (sw_keep hcr.1 ht) rfl, alone_on (sw_next hcr.1) rfl, hnx]
      obtain ⟨x, p', s', N', j, r1, r⟩ := sw_walk (l := l) (kept := kept ++ [c]) (m := m) (s := s) (N := N) (M := M + 1) hC hb (by rw [hl]; simp) (fun d hd => by
        rcases List.mem_append.1 hd with hd | hd
        · exact hk d hd
        · rw [List.mem_singleton.1 hd]; exact ht) h0 (by omega)
      rw [lastOf_snoc] at r1
      exact ⟨x, p', s', N', j + 1, by rw [r1, show M + 1 + j = M + (j + 1) from by omega], r⟩
    · rw [show 3 * (l.length + 1) + M = 3 * l.length + M + 1 + 1 + 1 from by omega, alone_on (sw_over hcr.1 (by omega)) rfl, alone_on (sw_cut (.inl rfl) hcr.1) rfl, alone_on (sw_put hcr.1 (by omega)) rfl, hnx]
      have hnk : c ∉ kept := fun h => ht (hk c h)
      have hpv : lastOf kept 0 = prevOf c (chL m b) 0 := by rw [hl]; exact (prevOf_split hnk).symm
      obtain ⟨y, hy⟩ : ∃ y, y = cut m (lastOf kept 0) c b := ⟨_, rfl⟩
      obtain ⟨g1, g2, g3, g4, g5⟩ := cut_ok hC hb hc
      obtain ⟨ck1, _, ck3⟩ := cut_keeps m (lastOf kept 0) c b
      rw [← hpv, ← hy] at g1 g2 g3 g4 g5
      rw [← hy] at ck1 ck3 ⊢
      have offc : ∀ i, i < y.heads.length → c ∉ chL y i := fun i hi hci => by
        rw [g2 i (by omega)] at hci
        split at hci
        · rename_i e
          subst e
          exact (List.Nodup.mem_erase_iff hch.ndl).1 hci |>.1 rfl
        · rename_i e
          have h1 := ((hC.ch (b := i) (by omega)).ok c hci).bk
          have h2 := (hch.ok c hc).bk
          rw [h1] at h2
          exact e (by omega)
      obtain ⟨zC, zch, _⟩ := put_off g1 hcr.1 (by rw [g4]; exact hcr.2) offc
      obtain ⟨p1, p2, p3, p4⟩ := put_len y c
      have zf : ∀ d, flowAt (put y c) d = flowAt m d := fun d => flowAt_like ((msl_put y d.toNat).1.trans (g3 d.toNat).2.1) ((msl_put y d.toNat).2.1.trans (g3 d.toNat).2.2.1)
      have zt : ∀ d : Int, (msl (put y c) d.toNat).till = (msl m d.toNat).till := fun d => congrArg Flow.till (zf d)
      have zn : (put y c).now = m.now := p4.trans ck3
      have hyb : chL (put y c) b = kept ++ l := by
        rw [zch b (by omega), g2 b hb, if_pos rfl, hl, List.erase_append_right _ hnk, List.erase_cons_head]
      obtain ⟨x, p', s', N', j, r1, r2, r3, r4, r5, r6, r7, r8, r9, r10⟩ := sw_walk (l := l) (kept := kept) (m := put y c) (s := -1) (N := N + 1) (M := M) zC (by rw [p2]; omega) hyb (fun d hd => by rw [zt, zn]; exact hk d hd) (by omega) (by omega)
      refine ⟨x, p', s', N', j, r1, r2, r3.trans (p3.trans ck1), r4.trans zn, by rw [r5, p2, g5], by rw [r6, p1, g4], ?_, fun i hi hne => ?_, fun d => (r9 d).trans (zf d), ?_⟩
      · rw [r7, hyb, hl]
        have e : (fun d : Int => decide ((put y c).now < (msl (put y c) d.toNat).till)) = fun d => decide (m.now < (msl m d.toNat).till) := funext fun d => by rw [zt, zn]
        rw [e, List.filter_append, List.filter_append, List.filter_cons_of_neg (by simpa using ht)]
      · rw [r8 i (by rw [p2]; omega) hne, zch i (by omega), g2 i hi, if_neg hne]
      · rw [r10, hyb, hl]
        simp only [List.length_append, List.length_cons]
        omega
theorem sumF_diff {f g : Nat → Nat} {c d : Nat} : ∀ {n b : Nat}, b ≤ c → c < b + n → f c = g c + d → (∀ i, b ≤ i → i < b + n → i ≠ c → f i = g i) → sumF f n b = sumF g n b + d
  | 0, b, h1, h2, _, _ => by omega
  | n + 1, b, h1, h2, h3, h4 => by
    rw [sumF, sumF]
    by_cases e : b = c
    · subst e
      rw [h3, sumF_same fun i h5 h6 => h4 i (by omega) (by omega) (by omega)]
      omega
    · rw [h4 b (Nat.le_refl _) (by omega) e, sumF_diff (by omega) (by omega) h3 fun i h5 h6 h7 => h4 i (by omega) (by omega) h7]
      omega
/-- A Sweep that goes on alone. -/
theorem sweep_alone {m : Mem} (hC : ChainsOk m) {b : Nat} (hb : b < m.heads.length) (hl : ∀ i, i < m.heads.length → m.locks.getD i 0 = -1) :
    ∃ f x, aloneR sw (3 * m.slots.length + 5) (newFrame ⟨4, ⟨0, 0⟩, 0, b, 0⟩) m = (f, x, true) ∧ ChainsOk x ∧ f.e = 0 ∧
      flowsOf x = (flowsOf m).filter (fun w => !(decide (w.till ≤ m.now) && decide (w.slot ∈ chL m b))) ∧ f.n = (flowsOf m).length - (flowsOf x).length := by
  have hm := hC.mem
  have hst : newFrame ⟨4, ⟨0, 0⟩, 0, b, 0⟩ = swF 4 b 0 0 0 (-1) 0 [] := rfl
  have hch := hC.ch hb
  obtain ⟨hp, hle⟩ := chainOf_iff.1 hch.of
  have hlk : m.locks.getD (b : Int).toNat 0 = -1 := hl _ (by omega)
  have hll : (b : Int).toNat < m.locks.length := by rw [hm.nl]; omega
  rw [hst, alone_on (sw_lock (.inl rfl) hlk) rfl]
  obtain ⟨zC, zch, zfl⟩ := lock_chains hC (b := (b : Int).toNat) (v := 0) (by omega) (by omega)
  obtain ⟨z, hz⟩ : ∃ z : Mem, z = { m with locks := m.locks.set (b : Int).toNat 0 } := ⟨_, rfl⟩
  rw [← hz] at zC zch zfl ⊢
  have zm : ∀ i, msl z i = msl m i := fun i => by rw [hz]; rfl
  have zh : z.heads = m.heads := by rw [hz]
  have zn : z.now = m.now := by rw [hz]
  have zl : z.locks.getD (b : Int).toNat 0 = 0 := by rw [hz]; exact getD_set_self hll
  have back : z.locks.set (b : Int).toNat (-1) = m.locks := by rw [hz]; exact set_back hlk hll
  rw [alone_on (sw_begin (.inl rfl)) rfl]
  have hhd : headAt z b = headOf b (chL z b) := by
    rw [zch b hb]
    have e : headAt z b = headAt m b := by unfold headAt; rw [zh]
    rw [e]
    cases hc : chL m b with
    | nil => rw [hc] at hp; exact hp.1
    | cons c l => rw [hc] at hp; exact hp.1
  rw [hhd]
  have hzl : (chL z b).length ≤ m.slots.length := by rw [zch b hb]; exact hle
  have hns := hm.ns
  obtain ⟨x, p', s', N', j, r1, r2, r3, r4, r5, r6, r7, r8, r9, r10⟩ := sw_walk (b := b) (l := chL z b) (kept := []) (m := z) (s := -1) (N := 0) (M := 3 * m.slots.length + 3 - 3 * (chL z b).length) zC (by rw [zh]; exact hb) rfl (fun _ h => by cases h) (by omega) (by omega)
  have hone : lastOf [] 0 = 0 := rfl
  rw [hone] at r1
  rw [show 3 * m.slots.length + 3 = 3 * (chL z b).length + (3 * m.slots.length + 3 - 3 * (chL z b).length) from by omega, r1]
  rw [show 3 * m.slots.length + 3 - 3 * (chL z b).length + j = (3 * m.slots.length + 1 - 3 * (chL z b).length + j) + 1 + 1 from by omega]
  rw [alone_on (sw_end (by omega)) rfl, alone_end (sw_done (.inl rfl) (by rw [r3]; exact zl)) rfl]
  obtain ⟨wC, wch, wfl⟩ := lock_chains r2 (b := (b : Int).toNat) (v := -1) (by omega) (by omega)
  have xfl : flowsOf x = (flowsOf m).filter (fun w => !(decide (w.till ≤ m.now) && decide (w.slot ∈ chL m b))) := flowsOf_filter (by rw [r5, zh]) fun i hi => by
    have e0 : (chL x i).map (flowAt x) = (chL x i).map (flowAt m) := List.map_congr_left fun d _ => (r9 d).trans (flowAt_like (by rw [zm]) (by rw [zm]))
    rw [e0, List.filter_map]
    congr 1
    by_cases e : i = b
    · subst e
      rw [r7, zch i hi]
      refine List.filter_congr fun d hd => ?_
      show _ = !(decide ((msl m d.toNat).till ≤ m.now) && decide (d ∈ chL m i))
      rw [decide_eq_true hd, Bool.and_true, zn, zm]
      by_cases h : m.now < (msl m d.toNat).till
      · rw [decide_eq_true h, decide_eq_false (by omega)]; rfl
      · rw [decide_eq_false h, decide_eq_true (by omega)]; rfl
    · rw [r8 i (by rw [zh]; exact hi) e, zch i hi]
      refine (List.filter_eq_self.2 fun d hd => ?_).symm
      have : d ∉ chL m b := fun hd' => by
        have h1 := ((hC.ch hi).ok d hd).bk
        have h2 := (hch.ok d hd').bk
        rw [h1] at h2
        exact e (by omega)
      show (!(decide ((msl m d.toNat).till ≤ m.now) && decide (d ∈ chL m b))) = true
      rw [decide_eq_false this, Bool.and_false]; rfl
  refine ⟨_, _, rfl, wC, rfl, by rw [wfl]; exact xfl, ?_⟩
  rw [wfl]
  show N' = _
  have hzb : chL z b = chL m b := zch b hb
  have hlt : (chL x b).length ≤ (chL m b).length := by rw [r7, hzb]; exact List.length_filter_le _ _
  have hcnt : (flowsOf m).length = (flowsOf x).length + ((chL m b).length - (chL x b).length) := by
    unfold flowsOf
    rw [flowsFrom_len, flowsFrom_len, r5, zh, sumF_diff (f := fun i => (chL m i).length) (g := fun i => (chL x i).length) (c := b) (d := (chL m b).length - (chL x b).length) (by omega) (by omega) (by show (chL m b).length = (chL x b).length + _; omega) fun i _ h2 h3 => by show (chL m i).length = (chL x i).length; rw [r8 i (by rw [zh]; omega) h3, zch i (by omega)]]
    simp
  rw [hzb] at r10
  omega
/-- A List that goes on alone. -/
theorem list_alone {m : Mem} (hC : ChainsOk m) {b : Nat} (hb : b < m.heads.length) (hl : ∀ i, i < m.heads.length → m.locks.getD i 0 = -1) :
    ∃ f, aloneR sw (2 * m.slots.length + 5) (newFrame ⟨5, ⟨0, 0⟩, 0, b, 0⟩) m = (f, m, true) ∧ f.e = 0 ∧ f.keys = (chL m b).map (kys m) := by
  have hm := hC.mem
  have hst : newFrame ⟨5, ⟨0, 0⟩, 0, b, 0⟩ = swF 5 b 0 0 0 (-1) 0 [] := rfl
  have hch := hC.ch hb
  obtain ⟨hp, hle⟩ := chainOf_iff.1 hch.of
  have hlk : m.locks.getD (b : Int).toNat 0 = -1 := hl _ (by omega)
  have hll : (b : Int).toNat < m.locks.length := by rw [hm.nl]; omega
  have hns := hm.ns
  rw [hst, alone_on (sw_lock (.inr rfl) hlk) rfl]
  obtain ⟨z, hz⟩ : ∃ z : Mem, z = { m with locks := m.locks.set (b : Int).toNat 0 } := ⟨_, rfl⟩
  rw [← hz]
  have zm : ∀ i, msl z i = msl m i := fun i => by rw [hz]; rfl
  have zl : z.locks.getD (b : Int).toNat 0 = 0 := by rw [hz]; exact getD_set_self hll
  have back : z.locks.set (b : Int).toNat (-1) = m.locks := by rw [hz]; exact set_back hlk hll
  have hs : Seg z (headAt z b) (chL m b) (-1 - b) := by
    have e : headAt z b = headAt m b := by rw [hz]; rfl
    rw [e]
    refine Seg.congr (m := m) (fun c _ => by unfold nxt; rw [zm]) ?_
    have := (path_append (m := m) (l1 := chL m b) (l2 := []) (n := headAt m b) (e := -1 - b)).1 (by rw [List.append_nil]; exact hp)
    obtain ⟨q, h1, h2⟩ := this
    rw [h2.1] at h1
    exact h1
  rw [alone_on (sw_begin (.inr rfl)) rfl, show 2 * m.slots.length + 3 = 2 * (chL m b).length + ((2 * m.slots.length + 1 - 2 * (chL m b).length) + 1 + 1) from by omega, ls_walk hs (by simp; omega), alone_on (sw_end (by omega)) rfl, alone_end (sw_done (.inr rfl) zl) rfl]
  have ex : ({ z with locks := z.locks.set (b : Int).toNat (-1) } : Mem) = m := by rw [back, hz]
  rw [ex]
  refine ⟨_, rfl, rfl, ?_⟩
  show [] ++ (chL m b).map (kys z) = _
  rw [List.nil_append]
  exact List.map_congr_left fun c _ => by unfold kys; rw [zm]
end Go.Proofs.Ytpmamacjepcdmaa
