import Derived.Test.YtpmamacjepcdmaaCAloneAdd
import Derived.Test.YtpmamacjepcdmaaCSlices
/- Plain: a Drop that goes on alone; what is mapped, but for what is cut out. -/
namespace Go.Proofs.Ytpmamacjepcdmaa
open Go Go.Sy Go.RowKit
set_option linter.unusedSimpArgs false
set_option linter.unusedVariables false

theorem flowsFrom_filter {m x : Mem} {P : Flow → Bool} : ∀ {n b : Nat} {acc : List Flow}, (∀ i, b ≤ i → i < b + n → (chL x i).map (flowAt x) = ((chL m i).map (flowAt m)).filter P) → flowsFrom x n b (acc.filter P) = (flowsFrom m n b acc).filter P
  | 0, _, _, _ => rfl
  | n + 1, b, acc, h => by
    rw [flowsFrom, flowsFrom]
    have e : acc.filter P ++ (chainR x b).1.map (flowAt x) = (acc ++ (chainR m b).1.map (flowAt m)).filter P := by
      rw [List.filter_append]
      exact congrArg _ (h b (Nat.le_refl _) (by omega))
    rw [e]
    exact flowsFrom_filter fun i h3 h4 => h i (by omega) (by omega)
theorem flowsOf_filter {m x : Mem} {P : Flow → Bool} (hh : x.heads.length = m.heads.length) (h : ∀ i, i < m.heads.length → (chL x i).map (flowAt x) = ((chL m i).map (flowAt m)).filter P) : flowsOf x = (flowsOf m).filter P := by
  unfold flowsOf
  rw [hh]
  exact flowsFrom_filter (acc := []) fun i _ hi => h i (by omega)
theorem erase_filter {m : Mem} {t : Int} {k : Key} : ∀ {l : List Int}, (l.map (kys m)).Nodup → t ∈ l → kys m t = k → l.erase t = l.filter fun c => decide (kys m c ≠ k)
  | [], _, h, _ => by cases h
  | c :: l, hn, ht, e => by
    rw [List.map_cons, List.nodup_cons] at hn
    by_cases hc : c = t
    · subst hc
      have hall : l.filter (fun d => decide (kys m d ≠ k)) = l := List.filter_eq_self.2 fun d hd => decide_eq_true fun z => hn.1 (List.mem_map.2 ⟨d, hd, by rw [z, e]⟩)
      rw [List.erase_cons_head, List.filter_cons_of_neg (by simp [e]), hall]
    · have ht : t ∈ l := by rcases List.mem_cons.1 ht with h | h; exact absurd h.symm hc; exact h
      rw [List.erase_cons_tail (by simpa using hc), List.filter_cons_of_pos (by rw [decide_eq_true_eq]; exact fun z => hn.1 (List.mem_map.2 ⟨t, ht, by rw [e, z]⟩)), erase_filter hn.2 ht e]
theorem cut_keeps (m : Mem) (p a b : Int) : (cut m p a b).locks = m.locks ∧ (cut m p a b).free = m.free ∧ (cut m p a b).now = m.now := by
  unfold cut
  split <;> exact ⟨rfl, rfl, rfl⟩
theorem cut_lock (m : Mem) (p a b : Int) (l : List Int) : cut { m with locks := l } p a b = { cut m p a b with locks := l } := by
  unfold cut
  split <;> rfl
theorem put_lock (m : Mem) (a : Int) (l : List Int) : put { m with locks := l } a = { put m a with locks := l } := by
  unfold put
  show (if (msl m a.toNat).refs = 0 then _ else if (msl m a.toNat).refs = 1 then _ else _) = _
  split
  · rfl
  · split <;> rfl
theorem msl_put (m : Mem) {a : Int} (i : Nat) : (msl (put m a) i).k = (msl m i).k ∧ (msl (put m a) i).till = (msl m i).till ∧ (a.toNat ≠ i → msl (put m a) i = msl m i) := by
  unfold put
  split
  · exact ⟨rfl, rfl, fun _ => rfl⟩
  · split
    · have e : msl { m with slots := m.slots.modify a.toNat (refsBy (-1)), free := m.free ++ [a] } i = if a.toNat = i ∧ a.toNat < m.slots.length then refsBy (-1) (msl m i) else msl m i := getD_modify _ _ _ _
      rw [e]
      refine ⟨?_, ?_, fun h => by rw [if_neg fun z => h z.1]⟩ <;> split <;> rfl
    · have e : msl { m with slots := m.slots.modify a.toNat (refsBy (-1)) } i = if a.toNat = i ∧ a.toNat < m.slots.length then refsBy (-1) (msl m i) else msl m i := getD_modify _ _ _ _
      rw [e]
      refine ⟨?_, ?_, fun h => by rw [if_neg fun z => h z.1]⟩ <;> split <;> rfl
/-- A slot that is in no chain is put: chains stay. -/
theorem put_off {y : Mem} (hC : ChainsOk y) {t : Int} (h0 : 0 ≤ t) (h1 : t < y.slots.length) (hn : ∀ i, i < y.heads.length → t ∉ chL y i) :
    ChainsOk (put y t) ∧ (∀ b, b < y.heads.length → chL (put y t) b = chL y b) ∧ flowsOf (put y t) = flowsOf y := by
  obtain ⟨e1, e2, _, _⟩ := put_len y t
  refine off_ok hC (put_ok hC.mem h0 h1) e1 e2 fun b hb c hc => (msl_put y c.toNat).2.2 fun z => hn b hb ?_
  have := chL_mem hC hc
  rw [show t = c from by omega]
  exact hc
/-- A chain's lock is had, or let go. -/
theorem lock_chains {m : Mem} (hC : ChainsOk m) {b : Nat} {v : Int} (h0 : -1 ≤ v) (h1 : v < 5) : ChainsOk { m with locks := m.locks.set b v } ∧ (∀ i, i < m.heads.length → chL { m with locks := m.locks.set b v } i = chL m i) ∧ flowsOf { m with locks := m.locks.set b v } = flowsOf m := by
  have hm := hC.mem
  refine off_ok hC ⟨hm.ns, hm.nh1, hm.nh4, by simp [hm.nl], hm.now0, hm.now1, hm.slot, fun i hi => ?_, hm.free, hm.nodup, hm.leak⟩ rfl rfl fun _ _ _ _ => rfl
  have h := hm.head i hi
  show HeadOk _ _ (m.heads.getD i 0) ((m.locks.set b v).getD i 0)
  by_cases e : b = i
  · subst e
    rw [getD_set_self (by rw [hm.nl]; exact hi)]
    exact ⟨h.h0, h.n0, h.n1, h0, h1⟩
  · have : (m.locks.set b v).getD i 0 = m.locks.getD i 0 := by rw [List.getD_eq_getElem?_getD, List.getElem?_set_ne e, ← List.getD_eq_getElem?_getD]
    rw [this]; exact h

/-- A Drop of a key in its chain. -/
def dpF (k : Key) (pc cur prev slot e : Int) : Frm := ⟨⟨3, k, 0, 0, 0⟩, pc, cur, prev, slot, 0, [], false, e⟩
def dp (m : Mem) (f : Frm) : Frm × Mem := dropStep m f 0
theorem dp_bf {m : Mem} {k : Key} {pc cur p s e : Int} : bucketFor m (dpF k pc cur p s e).c = bk m k := rfl
theorem dp_lock {m : Mem} {k : Key} {c p s e : Int} (h : m.locks.getD (bk m k).toNat 0 = -1) : dp m (dpF k 0 c p s e) = (dpF k 1 c p s e, { m with locks := m.locks.set (bk m k).toNat 0 }) := by
  have hl : lock m (bk m k) 0 = ({ m with locks := m.locks.set (bk m k).toNat 0 }, true) := by unfold lock; rw [if_pos h]
  unfold dp dropStep
  rw [if_pos (show (dpF _ 0 _ _ _ _).pc = 0 from rfl), dp_bf, hl]; rfl
theorem dp_begin {m : Mem} {k : Key} {c p s e : Int} : dp m (dpF k 1 c p s e) = (dpF k 2 (headAt m (bk m k)) 0 s e, m) := by
  unfold dp dropStep
  rw [if_neg (by simp [dpF]), if_pos (show (dpF _ 1 _ _ _ _).pc = 1 from rfl), dp_bf]; rfl
theorem dp_end {m : Mem} {k : Key} {c p s e : Int} (h : c ≤ 0) : dp m (dpF k 2 c p s e) = (dpF k 5 c p s 5, m) := by
  unfold dp dropStep
  rw [if_neg (by simp [dpF]), if_neg (by simp [dpF]), if_pos (show (dpF _ 2 _ _ _ _).pc = 2 from rfl), if_pos (show (dpF k 2 c p s e).cur ≤ 0 from h)]; rfl
theorem dp_no {m : Mem} {k : Key} {a p s e : Int} (h : 0 ≤ a) (hk : kys m a ≠ k) : dp m (dpF k 2 (a + 1) p s e) = (dpF k 3 (a + 1) p s e, m) := by
  have e1 : at1 m (dpF k 2 (a + 1) p s e) = msl m a.toNat := by unfold at1 dpF; rw [show a + 1 - 1 = a from by omega]
  unfold dp dropStep
  rw [if_neg (by simp [dpF]), if_neg (by simp [dpF]), if_pos (show (dpF _ 2 _ _ _ _).pc = 2 from rfl), if_neg (by simp only [dpF]; omega), e1, if_neg (show ¬ (msl m a.toNat).k = (dpF k 2 (a + 1) p s e).c.k from hk)]; rfl
theorem dp_yes {m : Mem} {k : Key} {a p s e : Int} (h : 0 ≤ a) (hk : kys m a = k) : dp m (dpF k 2 (a + 1) p s e) = (dpF k 4 (a + 1) p s e, m) := by
  have e1 : at1 m (dpF k 2 (a + 1) p s e) = msl m a.toNat := by unfold at1 dpF; rw [show a + 1 - 1 = a from by omega]
  unfold dp dropStep
  rw [if_neg (by simp [dpF]), if_neg (by simp [dpF]), if_pos (show (dpF _ 2 _ _ _ _).pc = 2 from rfl), if_neg (by simp only [dpF]; omega), e1, if_pos (show (msl m a.toNat).k = (dpF k 2 (a + 1) p s e).c.k from hk)]; rfl
theorem dp_next {m : Mem} {k : Key} {a p s e : Int} (h : 0 ≤ a) : dp m (dpF k 3 (a + 1) p s e) = (dpF k 2 (nxt m a) (a + 1) s e, m) := by
  have e1 : at1 m (dpF k 3 (a + 1) p s e) = msl m a.toNat := by unfold at1 dpF; rw [show a + 1 - 1 = a from by omega]
  unfold dp dropStep
  rw [if_neg (by simp [dpF]), if_neg (by simp [dpF]), if_neg (by simp [dpF]), if_pos ⟨rfl, by simp only [dpF]; omega⟩, e1]; rfl
theorem dp_cut {m : Mem} {k : Key} {a p s e : Int} (h : 0 ≤ a) : dp m (dpF k 4 (a + 1) p s e) = (dpF k 5 (a + 1) p a 0, cut m p a (bk m k)) := by
  have e1 : (dpF k 4 (a + 1) p s e).cur - 1 = a := by simp only [dpF]; omega
  unfold dp dropStep
  rw [if_neg (by simp [dpF]), if_neg (by simp [dpF]), if_neg (by simp [dpF]), if_neg (by simp [dpF]), if_pos ⟨rfl, by simp only [dpF]; omega⟩, dp_bf, e1]; rfl
theorem dp_unlock {m : Mem} {k : Key} {c p s e : Int} (h : m.locks.getD (bk m k).toNat 0 = 0) : dp m (dpF k 5 c p s e) = (dpF k 6 c p s e, { m with locks := m.locks.set (bk m k).toNat (-1) }) := by
  have hl : unlock m (bk m k) 0 = { m with locks := m.locks.set (bk m k).toNat (-1) } := by unfold unlock; rw [if_pos h]
  unfold dp dropStep
  rw [if_neg (by simp [dpF]), if_neg (by simp [dpF]), if_neg (by simp [dpF]), if_neg (by simp [dpF]), if_neg (by simp [dpF]), if_pos (show (dpF _ 5 _ _ _ _).pc = 5 from rfl), dp_bf, hl]; rfl
theorem dp_put {m : Mem} {k : Key} {c p s e : Int} (h : 0 ≤ s) : dp m (dpF k 6 c p s e) = (endFrame (dpF k 6 c p (-1) e) e, put m s) := by
  unfold dp dropStep
  rw [if_neg (by simp [dpF]), if_neg (by simp [dpF]), if_neg (by simp [dpF]), if_neg (by simp [dpF]), if_neg (by simp [dpF]), if_neg (by simp [dpF]), if_pos (show (dpF _ 6 _ _ _ _).pc = 6 from rfl), if_pos (show 0 ≤ (dpF k 6 c p s e).slot from h), if_pos (show 0 ≤ (dpF k 6 c p s e).slot from h)]; rfl
theorem dp_none {m : Mem} {k : Key} {c p e : Int} : dp m (dpF k 6 c p (-1) e) = (endFrame (dpF k 6 c p (-1) e) e, m) := by
  unfold dp dropStep
  rw [if_neg (by simp [dpF]), if_neg (by simp [dpF]), if_neg (by simp [dpF]), if_neg (by simp [dpF]), if_neg (by simp [dpF]), if_neg (by simp [dpF]), if_pos (show (dpF _ 6 _ _ _ _).pc = 6 from rfl), if_neg (by simp [dpF]), if_neg (by simp [dpF])]; rfl
/-- What stands ahead of what comes next. -/
def lastOf (l : List Int) (p : Int) : Int := match l.getLast? with | none => p | some c => c + 1
theorem lastOf_cons (c : Int) (l : List Int) (p : Int) : lastOf (c :: l) p = lastOf l (c + 1) := by
  unfold lastOf
  cases l with
  | nil => rfl
  | cons d l =>
    rw [List.getLast?_cons_cons]
    cases h : (d :: l).getLast? with
    | none => simp at h
    | some e => rfl
theorem dp_walk {m : Mem} {k : Key} {s e : Int} : ∀ {l : List Int} {n p q : Int} {N : Nat}, Seg m n l q → (∀ a ∈ l, kys m a ≠ k) → aloneR dp (2 * l.length + N) (dpF k 2 n p s e) m = aloneR dp N (dpF k 2 q (lastOf l p) s e) m
  | [], n, p, q, N, h, _ => by
    have h : n = q := h
    subst h
    rw [List.length_nil, Nat.mul_zero, Nat.zero_add]; rfl
  | c :: l, n, p, q, N, h, hk => by
    obtain ⟨h1, h2, h3⟩ := h
    subst h1
    rw [List.length_cons, show 2 * (l.length + 1) + N = 2 * l.length + N + 1 + 1 from by omega, alone_on (dp_no (by omega) (hk c (by simp))) rfl, alone_on (dp_next (by omega)) rfl, lastOf_cons]
    exact dp_walk h3 fun a ha => hk a (by simp [ha])
/-- A Drop that goes on alone. -/
theorem drop_alone {m : Mem} (hC : ChainsOk m) {k : Key} (hk : Key.Ok k) (hl : ∀ i, i < m.heads.length → m.locks.getD i 0 = -1) :
    ∃ f x, aloneR dp (2 * m.slots.length + 6) (newFrame ⟨3, k, 0, 0, 0⟩) m = (f, x, true) ∧ ChainsOk x ∧ x.locks = m.locks ∧ x.slots.length = m.slots.length ∧
      (((∀ w ∈ flowsOf m, w.k ≠ k) ∧ f.e = 5 ∧ x = m) ∨
       ((∃ w ∈ flowsOf m, w.k = k) ∧ f.e = 0 ∧ flowsOf x = (flowsOf m).filter (fun w => decide (w.k ≠ k)) ∧ ∀ w ∈ flowsOf m, w.k = k → (msl x w.slot.toNat).refs = (msl m w.slot.toNat).refs - 1)) := by
  have hm := hC.mem
  have hb := bk_range hm hk
  have hst : newFrame ⟨3, k, 0, 0, 0⟩ = dpF k 0 0 0 (-1) 0 := rfl
  have hlk : m.locks.getD (bk m k).toNat 0 = -1 := hl _ (by omega)
  have hll : (bk m k).toNat < m.locks.length := by rw [hm.nl]; omega
  rw [hst, show 2 * m.slots.length + 6 = 2 * m.slots.length + 5 + 1 from rfl, alone_on (dp_lock hlk) rfl]
  obtain ⟨z, hz⟩ : ∃ z : Mem, z = { m with locks := m.locks.set (bk m k).toNat 0 } := ⟨_, rfl⟩
  rw [← hz]
  have zm : ∀ i, msl z i = msl m i := fun i => by rw [hz]; rfl
  have zk : ∀ c, kys z c = kys m c := fun c => by unfold kys; rw [zm]
  have zb : bk z k = bk m k := by rw [hz]; rfl
  have zl : z.locks.getD (bk m k).toNat 0 = 0 := by rw [hz]; exact getD_set_self hll
  have back : z.locks.set (bk m k).toNat (-1) = m.locks := by rw [hz]; exact set_back hlk hll
  rw [show 2 * m.slots.length + 5 = 2 * m.slots.length + 4 + 1 from rfl, alone_on dp_begin rfl, zb]
  obtain ⟨b, hbb⟩ : ∃ b : Nat, bk m k = b := ⟨(bk m k).toNat, by omega⟩
  have hch := hC.ch (b := b) (by omega)
  obtain ⟨hp, hle⟩ := chainOf_iff.1 hch.of
  have hp : Path z (headAt z (bk m k)) (chL m b) (-1 - b) := by
    have e : headAt z (bk m k) = headAt m b := by rw [hz, hbb]; rfl
    rw [e]; exact Path.congr (fun c _ => by unfold nxt; rw [zm]) hp
  rcases path_split (k := k) hp with ⟨k1, k2⟩ | ⟨l1, c, l2, e1, k1, k2, k3, k4⟩
  · rw [show 2 * m.slots.length + 4 = 2 * (chL m b).length + ((2 * m.slots.length + 1 - 2 * (chL m b).length) + 1 + 1 + 1) from by omega, dp_walk k2 k1, alone_on (dp_end (by omega)) rfl, alone_on (dp_unlock (by rw [zb]; exact zl)) rfl, alone_end dp_none rfl, zb]
    have ex : ({ z with locks := z.locks.set (bk m k).toNat (-1) } : Mem) = m := by rw [back, hz]
    rw [ex]
    refine ⟨_, _, rfl, hC, rfl, rfl, .inl ⟨fun w hw e => ?_, rfl, rfl⟩⟩
    obtain ⟨_, _, q3, _, _, _, q7⟩ := flows_at hC hw
    rw [e] at q3 q7
    rw [hbb, Int.toNat_natCast] at q7
    exact k1 _ q7 (by rw [zk]; exact q3)
  · have hc : c ∈ chL m b := by rw [e1]; simp
    have hl1 : l1.length + 1 ≤ (chL m b).length := by rw [e1]; simp
    have hcr := chL_mem hC hc
    have k2 : kys m c = k := by rw [← zk]; exact k2
    have hnl : c ∉ l1 := fun h => k1 c h (by rw [zk]; exact k2)
    have hpv : lastOf l1 0 = prevOf c (chL m b) 0 := by rw [e1]; exact (prevOf_split hnl).symm
    obtain ⟨y, hy⟩ : ∃ y, y = cut m (lastOf l1 0) c (bk m k) := ⟨_, rfl⟩
    obtain ⟨g1, g2, g3, g4, g5⟩ := cut_ok hC (b := b) (by omega) hc
    rw [← hpv, ← hbb, ← hy] at g1 g2 g3 g4 g5
    have hzy : cut z (lastOf l1 0) c (bk m k) = { y with locks := z.locks } := by rw [hy, hz]; exact cut_lock _ _ _ _ _
    have ylk : y.locks = m.locks := by rw [hy]; exact (cut_keeps _ _ _ _).1
    rw [show 2 * m.slots.length + 4 = 2 * l1.length + ((2 * m.slots.length - 2 * l1.length) + 1 + 1 + 1 + 1) from by omega, dp_walk k3 k1, alone_on (dp_yes k4 (by rw [zk]; exact k2)) rfl, alone_on (dp_cut k4) rfl, zb, hzy]
    have yb : bk ({ y with locks := z.locks } : Mem) k = bk m k := by
      show (bucketOf k y.heads.length).1 = bk m k
      rw [g5]; rfl
    rw [alone_on (dp_unlock (by rw [yb]; exact zl)) rfl, yb, alone_end (dp_put k4) rfl]
    have ex : ({ ({ y with locks := z.locks } : Mem) with locks := ({ y with locks := z.locks } : Mem).locks.set (bk m k).toNat (-1) } : Mem) = y := by
      show ({ y with locks := z.locks.set (bk m k).toNat (-1) } : Mem) = y
      rw [back, ← ylk]
    rw [ex]
    have offc : ∀ i, i < y.heads.length → c ∉ chL y i := fun i hi hci => by
      rw [g2 i (by omega)] at hci
      split at hci
      · rename_i e
        subst e
        exact (List.Nodup.mem_erase_iff hch.ndl).1 hci |>.1 rfl
      · rename_i e
        have h1 := ((hC.ch (b := i) (by omega)).ok c hci).bk
        have h2 := (hch.ok c hc).bk
        rw [h1] at h2
        exact e (by omega)
    obtain ⟨xC, xch, xfl⟩ := put_off g1 hcr.1 (by rw [g4]; exact hcr.2) offc
    obtain ⟨p1, p2, p3, p4⟩ := put_len y c
    have yf : ∀ d, flowAt y d = flowAt m d := fun d => flowAt_like (g3 d.toNat).2.1 (g3 d.toNat).2.2.1
    have yfl : flowsOf y = (flowsOf m).filter (fun w => decide (w.k ≠ k)) := flowsOf_filter g5 fun i hi => by
      have e0 : (chL y i).map (flowAt y) = (chL y i).map (flowAt m) := List.map_congr_left fun d _ => yf d
      rw [e0, List.filter_map, g2 i hi]
      congr 1
      split
      · rename_i e
        subst e
        exact erase_filter hch.nd hc k2
      · rename_i e
        refine (List.filter_eq_self.2 fun d hd => ?_).symm
        have h1 := ((hC.ch hi).ok d hd).bk
        show decide (kys m d ≠ k) = true
        exact decide_eq_true fun z => by
          rw [z, hbb] at h1
          exact e (by omega)
    refine ⟨_, _, rfl, xC, p3.trans ylk, p1.trans g4, .inr ⟨⟨flowAt m c, flows_of (by omega) hc, k2⟩, rfl, by rw [xfl]; exact yfl, fun w hw e => ?_⟩⟩
    obtain ⟨q1, q2, q3, _, _, _, q7⟩ := flows_at hC hw
    rw [e] at q3 q7
    rw [hbb, Int.toNat_natCast] at q7
    have hwc : w.slot = c := nodup_map_inj hch.nd q7 hc (q3.trans k2.symm)
    rw [hwc]
    have r0 := (g1.mem.refs hcr.1 (by rw [g4]; exact hcr.2)).1
    have rl := (g3 c.toNat).1
    have rn : (msl y c.toNat).refs ≠ 0 := by rw [rl]; exact (hch.ok c hc).refs
    rw [← rl]
    unfold put
    rw [if_neg rn]
    have em : ∀ l : List Int, msl { y with slots := y.slots.modify c.toNat (refsBy (-1)), free := l } c.toNat = refsBy (-1) (msl y c.toNat) := fun l => by
      show (y.slots.modify c.toNat (refsBy (-1))).getD c.toNat default = _
      rw [getD_modify, if_pos ⟨rfl, by rw [g4]; omega⟩]; rfl
    split
    · rw [em]; show _ + -1 = _ - 1; omega
    · have := em y.free
      rw [show ({ y with slots := y.slots.modify c.toNat (refsBy (-1)), free := y.free } : Mem) = { y with slots := y.slots.modify c.toNat (refsBy (-1)) } from rfl] at this
      rw [this]; show _ + -1 = _ - 1; omega
end Go.Proofs.Ytpmamacjepcdmaa

/- Contracts: slices.Delete. -/
namespace Go.Proofs.Ytpmamacjepcdmaa
open Go Go.Sy Go.RowKit
set_option linter.unusedSimpArgs false
set_option linter.unusedVariables false

theorem cut_rows {α : Type} {r : List α} {i j : Nat} (hij : i ≤ j) (hj : j ≤ r.length) (z : List α) :
    (((r.take i ++ ((r.drop j).take (r.length - j) ++ r.drop (i + (r.length - j)))).take (i + (r.length - j)) ++ z).take (i + (r.length - j))) = r.take i ++ r.drop j := by
  have e1 : (r.drop j).take (r.length - j) = r.drop j := List.take_of_length_le (by simp)
  have e2 : (r.take i ++ r.drop j).length = i + (r.length - j) := by simp; omega
  rw [e1, ← List.append_assoc, List.take_left' e2, List.take_left' e2]
def s120 : Sig := ⟨[.one (.own 78 kW), .one (.int .i64), .one (.int .i64)], [.one (.own 78 kW)]⟩
def d120 : DC := ⟨s120, fun l => 0 ≤ (l.getD 1 .u).int ∧ (l.getD 1 .u).int ≤ (l.getD 2 .u).int ∧ (l.getD 2 .u).int ≤ (l.getD 0 .u).flows.length, fun l => [flowsD ((l.getD 0 .u).flows.take (l.getD 1 .u).int.toNat ++ (l.getD 0 .u).flows.drop (l.getD 2 .u).int.toNat)]⟩
def l120 : List (Nat × Ct) := []
def z120 : Cx := { T := ttA, C := sigs l120, F := [], hints := [], sig := s120 }
def t120 : Tree :=
 (.need (.le (.int 0) (.var 1))
 (.need (.le (.var 1) (.var 2))
 (.need (.le (.var 2) (.len (.var 0)))
 (.ite (.eq (.var 1) (.var 2))
  (.ret [.var 0])
  (.need (.le (.var 1) (.len (.var 0)))
  (.need (.le (.int 0) (.var 2))
  (.need (.le (.add (.var 1) (.sub (.len (.var 0)) (.var 2))) (.len (.var 0)))
  (.need (.le (.add (.var 2) (.sub (.len (.var 0)) (.var 2))) (.len (.var 0)))
  (.need (.le (.int 0) (.add (.var 1) (.sub (.len (.var 0)) (.var 2))))
  (.need (.le (.len (.var 0)) (.add (.len (.take (.var 1) (.var 0))) (.add (.len (.take (.sub (.len (.var 0)) (.var 2)) (.drop (.var 2) (.var 0)))) (.len (.drop (.add (.var 1) (.sub (.len (.var 0)) (.var 2))) (.var 0))))))
  (.need (.le (.add (.add (.var 1) (.sub (.len (.var 0)) (.var 2))) (.sub (.len (.var 0)) (.add (.var 1) (.sub (.len (.var 0)) (.var 2))))) (.add (.len (.take (.var 1) (.var 0))) (.add (.len (.take (.sub (.len (.var 0)) (.var 2)) (.drop (.var 2) (.var 0)))) (.len (.drop (.add (.var 1) (.sub (.len (.var 0)) (.var 2))) (.var 0))))))
  (.need (.le (.add (.var 1) (.sub (.len (.var 0)) (.var 2))) (.add (.len (.take (.add (.var 1) (.sub (.len (.var 0)) (.var 2))) (.app (.take (.var 1) (.var 0)) (.app (.take (.sub (.len (.var 0)) (.var 2)) (.drop (.var 2) (.var 0))) (.drop (.add (.var 1) (.sub (.len (.var 0)) (.var 2))) (.var 0)))))) (.add (.len (.rep (.sub (.len (.var 0)) (.add (.var 1) (.sub (.len (.var 0)) (.var 2)))) (.cons (.int 0) (.cons (.int 0) (.cons (.int 0) (.cons (.int 0) .row0)))))) (.len (.drop (.add (.add (.var 1) (.sub (.len (.var 0)) (.var 2))) (.sub (.len (.var 0)) (.add (.var 1) (.sub (.len (.var 0)) (.var 2))))) (.app (.take (.var 1) (.var 0)) (.app (.take (.sub (.len (.var 0)) (.var 2)) (.drop (.var 2) (.var 0))) (.drop (.add (.var 1) (.sub (.len (.var 0)) (.var 2))) (.var 0)))))))))
  (.ret [.take (.add (.var 1) (.sub (.len (.var 0)) (.var 2))) (.app (.take (.add (.var 1) (.sub (.len (.var 0)) (.var 2))) (.app (.take (.var 1) (.var 0)) (.app (.take (.sub (.len (.var 0)) (.var 2)) (.drop (.var 2) (.var 0))) (.drop (.add (.var 1) (.sub (.len (.var 0)) (.var 2))) (.var 0))))) (.app (.rep (.sub (.len (.var 0)) (.add (.var 1) (.sub (.len (.var 0)) (.var 2)))) (.cons (.int 0) (.cons (.int 0) (.cons (.int 0) (.cons (.int 0) .row0))))) (.drop (.add (.add (.var 1) (.sub (.len (.var 0)) (.var 2))) (.sub (.len (.var 0)) (.add (.var 1) (.sub (.len (.var 0)) (.var 2))))) (.app (.take (.var 1) (.var 0)) (.app (.take (.sub (.len (.var 0)) (.var 2)) (.drop (.var 2) (.var 0))) (.drop (.add (.var 1) (.sub (.len (.var 0)) (.var 2))) (.var 0)))))))])))))))))))))
theorem run120 : run z120 6000 [.code (Try.f120.body.getD .skip), .fin (topRet z120 Try.f120.results.toList 50)] { fn := 120, tmps := z120.sig.args0 ++ List.replicate (Try.f120.ntmps - z120.sig.args0.length) (.v (.one .undef)), stk := [], h := z120.sig.h0, nx := z120.sig.ins.length, known := [] } = t120 := by kernel_rfl
theorem ok120 : CtOk Try.prog 120 d120.ct := by
  refine dc_of_tree (d := d120) (Z := z120) (Γ := gam l120) (fn := Try.f120) (c := Try.f120.body.getD .skip) (told_of tok mixed all_nil fok_nil) Try.func120 (by kernel_rfl) (by kernel_rfl) rfl run120 fun E hk hp => ?_
  obtain ⟨hk0, hk1, hk2, _⟩ := hk
  obtain ⟨l, e0, b0⟩ := ok_flows (d := E 0) hk0
  have b0 : l.length * 32 ≤ 140737488355328 := b0
  obtain ⟨x, e1⟩ := ok_int (d := E 1) hk1
  obtain ⟨x2, e2⟩ := ok_int (d := E 2) hk2
  have el : letters E d120.sig.ins.length = [flowsD l, .i x, .i x2] := by
    show [E 0, E 1, E 2] = _
    rw [e0, e1, e2]
  rw [el] at hp
  rw [el]
  rw [Env.pre_eq el]
  clear el e0 e1 e2
  simp only [d120, List.getD_cons_zero, List.getD_cons_succ, CD.int_i, flows_flowsD] at hp ⊢
  obtain ⟨p0, p1, p2⟩ := hp
  obtain ⟨i, rfl⟩ : ∃ i : Nat, x = i := ⟨x.toNat, by omega⟩
  obtain ⟨j, rfl⟩ : ∃ j : Nat, x2 = j := ⟨x2.toNat, by omega⟩
  simp only [Int.toNat_natCast]
  unfold t120
  have hf : ∀ l : List Flow, (flowsD l).rows = l.map Flow.row := fun _ => rfl
  refine den_need (by simp only [nrm, X.den, Env.put, Env.pre, reduceIte, Nat.reduceLT, Nat.reduceSub, Nat.reduceAdd]; omega) (den_need (by simp only [nrm, X.den, Env.put, Env.pre, reduceIte, Nat.reduceLT, Nat.reduceSub, Nat.reduceAdd]; omega) (den_need (by simp only [nrm, X.den, Env.put, Env.pre, reduceIte, Nat.reduceLT, Nat.reduceSub, Nat.reduceAdd, len_flows]; omega) (den_ite (fun h => den_ret ?_) (fun h => ?_))))
  · simp only [nrm, X.den, Env.put, Env.pre, reduceIte, Nat.reduceLT, Nat.reduceSub, Nat.reduceAdd] at h ⊢
    have : i = j := by omega
    subst this
    rw [List.take_append_drop]
  simp only [nrm, X.den, Env.put, Env.pre, reduceIte, Nat.reduceLT, Nat.reduceSub, Nat.reduceAdd] at h
  have hij : ¬ (i : Int) = j := by simpa using h
  repeat refine den_need (by simp only [nrm, X.den, Env.put, Env.pre, reduceIte, Nat.reduceLT, Nat.reduceSub, Nat.reduceAdd, hf, List.length_take, List.length_drop, List.length_append, List.length_replicate, List.length_map]; omega) ?_
  refine den_ret ?_
  simp only [nrm, X.den, Env.put, Env.pre, reduceIte, Nat.reduceLT, Nat.reduceSub, Nat.reduceAdd, hf, List.length_map, Int.toNat_natCast]
  have en : ((i : Int) + ((l.length : Int) - (j : Int))).toNat = i + ((l.map Flow.row).length - j) := by rw [List.length_map]; omega
  have em : ((l.length : Int) - (j : Int)).toNat = (l.map Flow.row).length - j := by rw [List.length_map]; omega
  rw [en, em, cut_rows (by omega) (by rw [List.length_map]; omega)]
  simp only [flowsD, List.map_append, List.map_take, List.map_drop]
end Go.Proofs.Ytpmamacjepcdmaa
