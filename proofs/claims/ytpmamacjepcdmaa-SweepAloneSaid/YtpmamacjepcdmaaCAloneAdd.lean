import Derived.Test.YtpmamacjepcdmaaCChainLaws4
import Derived.Test.YtpmamacjepcdmaaCAlone
/- Plain: flows of what is linked, and of what is cut out. -/
namespace Go.Proofs.Ytpmamacjepcdmaa
open Go Go.Sy Go.RowKit
set_option linter.unusedSimpArgs false
set_option linter.unusedVariables false

def sumF (f : Nat → Nat) : Nat → Nat → Nat
  | 0, _ => 0
  | n + 1, b => f b + sumF f n (b + 1)
theorem flowsFrom_len {m : Mem} : ∀ {n b : Nat} {acc : List Flow}, (flowsFrom m n b acc).length = acc.length + sumF (fun i => (chL m i).length) n b
  | 0, b, acc => rfl
  | n + 1, b, acc => by
    rw [flowsFrom, flowsFrom_len]
    simp only [sumF, List.length_append, List.length_map, chL]
    omega
theorem sumF_same {f g : Nat → Nat} : ∀ {n b : Nat}, (∀ i, b ≤ i → i < b + n → f i = g i) → sumF f n b = sumF g n b
  | 0, _, _ => rfl
  | n + 1, b, h => by
    simp only [sumF]
    rw [h b (Nat.le_refl _) (by omega), sumF_same fun i h1 h2 => h i (by omega) (by omega)]
theorem sumF_one {f g : Nat → Nat} {c : Nat} : ∀ {n b : Nat}, b ≤ c → c < b + n → f c = g c + 1 → (∀ i, b ≤ i → i < b + n → i ≠ c → f i = g i) → sumF f n b = sumF g n b + 1
  | 0, b, h1, h2, _, _ => by omega
  | n + 1, b, h1, h2, h3, h4 => by
    simp only [sumF]
    by_cases e : b = c
    · subst e
      rw [h3, sumF_same fun i g1 g2 => h4 i (by omega) (by omega) (by omega)]
      omega
    · rw [h4 b (Nat.le_refl _) (by omega) e, sumF_one (n := n) (b := b + 1) (by omega) (by omega) h3 fun i g1 g2 g3 => h4 i (by omega) (by omega) g3]
      omega
theorem flows_len_one {m x : Mem} (hh : x.heads.length = m.heads.length) {b : Nat} (hb : b < m.heads.length) (h1 : (chL x b).length = (chL m b).length + 1) (h2 : ∀ i, i < m.heads.length → i ≠ b → chL x i = chL m i) : (flowsOf x).length = (flowsOf m).length + 1 := by
  unfold flowsOf
  rw [flowsFrom_len, flowsFrom_len, hh]
  have := sumF_one (f := fun i => (chL x i).length) (g := fun i => (chL m i).length) (n := m.heads.length) (b := 0) (c := b) (by omega) (by omega) h1 fun i _ g2 g3 => by
    show (chL x i).length = _
    rw [h2 i (by omega) g3]
  omega
theorem flowAt_like {m x : Mem} {c : Int} (h1 : (msl x c.toNat).k = (msl m c.toNat).k) (h2 : (msl x c.toNat).till = (msl m c.toNat).till) : flowAt x c = flowAt m c := by
  unfold flowAt
  rw [h1, h2]
theorem linked_fresh {m : Mem} (hC : ChainsOk m) {a : Int} (h1 : 0 ≤ a) (h2 : a < m.slots.length) (h3 : (msl m a.toNat).refs ≠ 0) (hn : ∀ c ∈ chL m (bk m (kys m a)).toNat, kys m c ≠ kys m a) : linked m a = (link m a (bk m (kys m a)), 0) := by
  have hk := (hC.mem.sl (i := a.toNat) (by omega)).k
  obtain ⟨b1, b2, b3⟩ := bk_range hC.mem (k := kys m a) hk
  refine linked_new hC h1 h2 h3 fun i hi e => ?_
  have hf := getD_memF hi
  obtain ⟨_, _, g3, _, _, _, g7⟩ := flows_at hC hf
  rw [e] at g3 g7
  exact hn _ g7 g3
/-- What is linked is mapped; all that was stays. -/
theorem link_flows {m : Mem} (hC : ChainsOk m) {a : Int} (h1 : 0 ≤ a) (h2 : a < m.slots.length) (h3 : (msl m a.toNat).refs ≠ 0) (hn : ∀ c ∈ chL m (bk m (kys m a)).toNat, kys m c ≠ kys m a) :
    ChainsOk (link m a (bk m (kys m a))) ∧ (flowsOf (link m a (bk m (kys m a)))).length = (flowsOf m).length + 1 ∧ flowAt m a ∈ flowsOf (link m a (bk m (kys m a))) ∧ (∀ f ∈ flowsOf m, f ∈ flowsOf (link m a (bk m (kys m a)))) ∧ (∀ f ∈ flowsOf m, f.k ≠ kys m a) := by
  have hk := (hC.mem.sl (i := a.toNat) (by omega)).k
  obtain ⟨b1, b2, b3⟩ := bk_range hC.mem (k := kys m a) hk
  obtain ⟨g1, g2, g3⟩ := link_ok hC h1 h2 h3 hn
  have hbn : (((bk m (kys m a)).toNat : Nat) : Int) = bk m (kys m a) := by omega
  have hh : (link m a (bk m (kys m a))).heads.length = m.heads.length := by simp [link]
  have hfa : ∀ c, flowAt (link m a (bk m (kys m a))) c = flowAt m c := fun c => flowAt_like (by rw [g3]; split <;> rfl) (by rw [g3]; split <;> rfl)
  generalize link m a (bk m (kys m a)) = x at *
  have hb := g2 (bk m (kys m a)).toNat (by omega)
  rw [if_pos hbn] at hb
  refine ⟨g1, flows_len_one hh (b := (bk m (kys m a)).toNat) (by omega) (by rw [hb, List.length_cons]) fun i hi hne => by rw [g2 i hi, if_neg (by omega)], ?_, fun f hf => ?_, fun f hf e => ?_⟩
  · rw [← hfa a]
    exact flows_of (b := (bk m (kys m a)).toNat) (by omega) (by rw [hb]; simp)
  · obtain ⟨i, hi, c, hc, e⟩ := flows_mem.1 hf
    rw [e, ← hfa c]
    refine flows_of (b := i) (by omega) ?_
    rw [g2 i hi]
    split
    · simp [hc]
    · exact hc
  · obtain ⟨_, _, q3, _, _, _, q7⟩ := flows_at hC hf
    rw [e] at q3 q7
    exact hn _ q7 q3
/-- What is cut out is mapped no more; all else stays; it can be linked again. -/
theorem cut_flows {m : Mem} (hC : ChainsOk m) {b : Nat} (hb : b < m.heads.length) {t : Int} (ht : t ∈ chL m b) :
    ∃ y, y = cut m (prevOf t (chL m b) 0) t b ∧ ChainsOk y ∧ (flowsOf m).length = (flowsOf y).length + 1 ∧ (∀ f ∈ flowsOf y, f ∈ flowsOf m ∧ f.k ≠ kys m t) ∧ 0 ≤ t ∧ t < y.slots.length ∧ (msl y t.toNat).refs ≠ 0 ∧
      linked y t = (link y t (bk y (kys y t)), 0) ∧ ChainsOk (link y t (bk y (kys y t))) ∧ (flowsOf (link y t (bk y (kys y t)))).length = (flowsOf m).length ∧ ∀ f ∈ flowsOf m, f ∈ flowsOf (link y t (bk y (kys y t))) := by
  have htr := chL_mem hC ht
  have hc := hC.ch hb
  have hnd := hc.ndl
  obtain ⟨g1, g2, g3, g4, g5⟩ := cut_ok hC hb ht
  refine ⟨_, rfl, ?_⟩
  generalize cut m (prevOf t (chL m b) 0) t b = y at *
  have yk : ∀ d, kys y d = kys m d := fun d => (g3 d.toNat).2.1
  have yf : ∀ d, flowAt y d = flowAt m d := fun d => flowAt_like (g3 d.toNat).2.1 (g3 d.toNat).2.2.1
  have ybk : ∀ k, bk y k = bk m k := fun k => by unfold bk; rw [g5]
  have hyb := g2 b hb
  rw [if_pos rfl] at hyb
  have hlen : (chL m b).length = (chL y b).length + 1 := by
    rw [hyb, List.length_erase_of_mem ht]
    have := List.length_pos_of_mem ht
    omega
  have sub : ∀ i, i < m.heads.length → ∀ d ∈ chL y i, d ∈ chL m i := fun i hi d hd => by
    rw [g2 i hi] at hd
    split at hd
    · rename_i e; subst e; exact List.mem_of_mem_erase hd
    · exact hd
  have hkb : bk m (kys m t) = b := (hc.ok t ht).bk
  have nokey : ∀ i, i < m.heads.length → ∀ d ∈ chL y i, kys m d ≠ kys m t := fun i hi d hd e => by
    have h1 := ((hC.ch hi).ok d (sub i hi d hd)).bk
    rw [e, hkb] at h1
    have : i = b := by omega
    subst this
    have hdt := nodup_map_inj hc.nd (sub i hi d hd) ht e
    rw [hyb, hdt] at hd
    exact (List.Nodup.mem_erase_iff hnd).1 hd |>.1 rfl
  have hl : (flowsOf m).length = (flowsOf y).length + 1 := flows_len_one (x := m) (m := y) g5.symm (by omega) hlen fun i hi hne => by rw [g2 i (by omega), if_neg hne]
  have hr : (msl y t.toNat).refs ≠ 0 := by rw [(g3 t.toNat).1]; exact (hc.ok t ht).refs
  have hn : ∀ c ∈ chL y (bk y (kys y t)).toNat, kys y c ≠ kys y t := fun c hcm => by
    rw [ybk, yk, hkb, show ((b : Int)).toNat = b from by omega] at hcm
    rw [yk, yk]
    exact nokey b hb c hcm
  obtain ⟨q1, q2, q3, q4, _⟩ := link_flows g1 htr.1 (by rw [g4]; exact htr.2) hr hn
  refine ⟨g1, hl, fun f hf => ?_, htr.1, by rw [g4]; exact htr.2, hr, linked_fresh g1 htr.1 (by rw [g4]; exact htr.2) hr hn, q1, by omega, fun f hf => ?_⟩
  · obtain ⟨i, hi, d, hd, e⟩ := flows_mem.1 hf
    rw [e, yf d]
    exact ⟨flows_of (by omega) (sub i (by omega) d hd), nokey i (by omega) d hd⟩
  · obtain ⟨i, hi, d, hd, e⟩ := flows_mem.1 hf
    by_cases hdt : d = t
    · subst hdt
      rw [e, ← yf d]; exact q3
    · rw [e, ← yf d]
      refine q4 _ (flows_of (b := i) (by omega) ?_)
      rw [g2 i hi]
      split
      · rename_i e'; subst e'
        exact (List.Nodup.mem_erase_iff hnd).2 ⟨hdt, hd⟩
      · exact hd
end Go.Proofs.Ytpmamacjepcdmaa

/- Plain: an Add that goes on alone. -/
namespace Go.Proofs.Ytpmamacjepcdmaa
open Go Go.Sy Go.RowKit
set_option linter.unusedSimpArgs false
set_option linter.unusedVariables false

theorem flowsFrom_congr {m x : Mem} : ∀ {n b : Nat} {acc : List Flow}, (∀ i, b ≤ i → i < b + n → chL x i = chL m i ∧ ∀ c ∈ chL m i, flowAt x c = flowAt m c) → flowsFrom x n b acc = flowsFrom m n b acc
  | 0, _, _, _ => rfl
  | n + 1, b, acc, h => by
    obtain ⟨h1, h2⟩ := h b (Nat.le_refl _) (by omega)
    rw [flowsFrom, flowsFrom]
    have e : (chainR x b).1.map (flowAt x) = (chainR m b).1.map (flowAt m) := by
      show (chL x b).map (flowAt x) = (chL m b).map (flowAt m)
      rw [h1]; exact List.map_congr_left h2
    rw [e, flowsFrom_congr fun i h3 h4 => h i (by omega) (by omega)]
/-- What changes behind no chain changes no chain. -/
theorem off_ok {m x : Mem} (hC : ChainsOk m) (hx : MemOk x) (hl : x.slots.length = m.slots.length) (hh : x.heads = m.heads) (hs : ∀ b, b < m.heads.length → ∀ c ∈ chL m b, msl x c.toNat = msl m c.toNat) :
    ChainsOk x ∧ (∀ b, b < m.heads.length → chL x b = chL m b) ∧ flowsOf x = flowsOf m := by
  have ch : ∀ b, b < m.heads.length → ChainOk x b (chL m b) := fun b hb => by
    have h := hC.ch hb
    obtain ⟨hp, hle⟩ := chainOf_iff.1 h.of
    refine ⟨chainOf_iff.2 ⟨?_, by rw [hl]; exact hle⟩, fun a ha => ?_, ?_⟩
    · have e : headAt x b = headAt m b := by unfold headAt; rw [hh]
      rw [e]
      exact Path.congr (fun c hc => by unfold nxt; rw [hs b hb c hc]) hp
    · have k := h.ok a ha
      have e := hs b hb a ha
      refine ⟨by rw [e]; exact k.refs, by rw [e]; exact k.inn, ?_⟩
      have := k.bk
      unfold bk kys at this ⊢
      rw [e, hh]; exact this
    · have : (chL m b).map (kys x) = (chL m b).map (kys m) := List.map_congr_left fun c hc => by unfold kys; rw [hs b hb c hc]
      rw [this]; exact h.nd
  have hcl : ∀ b, b < m.heads.length → chL x b = chL m b := fun b hb => chL_of (ch b hb).of
  refine ⟨⟨hx, fun b hb => ⟨_, ch b (by rw [hh] at hb; exact hb)⟩⟩, hcl, ?_⟩
  unfold flowsOf
  rw [hh]
  exact flowsFrom_congr fun i _ hi => ⟨hcl i (by omega), fun c hc => by unfold flowAt; rw [hs i (by omega) c hc]⟩
theorem bk_heads {m x : Mem} (h : x.heads = m.heads) (k : Key) : bk x k = bk m k := by unfold bk; rw [h]

/-- An Add of a key in its chain. -/
def adF (k : Key) (t pc cur slot e : Int) : Frm := ⟨⟨2, k, t, 0, 0⟩, pc, cur, 0, slot, 0, [], false, e⟩
def ad (m : Mem) (f : Frm) : Frm × Mem := addStep m f 0
def tillOf (m : Mem) (t : Int) : Int := if m.now + t ≤ 2000000 then m.now + t else 2000000
theorem ad_bf {m : Mem} {k : Key} {t pc cur s e : Int} : bucketFor m (adF k t pc cur s e).c = bk m k := rfl
theorem ad_full {m : Mem} {k : Key} {t c s e : Int} (h : m.free.length = 0) : ad m (adF k t 0 c s e) = (endFrame (adF k t 0 c s e) 7, m) := by
  have ht : take m k (tillOf m t) = (m, 0, 7) := by unfold take; rw [if_pos h]
  unfold ad addStep
  rw [if_pos (show (adF _ _ 0 _ _ _).pc = 0 from rfl)]
  show (if (take m k (tillOf m t)).2.2 ≠ 0 then _ else _) = _
  rw [ht]; rfl
theorem ad_take {m : Mem} {k : Key} {t c s e : Int} (h : m.free.length ≠ 0) : ad m (adF k t 0 c s e) = (adF k t 1 c (lastFree m) e, turned m (lastFree m).toNat (takeSlot k (tillOf m t)) (m.free.take (m.free.length - 1))) := by
  have ht : take m k (tillOf m t) = (turned m (lastFree m).toNat (takeSlot k (tillOf m t)) (m.free.take (m.free.length - 1)), lastFree m, 0) := by unfold take; rw [if_neg h]; rfl
  unfold ad addStep
  rw [if_pos (show (adF _ _ 0 _ _ _).pc = 0 from rfl)]
  show (if (take m k (tillOf m t)).2.2 ≠ 0 then _ else (_, (take m k (tillOf m t)).1)) = _
  rw [if_neg (by rw [ht]; exact fun h => h rfl)]
  show (adF k t 1 c (take m k (tillOf m t)).2.1 e, (take m k (tillOf m t)).1) = _
  rw [ht]
theorem ad_lock {m : Mem} {k : Key} {t c s e : Int} (h : m.locks.getD (bk m k).toNat 0 = -1) : ad m (adF k t 1 c s e) = (adF k t 2 c s e, { m with locks := m.locks.set (bk m k).toNat 0 }) := by
  have hl : lock m (bk m k) 0 = ({ m with locks := m.locks.set (bk m k).toNat 0 }, true) := by unfold lock; rw [if_pos h]
  unfold ad addStep
  rw [if_neg (by simp [adF]), if_pos (show (adF _ _ 1 _ _ _).pc = 1 from rfl), ad_bf, hl]; rfl
theorem ad_begin {m : Mem} {k : Key} {t c s e : Int} : ad m (adF k t 2 c s e) = (adF k t 3 (headAt m (bk m k)) s e, m) := by
  unfold ad addStep
  rw [if_neg (by simp [adF]), if_neg (by simp [adF]), if_pos (show (adF _ _ 2 _ _ _).pc = 2 from rfl), ad_bf]; rfl
theorem ad_end {m : Mem} {k : Key} {t c s e : Int} (h : c ≤ 0) : ad m (adF k t 3 c s e) = (adF k t 5 c s e, m) := by
  unfold ad addStep
  rw [if_neg (by simp [adF]), if_neg (by simp [adF]), if_neg (by simp [adF]), if_pos (show (adF _ _ 3 _ _ _).pc = 3 from rfl), if_pos (show (adF k t 3 c s e).cur ≤ 0 from h)]; rfl
theorem ad_no {m : Mem} {k : Key} {t a s e : Int} (h : 0 ≤ a) (hk : kys m a ≠ k) : ad m (adF k t 3 (a + 1) s e) = (adF k t 4 (a + 1) s e, m) := by
  have e1 : at1 m (adF k t 3 (a + 1) s e) = msl m a.toNat := by unfold at1 adF; rw [show a + 1 - 1 = a from by omega]
  unfold ad addStep
  rw [if_neg (by simp [adF]), if_neg (by simp [adF]), if_neg (by simp [adF]), if_pos (show (adF _ _ 3 _ _ _).pc = 3 from rfl), if_neg (by simp only [adF]; omega), e1, if_neg (show ¬ (msl m a.toNat).k = (adF k t 3 (a + 1) s e).c.k from hk)]; rfl
theorem ad_yes {m : Mem} {k : Key} {t a s e : Int} (h : 0 ≤ a) (hk : kys m a = k) : ad m (adF k t 3 (a + 1) s e) = (adF k t 6 (a + 1) s e, m) := by
  have e1 : at1 m (adF k t 3 (a + 1) s e) = msl m a.toNat := by unfold at1 adF; rw [show a + 1 - 1 = a from by omega]
  unfold ad addStep
  rw [if_neg (by simp [adF]), if_neg (by simp [adF]), if_neg (by simp [adF]), if_pos (show (adF _ _ 3 _ _ _).pc = 3 from rfl), if_neg (by simp only [adF]; omega), e1, if_pos (show (msl m a.toNat).k = (adF k t 3 (a + 1) s e).c.k from hk)]; rfl
theorem ad_next {m : Mem} {k : Key} {t a s e : Int} (h : 0 ≤ a) : ad m (adF k t 4 (a + 1) s e) = (adF k t 3 (nxt m a) s e, m) := by
  have e1 : at1 m (adF k t 4 (a + 1) s e) = msl m a.toNat := by unfold at1 adF; rw [show a + 1 - 1 = a from by omega]
  unfold ad addStep
  rw [if_neg (by simp [adF]), if_neg (by simp [adF]), if_neg (by simp [adF]), if_neg (by simp [adF]), if_pos ⟨rfl, by simp only [adF]; omega⟩, e1]; rfl
theorem ad_link {m : Mem} {k : Key} {t c s e : Int} (h : 0 ≤ s) : ad m (adF k t 5 c s e) = (adF k t 7 c s 0, link m s (bk m k)) := by
  unfold ad addStep
  rw [if_neg (by simp [adF]), if_neg (by simp [adF]), if_neg (by simp [adF]), if_neg (by simp [adF]), if_neg (by simp [adF]), if_pos ⟨rfl, h⟩, ad_bf]; rfl
theorem ad_lose {m : Mem} {k : Key} {t c s e : Int} (h : 0 ≤ s) : ad m (adF k t 6 c s e) = (adF k t 7 c (-1) 6, put m s) := by
  unfold ad addStep
  rw [if_neg (by simp [adF]), if_neg (by simp [adF]), if_neg (by simp [adF]), if_neg (by simp [adF]), if_neg (by simp [adF]), if_neg (by simp [adF]), if_pos ⟨rfl, h⟩]; rfl
theorem ad_done {m : Mem} {k : Key} {t c s e : Int} (h : m.locks.getD (bk m k).toNat 0 = 0) : ad m (adF k t 7 c s e) = (endFrame (adF k t 7 c s e) e, { m with locks := m.locks.set (bk m k).toNat (-1) }) := by
  have hl : unlock m (bk m k) 0 = { m with locks := m.locks.set (bk m k).toNat (-1) } := by unfold unlock; rw [if_pos h]
  unfold ad addStep
  rw [if_neg (by simp [adF]), if_neg (by simp [adF]), if_neg (by simp [adF]), if_neg (by simp [adF]), if_neg (by simp [adF]), if_neg (by simp [adF]), if_neg (by simp [adF]), if_pos (show (adF _ _ 7 _ _ _).pc = 7 from rfl), ad_bf, hl]; rfl
theorem ad_walk {m : Mem} {k : Key} {t s e : Int} : ∀ {l : List Int} {n q : Int} {N : Nat}, Seg m n l q → (∀ a ∈ l, kys m a ≠ k) → aloneR ad (2 * l.length + N) (adF k t 3 n s e) m = aloneR ad N (adF k t 3 q s e) m
  | [], n, q, N, h, _ => by
    have h : n = q := h
    subst h
    rw [List.length_nil, Nat.mul_zero, Nat.zero_add]
  | c :: l, n, q, N, h, hk => by
    obtain ⟨h1, h2, h3⟩ := h
    subst h1
    rw [List.length_cons, show 2 * (l.length + 1) + N = 2 * l.length + N + 1 + 1 from by omega, alone_on (ad_no (by omega) (hk c (by simp))) rfl, alone_on (ad_next (by omega)) rfl]
    exact ad_walk h3 fun a ha => hk a (by simp [ha])
theorem getD_set_self {l : List Int} {i : Nat} {v : Int} (h : i < l.length) : (l.set i v).getD i 0 = v := by
  rw [List.getD_eq_getElem?_getD, List.getElem?_set_self h]; rfl
theorem set_back {l : List Int} {i : Nat} {v : Int} (h : l.getD i 0 = -1) (hi : i < l.length) : (l.set i v).set i (-1) = l := by
  rw [List.set_set]
  refine List.ext_getElem? fun j => ?_
  by_cases e : i = j
  · subst e
    rw [List.getElem?_set_self hi, List.getElem?_eq_getElem hi]
    rw [List.getD_eq_getElem?_getD, List.getElem?_eq_getElem hi] at h
    exact congrArg some h.symm
  · rw [List.getElem?_set_ne e]
/-- An Add that goes on alone. -/
theorem add_alone {m : Mem} (hC : ChainsOk m) {k : Key} (hk : Key.Ok k) {t : Int} (h1 : 1 ≤ t) (h2 : t ≤ 1000000) (hl : ∀ i, i < m.heads.length → m.locks.getD i 0 = -1) :
    ∃ f x, aloneR ad (2 * m.slots.length + 7) (newFrame ⟨2, k, t, 0, 0⟩) m = (f, x, true) ∧ ChainsOk x ∧ x.locks = m.locks ∧
      ((m.free.length = 0 ∧ f.e = 7 ∧ x = m) ∨
       (m.free.length ≠ 0 ∧ (∃ w ∈ flowsOf m, w.k = k) ∧ f.e = 6 ∧ x.free = m.free ∧ flowsOf x = flowsOf m) ∨
       (m.free.length ≠ 0 ∧ (∀ w ∈ flowsOf m, w.k ≠ k) ∧ f.e = 0 ∧ (flowsOf x).length = (flowsOf m).length + 1 ∧ ⟨k, f.slot, tillOf m t⟩ ∈ flowsOf x ∧ ∀ w ∈ flowsOf m, w ∈ flowsOf x)) := by
  have hm := hC.mem
  have hb := bk_range hm hk
  have hst : newFrame ⟨2, k, t, 0, 0⟩ = adF k t 0 0 (-1) 0 := rfl
  rw [hst, show 2 * m.slots.length + 7 = 2 * m.slots.length + 6 + 1 from rfl]
  by_cases hn : m.free.length = 0
  · rw [alone_end (ad_full hn) rfl]
    exact ⟨_, _, rfl, hC, rfl, .inl ⟨hn, rfl, rfl⟩⟩
  have hfr := hm.free _ (lastFree_mem hn)
  have hn0 := hm.now0
  have hn1 := hm.now1
  have htill : 0 ≤ tillOf m t ∧ tillOf m t ≤ 2000000 := by unfold tillOf; split <;> omega
  obtain ⟨a, ha⟩ : ∃ a, lastFree m = a := ⟨_, rfl⟩
  rw [alone_on (ad_take hn) rfl]
  have hy := take_ok hm (k := k) (till := tillOf m t) hn hk htill.1 htill.2
  rw [ha] at hy hfr ⊢
  obtain ⟨y, hyd⟩ : ∃ y, y = turned m a.toNat (takeSlot k (tillOf m t)) (m.free.take (m.free.length - 1)) := ⟨_, rfl⟩
  rw [← hyd] at hy ⊢
  have yl : y.slots.length = m.slots.length := by rw [hyd]; exact turned_length _ _ _ _
  have yh : y.heads = m.heads := by rw [hyd]; rfl
  have yk : y.locks = m.locks := by rw [hyd]; rfl
  have ym : ∀ i, msl y i = if a.toNat = i ∧ a.toNat < m.slots.length then takeSlot k (tillOf m t) (msl m i) else msl m i := fun i => by rw [hyd]; exact msl_turned _ _ _ _ _
  have ya : msl y a.toNat = takeSlot k (tillOf m t) (msl m a.toNat) := by rw [ym, if_pos ⟨rfl, by omega⟩]
  have notin : ∀ b, b < m.heads.length → ∀ c ∈ chL m b, a.toNat ≠ c.toNat := fun b hb c hc e => by
    have hin := chL_mem hC hc
    have := ((hC.ch hb).ok c hc).refs
    rw [show c = a from by omega] at this
    exact this hfr.2.2
  obtain ⟨yC, ych, yfl⟩ := off_ok hC hy yl yh fun b hb c hc => by rw [ym, if_neg fun z => notin b hb c hc z.1]
  -- the lock
  have hlk : y.locks.getD (bk m k).toNat 0 = -1 := by rw [yk]; exact hl _ (by omega)
  have hbk : bk y k = bk m k := bk_heads yh k
  have hll : (bk m k).toNat < y.locks.length := by rw [yk, hm.nl]; omega
  rw [show 2 * m.slots.length + 6 = 2 * m.slots.length + 5 + 1 from rfl, alone_on (ad_lock (by rw [hbk]; exact hlk)) rfl, hbk]
  obtain ⟨z, hz⟩ : ∃ z : Mem, z = { y with locks := y.locks.set (bk m k).toNat 0 } := ⟨_, rfl⟩
  rw [← hz]
  have zm : ∀ i, msl z i = msl y i := fun i => by rw [hz]; rfl
  have zk : ∀ c, kys z c = kys y c := fun c => by unfold kys; rw [zm]
  have zb : bk z k = bk m k := by rw [hz]; exact hbk
  have zl : z.locks.getD (bk m k).toNat 0 = 0 := by rw [hz]; exact getD_set_self hll
  have back : z.locks.set (bk m k).toNat (-1) = m.locks := by rw [hz]; show (y.locks.set _ _).set _ _ = _; rw [set_back hlk hll, yk]
  rw [show 2 * m.slots.length + 5 = 2 * m.slots.length + 4 + 1 from rfl, alone_on ad_begin rfl, zb]
  obtain ⟨b, hbb⟩ : ∃ b : Nat, bk m k = b := ⟨(bk m k).toNat, by omega⟩
  have hch := yC.ch (b := b) (by rw [yh]; omega)
  obtain ⟨hp, hle⟩ := chainOf_iff.1 hch.of
  have hp : Path z (headAt z (bk m k)) (chL y b) (-1 - b) := by
    have e : headAt z (bk m k) = headAt y b := by rw [hz, hbb]; rfl
    rw [e]; exact Path.congr (fun c _ => by unfold nxt; rw [zm]) hp
  rw [yl] at hle
  rcases path_split (k := k) hp with ⟨k1, k2⟩ | ⟨l1, c, l2, e1, k1, k2, k3, k4⟩
  · -- it is linked
    have kn : ∀ c ∈ chL y (bk y (kys y a)).toNat, kys y c ≠ kys y a := by
      have e : kys y a = k := by unfold kys; rw [ya]; rfl
      rw [e, hbk, hbb, Int.toNat_natCast]
      exact fun c hc => by rw [← zk]; exact k1 c hc
    have ek : kys y a = k := by unfold kys; rw [ya]; rfl
    have yr : (msl y a.toNat).refs ≠ 0 := by rw [ya]; exact (by decide : (1 : Int) ≠ 0)
    obtain ⟨q1, q2, q3, q4, q5⟩ := link_flows yC (a := a) hfr.1 (by rw [yl]; exact hfr.2.1) yr kn
    rw [ek, hbk] at q1 q2 q3 q4
    rw [ek] at q5
    rw [show 2 * m.slots.length + 4 = 2 * (chL y b).length + ((2 * m.slots.length + 1 - 2 * (chL y b).length) + 1 + 1 + 1) from by omega, ad_walk k2 k1, alone_on (ad_end (by omega)) rfl, alone_on (ad_link hfr.1) rfl, zb]
    have el : (link z a (bk m k)).locks = z.locks := rfl
    have eb : bk (link z a (bk m k)) k = bk m k := by
      have : (link z a (bk m k)).heads.length = z.heads.length := by simp [link]
      show (bucketOf k (link z a (bk m k)).heads.length).1 = bk m k
      rw [this]; exact zb
    rw [alone_end (ad_done (by rw [eb, el]; exact zl)) rfl, eb, el]
    have ex : ({ link z a (bk m k) with locks := z.locks.set (bk m k).toNat (-1) } : Mem) = link y a (bk m k) := by
      rw [back, ← yk, hz]; rfl
    rw [ex]
    have ef : flowAt y a = ⟨k, a, tillOf m t⟩ := by unfold flowAt; rw [ya]; rfl
    rw [ef] at q3
    rw [yfl] at q2 q4 q5
    exact ⟨_, _, rfl, q1, by rw [show (link y a (bk m k)).locks = y.locks from rfl, yk], .inr (.inr ⟨hn, q5, rfl, q2, q3, q4⟩)⟩
  · -- it is there
    have hc : c ∈ chL y b := by rw [e1]; simp
    have hl1 : l1.length + 1 ≤ (chL y b).length := by rw [e1]; simp
    rw [show 2 * m.slots.length + 4 = 2 * l1.length + ((2 * m.slots.length + 1 - 2 * l1.length) + 1 + 1 + 1) from by omega, ad_walk k3 k1, alone_on (ad_yes k4 k2) rfl, alone_on (ad_lose hfr.1) rfl]
    have za : (msl z a.toNat).refs = 1 := by rw [zm, ya]; rfl
    have ep : put z a = { z with slots := z.slots.modify a.toNat (refsBy (-1)), free := z.free ++ [a] } := by unfold put; rw [if_neg (by rw [za]; decide), if_pos za]
    have el : (put z a).locks = z.locks := by rw [ep]
    have eb : bk (put z a) k = bk m k := by rw [ep]; exact zb
    rw [alone_end (ad_done (by rw [eb, el]; exact zl)) rfl, eb, el]
    obtain ⟨x, hx⟩ : ∃ x : Mem, x = { put z a with locks := z.locks.set (bk m k).toNat (-1) } := ⟨_, rfl⟩
    rw [← hx]
    have ex : x = put y a := by
      have yr : (msl y a.toNat).refs = 1 := by rw [ya]; rfl
      have e2 : put y a = { y with slots := y.slots.modify a.toNat (refsBy (-1)), free := y.free ++ [a] } := by unfold put; rw [if_neg (by rw [yr]; decide), if_pos yr]
      rw [hx, back, e2, ep, ← yk, hz]
    have xo : MemOk x := by rw [ex]; exact put_ok hy hfr.1 (by rw [yl]; exact hfr.2.1)
    have xs : x = { y with slots := y.slots.modify a.toNat (refsBy (-1)), free := y.free ++ [a] } := by
      have yr : (msl y a.toNat).refs = 1 := by rw [ya]; rfl
      rw [ex]; unfold put; rw [if_neg (by rw [yr]; decide), if_pos yr]
    obtain ⟨xC, _, xfl⟩ := off_ok hC xo (by rw [xs]; simp [yl]) (by rw [xs]; exact yh) fun b' hb' d hd => by
      have : msl x d.toNat = msl y d.toNat := by
        rw [xs]
        show (y.slots.modify a.toNat (refsBy (-1))).getD d.toNat default = _
        rw [getD_modify, if_neg fun z => notin b' hb' d hd z.1]; rfl
      rw [this, ym, if_neg fun z => notin b' hb' d hd z.1]
    have xf : x.free = m.free := by
      rw [xs]
      show y.free ++ [a] = m.free
      rw [hyd]
      show m.free.take (m.free.length - 1) ++ [a] = m.free
      rw [← ha]; exact (free_split hn).symm
    have xk : x.locks = m.locks := by rw [hx]; exact back
    have hcm : c ∈ chL m b := by rw [← ych b (by omega)]; exact hc
    refine ⟨_, _, rfl, xC, xk, .inr (.inl ⟨hn, ⟨flowAt m c, flows_of (by omega) hcm, ?_⟩, rfl, xf, xfl⟩)⟩
    show (msl m c.toNat).k = k
    have : msl y c.toNat = msl m c.toNat := by rw [ym, if_neg fun z => notin b (by omega) c hcm z.1]
    rw [← this]
    have := k2
    unfold kys at this
    rwa [zm] at this
end Go.Proofs.Ytpmamacjepcdmaa
