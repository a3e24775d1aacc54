import Derived.Test.YtpmamacjepcdmaaCAlone
/- Plain: what is linked. -/
namespace Go.Proofs.Ytpmamacjepcdmaa
open Go Go.Sy Go.RowKit
set_option linter.unusedSimpArgs false
set_option linter.unusedVariables false

theorem chL_of {m : Mem} {b : Nat} {l : List Int} (h : chainOf m b = some l) : chL m b = l := by unfold chL chainR; rw [h]
theorem not_in {m : Mem} (hC : ChainsOk m) {a : Int} (hn : ∀ c ∈ chL m (bk m (kys m a)).toNat, kys m c ≠ kys m a) {i : Nat} (hi : i < m.heads.length) : a ∉ chL m i := fun ha => by
  have := ((hC.ch hi).ok a ha).bk
  rw [this] at hn
  exact hn a (by rw [show ((i : Int)).toNat = i from by omega]; exact ha) rfl
theorem link_ok {m : Mem} (hC : ChainsOk m) {a : Int} (h1 : 0 ≤ a) (h2 : a < m.slots.length) (h3 : (msl m a.toNat).refs ≠ 0) (hn : ∀ c ∈ chL m (bk m (kys m a)).toNat, kys m c ≠ kys m a) :
    ChainsOk (link m a (bk m (kys m a))) ∧ (∀ i, i < m.heads.length → chL (link m a (bk m (kys m a))) i = if (i : Int) = bk m (kys m a) then a :: chL m i else chL m i) ∧
      (∀ j, msl (link m a (bk m (kys m a))) j = if a.toNat = j then linkSlot (headAt m (bk m (kys m a))) (msl m j) else msl m j) := by
  have hm := hC.mem
  have hka := (hm.sl (i := a.toNat) (by omega)).k
  obtain ⟨b1, b2, _⟩ := bk_range hm (k := kys m a) hka
  have hni : ∀ i, i < m.heads.length → a ∉ chL m i := fun i hi => not_in hC hn hi
  generalize hb : bk m (kys m a) = b at *
  generalize hx : link m a b = x
  have xl : x.slots.length = m.slots.length := by rw [← hx]; simp [link]
  have xh : x.heads.length = m.heads.length := by rw [← hx]; simp [link]
  have xs : ∀ j, msl x j = if a.toNat = j then linkSlot (headAt m b) (msl m j) else msl m j := fun j => by
    rw [← hx]
    show (m.slots.modify a.toNat (linkSlot (headAt m b))).getD j default = _
    rw [msl_modify (by omega)]
    by_cases e : a.toNat = j
    · rw [if_pos e, if_pos e, e]
    · rw [if_neg e, if_neg e]
  have xhd : ∀ i : Int, 0 ≤ i → headAt x i = if i = b then a + 1 else headAt m i := fun i hi => by
    rw [← hx]
    exact head_set b1 b2 hi
  have xk : ∀ c, kys x c = kys m c := fun c => by
    unfold kys
    rw [xs]
    split <;> rfl
  have xbk : ∀ k, bk x k = bk m k := fun k => by unfold bk; rw [xh]
  have xn : ∀ c, 0 ≤ c → c ≠ a → nxt x c = nxt m c := fun c hc hne => by
    unfold nxt
    rw [xs, if_neg (by omega)]
  have hd := hm.hd0 b1 b2
  have hmx : MemOk x := by
    refine hm.with xl xh (by rw [← hx]; rfl) (by rw [← hx]; rfl) (by rw [← hx]; rfl) (fun i hi => ?_) (fun i hi => ?_)
    · rw [xs]
      have := hm.sl hi
      split
      · exact ⟨rfl, rfl, rfl, hd.2.1, hd.2.2⟩
      · exact ⟨rfl, rfl, rfl, this.n0, this.n1⟩
    · have := xhd i (by omega)
      unfold headAt at this
      rw [show ((i : Int)).toNat = i from by omega] at this
      rw [this]
      split
      · omega
      · have := hm.head i hi
        exact ⟨this.h0, this.n0, this.n1⟩
  have inok : ∀ (i : Nat) c, InOk m i c → InOk x i c := fun i c h => by
    refine ⟨?_, ?_, by rw [xbk, xk]; exact h.bk⟩
    · rw [xs]; split
      · exact h.refs
      · exact h.refs
    · rw [xs]; split
      · rfl
      · exact h.inn
  have main : ∀ i, i < m.heads.length → ChainOk x i (if (i : Int) = b then a :: chL m i else chL m i) := fun i hi => by
    have hc := hC.ch hi
    obtain ⟨p1, p2⟩ := chainOf_iff.1 hc.of
    have hcong : Path x (headAt m i) (chL m i) (-1 - i) := p1.congr fun c hcm => xn c (chL_mem hC hcm).1 fun e => hni i hi (by rw [← e]; exact hcm)
    by_cases e : (i : Int) = b
    · rw [if_pos e]
      refine ⟨chainOf_iff.2 ⟨?_, ?_⟩, fun c hcm => ?_, ?_⟩
      · rw [xhd i (by omega), if_pos e]
        refine ⟨rfl, by omega, ?_⟩
        have : nxt x a = headAt m i := by
          unfold nxt
          rw [xs, if_pos rfl, e]
          rfl
        rw [this]; exact hcong
      · rw [xl]
        have := nodup_length (l := a :: chL m i) (n := m.slots.length) (List.nodup_cons.2 ⟨hni i hi, hc.ndl⟩) fun c hcm => by
          rcases List.mem_cons.1 hcm with rfl | hcm
          · exact ⟨h1, h2⟩
          · exact chL_mem hC hcm
        exact this
      · rcases List.mem_cons.1 hcm with rfl | hcm
        · refine ⟨?_, ?_, by rw [xbk, xk, hb, e]⟩
          · rw [xs, if_pos rfl]; exact h3
          · rw [xs, if_pos rfl]; rfl
        · exact inok i c (hc.ok c hcm)
      · rw [show kys x = kys m from funext xk, List.map_cons, List.nodup_cons]
        refine ⟨fun hmem => ?_, hc.nd⟩
        obtain ⟨c, hcm, e'⟩ := List.mem_map.1 hmem
        exact hn c (by rw [← e, show ((i : Int)).toNat = i from by omega]; exact hcm) e'
    · rw [if_neg e]
      refine ⟨chainOf_iff.2 ⟨?_, by rw [xl]; exact p2⟩, fun c hcm => inok i c (hc.ok c hcm), by rw [show kys x = kys m from funext xk]; exact hc.nd⟩
      rw [xhd i (by omega), if_neg e]
      exact hcong
  exact ⟨⟨hmx, fun i hi => ⟨_, main i (by rw [← xh]; exact hi)⟩⟩, fun i hi => chL_of (main i hi).of, xs⟩

/-- What Linked answers with. -/
theorem linked_ok {m : Mem} {a : Int} (h : (linked m a).2 = 0) : ChainsOk m ∧ 0 ≤ a ∧ a < m.slots.length ∧ (msl m a.toNat).refs ≠ 0 ∧ (∀ c ∈ chL m (bk m (kys m a)).toNat, kys m c ≠ kys m a) ∧ linked m a = (link m a (bk m (kys m a)), 0) := by
  unfold linked at h ⊢
  split at h
  · rename_i hx; exact absurd h hx
  · rename_i hx
    have hC := (checkChains_iff m).1 (Classical.not_not.1 hx)
    split at h
    · cases h
    · rename_i h1
      split at h
      · cases h
      · rename_i h2
        split at h
        · cases h
        · rename_i h3
          have hk := (hC.mem.sl (i := a.toNat) (by omega)).k
          obtain ⟨b1, b2, _⟩ := bk_range hC.mem (k := kys m a) hk
          rw [if_neg hx, if_neg h1, if_neg h2, if_neg h3]
          refine ⟨hC, by omega, by omega, h2, fun c hc e => h3 ?_, rfl⟩
          refine List.any_eq_true.2 ⟨c, ?_, decide_eq_true (.inr e)⟩
          unfold chL at hc
          rw [show (((bk m (kys m a)).toNat : Nat) : Int) = bk m (kys m a) from by omega] at hc
          exact hc
end Go.Proofs.Ytpmamacjepcdmaa

/- Plain: what is cut out. -/
namespace Go.Proofs.Ytpmamacjepcdmaa
open Go Go.Sy Go.RowKit
set_option linter.unusedSimpArgs false
set_option linter.unusedVariables false

theorem prevOf_split {t : Int} : ∀ {l1 l2 : List Int} {p : Int}, t ∉ l1 → prevOf t (l1 ++ t :: l2) p = (match l1.getLast? with | none => p | some c => c + 1)
  | [], l2, p, _ => by simp [prevOf]
  | a :: l1, l2, p, h => by
    simp only [List.mem_cons, not_or] at h
    simp only [List.cons_append, prevOf]
    rw [if_neg (fun e => h.1 e.symm), prevOf_split h.2]
    cases l1 with
    | nil => simp
    | cons c l1 =>
      rw [List.getLast?_cons_cons]
      cases hx : (c :: l1).getLast? with
      | none => simp at hx
      | some d => rfl
/-- A slot but for what stands behind it. -/
def Like (s t : Slot) : Prop := s.refs = t.refs ∧ s.k = t.k ∧ s.till = t.till ∧ s.inn = t.inn
theorem cut_ok {m : Mem} (hC : ChainsOk m) {b : Nat} (hb : b < m.heads.length) {t : Int} (ht : t ∈ chL m b) :
    ChainsOk (cut m (prevOf t (chL m b) 0) t b) ∧ (∀ i, i < m.heads.length → chL (cut m (prevOf t (chL m b) 0) t b) i = if i = b then (chL m b).erase t else chL m i) ∧
      (∀ j, Like (msl (cut m (prevOf t (chL m b) 0) t b) j) (msl m j)) ∧ (cut m (prevOf t (chL m b) 0) t b).slots.length = m.slots.length ∧ (cut m (prevOf t (chL m b) 0) t b).heads.length = m.heads.length := by
  have hm := hC.mem
  have hc := hC.ch hb
  have hnd := hc.ndl
  have htr := chL_mem hC ht
  have hts := hm.sl (i := t.toNat) (by omega)
  obtain ⟨p1, p2⟩ := chainOf_iff.1 hc.of
  obtain ⟨l1, l2, hl⟩ := List.append_of_mem ht
  have hin : ∀ d ∈ chL m b, 0 ≤ d ∧ d < m.slots.length := fun d hd => chL_mem hC hd
  rw [hl] at hnd p1 p2 hin
  have hd1 := List.nodup_append.1 hnd
  have ht1 : t ∉ l1 := fun h => hd1.2.2 t h t (by simp) rfl
  have her : (chL m b).erase t = l1 ++ l2 := by
    rw [hl, List.erase_append_right _ ht1, List.erase_cons_head]
  have hpv : prevOf t (chL m b) 0 = (match l1.getLast? with | none => 0 | some c => c + 1) := by rw [hl]; exact prevOf_split ht1
  obtain ⟨q, s1, s2⟩ := path_append.1 p1
  obtain ⟨e1, _, s3⟩ := s2
  subst e1
  have disj : ∀ i, i < m.heads.length → i ≠ b → ∀ d ∈ chL m i, d ∉ chL m b := fun i hi hne d hd hd' => by
    have h1 := ((hC.ch hi).ok d hd).bk
    have h2 := (hc.ok d hd').bk
    rw [h1] at h2
    omega
  generalize hx : cut m (prevOf t (chL m b) 0) t b = x
  have core : x.slots.length = m.slots.length ∧ x.heads.length = m.heads.length ∧ x.free = m.free ∧ x.locks = m.locks ∧ x.now = m.now ∧ (∀ j, Like (msl x j) (msl m j)) ∧
      (∀ j, j < m.slots.length → (msl x j).next ≤ m.slots.length ∧ -(m.heads.length : Int) ≤ (msl x j).next) ∧ (∀ i, i < m.heads.length → x.heads.getD i 0 ≠ 0 ∧ x.heads.getD i 0 ≤ m.slots.length ∧ -(m.heads.length : Int) ≤ x.heads.getD i 0) ∧
      Path x (headAt x b) (l1 ++ l2) (-1 - b) ∧ (∀ i : Nat, i ≠ b → headAt x i = headAt m i) ∧ ∀ i, i < m.heads.length → i ≠ b → ∀ d ∈ chL m i, nxt x d = nxt m d := by
    rcases List.eq_nil_or_concat l1 with h0 | ⟨l0, c, h0⟩
    · subst h0
      rw [hpv] at hx
      have hx : ({ m with heads := m.heads.set b (nxt m t) } : Mem) = x := by
        rw [← hx]
        simp only [cut, List.getLast?_nil, Int.lt_irrefl, if_false]
        rw [show ((b : Int)).toNat = b from by omega]; rfl
      have hms : ∀ j, msl x j = msl m j := fun j => by rw [← hx]; rfl
      have hhd : ∀ i : Nat, headAt x i = if (i : Int) = b then nxt m t else headAt m i := fun i => by
        have := head_set (m := m) (b := b) (i := i) (v := nxt m t) (by omega) (by omega) (by omega)
        rw [← hx]
        rw [show ((b : Int)).toNat = b from by omega] at this
        exact this
      have hnn : ∀ d, nxt x d = nxt m d := fun d => by unfold nxt; rw [hms]
      refine ⟨by rw [← hx], by rw [← hx]; simp, by rw [← hx], by rw [← hx], by rw [← hx], fun j => by rw [hms]; exact ⟨rfl, rfl, rfl, rfl⟩, fun j hj => by rw [hms]; exact ⟨(hm.sl hj).n0, (hm.sl hj).n1⟩, fun i hi => ?_, ?_, fun i hne => ?_, fun i hi hne d hd => hnn d⟩
      · have := hhd i
        unfold headAt at this
        rw [show ((i : Int)).toNat = i from by omega] at this
        rw [this]
        split
        · have hp : Path m (nxt m t) l2 (-1 - b) := s3
          refine ⟨?_, hts.n0, hts.n1⟩
          cases l2 with
          | nil => have := hp.1; omega
          | cons d l2 => have := hp.2.1; omega
        · have := hm.head i hi
          exact ⟨this.h0, this.n0, this.n1⟩
      · rw [hhd b, if_pos rfl]
        exact s3.congr fun d _ => hnn d
      · rw [hhd i, if_neg (by omega)]
    · rw [List.concat_eq_append] at h0
      subst h0
      have hcl : (l0 ++ [c]).getLast? = some c := by simp
      have hcin : c ∈ l0 ++ [c] := by simp
      have hcr := hin c (List.mem_append_left _ hcin)
      rw [hpv, hcl] at hx
      have hx : ({ m with slots := m.slots.modify c.toNat (nextTo (nxt m t)) } : Mem) = x := by
        rw [← hx]
        simp only [cut]
        rw [if_pos (by omega), show c + 1 - 1 = c from by omega]; rfl
      have hms : ∀ j, msl x j = if c.toNat = j then nextTo (nxt m t) (msl m j) else msl m j := fun j => by
        rw [← hx]
        show (m.slots.modify c.toNat (nextTo (nxt m t))).getD j default = _
        rw [msl_modify (by omega)]
        by_cases e : c.toNat = j
        · rw [if_pos e, if_pos e, e]
        · rw [if_neg e, if_neg e]
      have hnc : nxt x c = nxt m t := by
        show (msl x c.toNat).next = _
        rw [hms, if_pos rfl]; rfl
      have hnn : ∀ d, 0 ≤ d → d ≠ c → nxt x d = nxt m d := fun d hd hne => by
        unfold nxt
        rw [hms, if_neg (by omega)]
      have hhd : ∀ i : Int, headAt x i = headAt m i := fun i => by rw [← hx]; rfl
      have hd0 := List.nodup_append.1 hd1.1
      have hc0 : c ∉ l0 := fun h => hd0.2.2 c h c (by simp) rfl
      have hc2 : c ∉ l2 := fun h => hd1.2.2 c hcin c (by simp [h]) rfl
      refine ⟨by rw [← hx]; simp, by rw [← hx], by rw [← hx], by rw [← hx], by rw [← hx], fun j => ?_, fun j hj => ?_, fun i hi => ?_, ?_, fun i hne => hhd i, fun i hi hne d hd => ?_⟩
      · rw [hms]; split <;> exact ⟨rfl, rfl, rfl, rfl⟩
      · rw [hms]; split
        · exact ⟨hts.n0, hts.n1⟩
        · exact ⟨(hm.sl hj).n0, (hm.sl hj).n1⟩
      · have := hhd i
        unfold headAt at this
        rw [show ((i : Int)).toNat = i from by omega] at this
        rw [this]
        have := hm.head i hi
        exact ⟨this.h0, this.n0, this.n1⟩
      · rw [hhd b]
        obtain ⟨q', s4, s5⟩ := seg_append.1 s1
        refine path_append.2 ⟨nxt m t, seg_append.2 ⟨q', s4.congr fun d hd => hnn d (hin d (by simp [hd])).1 fun e => hc0 (by rw [← e]; exact hd), s5.1, s5.2.1, hnc⟩, s3.congr fun d hd => hnn d (hin d (by simp [hd])).1 fun e => hc2 (by rw [← e]; exact hd)⟩
      · refine hnn d (chL_mem hC hd).1 fun e => disj i hi hne d hd ?_
        rw [hl, e]
        exact List.mem_append_left _ hcin
  obtain ⟨xl, xh, xf, xo, xw, xlk, xnb, xhb, xp, xhd, xnx⟩ := core
  have xk : ∀ d, kys x d = kys m d := fun d => (xlk d.toNat).2.1
  have xbk : ∀ k, bk x k = bk m k := fun k => by unfold bk; rw [xh]
  have inok : ∀ (i : Nat) d, InOk m i d → InOk x i d := fun i d h => ⟨by rw [(xlk d.toNat).1]; exact h.refs, by rw [(xlk d.toNat).2.2.2]; exact h.inn, by rw [xbk, xk]; exact h.bk⟩
  have hmx : MemOk x := hm.with xl xh xf xo xw (fun i hi => ⟨(xlk i).1, (xlk i).2.1, (xlk i).2.2.1, (xnb i hi).1, (xnb i hi).2⟩) xhb
  have main : ∀ i, i < m.heads.length → ChainOk x i (if i = b then (chL m b).erase t else chL m i) := fun i hi => by
    by_cases e : i = b
    · subst e
      rw [if_pos rfl, her]
      have hsub : ∀ d ∈ l1 ++ l2, d ∈ chL m i := fun d hd => by
        rw [hl]
        rcases List.mem_append.1 hd with h | h
        · exact List.mem_append_left _ h
        · exact List.mem_append_right _ (by simp [h])
      refine ⟨chainOf_iff.2 ⟨xp, ?_⟩, fun d hd => inok i d (hc.ok d (hsub d hd)), ?_⟩
      · rw [xl]
        simp only [List.length_append, List.length_cons] at p2 ⊢
        omega
      · rw [show kys x = kys m from funext xk]
        have := hc.nd
        rw [hl] at this
        refine this.sublist ?_
        exact List.Sublist.map _ (List.Sublist.append_left (List.sublist_cons_self t l2) l1)
    · rw [if_neg e]
      have hci := hC.ch hi
      obtain ⟨g1, g2⟩ := chainOf_iff.1 hci.of
      refine ⟨chainOf_iff.2 ⟨?_, by rw [xl]; exact g2⟩, fun d hd => inok i d (hci.ok d hd), by rw [show kys x = kys m from funext xk]; exact hci.nd⟩
      rw [xhd i e]
      exact g1.congr fun d hd => xnx i hi e d hd
  exact ⟨⟨hmx, fun i hi => ⟨_, main i (by rw [← xh]; exact hi)⟩⟩, fun i hi => chL_of (main i hi).of, xlk, xl, xh⟩
end Go.Proofs.Ytpmamacjepcdmaa
