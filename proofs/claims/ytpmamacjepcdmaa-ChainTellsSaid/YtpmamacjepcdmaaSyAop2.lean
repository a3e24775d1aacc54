/- One operation of the symbolic walk is one operation of the machine: what builds, makes, stores, appends. -/
import Derived.Test.YtpmamacjepcdmaaSyAop
import Derived.Deep.Upon
namespace Go.Sy
open Go.RowKit

/-! ### append, run -/
theorem run_app {P : Program} (w : World) (t ty e : TypeId) (i : TypeInfo) (z : Value) (ht : P.underlying t = some (.slice e)) (hi : P.info? e = some i) (hz : i.zero = some z) (hzs : z.cells.size = i.size)
    (A : Option Addr) (n cap0 : Nat) (hn : n ≤ cap0) (hcm : cap0 ≤ maxLen) (cur : Array Value) (hA : 0 < cap0 → ∃ b, A = some ⟨b, 0, none⟩ ∧ w.heap[b]? = some (.cells cur e (0, 0)) ∧ cur.size = cap0 * i.size)
    (x : Value) (m : Nat) (news : List Value) (hs : Src P i.size t x m news w) (h63 : n + m ≤ maxLen) (hbytes : (n + m) * i.bytes ≤ 140737488355328) :
    ∃ A' cap' w', (Builtin.append_ #[t, t] ty #[.slice A n cap0, x]).run P w = .ok (.slice A' (n + m) cap') w' ∧ n + m ≤ cap' ∧ cap' ≤ maxLen ∧
      ((cap' = 0 ∧ w' = w) ∨ ∃ b cur', 0 < cap' ∧ A' = some ⟨b, 0, none⟩ ∧ w'.heap[b]? = some (.cells cur' e (0, 0)) ∧ cur'.size = cap' * i.size ∧ (∀ j, j < n * i.size → cur'[j]? = cur[j]?) ∧ (∀ j, j < m * i.size → cur'[n * i.size + j]? = news[j]?) ∧
        ((b = w.heap.size ∧ Below w.heap.size w w') ∨ (A = some ⟨b, 0, none⟩ ∧ 0 < cap0 ∧ Turn (fun k j => k = b ∧ n * i.size ≤ j) w w'))) := by
  have hsmall : n + m ≤ 9223372036854775807 := by simp only [maxLen] at h63; omega
  have hl := hs.newsLen
  by_cases hroom : n + m ≤ cap0
  · rcases Nat.eq_zero_or_pos cap0 with h0 | h0
    · have hm : m = 0 := by omega
      subst hm
      have hnl : news = [] := List.eq_nil_of_length_eq_zero (by simpa using hl)
      subst hnl
      exact ⟨A, cap0, w, run_append_nothing w t t ty e i ht hi A n cap0 hn x hs, hroom, hcm, .inl ⟨h0, rfl⟩⟩
    · obtain ⟨b, rfl, hb, hsz⟩ := hA h0
      have hmul : (n + m) * i.size ≤ cap0 * i.size := Nat.mul_le_mul_right _ hroom
      rw [Nat.add_mul] at hmul
      have hr := run_append_room_src (P := P) w t t ty e i ht hi b 0 n cap0 x m news hs hroom (fun j hj => by
        have : 0 + n * i.size + j < cur.size := by omega
        simp [World.cell?, hb, show n * i.size + j < cur.size by omega]) (fun j _ => by simp only [World.frozen?, hb]; simp)
      rw [Nat.zero_add] at hr
      obtain ⟨cur', c1, c2, c3⟩ := setCells_block b news (n * i.size) w cur hb (by omega)
      refine ⟨some ⟨b, 0, none⟩, cap0, _, hr, hroom, hcm, .inr ⟨b, cur', h0, rfl, c1, c2.trans hsz, fun j hj => by rw [c3, if_neg (by omega)], fun j hj => by rw [c3, if_pos (by omega), Nat.add_sub_cancel_left], .inr ⟨rfl, h0, (setCells_turn b news _ w).mono fun k j _ h => ⟨h.1, h.2.1⟩⟩⟩⟩
  · have hge := grownCap_ge w (n + m) cap0 e
    have hold : ∃ olds : List Value, olds.length = n * i.size ∧ (Builtin.firstCells i.size n (.slice A n cap0)).run P w.drew = .ok olds.toArray w.drew ∧ ∀ j, j < n * i.size → olds[j]? = cur[j]? := by
      rcases Nat.eq_zero_or_pos cap0 with h0 | h0
      · have hn0 : n = 0 := by omega
        subst hn0
        refine ⟨[], by simp, ?_, fun j hj => by simp at hj⟩
        cases A with
        | none => exact run_firstCells_none w.drew i.size 0 0 cap0
        | some a => exact run_firstCells_some w.drew i.size 0 a 0 cap0 [] (by simp) (fun j v h => by simp at h)
      · obtain ⟨b, rfl, hb, hsz⟩ := hA h0
        have hmul : n * i.size ≤ cap0 * i.size := Nat.mul_le_mul_right _ hn
        refine ⟨cur.toList.take (n * i.size), by rw [List.length_take, Array.length_toList]; omega, ?_, fun j hj => by rw [List.getElem?_take, if_pos hj]; simp⟩
        refine run_firstCells_some w.drew i.size n ⟨b, 0, none⟩ n cap0 _ (by rw [List.length_take, Array.length_toList]; omega) (fun j v hj => ?_)
        rw [List.getElem?_take] at hj
        split at hj
        · rw [add_at, Nat.zero_add]
          have hd : w.drew.heap[b]? = some (.cells cur e (0, 0)) := hb
          simp only [World.cell?, hd]
          simpa using hj
        · cases hj
    obtain ⟨olds, ho1, ho2, ho3⟩ := hold
    have hr := run_append_grow_src (P := P) w t t ty e i z ht hi hz A n cap0 olds ho2 x m news hs (by omega) (by omega) (growslice_fits (by omega) hbytes)
    refine ⟨_, _, _, hr, hge, grownCap_le_maxLen w _ _ e h63, .inr ⟨w.heap.size, _, ?_, rfl, heap_alloc_new w.drew _, ?_, fun j hj => ?_, fun j hj => ?_, .inl ⟨rfl, (Below.refl _ _).drew.alloc (by simp) _⟩⟩⟩
    · omega
    · simp only [Array.size_append, List.size_toArray, size_zeroCells, hzs, List.length_append, ho1, hl, ← Nat.add_mul]
      congr 1
      omega
    · rw [Array.getElem?_append_left (by simp; omega)]
      rw [List.getElem?_toArray, List.getElem?_append_left (by omega)]
      exact ho3 j hj
    · rw [Array.getElem?_append_left (by simp; omega)]
      rw [List.getElem?_toArray, List.getElem?_append_right (by omega), show n * i.size + j - olds.length = j from by omega]

section
variable {P : Program} {T : TT} {B : Base} {E : Env} {p : Pl} {g : Gm} {h : Hp} {tm : List SR} {a : Act} {w : World}

/-- What an operation that yields a value comes to. -/
def Yield (P : Program) (B : Base) (E : Env) (p : Pl) (g : Gm) (h : Hp) (a : Act) (w : World) (o : Oper) (r : SR) (h' : Hp) (qu : Bool) : Prop :=
  ∃ v w' q, (execOp a.eval o).run P w = .ok (.value v) w' ∧ RepH B E q g h' w' ∧ r.is E q g v ∧ p.Le q ∧ w.heap.size ≤ w'.heap.size ∧ (qu = true → CellsSame E p h w w' ∧ KnLe E p h q h' w.heap.size)
theorem YieldR.yield {o : Oper} {r : SR} (H : RepH B E p g h w) (y : YieldR P E p g h a w o r) (qu : Bool) : Yield P B E p g h a w o r h qu := by
  obtain ⟨v, h1, h2⟩ := y
  exact ⟨v, w, p, h1 w (CellsSame.refl _ _ _ _), H, h2, Pl.Le.refl _, Nat.le_refl _, fun _ => ⟨CellsSame.refl _ _ _ _, fun _ _ _ h => h⟩⟩
theorem cellsSame_below {w' : World} (hb : Below w.heap.size w w') : CellsSame E p h w w' := fun k i hk _ => hb.cell (p := ⟨k, i, none⟩) hk

/-- A slice's elements, as data and as values. -/
def SlIs (E : Env) (p : Pl) (g : Gm) (h : Hp) (w : World) (K : SK) (v : Value) (x : X) : Prop :=
  ∃ (A : Option Addr) (m cc : Nat) (rows : List (List CD)) (news : List Value), v = .slice A m cc ∧ x.den E = .l rows ∧ rows.length = m ∧ m ≤ cc ∧ cc ≤ maxLen ∧ m * K.by_ ≤ B47 ∧ news.length = m * K.kd.length ∧ (A = none → m = 0) ∧
      (∀ b q s, A = some ⟨b, q, s⟩ → 0 < m → s = none ∧ ∀ (j : Nat) u, news[j]? = some u → ∀ w', CellsSame E p h w w' → w'.cell? ⟨b, q + j, none⟩ = some u) ∧
      (∀ i row, rows[i]? = some row → RdRow g K.kd (fun j => news[i * K.kd.length + j]?) row)
theorem slData_sound (H : RepH B E p g h w) {K : SK} {c : SC} {ns : List X} {x : X} {v : Value} (ho : slData h K c = some (ns, x)) (hc : c.is E p g v) (hn : ∀ b ∈ ns, (b.den E).bool = true) : SlIs E p g h w K v x := by
  have mk : ∀ (m : Nat) (rows : List (List CD)) (b q : Nat) (ok : Nat → Prop), rows.length = m → (∀ i row, rows[i]? = some row → RdRow g K.kd (fun j => w.cell? ⟨b, q + (i * K.kd.length + j), none⟩) row) → (∀ i j k, i < m → K.kd[j]? = some k → Kn E p h b (q + (i * K.kd.length + j)) ∧ b < w.heap.size) →
      ∃ news : List Value, news.length = m * K.kd.length ∧ (∀ (j : Nat) u, news[j]? = some u → ∀ w', CellsSame E p h w w' → w'.cell? ⟨b, q + j, none⟩ = some u) ∧ (∀ i row, rows[i]? = some row → RdRow g K.kd (fun j => news[i * K.kd.length + j]?) row) := by
    intro m rows b q _ hl hrow hkn
    refine ⟨(List.range (m * K.kd.length)).map fun j => (w.cell? ⟨b, q + j, none⟩).getD Go.undef, by simp, fun j u hj w' S => ?_, fun i row hi => ?_⟩
    · rw [List.getElem?_map] at hj
      have hlt : j < m * K.kd.length := by
        cases h0 : (List.range (m * K.kd.length))[j]? with
        | none => rw [h0] at hj; cases hj
        | some _ => simpa using (List.getElem?_eq_some_iff.1 h0).1
      rw [List.getElem?_range hlt, Option.map_some, Option.some.injEq] at hj
      subst hj
      have hz : 0 < K.kd.length := by
        rcases Nat.eq_zero_or_pos K.kd.length with h0 | h0
        · rw [h0] at hlt; simp at hlt
        · exact h0
      have hdiv : j = (j / K.kd.length) * K.kd.length + j % K.kd.length := by rw [Nat.mul_comm]; exact (Nat.div_add_mod j K.kd.length).symm
      have hi : j / K.kd.length < m := Nat.div_lt_of_lt_mul (by rw [Nat.mul_comm]; exact hlt)
      have hjm := Nat.mod_lt j hz
      obtain ⟨k, hk⟩ : ∃ k, K.kd[j % K.kd.length]? = some k := ⟨_, List.getElem?_eq_getElem hjm⟩
      obtain ⟨row, hr⟩ : ∃ row, rows[j / K.kd.length]? = some row := ⟨_, List.getElem?_eq_getElem (by omega)⟩
      obtain ⟨u, hu, _⟩ := (hrow _ row hr).cell hk
      obtain ⟨k1, k2⟩ := hkn _ _ k hi hk
      rw [← hdiv] at hu k1
      rw [S _ _ k2 k1, hu]; rfl
    · refine RdRow.mono (Gm.Le.refl _) _ _ _ _ (fun j v hv => hv) ?_
      refine RdRow.of (hrow i row hi).length fun j k hk => ?_
      obtain ⟨u, hu, hr⟩ := (hrow i row hi).cell hk
      refine ⟨u, ?_, hr⟩
      have hlt : i * K.kd.length + j < m * K.kd.length := flat_lt (List.getElem?_eq_some_iff.1 hk).1 (by rw [← hl]; exact (List.getElem?_eq_some_iff.1 hi).1)
      rw [List.getElem?_map, List.getElem?_range hlt, Option.map_some, hu]; rfl
  have none_ : ∀ A, v = .slice A 0 0 → SlIs E p g h w K v .nil :=
    fun A hA => ⟨A, 0, 0, [], [], hA, rfl, rfl, Nat.le_refl _, Nat.zero_le _, by simp, by simp, fun _ => rfl, fun _ _ _ _ h => absurd h (Nat.lt_irrefl 0), fun i row h => by simp at h⟩
  unfold slData at ho
  split at ho
  · rename_i L x'
    split at ho
    · rename_i hs
      cases ho
      have := SK.same_eq hs
      subst this
      simp only [SC.is, Rd] at hc
      obtain ⟨A, m, cc, rows, e0, e1, e2, e3, e4, e5, e6⟩ := hc
      rcases Nat.eq_zero_or_pos m with h0 | h0
      · subst h0
        have : rows = [] := List.eq_nil_of_length_eq_zero e2
        subst this
        exact ⟨A, 0, cc, [], [], e0, e1, rfl, e3, e4, by simp, by simp, fun _ => rfl, fun _ _ _ _ h => absurd h (Nat.lt_irrefl 0), fun i row h => by simp at h⟩
      · obtain ⟨b, q, e7, e8⟩ := e6 h0
        subst e7
        obtain ⟨news, n1, n2, n3⟩ := mk m rows b q (fun _ => True) e2 (fun i row hi => RdRow.mono (Gm.Le.refl _) _ _ _ _ (fun j v hv => (H.gg _ _ _ hv).1) (e8 i row hi)) (fun i j k hi hk => by
          obtain ⟨row, hr⟩ : ∃ row, rows[i]? = some row := ⟨_, List.getElem?_eq_getElem (by omega)⟩
          obtain ⟨u, hu, _⟩ := (e8 i row hr).cell hk
          obtain ⟨k1, k2⟩ := H.kn_g hu
          exact ⟨k2, k1⟩)
        exact ⟨_, m, cc, rows, news, e0, e1, e2, e3, e4, e5, n1, fun h => (by cases h), fun b' q' s' he _ => (by cases he; exact ⟨rfl, n2⟩), n3⟩
    · cases ho
  · cases ho
    exact none_ none hc
  · cases ho
    obtain ⟨A, hA⟩ := hc
    exact none_ A hA
  · rename_i b n
    split at ho
    · rename_i A hA
      split at ho
      · rename_i hs
        cases ho
        have hs := SK.same_eq hs
        subst hs
        obtain ⟨ad, cap, m, c1, c2, c3, c4⟩ := hc
        obtain ⟨ad', cap', rows, e1, e2, e3, e4, e5, e6, e7, e8⟩ := (H.arr b A hA).ex
        rw [c1] at e1
        cases e1
        have hle := hn _ (List.mem_singleton.2 rfl)
        rw [mkLe_den, mkLen_den, e2, c2] at hle
        have hle := of_decide_eq_true hle
        simp only [CD.int_i, CD.rows_l] at hle
        have hle : m ≤ rows.length := by omega
        have hden : (mkTake n A.x).den E = .l (rows.take m) := by rw [mkTake_den e2, c2]; simp
        have hl : (rows.take m).length = m := by rw [List.length_take]; omega
        have hby : m * A.K.by_ ≤ B47 := Nat.le_trans (Nat.mul_le_mul_right _ hle) e5
        rcases Nat.eq_zero_or_pos m with h0 | h0
        · subst h0
          exact ⟨ad, 0, cap, [], [], c4, by rw [hden]; simp, rfl, c3, e4, by simp, by simp, fun _ => rfl, fun _ _ _ _ h => absurd h (Nat.lt_irrefl 0), fun i row h => by simp at h⟩
        · obtain ⟨bb, cur, k1, k2, k3, k4, k5, k6⟩ := e8 (by omega)
          subst k1
          obtain ⟨news, n1, n2, n3⟩ := mk m (rows.take m) bb 0 (fun _ => True) hl (fun i row hi => by
            rw [List.getElem?_take] at hi
            split at hi
            · refine RdRow.mono (Gm.Le.refl _) _ _ _ _ (fun j v hv => ?_) (k6 i row hi)
              rw [Nat.zero_add]
              simp [World.cell?, k3, hv]
            · cases hi) (fun i j k hi hk => by
            have hj := (List.getElem?_eq_some_iff.1 hk).1
            have hlt : i * A.K.kd.length + j < rows.length * A.K.kd.length := flat_lt hj (by omega)
            exact ⟨.inr (.inr ⟨b, A, bb, cap, hA, c1, rfl, by rw [e2, Nat.zero_add]; exact hlt⟩), lt_of_block k3⟩)
          exact ⟨_, m, cap, rows.take m, news, c4, hden, hl, c3, e4, hby, n1, fun h => (by cases h), fun b' q' s' he _ => (by cases he; exact ⟨rfl, n2⟩), n3⟩
      · cases ho
    · cases ho
  · cases ho
end
end Go.Sy
