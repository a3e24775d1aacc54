/- Smart words stand for what they should. -/
import Derived.Test.YtpmamacjepcdmaaSyRep
namespace Go.Sy
open Go.RowKit

section
variable {E : Env}
theorem intLt_eq (a b : Int) : intLt a b = decide (a < b) := by
  cases a <;> cases b <;> simp only [intLt, Int.ofNat_eq_natCast]
  · rename_i m n
    rw [Bool.eq_iff_iff, Nat.blt_eq]
    simp
  · rename_i m n
    symm; simp only [decide_eq_false_iff_not]; omega
  · rename_i m n
    symm; simp only [decide_eq_true_eq]; omega
  · rename_i m n
    rw [Bool.eq_iff_iff, Nat.blt_eq]
    simp only [decide_eq_true_eq]
    omega
theorem intSame_iff (a b : Int) : intSame a b = (a == b) := by
  cases a <;> cases b <;> simp only [intSame, Int.ofNat_eq_natCast]
  · rename_i m n; rw [Bool.eq_iff_iff, Nat.beq_eq]; simp only [beq_iff_eq]; omega
  · symm; simp
  · symm; simp
  · rename_i m n; rw [Bool.eq_iff_iff, Nat.beq_eq]; simp
theorem boolSame_iff (a b : Bool) : boolSame a b = (a == b) := by cases a <;> cases b <;> rfl
theorem bytesSame_iff : ∀ (a b : List UInt8), listSame byteSame a b = (a == b)
  | [], [] => rfl
  | x :: l, [] => by simp [listSame]
  | [], y :: m => by simp [listSame]
  | x :: l, y :: m => by
    have h := bytesSame_iff l m
    simp only [listSame, h, byteSame]
    rw [Bool.eq_iff_iff]
    simp [UInt8.toNat_inj]
theorem neg_den (x : X) : ((neg x).den E).bool = !(x.den E).bool := by cases x <;> simp [neg, mkNot, X.den]
theorem mkNot_den (x : X) : (mkNot x).den E = .b (!(x.den E).bool) := by cases x <;> simp [mkNot, X.den]
theorem mkAnd_den {x y : X} {a b : Bool} (hx : x.den E = .b a) (hy : y.den E = .b b) : (mkAnd x y).den E = .b (a && b) := by
  unfold mkAnd
  split
  · simp only [X.den, CD.b.injEq] at hx; subst hx; simpa using hy
  · simp only [X.den, CD.b.injEq] at hx; subst hx; simp [X.den]
  · simp [X.den, hx, hy]
theorem isLen_den : ∀ {x : X}, isLen x = true → ∃ n : Nat, x.den E = .i n
  | .len x, _ => ⟨_, rfl⟩
  | .slen x, _ => ⟨_, rfl⟩
  | .add x y, h => by
    simp only [isLen, Bool.and_eq_true] at h
    obtain ⟨n, hn⟩ := isLen_den h.1
    obtain ⟨m, hm⟩ := isLen_den h.2
    exact ⟨n + m, by simp [X.den, hn, hm]⟩
  | .int (.ofNat n), _ => ⟨n, rfl⟩
  | .int (.negSucc _), h => by simp [isLen] at h
  | .bool _, h | .str _, h | .var _, h | .cell _ _ _, h | .sub _ _, h | .mul _ _, h | .tmod _ _, h | .tdiv _ _, h | .min _ _, h | .max _ _, h | .lt _ _, h | .le _ _, h | .eq _ _, h | .fit _, h
  | .beq _ _, h | .seq _ _, h | .not _, h | .and _ _, h | .or _ _, h | .nil, h | .row0, h | .cons _ _, h | .app _ _, h | .take _ _, h | .drop _ _, h | .set _ _ _ _, h | .rep _ _, h | .look _ _ _ _ _, h | .has _ _ _, h => by simp [isLen] at h
theorem mkLt_den (x y : X) : (mkLt x y).den E = .b (decide ((x.den E).int < (y.den E).int)) := by
  unfold mkLt
  split
  · simp only [X.den, CD.int_i, intLt_eq]
    exact congrArg CD.b (decide_eq_decide.2 Iff.rfl)
  · split
    · rename_i h; rw [X.same_eq h]; simp [X.den]
    · rfl
theorem mkLe_den (x y : X) : (mkLe x y).den E = .b (decide ((x.den E).int ≤ (y.den E).int)) := by
  unfold mkLe
  split
  · rename_i a b
    simp only [X.den, CD.int_i, intLt_eq]
    congr 1
    by_cases hab : a ≤ b
    · have : ¬ b < a := by omega
      simp [hab]
    · have : b < a := by omega
      simp [hab, this]
  · rename_i b _
    split
    · rename_i h
      obtain ⟨n, hn⟩ := isLen_den (E := E) h
      simp [X.den, hn]
    · simp [X.den]
  · split
    · rename_i h; rw [X.same_eq h]; simp [X.den]
    · rfl
theorem mkEq_den (x y : X) : (mkEq x y).den E = .b ((x.den E).int == (y.den E).int) := by
  unfold mkEq
  split
  · simp only [X.den, CD.int_i, intSame_iff]
  · split
    · rename_i h; rw [X.same_eq h]; simp [X.den]
    · rfl
theorem mkBeq_den (x y : X) : (mkBeq x y).den E = .b ((x.den E).bool == (y.den E).bool) := by
  unfold mkBeq
  split
  · simp only [X.den, CD.bool_b, boolSame_iff]
  · split
    · rename_i h; rw [X.same_eq h]; simp [X.den]
    · rfl
theorem mkSeq_den (x y : X) : (mkSeq x y).den E = .b ((x.den E).str == (y.den E).str) := by
  unfold mkSeq
  split
  · simp only [X.den, CD.str_s, bytesSame_iff]
  · split
    · rename_i h; rw [X.same_eq h]; simp [X.den]
    · rfl
theorem mkMin_den (x y : X) : (mkMin x y).den E = .i (if (y.den E).int < (x.den E).int then (y.den E).int else (x.den E).int) := by
  unfold mkMin
  split
  · simp only [X.den, CD.int_i, intLt_eq, decide_eq_true_eq]
    congr
  · rfl
theorem mkMax_den (x y : X) : (mkMax x y).den E = .i (if (x.den E).int < (y.den E).int then (y.den E).int else (x.den E).int) := by
  unfold mkMax
  split
  · simp only [X.den, CD.int_i, intLt_eq, decide_eq_true_eq]
    congr
  · rfl
theorem mkAdd_den (x y : X) : (mkAdd x y).den E = .i ((x.den E).int + (y.den E).int) := by
  unfold mkAdd
  split
  · simp [X.den]
  · split
    · rename_i h; obtain ⟨n, hn⟩ := isLen_den (E := E) h; simp [X.den, hn]
    · simp [X.den]
  · split
    · rename_i h; obtain ⟨n, hn⟩ := isLen_den (E := E) h; simp [X.den, hn]
    · simp [X.den]
  · simp [X.den, Int.add_assoc]
  · rfl
theorem mkLen_den : ∀ (x : X), (mkLen x).den E = .i (x.den E).rows.length
  | .set x i o d => by simp [mkLen, mkLen_den x, X.den]
  | .nil => rfl
  | .row0 => rfl
  | .cons _ _ => rfl
  | .app x y => by simp [mkLen, mkAdd_den, mkLen_den x, mkLen_den y, X.den]
  | .rep n r => by
    simp only [mkLen]
    split
    · simp [X.den]
    · simp [X.den]
    · rfl
  | .int _ | .bool _ | .str _ | .var _ | .cell _ _ _ | .len _ | .slen _ | .add _ _ | .sub _ _ | .mul _ _ | .tmod _ _ | .tdiv _ _ | .min _ _ | .max _ _ | .lt _ _ | .le _ _ | .eq _ _ | .fit _
  | .beq _ _ | .seq _ _ | .not _ | .and _ _ | .or _ _ | .take _ _ | .drop _ _ | .look _ _ _ _ _ | .has _ _ _ => rfl
theorem mkTake_den {n x : X} {rows : List (List CD)} (hx : x.den E = .l rows) : (mkTake n x).den E = .l (rows.take (n.den E).int.toNat) := by
  unfold mkTake
  split
  · rename_i h
    rw [X.same_eq h, mkLen_den, hx]
    simp
  · simp [X.den, hx]
theorem mkDrop_den {n x : X} {rows : List (List CD)} (hx : x.den E = .l rows) : (mkDrop n x).den E = .l (rows.drop (n.den E).int.toNat) := by
  unfold mkDrop
  split
  · simp [X.den, hx]
  · simp [X.den, hx]

theorem X.mem_of {b : X} : ∀ {l : List X}, X.mem b l = true → b ∈ l
  | [], h => by simp [X.mem] at h
  | c :: l, h => by
    simp only [X.mem] at h
    split at h
    · rename_i hs; rw [X.same_eq hs]; simp
    · exact List.mem_cons_of_mem _ (X.mem_of h)
theorem dec_den {known : List X} (hk : ∀ b ∈ known, (b.den E).bool = true) : ∀ {b : X} {c : Bool}, X.dec known b = some c → (b.den E).bool = c := by
  have base : ∀ (b : X) (c : Bool), (if X.mem b known then some true else if X.mem (.not b) known then some false else none) = some c → (b.den E).bool = c := fun b c h => by
    split at h
    · rename_i hm; cases h; exact hk _ (X.mem_of hm)
    · split at h
      · rename_i hm; cases h
        have := hk _ (X.mem_of hm)
        simpa [X.den] using this
      · cases h
  intro b
  induction b with
  | bool b => intro c h; simp only [X.dec, Option.some.injEq] at h; subst h; rfl
  | not x ih =>
    intro c h
    simp only [X.dec] at h
    split at h
    · rename_i b' hb; cases h; simp [X.den, ih hb]
    · split at h
      · rename_i hm; cases h; exact hk _ (X.mem_of hm)
      · cases h
  | and x y ix iy =>
    intro c h
    simp only [X.dec] at h
    split at h
    · rename_i h1; cases h; simp [X.den, ix h1]
    · rename_i h1 _; cases h; simp [X.den, iy h1]
    · rename_i h1 h2; cases h; simp [X.den, ix h1, iy h2]
    · exact base _ _ h
  | or x y ix iy =>
    intro c h
    simp only [X.dec] at h
    split at h
    · rename_i h1; cases h; simp [X.den, ix h1]
    · rename_i h1 _; cases h; simp [X.den, iy h1]
    · rename_i h1 h2; cases h; simp [X.den, ix h1, iy h2]
    · exact base _ _ h
  | _ => intro c h; exact base _ _ h
theorem says_den : ∀ {b : X}, (b.den E).bool = true → ∀ c ∈ X.says b, (c.den E).bool = true := by
  intro b
  induction b with
  | and x y ix iy =>
    intro h c hc
    simp only [X.den, CD.bool_b, Bool.and_eq_true] at h
    simp only [X.says, List.mem_append] at hc
    rcases hc with hc | hc
    · exact ix h.1 c hc
    · exact iy h.2 c hc
  | not x ih =>
    intro h c hc
    cases x with
    | or y z =>
      simp only [X.says, List.mem_cons, List.mem_nil_iff, or_false] at hc
      simp only [X.den, CD.bool_b, Bool.not_eq_true', Bool.or_eq_false_iff] at h
      rcases hc with rfl | rfl <;> simp [X.den, h]
    | _ => simp only [X.says, List.mem_singleton] at hc; subst hc; exact h
  | _ => intro h c hc; simp only [X.says, List.mem_singleton] at hc; subst hc; exact h

/-- A cell that is there. -/
def HasCell (E : Env) (x i : X) (o : Nat) : Prop := ∃ row, (x.den E).rows[(i.den E).int.toNat]? = some row ∧ o < row.length
theorem mkCell_den : ∀ {x i : X} {o : Nat}, HasCell E x i o → (mkCell x i o).den E = (X.cell x i o).den E
  | .set y j p d, i, o, ⟨row, h1, h2⟩ => by
    simp only [X.den, CD.rows_l] at h1
    have hy : ∃ r0, (y.den E).rows[(i.den E).int.toNat]? = some r0 ∧ r0.length = row.length ∧ row = if (j.den E).int.toNat = (i.den E).int.toNat then r0.set p (d.den E) else r0 := by
      rw [List.getElem?_modify] at h1
      cases h0 : (y.den E).rows[(i.den E).int.toNat]? with
      | none => rw [h0] at h1; simp at h1
      | some r0 =>
        rw [h0] at h1
        simp only [Option.map_eq_map, Option.map_some, Option.some.injEq] at h1
        refine ⟨r0, rfl, ?_, h1.symm⟩
        rw [← h1]; split <;> simp
    obtain ⟨r0, h3, h4, h5⟩ := hy
    have hc : (X.cell (.set y j p d) i o).den E = row.getD o .u := by
      simp only [X.den, CD.rows_l, List.getD_eq_getElem?_getD, h1, Option.getD_some]
    have hcy : (X.cell y i o).den E = r0.getD o .u := by
      simp only [X.den, List.getD_eq_getElem?_getD, h3, Option.getD_some]
    simp only [mkCell]
    split
    · rename_i ho
      have ho := Nat.eq_of_beq_eq_true ho
      subst ho
      split
      · rename_i hs
        rw [hc, h5, X.same_eq hs, if_pos rfl]
        simp [List.getD_eq_getElem?_getD, List.getElem?_set_self (by omega : o < r0.length)]
      · split
        · split
          · rfl
          · rename_i a b hne
            rw [mkCell_den ⟨r0, h3, by omega⟩, hcy, hc, h5, if_neg]
            simp only [X.den, CD.int_i]
            intro e
            exact hne (by simp only [Int.ofNat_eq_natCast, Int.toNat_natCast] at e; rw [e]; exact Nat.beq_refl _)
        · rfl
    · rename_i ho
      have ho : o ≠ p := fun e => ho (by rw [e]; exact Nat.beq_refl p)
      rw [mkCell_den ⟨r0, h3, by omega⟩, hcy, hc, h5]
      split
      · simp [List.getD_eq_getElem?_getD, List.getElem?_set_ne (Ne.symm ho)]
      · rfl
  | .cons d r, i, o, h => by
    simp only [mkCell]
    split
    · simp [X.den]
    · rename_i o'
      obtain ⟨row, h1, h2⟩ := h
      simp only [X.den, CD.rows_l, CD.int_i, Int.ofNat_eq_natCast, Int.toNat_natCast, List.getElem?_cons_zero, Option.some.injEq] at h1
      subst h1
      simp only [List.length_cons] at h2
      have hr : ∃ l, (r.den E).rows = (r.den E).row :: l := by
        unfold CD.row at h2 ⊢
        cases hrr : (r.den E).rows with
        | nil => rw [hrr] at h2; simp at h2
        | cons a l => exact ⟨l, rfl⟩
      obtain ⟨l, hl⟩ := hr
      rw [mkCell_den ⟨(r.den E).row, by simp [X.den, hl], by omega⟩]
      simp [X.den, hl]
    · rfl
  | .app x y, i, o, ⟨row, h1, h2⟩ => by
    simp only [mkCell]
    split
    · rename_i a n hn
      have hlen : (x.den E).rows.length = n := by
        have := mkLen_den (E := E) x
        rw [hn] at this
        simp only [X.den, CD.i.injEq, Int.ofNat_eq_natCast] at this
        omega
      simp only [X.den, CD.rows_l, CD.int_i, Int.ofNat_eq_natCast, Int.toNat_natCast] at h1
      split
      · rename_i hlt
        have hlt := blt_lt hlt
        rw [List.getElem?_append_left (by omega)] at h1
        rw [mkCell_den ⟨row, by simpa [X.den] using h1, h2⟩]
        simp [X.den, List.getD_eq_getElem?_getD, List.getElem?_append_left (show a < (x.den E).rows.length by omega)]
      · rename_i hlt
        have hge : n ≤ a := by
          rcases Nat.lt_or_ge a n with h | h
          · exact absurd (by rw [Nat.blt_eq]; exact h) hlt
          · exact h
        rw [List.getElem?_append_right (by omega), hlen] at h1
        rw [mkCell_den ⟨row, by simpa [X.den] using h1, h2⟩]
        simp [X.den, List.getD_eq_getElem?_getD, List.getElem?_append_right (show (x.den E).rows.length ≤ a by omega), hlen]
    · rfl
  | .rep n r, i, o, ⟨row, h1, h2⟩ => by
    simp only [mkCell]
    simp only [X.den, CD.rows_l] at h1
    have hlt : (i.den E).int.toNat < (n.den E).int.toNat := by
      have := (List.getElem?_eq_some_iff.1 h1).1
      simpa using this
    rw [List.getElem?_replicate, if_pos hlt] at h1
    cases h1
    have hr : ∃ l, (r.den E).rows = (r.den E).row :: l := by
      unfold CD.row at h2 ⊢
      cases hrr : (r.den E).rows with
      | nil => rw [hrr] at h2; simp at h2
      | cons a l => exact ⟨l, rfl⟩
    obtain ⟨l, hl⟩ := hr
    rw [mkCell_den ⟨(r.den E).row, by simp [X.den, hl], h2⟩]
    simp [X.den, hl, List.getD_eq_getElem?_getD, hlt]
  | .int _, _, _, _ | .bool _, _, _, _ | .str _, _, _, _ | .var _, _, _, _ | .cell _ _ _, _, _, _ | .len _, _, _, _ | .slen _, _, _, _ | .add _ _, _, _, _ | .sub _ _, _, _, _ | .mul _ _, _, _, _ | .tmod _ _, _, _, _ | .tdiv _ _, _, _, _
  | .min _ _, _, _, _ | .max _ _, _, _, _ | .lt _ _, _, _, _ | .le _ _, _, _, _ | .eq _ _, _, _, _ | .fit _, _, _, _ | .beq _ _, _, _, _ | .seq _ _, _, _, _ | .not _, _, _, _ | .and _ _, _, _, _ | .or _ _, _, _, _
  | .nil, _, _, _ | .row0, _, _, _ | .take _ _, _, _, _ | .drop _ _, _, _, _ | .look _ _ _ _ _, _, _, _ | .has _ _ _, _, _, _ => rfl

theorem mkRow_den : ∀ (l : List X), (mkRow l).den E = .l [l.map (X.den E)]
  | [] => rfl
  | d :: l => by simp [mkRow, X.den, mkRow_den l, CD.row]

/-! ### Cells that are data -/
variable {p : Pl} {g : Gm}
theorem kdCell_is {k : Kd} {x : X} {v : Value} (h : Rd g k v (x.den E)) : (kdCell x k).is E p g v := by
  cases k with
  | int k => simp only [Rd] at h; obtain ⟨n, h1, h2⟩ := h; exact ⟨n, h2, h1⟩
  | bool => simp only [Rd] at h; obtain ⟨n, h1, h2⟩ := h; exact ⟨n, h2, h1⟩
  | str => simp only [Rd] at h; obtain ⟨n, h1, h2⟩ := h; exact ⟨n, h2, h1⟩
  | sl b kd => exact h
theorem Rd.nil {b : Nat} {kd : List Kd} (A : Option Addr) : Rd g (.sl b kd) (.slice A 0 0) (.l []) := by
  simp only [Rd]
  exact ⟨A, 0, 0, [], rfl, rfl, rfl, Nat.le_refl _, Nat.zero_le _, by simp, fun h => absurd h (Nat.lt_irrefl 0)⟩
theorem scData_rd {k : Kd} {c : SC} {x : X} {v : Value} (h : scData k c = some x) (hc : c.is E p g v) : Rd g k v (x.den E) := by
  unfold scData at h
  split at h
  · split at h
    · rename_i hk; cases h; obtain ⟨n, h1, h2⟩ := hc; rw [IntKind.same_eq hk]; simp only [Rd]; exact ⟨n, h2, h1⟩
    · cases h
  · cases h; obtain ⟨n, h1, h2⟩ := hc; simp only [Rd]; exact ⟨n, h2, h1⟩
  · cases h; obtain ⟨n, h1, h2⟩ := hc; simp only [Rd]; exact ⟨n, h2, h1⟩
  · split at h
    · rename_i hk; cases h; have := SK.same_eq hk; subst this; exact hc
    · cases h
  · cases h; have : v = .slice none 0 0 := hc; subst this; exact Rd.nil _
  · cases h; obtain ⟨A, hA⟩ := hc; subst hA; exact Rd.nil _
  · cases h
theorem Rd.one {k : Kd} {v : Value} {d : CD} (h : Rd g k v d) : v.oneCell' = true := by
  cases k <;> simp only [Rd] at h
  · obtain ⟨n, h1, _⟩ := h; subst h1; rfl
  · obtain ⟨n, h1, _⟩ := h; subst h1; rfl
  · obtain ⟨n, h1, _⟩ := h; subst h1; rfl
  · obtain ⟨A, n, c, rows, h1, _⟩ := h; subst h1; rfl
theorem scDatas_rd : ∀ {kd : List Kd} {cs : List SC} {ds : List X} {vs : List Value}, scDatas kd cs = some ds → All2 (SC.is E p g) cs vs → ds.length = kd.length ∧ cs.length = kd.length ∧ ∀ (j : Nat) k, kd[j]? = some k → ∃ v x, vs[j]? = some v ∧ ds[j]? = some x ∧ Rd g k v (x.den E)
  | [], [], ds, [], h, _ => by simp only [scDatas, Option.some.injEq] at h; subst h; exact ⟨rfl, rfl, fun j k e => by simp at e⟩
  | k :: kd, c :: cs, ds, v :: vs, h, hv => by
    simp only [scDatas] at h
    split at h
    · rename_i x xs h1 h2
      cases h
      obtain ⟨e1, e2, e3⟩ := scDatas_rd h2 hv.2
      refine ⟨by simp [e1], by simp [e2], fun j k' e => ?_⟩
      cases j with
      | zero =>
        simp only [List.getElem?_cons_zero, Option.some.injEq] at e
        subst e
        exact ⟨v, x, rfl, rfl, scData_rd h1 hv.1⟩
      | succ j => simpa using e3 j k' (by simpa using e)
    · cases h
  | [], _ :: _, _, _, h, _ => by simp [scDatas] at h
  | _ :: _, [], _, _, h, _ => by simp [scDatas] at h
  | [], [], _, _ :: _, _, hv => hv.elim
  | _ :: _, _ :: _, _, [], _, hv => hv.elim
/-- The data of cells in a row. -/
theorem scDatas_row {kd : List Kd} {cs : List SC} {ds : List X} {vs : List Value} (h : scDatas kd cs = some ds) (hv : All2 (SC.is E p g) cs vs) {f : Nat → Option Value} (hf : ∀ (j : Nat) v, vs[j]? = some v → f j = some v) : RdRow g kd f (ds.map (X.den E)) := by
  obtain ⟨e1, e2, e3⟩ := scDatas_rd h hv
  refine RdRow.of (by simpa using e1) fun j k hk => ?_
  obtain ⟨v, x, h1, h2, h3⟩ := e3 j k hk
  refine ⟨v, hf j v h1, ?_⟩
  simpa [List.getD_eq_getElem?_getD, h2] using h3

/-- The cells of a row from an offset on. -/
theorem kdCells_is {x i : X} {rows : List (List CD)} {row : List CD} (hx : x.den E = .l rows) (hr : rows[(i.den E).int.toNat]? = some row) : ∀ {ks : List Kd} {o : Nat} {f : Nat → Option Value},
    (∀ (j : Nat) k, ks[j]? = some k → ∃ v, f j = some v ∧ Rd g k v (row.getD (o + j) .u)) → (o + ks.length ≤ row.length) → ∀ j c, nth (kdCells x i o ks) j = some c → ∃ v, f j = some v ∧ c.is E p g v
  | [], o, f, _, _, j, c, h => by simp [kdCells, nth] at h
  | k :: ks, o, f, hf, hl, j, c, h => by
    simp only [kdCells] at h
    simp only [List.length_cons] at hl
    cases j with
    | zero =>
      simp only [nth, Option.some.injEq] at h
      subst h
      obtain ⟨v, h1, h2⟩ := hf 0 k rfl
      refine ⟨v, h1, kdCell_is ?_⟩
      rw [mkCell_den ⟨row, by rw [hx]; exact hr, by omega⟩]
      simp only [X.den, hx, CD.rows_l]
      rw [List.getD_eq_getElem?_getD (l := rows), hr, Option.getD_some]
      simpa using h2
    | succ j =>
      simp only [nth] at h
      refine kdCells_is hx hr (ks := ks) (o := o + 1) (f := fun j => f (j + 1)) (fun j k' e => ?_) (by omega) j c h
      obtain ⟨v, h1, h2⟩ := hf (j + 1) k' (by simpa using e)
      exact ⟨v, h1, by rw [show o + 1 + j = o + (j + 1) from by omega]; exact h2⟩
theorem length_kdCells (x i : X) : ∀ (ks : List Kd) (o : Nat), (kdCells x i o ks).length = ks.length
  | [], _ => rfl
  | _ :: ks, o => by simp [kdCells, length_kdCells x i ks (o + 1)]
/-- A row with cells written from an offset on. -/
def putRow (row : List CD) (o : Nat) : List CD → List CD
  | [] => row
  | d :: l => putRow (row.set o d) (o + 1) l
theorem length_putRow : ∀ (l row : List CD) (o : Nat), (putRow row o l).length = row.length
  | [], _, _ => rfl
  | d :: l, row, o => by simp [putRow, length_putRow l]
theorem getElem_putRow : ∀ (l row : List CD) (o j : Nat), o + l.length ≤ row.length → (putRow row o l)[j]? = if o ≤ j ∧ j < o + l.length then l[j - o]? else row[j]?
  | [], row, o, j, _ => by simp only [putRow, List.length_nil]; rw [if_neg (by omega)]
  | d :: l, row, o, j, h => by
    simp only [List.length_cons] at h ⊢
    rw [putRow, getElem_putRow l (row.set o d) (o + 1) j (by simp; omega)]
    by_cases h1 : o + 1 ≤ j ∧ j < o + 1 + l.length
    · rw [if_pos h1, if_pos (by omega), show j - o = j - (o + 1) + 1 from by omega, List.getElem?_cons_succ]
    · rw [if_neg h1]
      by_cases h2 : j = o
      · subst h2
        rw [if_pos (by omega), List.getElem?_set_self (by omega)]; simp
      · rw [if_neg (by omega), List.getElem?_set_ne (by omega)]
theorem setCells_den {i : X} : ∀ (ds : List X) (x : X) (o : Nat) {rows : List (List CD)}, x.den E = .l rows → (setCells x i o ds).den E = .l (rows.modify (i.den E).int.toNat fun r => putRow r o (ds.map (X.den E)))
  | [], x, o, rows, h => by
    simp only [setCells, h, List.map_nil, putRow]
    congr 1
    exact (List.modify_id _ _).symm
  | d :: ds, x, o, rows, h => by
    simp only [setCells]
    rw [setCells_den ds (.set x i o d) (o + 1) (by simp only [X.den, h, CD.rows_l]; rfl)]
    congr 1
    rw [List.modify_modify_eq]
    rfl
theorem inRange_den {i n : X} {k : Nat} (hn : n.den E = .i k) (h : ∀ b ∈ inRange i n, (b.den E).bool = true) : 0 ≤ (i.den E).int ∧ (i.den E).int.toNat < k := by
  have h1 := h _ (by simp [inRange] : mkLe (.int 0) i ∈ _)
  have h2 := h _ (by simp [inRange] : mkLt i n ∈ _)
  rw [mkLe_den] at h1
  rw [mkLt_den, hn] at h2
  simp only [CD.bool_b, X.den, CD.int_i] at h1 h2
  have h1 := of_decide_eq_true h1
  have h2 := of_decide_eq_true h2
  omega
end
end Go.Sy
