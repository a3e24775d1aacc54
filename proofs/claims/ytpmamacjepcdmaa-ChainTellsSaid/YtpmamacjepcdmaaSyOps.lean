/- What the operations do, said of symbolic values. -/
import Derived.Test.YtpmamacjepcdmaaSyWords
namespace Go.Sy
open Go.RowKit

/-! ### Operands -/
theorem ofCell_is {E : Env} {p : Pl} {g : Gm} {v : Value} {c : SC} (h : ofCell v = some c) : c.is E p g v := by
  unfold ofCell at h
  split at h <;> cases h <;> simp [SC.is, X.den]
theorem ofCells_is {E : Env} {p : Pl} {g : Gm} : ∀ {l : List Value} {m : List SC}, ofCells l = some m → All2 (SC.is E p g) m l
  | [], m, h => by simp only [ofCells, Option.some.injEq] at h; subst h; trivial
  | v :: l, m, h => by
    simp only [ofCells] at h
    split at h
    · rename_i c m' h1 h2; cases h; exact ⟨ofCell_is h1, ofCells_is h2⟩
    · cases h
theorem ofConst_is {E : Env} {p : Pl} {g : Gm} {v : Value} {r : SR} (h : ofConst v = some r) : r.is E p g v := by
  unfold ofConst at h
  split at h
  · rename_i cs
    cases hm : ofCells cs.toList with
    | none => rw [hm] at h; cases h
    | some m =>
      rw [hm] at h
      cases h
      exact ⟨cs.toList, by simp, ofCells_is hm⟩
  · cases hm : ofCell v with
    | none => rw [hm] at h; cases h
    | some m => rw [hm] at h; cases h; exact ofCell_is hm

section
variable {E : Env} {p : Pl} {g : Gm} {a : Act}
theorem ev_is {T : List SR} (ht : ∀ i c, nth T i = some c → c.is E p g (a.tmps.getD i Go.undef)) {x : Operand} {r : SR} (h : ev T x = some r) : r.is E p g (a.eval x) := by
  cases x with
  | tmp t => exact ht t r h
  | const v => exact ofConst_is h
  | global g => cases h
  | func f =>
    simp only [ev, Option.some.injEq] at h
    subst h
    exact ⟨[], rfl, trivial⟩
theorem evs_is {T : List SR} (ht : ∀ i c, nth T i = some c → c.is E p g (a.tmps.getD i Go.undef)) : ∀ {l : List Operand} {m : List SR}, evs T l = some m → All2 (SR.is E p g) m (l.map a.eval)
  | [], m, h => by simp only [evs, Option.some.injEq] at h; subst h; trivial
  | x :: l, m, h => by
    simp only [evs] at h
    split at h
    · rename_i c m' h1 h2; cases h; exact ⟨ev_is ht h1, evs_is ht h2⟩
    · cases h
theorem evs_one {T : List SR} {l : List Operand} {c : SR} (h : evs T l = some [c]) : ∃ x, l = [x] ∧ ev T x = some c := by
  cases l with
  | nil => simp [evs] at h
  | cons x l =>
    simp only [evs] at h
    split at h
    · rename_i d m h1 h2
      cases h
      cases l with
      | nil => exact ⟨x, rfl, h1⟩
      | cons y l => simp only [evs] at h2; split at h2 <;> cases h2
    · cases h
theorem evs_two {T : List SR} {l : List Operand} {c d : SR} (h : evs T l = some [c, d]) : ∃ x y, l = [x, y] ∧ ev T x = some c ∧ ev T y = some d := by
  cases l with
  | nil => simp [evs] at h
  | cons x l =>
    simp only [evs] at h
    split at h
    · rename_i h1 h2
      cases h
      obtain ⟨y, e, h3⟩ := evs_one h2
      subst e
      exact ⟨x, y, rfl, h1, h3⟩
    · cases h
theorem SC.one {c : SC} {v : Value} (h : c.is E p g v) (h1 : c ≠ .any) (h2 : c ≠ .undef) : v.oneCell' = true := by
  cases c <;> simp only [SC.is] at h
  · exact absurd rfl h1
  · exact absurd rfl h2
  · obtain ⟨_, _, e⟩ := h; subst e; rfl
  · obtain ⟨_, _, e⟩ := h; subst e; rfl
  · obtain ⟨_, _, e⟩ := h; subst e; rfl
  · exact Rd.one h
  · obtain ⟨_, _, _, _, e, _⟩ := h; subst e; rfl
  · obtain ⟨_, _, _, _, _, _, e⟩ := h; subst e; rfl
  · obtain ⟨_, _, _, _, _, e⟩ := h; subst e; rfl
  · obtain ⟨_, _, _, e⟩ := h; subst e; rfl
  · subst h; rfl
  · obtain ⟨_, e⟩ := h; subst e; rfl
  · subst h; rfl
  · subst h; rfl
  · obtain ⟨_, _, e⟩ := h; subst e; rfl
  · obtain ⟨_, e, _⟩ := h; subst e; rfl
/-- The cells of a value. -/
theorem cells_is {x : SV} {v : Value} (h : x.is E p g v) (ho : ∀ c, x = .one c → v.oneCell' = true ∨ v = Go.undef) : All2 (SC.is E p g) x.cells v.cells.toList := by
  cases x with
  | one c =>
    have hv : v.cells = #[v] := by
      rcases ho c rfl with h1 | h1
      · cases v <;> first | rfl | (simp [Value.oneCell'] at h1)
      · subst h1; rfl
    rw [hv]
    exact ⟨h, trivial⟩
  | agg l =>
    obtain ⟨vs, e, hv⟩ := h
    subst e
    simpa [SV.cells, Value.cells] using hv
theorem full_one {x : SV} {v : Value} (h : x.is E p g v) (hf : x.full = true) : ∀ c, x = .one c → v.oneCell' = true ∨ v = Go.undef := by
  intro c e
  subst e
  by_cases hu : c = .undef
  · subst hu; exact .inr h
  · exact .inl (SC.one h (fun e => by subst e; cases hf) hu)
end

/-! ### The types -/
/-- Is the value of this kind? (Of those that may be compared.) -/
def Kd.isv : Kd → Value → Prop
  | .int k, v => ∃ n, v = .int k n
  | .bool, v => ∃ b, v = .bool b
  | _, _ => False
def eqVals : List Value → List Value → Bool
  | .int _ a :: l, .int _ b :: m => (a == b) && eqVals l m
  | .bool a :: l, .bool b :: m => (a == b) && eqVals l m
  | [], [] => true
  | _, _ => false
structure TiOk (P : Program) (t : Nat) (ti : TI) : Prop where
  ex : ∃ (i : TypeInfo) (d : TypeDesc) (z : Value), P.info? t = some i ∧ P.underlying t = some d ∧ i.size = ti.sz ∧ i.bytes = ti.by_ ∧ i.zero = some z ∧ z.cells.size = ti.sz ∧
    ofCells z.cells.toList = some ti.zero ∧ (ti.agg = true ↔ ∃ cs, z = .agg cs) ∧
    (ti.agg = true ↔ (∃ fs, d = .struct fs) ∨ ∃ n e, d = .array n e) ∧
    match ti.k with
    | .struct fs => ∃ flds : Array Field, d = .struct flds ∧ flds.size = fs.length ∧ ∀ j off u, nth fs j = some (off, u) → ∃ f, flds[j]? = some f ∧ f.offset = off ∧ f.type = u
    | .array n e => d = .array n e
    | .slice e => d = .slice e
    | .map k v => d = .map k v
    | .ptr e => d = .pointer e
    | .other => True
structure TOk (P : Program) (T : TT) : Prop where
  get : ∀ t ti, T.get t = some ti → TiOk P t ti
  eq : ∀ t ti kd, T.get t = some ti → ti.eq = true → ti.kd = some kd → ∀ (xs ys : List Value), All2 Kd.isv kd xs → All2 Kd.isv kd ys → ∀ (w : World) (x y : Operand) (op : BinOp), op = .eql ∨ op = .neq →
    (do eqGuard op t x y (vof ti.agg xs) (vof ti.agg ys); binOp op t (vof ti.agg xs) (vof ti.agg ys)).run P w = .ok (.bool (if op = .eql then eqVals xs ys else !eqVals xs ys)) w
  key : ∀ t ti, T.get t = some ti → ti.key = true →
    (ti.agg = false → (∃ k, P.underlying t = some (.int k) ∧ ti.kd = some [.int k]) ∨ (P.underlying t = some .bool ∧ ti.kd = some [.bool])) ∧
    (ti.agg = true → (∃ fs, P.underlying t = some (.struct fs)) ∧ ∀ kd, ti.kd = some kd → (∀ xs, All2 Kd.isv kd xs → ∀ (w : World) (em : Bool), (Instr.checkKey em 10000 t (.agg xs.toArray)).run P w = .ok () w) ∧
      ∀ xs ys, All2 Kd.isv kd xs → All2 Kd.isv kd ys → ∀ w : World, (Op.equal t (.agg xs.toArray) (.agg ys.toArray)).run P w = .ok (eqVals xs ys) w)

/-! ### Worlds in which all that is known is the same -/
def CellsSame (E : Env) (p : Pl) (h : Hp) (w w' : World) : Prop := ∀ k i, k < w.heap.size → Kn E p h k i → w'.cell? ⟨k, i, none⟩ = w.cell? ⟨k, i, none⟩
theorem CellsSame.refl (E : Env) (p : Pl) (h : Hp) (w : World) : CellsSame E p h w w := fun _ _ _ _ => rfl

section
variable {P : Program} {T : TT} {B : Base} {E : Env} {p : Pl} {g : Gm} {h : Hp} {w : World}

theorem RepH.kn_g (H : RepH B E p g h w) {k i : Nat} {v : Value} (hg : g k i = some v) : k < w.heap.size ∧ Kn E p h k i := ⟨H.gg_lt hg, .inl (H.gg k i v hg).2⟩
theorem CellsSame.gm {w' : World} (S : CellsSame E p h w w') (H : RepH B E p g h w) {k i : Nat} {v : Value} (hg : g k i = some v) : w'.cell? ⟨k, i, none⟩ = some v := by
  obtain ⟨h1, h2⟩ := H.kn_g hg
  rw [S k i h1 h2]; exact (H.gg k i v hg).1
theorem RepH.reg_cell (H : RepH B E p g h w) {r o b q : Nat} {cs : List SC} {c : SC} (hr : nth h.regs r = some (.at cs)) (hc : nth cs o = some c) (hp : p.reg r = some (b, q)) :
    ∃ v, c.is E p g v ∧ (∀ w', CellsSame E p h w w' → w'.cell? ⟨b, q + o, none⟩ = some v) ∧ B.wr b (q + o) ∧ w.frozen? ⟨b, q + o, none⟩ = false ∧ b < w.heap.size ∧ p.ow b = .reg r := by
  obtain ⟨b', q', h1, h2, h3, h4⟩ := (H.reg r cs hr).ex
  rw [hp] at h1
  cases h1
  obtain ⟨k1, k2, v, k3, k4⟩ := h4 o c hc
  refine ⟨v, k4, fun w' S => ?_, k1, k2, h3, h2⟩
  rw [S _ _ h3 (.inr (.inl ⟨r, cs, b, q, hr, hp, rfl, by omega, by have := nth_lt hc; omega⟩))]; exact k3
/-- An array's rows, where it has some. -/
theorem RepH.arr_row (H : RepH B E p g h w) {a : Nat} {A : Ar} (ha : nth h.arrs a = some (.at A)) {rows : List (List CD)} (hx : A.x.den E = .l rows) {n : Nat} {row : List CD} (hn : rows[n]? = some row) :
    ∃ b c, p.arr a = some (some ⟨b, 0, none⟩, c) ∧ p.ow b = .arr a ∧ b < w.heap.size ∧ row.length = A.K.kd.length ∧ (∀ j k, A.K.kd[j]? = some k → ∃ v, (∀ w', CellsSame E p h w w' → w'.cell? ⟨b, n * A.K.kd.length + j, none⟩ = some v) ∧ Rd g k v (row.getD j .u)) ∧
      (∀ j, j < A.K.kd.length → B.wr b (n * A.K.kd.length + j)) ∧ (∀ j, w.frozen? ⟨b, j, none⟩ = false) := by
  obtain ⟨ad, cap, rows', h1, h2, h3, h4, h5, h6, h7, h8⟩ := (H.arr a A ha).ex
  rw [hx] at h2
  cases h2
  have hlt := (List.getElem?_eq_some_iff.1 hn).1
  obtain ⟨b, cur, e, k1, k2, k3, k4, k5⟩ := h8 (by omega)
  subst e
  have hrow := k5 n row hn
  have hle : (n + 1) * A.K.kd.length ≤ rows.length * A.K.kd.length := Nat.mul_le_mul_right _ hlt
  have hle2 : rows.length * A.K.kd.length ≤ cap * A.K.kd.length := Nat.mul_le_mul_right _ h3
  rw [Nat.add_mul] at hle
  refine ⟨b, cap, h1, k1, lt_of_block k2, hrow.length, fun j k hk => ?_, fun j hj => k4 _ (by omega), fun j => by simp only [World.frozen?, k2]; simp⟩
  obtain ⟨v, hv, hr⟩ := hrow.cell hk
  have hj := (List.getElem?_eq_some_iff.1 hk).1
  refine ⟨v, fun w' S => ?_, hr⟩
  rw [S b _ (lt_of_block k2) (.inr (.inr ⟨a, A, b, cap, ha, h1, rfl, by rw [hx]; show _ < rows.length * _; omega⟩))]
  simp [World.cell?, k2, hv]

theorem run_isAgg (hT : TOk P T) {t : Nat} {ti : TI} (ht : T.get t = some ti) (w : World) : (isAgg t).run P w = .ok ti.agg w := by
  obtain ⟨i, d, z, h1, h2, _, _, _, _, _, _, h8, _⟩ := (hT.get t ti ht).ex
  simp only [isAgg, Sem.run_bind, run_underlying h2, Result.andThen_ok]
  cases ha : ti.agg with
  | true =>
    rcases h8.1 ha with ⟨fs, rfl⟩ | ⟨n, e, rfl⟩ <;> rfl
  | false =>
    cases d <;> first
      | rfl
      | (exfalso; have := h8.2 (.inl ⟨_, rfl⟩); rw [ha] at this; cases this)
      | (exfalso; have := h8.2 (.inr ⟨_, _, rfl⟩); rw [ha] at this; cases this)
theorem run_sizeOf (hT : TOk P T) {t : Nat} {ti : TI} (ht : T.get t = some ti) (w : World) : (sizeOf t).run P w = .ok ti.sz w := by
  obtain ⟨i, d, z, h1, h2, h3, _⟩ := (hT.get t ti ht).ex
  simp [sizeOf, typeInfo, h1, h3]

/-- The values of cells that lie in a row, in whichever of these worlds. -/
theorem row_vals {R : SC → Value → Prop} {S : World → Prop} {f : Nat → Addr} : ∀ (l : List SC), (∀ j c, nth l j = some c → ∃ v, (∀ w, S w → w.cell? (f j) = some v) ∧ R c v) → ∃ vs : List Value, All2 R l vs ∧ ∀ j v, nth vs j = some v → ∀ w, S w → w.cell? (f j) = some v
  | [], _ => ⟨[], trivial, fun j v h => by cases j <;> simp [nth] at h⟩
  | c :: l, h => by
    obtain ⟨v, hv, hc⟩ := h 0 c rfl
    obtain ⟨vs, h1, h2⟩ := row_vals (f := fun j => f (j + 1)) l (fun j c' hj => h (j + 1) c' hj)
    refine ⟨v :: vs, ⟨hc, h1⟩, fun j u hu => ?_⟩
    cases j with
    | zero => simp only [nth, Option.some.injEq] at hu; subst hu; exact hv
    | succ j => exact h2 j u hu

/-- A load, where the cells in a row are known. -/
theorem run_loadVar_cells (hT : TOk P T) {t : Nat} {ti : TI} (ht : T.get t = some ti) {cs : List SC} (hl : cs.length = ti.sz) (a : Addr) (S : World → Prop)
    (hc : ∀ j c, nth cs j = some c → ∃ v, (∀ w, S w → w.cell? (a.add j) = some v) ∧ c.is E p g v) (r : SR) (hr : oneOrAgg ti.agg cs = some r) :
    ∃ v, (∀ w, S w → (loadVar t a).run P w = .ok v w) ∧ r.is E p g v := by
  obtain ⟨vs, h1, h2⟩ := row_vals cs hc
  have hlen := h1.length
  have hll := fun w hw => run_loadCells_list (P := P) w a vs (fun j v hj => h2 j v (by rw [nth_eq]; exact hj) w hw)
  cases hg : ti.agg with
  | true =>
    rw [hg] at hr
    simp only [oneOrAgg, if_true, Option.some.injEq] at hr
    subst hr
    rw [show vs.length = ti.sz from by omega] at hll
    refine ⟨.agg vs.toArray, fun w hw => ?_, vs, rfl, h1⟩
    simp only [loadVar, Sem.run_bind, run_isAgg hT ht, Result.andThen_ok, hg]
    simp [run_sizeOf hT ht, hll w hw]
  | false =>
    rw [hg] at hr
    simp only [oneOrAgg, Bool.false_eq_true, if_false] at hr
    split at hr
    · rename_i c
      cases hr
      obtain ⟨v, hv, hcv⟩ := hc 0 c rfl
      have : a.add 0 = a := by simp [Addr.add]
      rw [this] at hv
      refine ⟨v, fun w hw => ?_, hcv⟩
      simp only [loadVar, Sem.run_bind, run_isAgg hT ht, Result.andThen_ok, hg]
      simp [hv w hw]
    · cases hr

theorem loadAt_sound (hT : TOk P T) (H : RepH B E p g h w) {t : Nat} {r r' : SR} {v : Value} {ns : List X} {h' : Hp} {qu : Bool} (hr : r.is E p g v) (ho : loadAt T h t r = .val ns r' h' qu) (hn : ∀ b ∈ ns, (b.den E).bool = true) :
    h' = h ∧ ∃ v', (∀ w', CellsSame E p h w w' → (Instr.loadAt t v).run P w' = .ok v' w') ∧ r'.is E p g v' := by
  unfold loadAt at ho
  split at ho
  · -- a region
    rename_i q o
    split at ho
    · rename_i ti cs ht hcs
      split at ho
      · rename_i m hm
        obtain ⟨hl, hle, hnth⟩ := takeFrom_nth hm
        obtain ⟨b, k, hp, hv⟩ := (hr : ∃ b k, p.reg q = some (b, k) ∧ v = .pointer (some ⟨b, k + o, none⟩))
        subst hv
        split at ho
        · rename_i rr hrr
          cases ho
          obtain ⟨v', h1, h2⟩ := run_loadVar_cells (E := E) (p := p) (g := g) hT ht hl ⟨b, k + o, none⟩ (CellsSame E p h w) (fun j c hj => by
            rw [hnth j (by have := nth_lt hj; omega)] at hj
            obtain ⟨u, k1, k2, _⟩ := H.reg_cell hcs hj hp
            exact ⟨u, fun w' S => by rw [add_at, Nat.add_assoc]; exact k2 w' S, k1⟩) _ hrr
          exact ⟨rfl, v', fun w' S => by simp [Instr.loadAt, Instr.sureAddr, h1 w' S], h2⟩
        · cases ho
      · cases ho
    · cases ho
  · -- an array
    rename_i a z i o
    split at ho
    · rename_i ti A ht hA
      split at ho
      · rename_i hz
        simp only [Bool.and_eq_true] at hz
        have hz1 := Nat.eq_of_beq_eq_true hz.1
        have hz2 := Nat.le_of_ble_eq_true hz.2
        subst hz1
        split at ho
        · rename_i rr hrr
          cases ho
          obtain ⟨ad, cap, rows, _, hx, _⟩ := (H.arr a A hA).ex
          obtain ⟨h0, h1⟩ := inRange_den (mkLen_den A.x) hn
          rw [hx] at h1
          obtain ⟨row, hrow⟩ : ∃ row, rows[(i.den E).int.toNat]? = some row := ⟨_, List.getElem?_eq_getElem h1⟩
          obtain ⟨b, c, e1, _, _, e4, e5, _⟩ := H.arr_row hA hx hrow
          obtain ⟨b', c', n, k1, k2, k3⟩ := (hr : ∃ b c n : Nat, p.arr a = some (some ⟨b, 0, none⟩, c) ∧ i.den E = .i n ∧ v = .pointer (some ⟨b, n * A.K.kd.length + o, none⟩))
          rw [e1] at k1
          cases k1
          subst k3
          have hni : (i.den E).int.toNat = n := by rw [k2]; simp
          rw [hni] at hrow e5
          obtain ⟨v', h2, h3⟩ := run_loadVar_cells (E := E) (p := p) (g := g) hT ht (by rw [length_kdCells]; simp; omega) ⟨b, n * A.K.kd.length + o, none⟩ (CellsSame E p h w) (fun j cc hj => by
            obtain ⟨u, k1, k2⟩ := kdCells_is (p := p) (g := g) (i := i) (ks := (A.K.kd.drop o).take ti.sz) (o := o) (f := fun j => some (((w.cell? ⟨b, n * A.K.kd.length + (o + j), none⟩).getD Go.undef))) hx (by rw [hni]; exact hrow) (fun j k hk => by
              rw [List.getElem?_take] at hk
              split at hk
              · rw [List.getElem?_drop] at hk
                obtain ⟨u, g1, g2⟩ := e5 _ _ hk
                exact ⟨u, by rw [g1 w (CellsSame.refl _ _ _ _)]; rfl, g2⟩
              · cases hk) (by simp; omega) j cc hj
            have hj' := nth_lt hj
            rw [length_kdCells] at hj'
            simp only [List.length_take, List.length_drop] at hj'
            obtain ⟨kk, hkk⟩ : ∃ kk, A.K.kd[o + j]? = some kk := ⟨_, List.getElem?_eq_getElem (by omega)⟩
            obtain ⟨u', g1, g2⟩ := e5 _ _ hkk
            rw [g1 w (CellsSame.refl _ _ _ _)] at k1
            simp only [Option.getD_some, Option.some.injEq] at k1
            subst k1
            exact ⟨_, fun w' S => by rw [add_at, Nat.add_assoc]; exact g1 w' S, k2⟩) _ hrr
          exact ⟨rfl, v', fun w' S => by simp [Instr.loadAt, Instr.sureAddr, h2 w' S], h3⟩
        · cases ho
      · cases ho
    · cases ho
  · -- what is only read
    rename_i K x i o
    split at ho
    · rename_i ti ht
      split at ho
      · rename_i hz
        have hz := Nat.le_of_ble_eq_true hz
        split at ho
        · rename_i rr hrr
          cases ho
          obtain ⟨b, q, n, row, k1, k2, k3, k4, k5⟩ := (hr : ∃ (b q n : Nat) (row : List CD), v = .pointer (some ⟨b, q, none⟩) ∧ i.den E = .i n ∧ (x.den E).rows[n]? = some row ∧ row.length = K.kd.length ∧ RdRow g (K.kd.drop o) (fun j => g b (q + j)) (row.drop o))
          subst k1
          have hxr : x.den E = .l (x.den E).rows := by
            cases hh : x.den E <;> rw [hh] at k3 <;> first | rfl | (simp [CD.rows] at k3)
          have hni : (i.den E).int.toNat = n := by rw [k2]; simp
          obtain ⟨v', h2, h3⟩ := run_loadVar_cells (E := E) (p := p) (g := g) hT ht (by rw [length_kdCells]; simp; omega) ⟨b, q, none⟩ (CellsSame E p h w) (fun j cc hj => by
            obtain ⟨u, k1, k2⟩ := kdCells_is (p := p) (g := g) (i := i) (ks := (K.kd.drop o).take ti.sz) (o := o) (f := fun j => g b (q + j)) hxr (by rw [hni]; exact k3) (fun j k hk => by
              rw [List.getElem?_take] at hk
              split at hk
              · obtain ⟨u, g1, g2⟩ := k5.cell hk
                exact ⟨u, g1, by simpa [List.getD_eq_getElem?_getD, List.getElem?_drop] using g2⟩
              · cases hk) (by simp; omega) j cc hj
            exact ⟨u, fun w' S => by rw [add_at]; exact S.gm H k1, k2⟩) _ hrr
          exact ⟨rfl, v', fun w' S => by simp [Instr.loadAt, Instr.sureAddr, h2 w' S], h3⟩
        · cases ho
      · cases ho
    · cases ho
  · cases ho

/-! ### Numbers, truth values -/
theorem foldLit_den {f : Int → Int → Int} {x y e : X} (h : foldLit f x y = some e) : e.den E = .i (f (x.den E).int (y.den E).int) ∧ IntKind.i64.wrap (f (x.den E).int (y.den E).int) = f (x.den E).int (y.den E).int := by
  unfold foldLit at h
  split at h
  · split at h
    · rename_i a b he
      cases h
      simp only [inI64, Bool.and_eq_true, Bool.not_eq_true', intLt_eq, decide_eq_false_iff_not, decide_eq_true_eq] at he
      exact ⟨rfl, IntWalk.i64_in _ ⟨by simp only [X.den, CD.int_i]; omega, by simp only [X.den, CD.int_i]; omega⟩⟩
    · cases h
  · cases h
theorem fit_den {x : X} {n : Int} (hx : x.den E = .i n) (h : ((X.fit x).den E).bool = true) : IntKind.i64.wrap n = n := by
  simp only [X.den, CD.bool_b, Bool.and_eq_true, decide_eq_true_eq, hx, CD.int_i] at h
  exact IntWalk.i64_in _ h
theorem arith_sound {op : BinOp} {k : IntKind} {x y r : X} {ns : List X} {m n : Int} (ho : arith op k x y = some (ns, r)) (hx : x.den E = .i m) (hy : y.den E = .i n) (hn : ∀ b ∈ ns, (b.den E).bool = true) (t : Nat) (w : World) :
    ∃ u, (binOp op t (.int k m) (.int k n)).run P w = .ok (.int k u) w ∧ r.den E = .i u := by
  have go : ∀ (f : Int → Int → Int) (gg : X → X → X), (∀ x y : X, (gg x y).den E = .i (f (x.den E).int (y.den E).int)) → (match foldLit f x y with | some e => some ([], e) | none => some ([X.fit (gg x y)], gg x y)) = some (ns, r) →
      r.den E = .i (f m n) ∧ IntKind.i64.wrap (f m n) = f m n := fun f gg hgg ho => by
    split at ho
    · rename_i e he
      cases ho
      obtain ⟨h1, h2⟩ := foldLit_den (E := E) he
      rw [hx, hy] at h1 h2
      exact ⟨h1, h2⟩
    · cases ho
      have hd := hgg x y
      rw [hx, hy] at hd
      exact ⟨hd, fit_den hd (hn _ (by simp))⟩
  unfold arith at ho
  split at ho
  · split at ho
    · obtain ⟨h1, h2⟩ := go _ X.add (fun _ _ => rfl) ho
      exact ⟨m + n, by simp [binOp, Op.intArith, h2], h1⟩
    · obtain ⟨h1, h2⟩ := go _ X.sub (fun _ _ => rfl) ho
      exact ⟨m - n, by simp [binOp, Op.intArith, h2], h1⟩
    · obtain ⟨h1, h2⟩ := go _ X.mul (fun _ _ => rfl) ho
      exact ⟨m * n, by simp [binOp, Op.intArith, h2], h1⟩
    · split at ho
      · rename_i e he
        cases ho
        have h0 := hn _ (List.mem_singleton.2 rfl)
        rw [mkNot_den, mkEq_den, hy] at h0
        have h0 : n ≠ 0 := by simpa [X.den] using h0
        obtain ⟨h1, _⟩ := foldLit_den (E := E) he
        rw [hx, hy] at h1
        exact ⟨m.tmod n, by simp [binOp, Op.intDiv, h0], h1⟩
      · cases ho
        have h0 := hn _ (List.mem_singleton.2 rfl)
        rw [mkNot_den, mkEq_den, hy] at h0
        have h0 : n ≠ 0 := by simpa [X.den] using h0
        exact ⟨m.tmod n, by simp [binOp, Op.intDiv, h0], by simp [X.den, hx, hy]⟩
    · cases ho
  · cases ho

theorem kinds_isv : ∀ {kd : List Kd} {l : List SC} {vs : List Value}, sameKinds kd l = true → All2 (SC.is E p g) l vs → All2 Kd.isv kd vs
  | [], [], [], _, _ => trivial
  | k :: kd, c :: l, v :: vs, h, hv => by
    cases k <;> cases c <;> simp only [sameKinds, Bool.and_eq_true, Bool.false_eq_true] at h
    · obtain ⟨n, _, e⟩ := hv.1
      exact ⟨⟨n, by rw [e, IntKind.same_eq h.1]⟩, kinds_isv h.2 hv.2⟩
    · obtain ⟨n, _, e⟩ := hv.1
      exact ⟨⟨n, e⟩, kinds_isv h hv.2⟩
  | [], _ :: _, _, h, _ => by cases h
  | k :: _, [], _, h, _ => by cases k <;> cases h
  | _, [], _ :: _, _, hv => hv.elim
  | _, _ :: _, [], _, hv => hv.elim
theorem cellsEq_den : ∀ {l m : List SC} {xs ys : List Value} {b : X}, cellsEq l m = some b → All2 (SC.is E p g) l xs → All2 (SC.is E p g) m ys → b.den E = .b (eqVals xs ys)
  | [], [], [], [], b, h, _, _ => by simp only [cellsEq, Option.some.injEq] at h; subst h; rfl
  | c :: l, d :: m, x :: xs, y :: ys, b, h, hx, hy => by
    cases c <;> cases d <;> simp only [cellsEq] at h <;> try (cases h; done)
    all_goals
      obtain ⟨u, hu, e⟩ := Option.map_eq_some_iff.1 h
      subst e
      obtain ⟨n1, h1, e1⟩ := hx.1
      obtain ⟨n2, h2, e2⟩ := hy.1
      subst e1; subst e2
      have ih := cellsEq_den hu hx.2 hy.2
    · exact mkAnd_den (by rw [mkEq_den, h1, h2]; rfl) ih
    · exact mkAnd_den (by rw [mkBeq_den, h1, h2]; rfl) ih
  | [], _ :: _, _, _, b, h, _, _ => by simp [cellsEq] at h
  | c :: _, [], _, _, b, h, _, _ => by cases c <;> simp [cellsEq] at h
  | _ :: _, _ :: _, [], _, _, _, h, _ => h.elim
  | _ :: _, _ :: _, _, [], _, _, _, h => h.elim
  | [], [], _ :: _, _, _, _, h, _ => h.elim
  | [], [], _, _ :: _, _, _, _, h => h.elim
theorem eqOnly_den {op : BinOp} {b r : X} {x : Bool} (h : eqOnly op b = some r) (hb : b.den E = .b x) : (op = .eql ∨ op = .neq) ∧ r.den E = .b (if op = .eql then x else !x) := by
  unfold eqOnly at h
  split at h <;> cases h
  · exact ⟨.inl rfl, by simpa using hb⟩
  · refine ⟨.inr rfl, ?_⟩
    rw [mkNot_den, hb]; simp
theorem compare_sound (hT : TOk P T) {op : BinOp} {t : Nat} {x y : SV} {b : X} {vx vy : Value} (ho : compare T op t x y = some b) (hx : x.is E p g vx) (hy : y.is E p g vy) (ox oy : Operand) (w : World) :
    ∃ u, (do eqGuard op t ox oy vx vy; binOp op t vx vy).run P w = .ok (.bool u) w ∧ b.den E = .b u := by
  unfold compare at ho
  split at ho
  · rename_i k a j c
    split at ho
    · rename_i hk
      have hk := IntKind.same_eq hk
      subst hk
      obtain ⟨m, h1, e1⟩ := (hx : ∃ n, a.den E = .i n ∧ vx = .int k n)
      obtain ⟨n, h2, e2⟩ := (hy : ∃ n, c.den E = .i n ∧ vy = .int k n)
      subst e1; subst e2
      split at ho <;> cases ho
      · exact ⟨_, by simp [eqGuard, binOp, Op.intCmp]; rfl, by rw [mkEq_den, h1, h2]; simp⟩
      · exact ⟨_, by simp [eqGuard, binOp, Op.intCmp]; rfl, by rw [mkNot_den, mkEq_den, h1, h2]; simp [bne]⟩
      · exact ⟨_, by simp [eqGuard, binOp, Op.intCmp]; rfl, by rw [mkLt_den, h1, h2]; exact congrArg CD.b (decide_eq_decide.2 Iff.rfl)⟩
      · exact ⟨_, by simp [eqGuard, binOp, Op.intCmp]; rfl, by rw [mkLe_den, h1, h2]; exact congrArg CD.b (decide_eq_decide.2 Iff.rfl)⟩
      · exact ⟨_, by simp [eqGuard, binOp, Op.intCmp]; rfl, by rw [mkLt_den, h1, h2]; exact congrArg CD.b (decide_eq_decide.2 Iff.rfl)⟩
      · exact ⟨_, by simp [eqGuard, binOp, Op.intCmp]; rfl, by rw [mkLe_den, h1, h2]; exact congrArg CD.b (decide_eq_decide.2 Iff.rfl)⟩
    · cases ho
  · rename_i a c
    split at ho
    · rename_i kd _ hti
      split at ho
      · rename_i hc3
        obtain ⟨m, h1, e1⟩ := (hx : ∃ n, a.den E = .b n ∧ vx = .bool n)
        obtain ⟨n, h2, e2⟩ := (hy : ∃ n, c.den E = .b n ∧ vy = .bool n)
        subst e1; subst e2
        have hk1 : All2 Kd.isv kd [Value.bool m] := kinds_isv (E := E) (p := p) (g := g) hc3 ⟨⟨m, h1, rfl⟩, trivial⟩
        have hk2 : All2 Kd.isv kd [Value.bool n] := by
          cases kd with
          | nil => exact hk1.elim
          | cons k l =>
            cases l with
            | nil =>
              cases k with
              | bool => exact ⟨⟨n, rfl⟩, trivial⟩
              | int k => obtain ⟨_, h⟩ := hk1.1; cases h
              | _ => exact hk1.1.elim
            | cons k2 l => exact hk1.2.elim
        obtain ⟨hop, hb⟩ := eqOnly_den (E := E) (x := m == n) ho (by rw [mkBeq_den, h1, h2]; rfl)
        have key := hT.eq t _ kd hti rfl rfl [.bool m] [.bool n] hk1 hk2 w ox oy op hop
        simp only [vof, Bool.false_eq_true, if_false, List.headD_cons, eqVals, Bool.and_true] at key
        exact ⟨_, key, hb⟩
      · cases ho
    · cases ho
  · rename_i a c
    obtain ⟨s1, h1, e1⟩ := (hx : ∃ s : ByteArray, a.den E = .s s.data.toList ∧ vx = .string s)
    obtain ⟨s2, h2, e2⟩ := (hy : ∃ s : ByteArray, c.den E = .s s.data.toList ∧ vy = .string s)
    subst e1; subst e2
    obtain ⟨hop, hb⟩ := eqOnly_den (E := E) (x := s1.data.toList == s2.data.toList) ho (by rw [mkSeq_den, h1, h2]; rfl)
    refine ⟨_, ?_, hb⟩
    rcases hop with rfl | rfl <;> simp [eqGuard, binOp_string_eql, binOp_string_neq, ByteArray.toList_eq]
  · split at ho
    · rename_i ht
      have hx : vx = .pointer none := hx
      have hy : vy = .pointer none := hy
      subst hx; subst hy
      obtain ⟨_, d, z, _, hu, _, _, _, _, _, _, _, h10⟩ := (hT.get t _ ht).ex
      have h10 : d = .pointer _ := h10
      subst h10
      have hp : P.underlying t = some (.pointer (P.pointee t)) := by rw [hu]; simp [Program.pointee, hu]
      obtain ⟨hop, hb⟩ := eqOnly_den (E := E) (x := true) ho rfl
      refine ⟨_, ?_, hb⟩
      rcases hop with rfl | rfl <;> simp [eqGuard, run_eql_pointer_nil w t none hp, run_neq_pointer_nil w t none hp]
    · cases ho
  · split at ho
    · rename_i ht
      obtain ⟨b0, q0, _, hx⟩ := hx
      have hy : vy = .pointer none := hy
      subst hx; subst hy
      obtain ⟨_, d, z, _, hu, _, _, _, _, _, _, _, h10⟩ := (hT.get t _ ht).ex
      have h10 : d = .pointer _ := h10
      subst h10
      have hp : P.underlying t = some (.pointer (P.pointee t)) := by rw [hu]; simp [Program.pointee, hu]
      obtain ⟨hop, hb⟩ := eqOnly_den (E := E) (x := false) ho rfl
      refine ⟨_, ?_, hb⟩
      rcases hop with rfl | rfl <;> simp [eqGuard, run_eql_pointer_nil w t (some _) hp, run_neq_pointer_nil w t (some _) hp]
    · cases ho
  · rename_i l m
    split at ho
    · rename_i kd _ hti
      split at ho
      · rename_i hc3
        simp only [Bool.and_eq_true] at hc3
        obtain ⟨vs, ex, hvs⟩ := hx
        obtain ⟨us, ey, hus⟩ := hy
        subst ex; subst ey
        split at ho
        · rename_i b' hb'
          obtain ⟨hop, hb⟩ := eqOnly_den (E := E) ho (cellsEq_den hb' hvs hus)
          have key := hT.eq t _ kd hti rfl rfl vs us (kinds_isv hc3.1 hvs) (kinds_isv hc3.2 hus) w ox oy op hop
          simp only [vof, if_true] at key
          exact ⟨_, key, hb⟩
        · cases ho
      · cases ho
    · cases ho
  · cases ho
end
end Go.Sy
