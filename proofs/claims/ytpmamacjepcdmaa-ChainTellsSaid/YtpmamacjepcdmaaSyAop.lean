/- One operation of the symbolic walk is one operation of the machine: what only reads. -/
import Derived.Test.YtpmamacjepcdmaaSyMem
import Derived.Laws.Cover3
namespace Go.Sy
open Go.RowKit

theorem mapM_run {α β : Type} {P : Program} {w : World} {f : α → Sem β} {g : α → β} : ∀ (l : List α), (∀ x ∈ l, (f x).run P w = .ok (g x) w) → (l.mapM f).run P w = .ok (l.map g) w
  | [], _ => by simp [List.mapM_nil]
  | x :: l, h => by
    rw [List.mapM_cons, Sem.run_bind, h x (by simp), Result.andThen_ok, Sem.run_bind, mapM_run l (fun y hy => h y (by simp [hy]))]
    rfl
theorem amapM_run {α β : Type} {P : Program} {w : World} {f : α → Sem β} {g : α → β} (l : Array α) (h : ∀ x ∈ l.toList, (f x).run P w = .ok (g x) w) : (l.mapM f).run P w = .ok (l.map g) w := by
  rw [Array.mapM_eq_mapM_toList]
  simp only [Sem.run_map, mapM_run l.toList h, Result.andThen_ok]
  have e : (List.map g l.toList).toArray = l.map g := by apply Array.ext'; simp
  rw [e]

section
variable {P : Program} {T : TT} {B : Base} {E : Env} {p : Pl} {g : Gm} {h : Hp} {tm : List SR} {a : Act} {w : World}

/-- What an operation that only reads comes to, in whichever world in which what is known is the same. -/
def YieldR (P : Program) (E : Env) (p : Pl) (g : Gm) (h : Hp) (a : Act) (w : World) (o : Oper) (r : SR) : Prop :=
  ∃ v, (∀ w', CellsSame E p h w w' → (execOp a.eval o).run P w' = .ok (.value v) w') ∧ r.is E p g v
/-- What an operation that asks nothing of the world comes to. -/
def YieldP (P : Program) (E : Env) (p : Pl) (g : Gm) (a : Act) (o : Oper) (r : SR) : Prop := ∃ v, (∀ w', (execOp a.eval o).run P w' = .ok (.value v) w') ∧ r.is E p g v
theorem YieldP.same {o : Oper} {r : SR} {v : Value} (h1 : ∀ w', (execOp a.eval o).run P w' = .ok (.value v) w') (h2 : r.is E p g v) : YieldP P E p g a o r := ⟨v, h1, h2⟩
theorem YieldP.reads {o : Oper} {r : SR} (y : YieldP P E p g a o r) : YieldR P E p g h a w o r := let ⟨v, h1, h2⟩ := y; ⟨v, fun w' _ => h1 w', h2⟩

variable (ht : ∀ i c, nth tm i = some c → c.is E p g (a.tmps.getD i Go.undef)) (dst : Option Tmp) (type : TypeId) (pos : String) (after : Array Edge) (guard : Option (Nat × Bool))
include ht

theorem y_move (x : Operand) {r : SR} (hx : ev tm x = some r) : YieldP P E p g a ⟨dst, .move x, type, pos, after, guard⟩ r := YieldP.same (fun _ => by simp [execOp]) (ev_is ht hx)
theorem y_assign (x : Operand) {r : SR} (hx : ev tm x = some r) : YieldP P E p g a ⟨dst, .assign x, type, pos, after, guard⟩ r := YieldP.same (fun _ => by simp [execOp]) (ev_is ht hx)
theorem y_pick (c x y : Operand) {b : Bool} {rx ry : SR} (hc : ev tm c = some (.v (.one (.bool (.bool b))))) (hx : ev tm x = some rx) (hy : ev tm y = some ry) :
    YieldP P E p g a ⟨dst, .pick c x y, type, pos, after, guard⟩ (if b then rx else ry) := by
  obtain ⟨b', h1, h2⟩ := (ev_is ht hc : ∃ n, (X.bool b).den E = .b n ∧ a.eval c = .bool n)
  simp only [X.den, CD.b.injEq] at h1
  subst h1
  refine YieldP.same (v := if b then a.eval x else a.eval y) (fun _ => by simp [execOp, h2, asBool]) ?_
  cases b
  · exact ev_is ht hy
  · exact ev_is ht hx
theorem y_extract (x : Operand) (i : Nat) {l : List SV} {v : SV} (hx : ev tm x = some (.tup l)) (hi : nth l i = some v) : YieldP P E p g a ⟨dst, .extract x i, type, pos, after, guard⟩ (.v v) := by
  obtain ⟨vs, ix, hvs⟩ := (ev_is ht hx : ∃ vs : List Value, a.eval x = .tuple vs.toArray ∧ All2 (SV.is E p g) l vs)
  obtain ⟨u, hu, hcu⟩ := hvs.nth hi
  rw [nth_eq] at hu
  exact YieldP.same (fun _ => by simp [execOp, ix, Instr.extract, hu]) hcu
theorem y_not (t : Nat) (x : Operand) {b : X} (hx : ev tm x = some (.v (.one (.bool b)))) : YieldP P E p g a ⟨dst, .unOp .not t x, type, pos, after, guard⟩ (.v (.one (.bool (mkNot b)))) := by
  obtain ⟨n, h1, h2⟩ := (ev_is ht hx : ∃ n, b.den E = .b n ∧ a.eval x = .bool n)
  exact YieldP.same (v := .bool (!n)) (fun _ => by simp [execOp, h2, Op.unary]) ⟨!n, by rw [mkNot_den, h1]; rfl, rfl⟩
theorem y_neg (t : Nat) (x : Operand) {k : IntKind} {e r : X} {ns : List X} (hx : ev tm x = some (.v (.one (.int k e)))) (ho : arith .sub k (.int 0) e = some (ns, r)) (hn : ∀ b ∈ ns, (b.den E).bool = true) :
    YieldP P E p g a ⟨dst, .unOp .neg t x, type, pos, after, guard⟩ (.v (.one (.int k r))) := by
  obtain ⟨n, h1, h2⟩ := (ev_is ht hx : ∃ n, e.den E = .i n ∧ a.eval x = .int k n)
  have key := fun w => arith_sound (P := P) (E := E) ho rfl h1 hn t w
  obtain ⟨u, _, h4⟩ := key default
  refine YieldP.same (v := .int k u) (fun w' => ?_) ⟨u, h4, rfl⟩
  obtain ⟨u', h5, h6⟩ := key w'
  rw [h4] at h6
  cases h6
  simp only [binOp] at h5
  simp [execOp, h2, Op.unary]
  simpa [Op.intArith] using h5
theorem y_min (x y : Operand) (ats : Array TypeId) {e f : X} (hx : ev tm x = some (.v (.one (.int .i64 e)))) (hy : ev tm y = some (.v (.one (.int .i64 f)))) :
    YieldP P E p g a ⟨dst, .call { callee := .builtin .min, args := #[x, y], argTypes := ats }, type, pos, after, guard⟩ (.v (.one (.int .i64 (mkMin e f)))) := by
  obtain ⟨m, h1, ix⟩ := (ev_is ht hx : ∃ n, e.den E = .i n ∧ a.eval x = .int .i64 n)
  obtain ⟨n, h2, iy⟩ := (ev_is ht hy : ∃ n, f.den E = .i n ∧ a.eval y = .int .i64 n)
  exact YieldP.same (v := .int .i64 (if n < m then n else m)) (fun _ => by simp [execOp, resolve, invoke, builtin, ix, iy, Builtin.min_, Builtin.min2]) ⟨_, by rw [mkMin_den, h1, h2]; rfl, rfl⟩
theorem y_max (x y : Operand) (ats : Array TypeId) {e f : X} (hx : ev tm x = some (.v (.one (.int .i64 e)))) (hy : ev tm y = some (.v (.one (.int .i64 f)))) :
    YieldP P E p g a ⟨dst, .call { callee := .builtin .max, args := #[x, y], argTypes := ats }, type, pos, after, guard⟩ (.v (.one (.int .i64 (mkMax e f)))) := by
  obtain ⟨m, h1, ix⟩ := (ev_is ht hx : ∃ n, e.den E = .i n ∧ a.eval x = .int .i64 n)
  obtain ⟨n, h2, iy⟩ := (ev_is ht hy : ∃ n, f.den E = .i n ∧ a.eval y = .int .i64 n)
  exact YieldP.same (v := .int .i64 (if m < n then n else m)) (fun _ => by simp [execOp, resolve, invoke, builtin, ix, iy, Builtin.max_, Builtin.max2]) ⟨_, by rw [mkMax_den, h1, h2]; rfl, rfl⟩
theorem y_nilReg (x : Operand) {q o : Nat} (hx : ev tm x = some (.v (.one (.loc q o)))) : YieldP P E p g a ⟨dst, .nilCheck x, type, pos, after, guard⟩ (.v (.one (.loc q o))) := by
  obtain ⟨b, q', h1, ix⟩ := (ev_is ht hx : ∃ b q', p.reg q = some (b, q') ∧ a.eval x = .pointer (some ⟨b, q' + o, none⟩))
  exact YieldP.same (v := .pointer (some ⟨b, q' + o, none⟩)) (fun _ => by simp [execOp, ix]) ⟨b, q', h1, rfl⟩
theorem y_nilFn (x : Operand) {f : Nat} {c : List (Nat × Nat)} (hx : ev tm x = some (.v (.one (.fn f c)))) : YieldP P E p g a ⟨dst, .nilCheck x, type, pos, after, guard⟩ (.v (.one (.fn f c))) := by
  have hi := ev_is ht hx
  obtain ⟨vs, ix, h2⟩ := (id hi : ∃ vs : List Value, a.eval x = .func (.func f) #[] vs.toArray ∧ _)
  exact YieldP.same (v := a.eval x) (fun _ => by simp [execOp, ix]) hi
theorem y_nilEp (x : Operand) {b z o : Nat} {i : X} (hx : ev tm x = some (.v (.one (.ep b z i o)))) : YieldP P E p g a ⟨dst, .nilCheck x, type, pos, after, guard⟩ (.v (.one (.ep b z i o))) := by
  have hi := ev_is ht hx
  obtain ⟨_, _, _, _, _, ix⟩ := (id hi : ∃ bb c n : Nat, p.arr b = some (some ⟨bb, 0, none⟩, c) ∧ i.den E = .i n ∧ a.eval x = .pointer (some ⟨bb, n * z + o, none⟩))
  exact YieldP.same (v := a.eval x) (fun _ => by simp [execOp, ix]) hi
theorem y_nilFp (x : Operand) {K : SK} {o : Nat} {y i : X} (hx : ev tm x = some (.v (.one (.fp K y i o)))) : YieldP P E p g a ⟨dst, .nilCheck x, type, pos, after, guard⟩ (.v (.one (.fp K y i o))) := by
  have hi := ev_is ht hx
  obtain ⟨_, _, _, _, ix, _⟩ := (id hi : ∃ (b q n : Nat) (row : List CD), a.eval x = .pointer (some ⟨b, q, none⟩) ∧ _)
  exact YieldP.same (v := a.eval x) (fun _ => by simp [execOp, ix]) hi
theorem y_makeFunc (f : Nat) (caps : Array Operand) {cs : List SR} {l : List (Nat × Nat)} (hc : evs tm caps.toList = some cs) (hl : someLoc cs = some l) :
    YieldP P E p g a ⟨dst, .makeFunc (.func f) #[] caps, type, pos, after, guard⟩ (.v (.one (.fn f l))) := by
  have key : ∀ (os : List Operand) (cs : List SR) (l : List (Nat × Nat)), evs tm os = some cs → someLoc cs = some l → All2 (fun (x : Nat × Nat) u => ∃ b q, p.reg x.1 = some (b, q) ∧ u = .pointer (some ⟨b, q + x.2, none⟩)) l (os.map a.eval) := by
    intro os
    induction os with
    | nil =>
      intro cs l h1 h2
      simp only [evs, Option.some.injEq] at h1
      subst h1
      simp only [someLoc, Option.some.injEq] at h2
      subst h2
      trivial
    | cons x os ih =>
      intro cs l h1 h2
      simp only [evs] at h1
      split at h1
      · rename_i c m e1 e2
        cases h1
        unfold someLoc at h2
        split at h2
        · rename_i heq; cases heq
        · rename_i q o m' heq
          injection heq with e3 e4
          subst e3; subst e4
          cases hm : someLoc m with
          | none => rw [hm] at h2; cases h2
          | some l' =>
            rw [hm] at h2
            cases h2
            exact ⟨ev_is ht e1, ih m l' e2 hm⟩
        · cases h2
      · cases h1
  refine YieldP.same (v := .func (.func f) #[] (caps.map a.eval)) (fun _ => by simp [execOp, Instr.makeFunc]) ⟨caps.toList.map a.eval, ?_, key _ _ _ hc hl⟩
  congr 1
  apply Array.ext'
  simp

variable (hT : TOk P T)
include hT
theorem y_bin (op : BinOp) (t : TypeId) (x y : Operand) (yt : TypeId) {rx ry r : SR} {ns : List X} {h' : Hp} {qu : Bool} (hx : ev tm x = some rx) (hy : ev tm y = some ry) (ho : binOut T h op t rx ry = .val ns r h' qu) (hn : ∀ b ∈ ns, (b.den E).bool = true) :
    h' = h ∧ YieldP P E p g a ⟨dst, .binOp op t x y yt, type, pos, after, guard⟩ r := by
  have ix := ev_is ht hx
  have iy := ev_is ht hy
  unfold binOut at ho
  split at ho
  · split at ho <;> cases ho
  · rename_i vx vy _
    split at ho
    · rename_i b hb
      cases ho
      have key := fun w => compare_sound (p := p) (g := g) hT hb ix iy x y w
      obtain ⟨u, _, h4⟩ := key default
      refine ⟨rfl, YieldP.same (v := .bool u) (fun w' => ?_) ⟨u, h4, rfl⟩⟩
      obtain ⟨u', h5, h6⟩ := key w'
      rw [h4] at h6
      cases h6
      have e : execOp a.eval ⟨dst, .binOp op t x y yt, type, pos, after, guard⟩ = (do pure (.value (← (do eqGuard op t x y (a.eval x) (a.eval y); binOp op t (a.eval x) (a.eval y))))) := rfl
      rw [e, Sem.run_bind, h5]
      rfl
    · split at ho
      · rename_i k u j v _ _
        split at ho
        · rename_i hk
          have hk := IntKind.same_eq hk
          subst hk
          split at ho
          · rename_i ns' r' har
            cases ho
            obtain ⟨m, h1, ex⟩ := (ix : ∃ n, u.den E = .i n ∧ a.eval x = .int k n)
            obtain ⟨n, h2, ey⟩ := (iy : ∃ n, v.den E = .i n ∧ a.eval y = .int k n)
            have key := fun w => arith_sound (P := P) (E := E) har h1 h2 hn t w
            obtain ⟨u', _, h4⟩ := key default
            refine ⟨rfl, YieldP.same (v := .int k u') (fun w' => ?_) ⟨u', h4, rfl⟩⟩
            obtain ⟨u'', h5, h6⟩ := key w'
            rw [h4] at h6
            cases h6
            have hg : (eqGuard op t x y (.int k m) (.int k n)).run P w' = .ok () w' := by unfold eqGuard; split <;> simp
            have e : execOp a.eval ⟨dst, .binOp op t x y yt, type, pos, after, guard⟩ = (do pure (.value (← (do eqGuard op t x y (a.eval x) (a.eval y); binOp op t (a.eval x) (a.eval y))))) := rfl
            rw [e, ex, ey, Sem.run_bind, Sem.run_bind, hg, Result.andThen_ok, h5]
            rfl
          · cases ho
        · cases ho
      · cases ho
  · cases ho

/-- Is a slice nil? -/
theorem y_nilq (H : RepH B E p g h w) (op : BinOp) (t : TypeId) (x y : Operand) (yt : TypeId) {rx ry : SR} {n : X} {neg : Bool} (hx : ev tm x = some rx) (hy : ev tm y = some ry) (ho : binOut T h op t rx ry = .nilq n neg) :
    ∃ b : Bool, (∀ w', (execOp a.eval ⟨dst, .binOp op t x y yt, type, pos, after, guard⟩).run P w' = .ok (.value (.bool (if neg then !b else b))) w') ∧ (b = true → (n.den E).int = 0) := by
  have ix := ev_is ht hx
  have iy := ev_is ht hy
  unfold binOut at ho
  split at ho
  · rename_i c
    have ey : a.eval y = .slice none 0 0 := iy
    have key : ∀ {e : Nat} {m : X}, isSlice T t = some e → slLen h c = some m → ∃ (A : Option Addr) (l k : Nat), a.eval x = .slice A l k ∧ (A.isNone = true → (m.den E).int = 0) ∧ P.underlying t = some (.slice e) := fun {e m} h1 h2 => by
      have hu : P.underlying t = some (.slice e) := by
        unfold isSlice at h1
        split at h1
        · rename_i ht
          cases h1
          obtain ⟨i, d, z, _, hd, _, _, _, _, _, _, _, hk⟩ := (hT.get t _ ht).ex
          rw [hd, hk]
        · cases h1
      cases c <;> simp only [slLen, reduceCtorEq, Option.some.injEq] at h2
      · rename_i K d
        have ix : Rd g (.sl K.by_ K.kd) (a.eval x) (d.den E) := ix
        simp only [Rd] at ix
        obtain ⟨A, l, k, rows, e1, e2, e3, _, _, _, e7⟩ := ix
        refine ⟨A, l, k, e1, fun hA => ?_, hu⟩
        subst h2
        rw [mkLen_den, e2]
        simp only [CD.int_i, CD.rows_l]
        rcases Nat.eq_zero_or_pos l with h0 | h0
        · omega
        · obtain ⟨b, q, e8, _⟩ := e7 h0
          subst e8; cases hA
      · rename_i b d
        obtain ⟨A, k, l, e1, e2, e3, e4⟩ := ix
        split at h2
        · rename_i A' hA'
          cases h2
          refine ⟨A, l, k, e4, fun hA => ?_, hu⟩
          rw [e2]
          simp only [CD.int_i]
          obtain ⟨ad, cap, rows, f1, _, _, _, _, _, _, f8⟩ := (H.arr b A' hA').ex
          rw [e1] at f1
          cases f1
          rcases Nat.eq_zero_or_pos k with h0 | h0
          · omega
          · obtain ⟨bb, cur, g1, _⟩ := f8 h0
            subst g1; cases hA
        · cases h2
      · obtain ⟨A, e1⟩ := ix
        refine ⟨A, 0, 0, e1, fun _ => ?_, hu⟩
        subst h2; rfl
    have hg : ∀ {w' : World} {A : Option Addr} {l k : Nat}, (eqGuard op t x y (.slice A l k) (.slice none 0 0)).run P w' = .ok () w' := fun {w' A l k} => by unfold eqGuard; split <;> simp
    split at ho
    · rename_i e m h1 h2
      cases ho
      obtain ⟨A, l, k, e1, e2, e3⟩ := key h1 h2
      refine ⟨A.isNone, fun w' => ?_, e2⟩
      have e : execOp a.eval ⟨dst, .binOp .eql t x y yt, type, pos, after, guard⟩ = (do pure (.value (← (do eqGuard .eql t x y (a.eval x) (a.eval y); binOp .eql t (a.eval x) (a.eval y))))) := rfl
      rw [e, e1, ey, Sem.run_bind, Sem.run_bind, hg, Result.andThen_ok]
      simp [binOp, run_equal_slice_nil w' t _ A l k e3]
    · rename_i e m h1 h2
      cases ho
      obtain ⟨A, l, k, e1, e2, e3⟩ := key h1 h2
      refine ⟨A.isNone, fun w' => ?_, e2⟩
      have e : execOp a.eval ⟨dst, .binOp .neq t x y yt, type, pos, after, guard⟩ = (do pure (.value (← (do eqGuard .neq t x y (a.eval x) (a.eval y); binOp .neq t (a.eval x) (a.eval y))))) := rfl
      rw [e, e1, ey, Sem.run_bind, Sem.run_bind, hg, Result.andThen_ok, run_neq_slice_nil w' t _ A l k e3]
      rfl
    · cases ho
  · split at ho
    · cases ho
    · split at ho
      · split at ho
        · split at ho <;> cases ho
        · cases ho
      · cases ho
  · cases ho

omit ht in
theorem run_fieldAt {t f off u : Nat} {fs : List (Nat × Nat)} {ti ui : TI} (ht : T.get t = some ti) (hk : ti.k = .struct fs) (hf : nth fs f = some (off, u)) (hu : T.get u = some ui) (hz : 0 < ui.sz) (x : Addr) (w : World) :
    (Instr.fieldAt t (.pointer (some x)) f).run P w = .ok (.pointer (some (x.add off))) w := by
  obtain ⟨i, d, z, h1, h2, h3, h4, h5, h6, h7, h8, h9, h10⟩ := (hT.get t ti ht).ex
  rw [hk] at h10
  obtain ⟨flds, rfl, _, hfl⟩ := h10
  obtain ⟨g, hg, e1, e2⟩ := hfl f off u hf
  subst e1; subst e2
  have hne : ¬ ui.sz = 0 := by omega
  simp [Instr.fieldAt, run_underlying h2, hg, Instr.sureAddr, fieldPlace, run_sizeOf hT hu, hne]
theorem y_fieldReg (t f : Nat) (x : Operand) {q o off u : Nat} {fs : List (Nat × Nat)} {ti ui : TI} (hti : T.get t = some ti) (hk : ti.k = .struct fs) (hf : nth fs f = some (off, u)) (hu : T.get u = some ui) (hz : 0 < ui.sz) (hx : ev tm x = some (.v (.one (.loc q o)))) :
    YieldP P E p g a ⟨dst, .fieldAddr t x f, type, pos, after, guard⟩ (.v (.one (.loc q (o + off)))) := by
  obtain ⟨b, q', h1, ix⟩ := (ev_is ht hx : ∃ b q', p.reg q = some (b, q') ∧ a.eval x = .pointer (some ⟨b, q' + o, none⟩))
  refine YieldP.same (v := .pointer (some ((⟨b, q' + o, none⟩ : Addr).add off))) (fun _ => by simp [execOp, ix, run_fieldAt hT hti hk hf hu hz]) ⟨b, q', h1, ?_⟩
  rw [add_at, Nat.add_assoc]
theorem y_fieldEp (t f : Nat) (x : Operand) {b zz o off u : Nat} {i : X} {fs : List (Nat × Nat)} {ti ui : TI} (hti : T.get t = some ti) (hk : ti.k = .struct fs) (hf : nth fs f = some (off, u)) (hu : T.get u = some ui) (hz : 0 < ui.sz)
    (hx : ev tm x = some (.v (.one (.ep b zz i o)))) : YieldP P E p g a ⟨dst, .fieldAddr t x f, type, pos, after, guard⟩ (.v (.one (.ep b zz i (o + off)))) := by
  obtain ⟨bb, c, n, h1, h2, ix⟩ := (ev_is ht hx : ∃ bb c n : Nat, p.arr b = some (some ⟨bb, 0, none⟩, c) ∧ i.den E = .i n ∧ a.eval x = .pointer (some ⟨bb, n * zz + o, none⟩))
  refine YieldP.same (v := .pointer (some ((⟨bb, n * zz + o, none⟩ : Addr).add off))) (fun _ => by simp [execOp, ix, run_fieldAt hT hti hk hf hu hz]) ⟨bb, c, n, h1, h2, ?_⟩
  rw [add_at, Nat.add_assoc]
theorem y_fieldFp (t f : Nat) (x : Operand) {K : SK} {o off u : Nat} {y i : X} {fs : List (Nat × Nat)} {ti ui : TI} (hti : T.get t = some ti) (hk : ti.k = .struct fs) (hf : nth fs f = some (off, u)) (hu : T.get u = some ui) (hz : 0 < ui.sz)
    (hx : ev tm x = some (.v (.one (.fp K y i o)))) : YieldP P E p g a ⟨dst, .fieldAddr t x f, type, pos, after, guard⟩ (.v (.one (.fp K y i (o + off)))) := by
  obtain ⟨b, q, n, row, ix, h1, h2, h3, h4⟩ := (ev_is ht hx : ∃ (b q n : Nat) (row : List CD), a.eval x = .pointer (some ⟨b, q, none⟩) ∧ i.den E = .i n ∧ (y.den E).rows[n]? = some row ∧ row.length = K.kd.length ∧ RdRow g (K.kd.drop o) (fun j => g b (q + j)) (row.drop o))
  refine YieldP.same (v := .pointer (some ((⟨b, q, none⟩ : Addr).add off))) (fun _ => by simp [execOp, ix, run_fieldAt hT hti hk hf hu hz]) ⟨b, q + off, n, row, by rw [add_at], h1, h2, h3, ?_⟩
  have := h4.drop off
  rw [List.drop_drop, List.drop_drop] at this
  have e : (fun j => g b (q + off + j)) = fun j => g b (q + (off + j)) := by funext j; rw [Nat.add_assoc]
  rw [e]
  exact this

theorem y_indexFz (t : Nat) (x y : Operand) {e : Nat} {K : SK} {i u : X} {ti ei : TI} (hti : T.get t = some ti) (hk : ti.k = .slice e) (he : T.get e = some ei) (hx : ev tm x = some (.v (.one (.fz K u)))) (hy : ev tm y = some (.v (.one (.int .i64 i))))
    (hz : K.kd.length = ei.sz) (hn : ∀ c ∈ inRange i (mkLen u), (c.den E).bool = true) : YieldP P E p g a ⟨dst, .indexAddr t x y, type, pos, after, guard⟩ (.v (.one (.fp K u i 0))) := by
  have hr := ev_is ht hx
  simp only [SR.is, SV.is, SC.is, Rd] at hr
  obtain ⟨A, n, c, rows, ix, e1, e2, e3, e4, e5, e6⟩ := hr
  obtain ⟨m, h1, iy⟩ := (ev_is ht hy : ∃ n, i.den E = .i n ∧ a.eval y = .int .i64 n)
  obtain ⟨h0, h2⟩ := inRange_den (mkLen_den u) hn
  rw [h1, e1] at h2
  rw [h1] at h0
  simp only [CD.int_i, CD.rows_l] at h0 h2
  obtain ⟨b, q, e7, e8⟩ := e6 (by omega)
  subst e7
  obtain ⟨_, d, z, _, hu, _, _, _, _, _, _, _, h10⟩ := (hT.get t ti hti).ex
  rw [hk] at h10
  subst h10
  obtain ⟨row, hrow⟩ : ∃ row, rows[m.toNat]? = some row := ⟨_, List.getElem?_eq_getElem h2⟩
  refine YieldP.same (v := .pointer (some ((⟨b, q, none⟩ : Addr).add (m.toNat * ei.sz)))) (fun w' => ?_) ⟨b, q + m.toNat * ei.sz, m.toNat, row, by rw [add_at], by rw [h1]; congr 1; omega, by rw [e1]; exact hrow, (e8 _ row hrow).length, ?_⟩
  · have hno : ¬ ((n : Int) ≤ m) := by omega
    simp [execOp, ix, iy, Instr.indexAt, asIntOf, run_underlying hu, h0, hno, run_sizeOf hT he]
  · have := e8 _ row hrow
    simp only [List.drop_zero]
    rw [hz] at this
    have ef : (fun j => g b (q + m.toNat * ei.sz + j)) = fun j => g b (q + (m.toNat * ei.sz + j)) := by funext j; rw [Nat.add_assoc]
    rw [ef]
    exact this
theorem y_indexVar (t : Nat) (x y : Operand) {q o e n j : Nat} {i : X} {ti ei : TI} (hti : T.get t = some ti) (hk : ti.k = .array n e) (he : T.get e = some ei) (hx : ev tm x = some (.v (.one (.loc q o)))) (hy : ev tm y = some (.v (.one (.int .i64 i)))) (hj : litNat i = some j) (hjn : j < n) :
    YieldP P E p g a ⟨dst, .indexAddr t x y, type, pos, after, guard⟩ (.v (.one (.loc q (o + j * ei.sz)))) := by
  obtain ⟨b, q', h1, ix⟩ := (ev_is ht hx : ∃ b q', p.reg q = some (b, q') ∧ a.eval x = .pointer (some ⟨b, q' + o, none⟩))
  obtain ⟨m, h2, iy⟩ := (ev_is ht hy : ∃ n, i.den E = .i n ∧ a.eval y = .int .i64 n)
  have hi : m = (j : Int) := by
    unfold litNat at hj
    split at hj <;> cases hj
    simp only [X.den, CD.i.injEq] at h2
    exact h2.symm
  subst hi
  obtain ⟨_, d, z, _, hu, _, _, _, _, _, _, _, h10⟩ := (hT.get t ti hti).ex
  rw [hk] at h10
  subst h10
  refine YieldP.same (v := .pointer (some ((⟨b, q' + o, none⟩ : Addr).add (j * ei.sz)))) (fun _ => by simp [execOp, ix, iy, Instr.indexAt, asIntOf, Instr.sureAddr, run_underlying hu, hjn, run_sizeOf hT he]) ⟨b, q', h1, ?_⟩
  rw [add_at, Nat.add_assoc]

omit ht in
theorem part_sound {t off : Nat} {ti : TI} (ht : T.get t = some ti) {l m : List SC} {cs : List Value} {r : SR} (hm : takeFrom l off ti.sz = some m) (hr : oneOrAgg ti.agg m = some r) (hl : All2 (SC.is E p g) l cs) :
    ∃ v, (∀ w : World, (part t cs.toArray off).run P w = .ok v w) ∧ r.is E p g v := by
  obtain ⟨h1, h2, h3⟩ := takeFrom_nth hm
  have hln := hl.length
  cases hg : ti.agg with
  | true =>
    rw [hg] at hr
    simp only [oneOrAgg, if_true, Option.some.injEq] at hr
    subst hr
    refine ⟨.agg (cs.toArray.extract off (off + ti.sz)), fun w => by simp only [part, Sem.run_bind, run_isAgg hT ht, Result.andThen_ok, hg]; simp [run_sizeOf hT ht], (cs.toArray.extract off (off + ti.sz)).toList, rfl, All2.of ?_ fun j c v hc hv => ?_⟩
    · simp only [Array.length_toList, Array.size_extract, List.size_toArray]
      rcases Nat.eq_zero_or_pos ti.sz with h0 | h0
      · omega
      · have := h2 h0; omega
    · have hj : j < ti.sz := by have := nth_lt hc; omega
      rw [h3 j hj] at hc
      obtain ⟨u, hu, hcu⟩ := hl.nth hc
      rw [nth_eq] at hu hv
      have hv : (cs.toArray.extract off (off + ti.sz))[j]? = some v := by simpa using hv
      rw [Array.getElem?_extract, if_pos (by simp; have := h2 (by omega); omega)] at hv
      have : cs[off + j]? = some v := by simpa using hv
      rw [hu] at this
      cases this
      exact hcu
  | false =>
    rw [hg] at hr
    simp only [oneOrAgg, Bool.false_eq_true, if_false] at hr
    split at hr
    · rename_i c
      cases hr
      have h0 := h3 0 (by simp at h1; omega)
      simp only [nth] at h0
      obtain ⟨u, hu, hcu⟩ := hl.nth h0.symm
      rw [nth_eq, Nat.add_zero] at hu
      exact ⟨u, fun w => by simp only [part, Sem.run_bind, run_isAgg hT ht, Result.andThen_ok, hg]; simp [hu], hcu⟩
    · cases hr
theorem y_index (t : Nat) (x y : Operand) {n e j : Nat} {l m : List SC} {i : X} {ti ei : TI} {r : SR} (hti : T.get t = some ti) (hk : ti.k = .array n e) (he : T.get e = some ei) (hx : ev tm x = some (.v (.agg l))) (hy : ev tm y = some (.v (.one (.int .i64 i)))) (hj : litNat i = some j) (hjn : j < n)
    (hm : takeFrom l (j * ei.sz) ei.sz = some m) (hr : oneOrAgg ei.agg m = some r) : YieldP P E p g a ⟨dst, .index t x y, type, pos, after, guard⟩ r := by
  obtain ⟨cs, ix, hcs⟩ := (ev_is ht hx : ∃ vs : List Value, a.eval x = .agg vs.toArray ∧ All2 (SC.is E p g) l vs)
  obtain ⟨k, h2, iy⟩ := (ev_is ht hy : ∃ n, i.den E = .i n ∧ a.eval y = .int .i64 n)
  have hi : k = (j : Int) := by
    unfold litNat at hj
    split at hj <;> cases hj
    simp only [X.den, CD.i.injEq] at h2
    exact h2.symm
  subst hi
  obtain ⟨_, d, z, _, hu, _, _, _, _, _, _, _, h10⟩ := (hT.get t ti hti).ex
  rw [hk] at h10
  subst h10
  obtain ⟨v, h1, h3⟩ := part_sound hT he hm hr hcs
  exact YieldP.same (fun w => by simp [execOp, ix, iy, Instr.index, asIntOf, run_underlying hu, hjn, run_sizeOf hT he, h1 w]) h3
theorem y_field (t f : Nat) (x : Operand) {off u : Nat} {fs : List (Nat × Nat)} {l m : List SC} {ti ui : TI} {r : SR} (hti : T.get t = some ti) (hk : ti.k = .struct fs) (hf : nth fs f = some (off, u)) (hu : T.get u = some ui) (hx : ev tm x = some (.v (.agg l)))
    (hm : takeFrom l off ui.sz = some m) (hr : oneOrAgg ui.agg m = some r) : YieldP P E p g a ⟨dst, .field t x f, type, pos, after, guard⟩ r := by
  obtain ⟨cs, ix, hcs⟩ := (ev_is ht hx : ∃ vs : List Value, a.eval x = .agg vs.toArray ∧ All2 (SC.is E p g) l vs)
  obtain ⟨_, d, z, _, hd, _, _, _, _, _, _, _, h10⟩ := (hT.get t ti hti).ex
  rw [hk] at h10
  obtain ⟨flds, rfl, _, hfl⟩ := h10
  obtain ⟨g, hg, e1, e2⟩ := hfl f off u hf
  subst e1; subst e2
  obtain ⟨v, h1, h2⟩ := part_sound hT hu hm hr hcs
  exact YieldP.same (fun w => by simp [execOp, ix, Instr.field, run_underlying hd, hg, asAgg, h1 w]) h2
theorem y_len (x : Operand) (t e : Nat) {ti : TI} {c : SC} {n : X} (hti : T.get t = some ti) (hk : ti.k = .slice e) (hx : ev tm x = some (.v (.one c))) (hn : (∃ b, c = .sl b n) ∨ (∃ K y, c = .fz K y ∧ n = mkLen y) ∨ ((c = .nilsl ∨ c = .z0) ∧ n = .int 0)) :
    YieldP P E p g a ⟨dst, .call { callee := .builtin .len, args := #[x], argTypes := #[t] }, type, pos, after, guard⟩ (.v (.one (.int .i64 n))) := by
  have ix : SC.is E p g c (a.eval x) := ev_is ht hx
  obtain ⟨_, d, z, _, hu, _, _, _, _, _, _, _, h10⟩ := (hT.get t ti hti).ex
  rw [hk] at h10
  subst h10
  have key : ∃ A m cc, a.eval x = .slice A m cc ∧ n.den E = .i m := by
    rcases hn with ⟨b, rfl⟩ | ⟨K, y, rfl, rfl⟩ | ⟨rfl | rfl, rfl⟩
    · obtain ⟨A, cc, m, _, h2, _, h3⟩ := ix; exact ⟨A, m, cc, h3, h2⟩
    · simp only [SC.is, Rd] at ix
      obtain ⟨A, m, cc, rows, e0, e1, e2, _⟩ := ix
      exact ⟨A, m, cc, e0, by rw [mkLen_den, e1, CD.rows_l, e2]⟩
    · have ix : a.eval x = .slice none 0 0 := ix; exact ⟨none, 0, 0, ix, rfl⟩
    · obtain ⟨A, e0⟩ := ix; exact ⟨A, 0, 0, e0, rfl⟩
  obtain ⟨A, m, cc, e0, e1⟩ := key
  exact YieldP.same (v := .int .i64 m) (fun _ => by simp [execOp, resolve, invoke, builtin, e0, Builtin.len_, run_underlying hu, goInt]) ⟨m, e1, rfl⟩
end
end Go.Sy
