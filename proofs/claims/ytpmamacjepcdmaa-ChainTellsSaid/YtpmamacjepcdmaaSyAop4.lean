/- One operation of the symbolic walk, whichever it is. -/
import Derived.Test.YtpmamacjepcdmaaSyAop3
namespace Go.Sy
open Go.RowKit

section
variable {P : Program} {T : TT} {B : Base} {E : Env} {p : Pl} {g : Gm} {h : Hp} {tm : List SR} {a : Act} {w : World}
variable (H : RepH B E p g h w) (ht : ∀ i c, nth tm i = some c → c.is E p g (a.tmps.getD i Go.undef)) (dst : Option Tmp) (type : TypeId) (pos : String) (after : Array Edge) (guard : Option (Nat × Bool)) (hT : TOk P T)

/-- A slice's bound. -/
def BndIs (E : Env) (a : Act) (o : Option Operand) (x : X) : Prop := ∃ k, x.den E = .i k ∧ ((o = none ∧ k = 0) ∨ ∃ y, o = some y ∧ a.eval y = .int .i64 k)
include ht hT
theorem y_sliceSl (t : Nat) (x : Operand) (lo hi : Option Operand) {b e : Nat} {n m lx : X} {ti ei : TI} (hti : T.get t = some ti) (hk : ti.k = .slice e) (he : T.get e = some ei) (hx : ev tm x = some (.v (.one (.sl b n)))) (hlo : BndIs E a lo lx) (hl0 : lx = .int 0)
    (hhi : (hi = none ∧ m = n) ∨ ∃ y, hi = some y ∧ ev tm y = some (.v (.one (.int .i64 m))) ∧ ((mkLe (.int 0) m).den E).bool = true ∧ ((mkLe m n).den E).bool = true) :
    YieldP P E p g a ⟨dst, .slice t x lo hi none, type, pos, after, guard⟩ (.v (.one (.sl b m))) := by
  obtain ⟨A, c, k, c1, c2, c3, ix⟩ := (ev_is ht hx : ∃ (A : Option Addr) (c m : Nat), p.arr b = some (A, c) ∧ n.den E = .i m ∧ m ≤ c ∧ a.eval x = .slice A m c)
  subst hl0
  obtain ⟨l, l1, l2⟩ := hlo
  simp only [X.den, CD.i.injEq] at l1
  subst l1
  have hmk : ∃ k' : Nat, m.den E = .i k' ∧ k' ≤ c ∧ ((hi = none ∧ k' = k) ∨ ∃ y, hi = some y ∧ a.eval y = .int .i64 k') := by
    rcases hhi with ⟨e1, e2⟩ | ⟨y, e1, e2, e3, e4⟩
    · subst e2; exact ⟨k, c2, c3, .inl ⟨e1, rfl⟩⟩
    · obtain ⟨u, u1, u2⟩ := (ev_is ht e2 : ∃ u, m.den E = .i u ∧ a.eval y = .int .i64 u)
      rw [mkLe_den, u1] at e3 e4
      rw [c2] at e4
      have e3 := of_decide_eq_true e3
      have e4 := of_decide_eq_true e4
      simp only [X.den, CD.int_i] at e3 e4
      have hu0 : ((u.toNat : Nat) : Int) = u := Int.toNat_of_nonneg e3
      exact ⟨u.toNat, by rw [u1, hu0], by omega, .inr ⟨y, e1, by rw [u2, hu0]⟩⟩
  obtain ⟨k', m1, m2, m3⟩ := hmk
  have hr := fun w => run_slice (P := P) (T := T) (a := a) dst type pos after guard hT t hti hk he A k c 0 k' (Nat.zero_le _) m2 x lo hi ix (by rcases l2 with ⟨e, _⟩ | ⟨y, e, e2⟩; exact .inl ⟨e, rfl⟩; exact .inr ⟨y, e, by simpa using e2⟩) m3 w
  refine YieldP.same (v := .slice (if c = 0 then A else A.map (·.add (0 * ei.sz))) (k' - 0) (c - 0)) hr ⟨A, c, k', c1, m1, m2, ?_⟩
  have : A.map (fun y => y.add (0 * ei.sz)) = A := by cases A <;> simp [Addr.add]
  rw [this]
  simp
theorem y_sliceFz (t : Nat) (x : Operand) (lo hi : Option Operand) {K : SK} {e : Nat} {u m lx : X} {ti ei : TI} (hti : T.get t = some ti) (hk : ti.k = .slice e) (he : T.get e = some ei) (hx : ev tm x = some (.v (.one (.fz K u)))) (hlo : BndIs E a lo lx) (hz : K.kd.length = ei.sz)
    (hn : ((mkLe (.int 0) lx).den E).bool = true) {r : X} (hhi : (hi = none ∧ r = mkDrop lx u ∧ ((mkLe lx (mkLen u)).den E).bool = true) ∨ ∃ y, hi = some y ∧ r = mkDrop lx (mkTake m u) ∧ ev tm y = some (.v (.one (.int .i64 m))) ∧ ((mkLe lx m).den E).bool = true ∧ ((mkLe m (mkLen u)).den E).bool = true) :
    YieldP P E p g a ⟨dst, .slice t x lo hi none, type, pos, after, guard⟩ (.v (.one (.fz K r))) := by
  have hr := ev_is ht hx
  simp only [SR.is, SV.is, SC.is, Rd] at hr
  obtain ⟨A, n, c, rows, ix, e1, e2, e3, e4, e5, e6⟩ := hr
  obtain ⟨l, l1, l2⟩ := hlo
  rw [mkLe_den, l1] at hn
  have hn := of_decide_eq_true hn
  simp only [X.den, CD.int_i] at hn
  obtain ⟨l, rfl⟩ : ∃ l' : Nat, l = l' := ⟨l.toNat, by omega⟩
  have hmk : ∃ k' : Nat, l ≤ k' ∧ k' ≤ n ∧ r.den E = .l ((rows.take k').drop l) ∧ ((hi = none ∧ k' = n) ∨ ∃ y, hi = some y ∧ a.eval y = .int .i64 k') := by
    rcases hhi with ⟨f1, f2, f3⟩ | ⟨y, f1, f2, f3, f4, f5⟩
    · rw [mkLe_den, mkLen_den, e1, l1] at f3
      have f3 := of_decide_eq_true f3
      simp only [CD.int_i, CD.rows_l] at f3
      refine ⟨n, by omega, Nat.le_refl _, ?_, .inl ⟨f1, rfl⟩⟩
      rw [f2, mkDrop_den e1, l1, CD.int_i, Int.toNat_natCast, List.take_of_length_le (by omega)]
    · obtain ⟨v, u1, u2⟩ := (ev_is ht f3 : ∃ v, m.den E = .i v ∧ a.eval y = .int .i64 v)
      rw [mkLe_den, u1, l1] at f4
      rw [mkLe_den, mkLen_den, u1, e1] at f5
      have f4 := of_decide_eq_true f4
      have f5 := of_decide_eq_true f5
      simp only [CD.int_i, CD.rows_l] at f4 f5
      obtain ⟨v, rfl⟩ : ∃ v' : Nat, v = v' := ⟨v.toNat, by omega⟩
      refine ⟨v, by omega, by omega, ?_, .inr ⟨y, f1, u2⟩⟩
      rw [f2, mkDrop_den (mkTake_den e1), l1, u1, CD.int_i, CD.int_i, Int.toNat_natCast, Int.toNat_natCast]
  obtain ⟨k, k1, k2, k3, k4⟩ := hmk
  have hr := fun w => run_slice (P := P) (T := T) (a := a) dst type pos after guard hT t hti hk he A n c l k k1 (by omega) x lo hi ix (by rcases l2 with ⟨e, e0⟩ | ⟨y, e, e2⟩; exact .inl ⟨e, by omega⟩; exact .inr ⟨y, e, e2⟩) k4 w
  refine YieldP.same (v := .slice (if c = l then A else A.map (·.add (l * ei.sz))) (k - l) (c - l)) hr ?_
  simp only [SR.is, SV.is, SC.is, Rd]
  refine ⟨_, _, _, _, rfl, k3, by simp; omega, by omega, by omega, Nat.le_trans (Nat.mul_le_mul_right _ (by omega)) e5, fun hpos => ?_⟩
  obtain ⟨b, q, e7, e8⟩ := e6 (by omega)
  subst e7
  rw [if_neg (by omega)]
  refine ⟨b, q + l * ei.sz, by rw [Option.map_some, add_at], fun i row hi => ?_⟩
  rw [List.getElem?_drop, List.getElem?_take] at hi
  split at hi
  · have := e8 _ row hi
    rw [hz] at this ⊢
    have ef : (fun j => g b (q + l * ei.sz + (i * ei.sz + j))) = fun j => g b (q + ((l + i) * ei.sz + j)) := by funext j; rw [Nat.add_mul]; congr 1; omega
    rw [ef]
    exact this
  · cases hi
theorem y_sliceThree (t : Nat) (x y z : Operand) (lo : Option Operand) {e : Nat} {c : SC} {ti ei : TI} (hti : T.get t = some ti) (hk : ti.k = .slice e) (he : T.get e = some ei) (hx : ev tm x = some (.v (.one c))) (hc : (∃ K u, c = .fz K u) ∨ (∃ b n, c = .sl b n) ∨ c = .nilsl ∨ c = .z0)
    (hlo : BndIs E a lo (.int 0)) (hy : ev tm y = some (.v (.one (.int .i64 (.int (.ofNat 0)))))) (hz : ev tm z = some (.v (.one (.int .i64 (.int (.ofNat 0)))))) :
    YieldP P E p g a ⟨dst, .slice t x lo (some y) (some z), type, pos, after, guard⟩ (.v (.one .z0)) := by
  have ix : SC.is E p g c (a.eval x) := ev_is ht hx
  have key : ∃ A m cc, a.eval x = .slice A m cc := by
    rcases hc with ⟨K, u, rfl⟩ | ⟨b, n, rfl⟩ | rfl | rfl
    · simp only [SC.is, Rd] at ix
      obtain ⟨A, m, cc, rows, e0, _⟩ := ix
      exact ⟨A, m, cc, e0⟩
    · obtain ⟨A, cc, m, _, _, _, h3⟩ := ix; exact ⟨A, m, cc, h3⟩
    · exact ⟨none, 0, 0, ix⟩
    · obtain ⟨A, e0⟩ := ix; exact ⟨A, 0, 0, e0⟩
  obtain ⟨A, m, cc, ix⟩ := key
  obtain ⟨_, h1, iy⟩ := (ev_is ht hy : ∃ k, (X.int (.ofNat 0)).den E = .i k ∧ a.eval y = .int .i64 k)
  obtain ⟨_, h2, iz⟩ := (ev_is ht hz : ∃ k, (X.int (.ofNat 0)).den E = .i k ∧ a.eval z = .int .i64 k)
  simp only [X.den, CD.i.injEq] at h1 h2
  subst h1; subst h2
  obtain ⟨l, l1, l2⟩ := hlo
  simp only [X.den, CD.i.injEq] at l1
  subst l1
  obtain ⟨_, d, z', _, hu, _, _, _, _, _, _, _, h10⟩ := (hT.get t ti hti).ex
  rw [hk] at h10
  subst h10
  refine YieldP.same (v := .slice A 0 0) (fun w => ?_) ⟨A, rfl⟩
  rcases l2 with ⟨rfl, _⟩ | ⟨y', rfl, il⟩
  · simp [execOp, ix, iy, iz, Instr.sliceAt, run_underlying hu, Instr.slice, Instr.sliceBounds, Instr.sliceBound, asIntOf, run_sizeOf hT he]
  · simp [execOp, ix, iy, iz, il, Instr.sliceAt, run_underlying hu, Instr.slice, Instr.sliceBounds, Instr.sliceBound, asIntOf, run_sizeOf hT he]

include H
/-- append. -/
theorem y_append (x y : Operand) {t e sa : Nat} {ti ei : TI} {kd : List Kd} {xc yc : SC} {ns ns' : List X} {dy d nn : X} {h1 : Hp} {qu : Bool} (hti : T.get t = some ti) (hk : ti.k = .slice e) (he : T.get e = some ei) (hkd : kd.length = ei.sz) (hz : 0 < ei.sz) (hb0 : 0 < ei.by_)
    (hx : ev tm x = some (.v (.one xc))) (hy : ev tm y = some (.v (.one yc))) (hsl : slData h ⟨ei.by_, kd⟩ yc = some (ns, dy)) (hns : ∀ b ∈ ns, (b.den E).bool = true) (hf : isFree h.arrs sa = true)
    (hxc : ((xc = .nilsl ∨ xc = .z0) ∧ h1 = h ∧ d = dy ∧ nn = mkLen dy ∧ ns' = [mkLe (mkLen dy) (.int (most ⟨ei.by_, kd⟩))]) ∨
      ∃ b n A, xc = .sl b n ∧ nth h.arrs b = some (.at A) ∧ A.K = ⟨ei.by_, kd⟩ ∧ A.e = e ∧ (∀ c n', yc = .sl c n' → b ≠ c) ∧ h1 = { h with arrs := setNth h.arrs b .go } ∧ d = .app (mkTake n A.x) dy ∧ nn = mkAdd n (mkLen dy) ∧ ns' = [mkLe n (mkLen A.x), mkLe (mkAdd n (mkLen dy)) (.int (most ⟨ei.by_, kd⟩))] ∧ (qu = true → X.same n (mkLen A.x) = true))
    (hns' : ∀ b ∈ ns', (b.den E).bool = true) :
    Yield P B E p g h a w ⟨dst, .call { callee := .builtin .append, args := #[x, y], argTypes := #[t, t] }, type, pos, after, guard⟩ (.v (.one (.sl sa nn))) { h1 with arrs := putAt h1.arrs sa { e := e, K := ⟨ei.by_, kd⟩, x := d } } qu := by
  obtain ⟨i1, d1, z1, k1, k2, _, _, _, _, _, _, _, k10⟩ := (hT.get t ti hti).ex
  rw [hk] at k10
  subst k10
  obtain ⟨i2, d2, z2, g1, g2, g3, g4, g5, g6, g7, g8, g9, g10⟩ := (hT.get e ei he).ex
  have iy : SC.is E p g yc (a.eval y) := ev_is ht hy
  have ix : SC.is E p g xc (a.eval x) := ev_is ht hx
  obtain ⟨Ay, m, cc, rows, news, y1, y2, y3, y4, y5, y6, y7, y8, y9, y10⟩ := slData_sound H hsl iy hns
  simp only at y6 y7 y10
  have hone : ∀ u ∈ news, u.oneCell' = true := fun u hu => by
    obtain ⟨idx, hidx⟩ := List.getElem?_of_mem hu
    have hlt := (List.getElem?_eq_some_iff.1 hidx).1
    rw [y7, hkd] at hlt
    have hdiv : idx = (idx / ei.sz) * ei.sz + idx % ei.sz := by rw [Nat.mul_comm]; exact (Nat.div_add_mod idx ei.sz).symm
    have hi : idx / ei.sz < m := Nat.div_lt_of_lt_mul (by rw [Nat.mul_comm]; exact hlt)
    have hj := Nat.mod_lt idx hz
    obtain ⟨row, hr⟩ : ∃ row, rows[idx / ei.sz]? = some row := ⟨_, List.getElem?_eq_getElem (by omega)⟩
    obtain ⟨k, hk⟩ : ∃ k, kd[idx % ei.sz]? = some k := ⟨_, List.getElem?_eq_getElem (by omega)⟩
    obtain ⟨v, hv, hrd⟩ := (y10 _ row hr).cell hk
    rw [hkd, ← hdiv, hidx] at hv
    cases hv
    exact hrd.one
  have hsrc : Src P i2.size t (a.eval y) m news w := by
    rw [y1]
    cases Ay with
    | none =>
      have := y8 rfl
      subst this
      have : news = [] := List.eq_nil_of_length_eq_zero (by simpa using y7)
      subst this
      exact Src.ofNil w k2 cc
    | some ad =>
      obtain ⟨b, q, s⟩ := ad
      refine Src.ofSlice w k2 _ m cc news (by rw [y7, hkd, g3]) (fun j u hj => ?_) hone
      rcases Nat.eq_zero_or_pos m with h0 | h0
      · rw [h0, Nat.zero_mul] at y7
        have := List.eq_nil_of_length_eq_zero y7
        subst this
        simp at hj
      · obtain ⟨f1, f2⟩ := y9 b q s rfl h0
        subst f1
        rw [add_at]
        exact f2 j u hj w (CellsSame.refl _ _ _ _)
  -- what is appended to
  have hpre : ∃ (A : Option Addr) (n cap0 : Nat) (cur : Array Value) (rows0 : List (List CD)) (bo : Nat), a.eval x = .slice A n cap0 ∧ n ≤ cap0 ∧ cap0 ≤ maxLen ∧ (0 < cap0 → ∃ b, A = some ⟨b, 0, none⟩ ∧ w.heap[b]? = some (.cells cur e (0, 0)) ∧ cur.size = cap0 * i2.size) ∧
      rows0.length = n ∧ d.den E = .l (rows0 ++ rows) ∧ nn.den E = .i ((n + m : Nat) : Int) ∧ (n + m) * ei.by_ ≤ B47 ∧ (∀ i row, rows0[i]? = some row → RdRow g kd (fun j => cur[i * kd.length + j]?) row) ∧
      RepH B E p g h1 w ∧ isFree h1.arrs sa = true ∧ (∀ b, A = some ⟨b, 0, none⟩ → 0 < cap0 → (∀ j, j < cur.size → B.wr b j) ∧ p.ow b = .arr bo) ∧ bo ≠ sa ∧ (∀ A', nth h1.arrs bo ≠ some (.at A')) ∧
      (∀ r cs, nth h1.regs r = some (.at cs) ↔ nth h.regs r = some (.at cs)) ∧
      (∀ s A', nth h.arrs s = some (.at A') → nth h1.arrs s = some (.at A') ∨ (s = bo ∧ p.arr s = some (A, cap0) ∧ A'.K.kd.length = ei.sz ∧ (qu = true → (A'.x.den E).rows.length = n))) := by
    rcases hxc with ⟨e0, e1, e2, e3, e4⟩ | ⟨b, n, A, e0, e1, e2, e3, e4, e5, e6, e7, e8, e9⟩
    · have hx0 : ∃ A, a.eval x = .slice A 0 0 := by
        rcases e0 with rfl | rfl
        · exact ⟨none, ix⟩
        · exact ix
      obtain ⟨A, hA⟩ := hx0
      subst e1; subst e2; subst e3; subst e4
      have hmost := hns' _ (List.mem_singleton.2 rfl)
      rw [mkLe_den, mkLen_den, y2] at hmost
      have hmost := of_decide_eq_true hmost
      simp only [X.den, CD.int_i, CD.rows_l, most] at hmost
      refine ⟨A, 0, 0, #[], [], h1.arrs.length + 1 + sa, hA, Nat.le_refl _, Nat.zero_le _, fun h => absurd h (Nat.lt_irrefl 0), rfl, by simpa using y2, by rw [mkLen_den, y2, CD.rows_l, y3, Nat.zero_add], ?_, fun i row h => by simp at h, H, hf, fun b _ h => absurd h (Nat.lt_irrefl 0), by omega, fun A' h => (by rw [nth_none (by omega)] at h; cases h), fun _ _ => Iff.rfl, fun _ _ h => .inl h⟩
      rw [Nat.zero_add]
      exact y6
    · subst e0
      obtain ⟨ad, cap, mm, c1, c2, c3, c4⟩ := (id ix : ∃ (A : Option Addr) (c m : Nat), p.arr b = some (A, c) ∧ n.den E = .i m ∧ m ≤ c ∧ a.eval x = .slice A m c)
      obtain ⟨ad', cap', rows0, r1, r2, r3, r4, r5, r6, r7, r8⟩ := (H.arr b A e1).ex
      rw [c1] at r1
      cases r1
      subst e5; subst e6; subst e7; subst e8
      have n1 := hns' (mkLe n (mkLen A.x)) (by simp)
      have n2 := hns' (mkLe (mkAdd n (mkLen dy)) (.int (most ⟨ei.by_, kd⟩))) (by simp)
      rw [mkLe_den, mkLen_den, r2, c2] at n1
      rw [mkLe_den, mkAdd_den, mkLen_den, y2, c2] at n2
      have n1 := of_decide_eq_true n1
      have n2 := of_decide_eq_true n2
      simp only [X.den, CD.int_i, CD.rows_l, most] at n1 n2
      have n1 : mm ≤ rows0.length := by omega
      have n2 : mm + m ≤ B47 / ei.by_ := by omega
      have hne : sa ≠ b := by
        rintro rfl
        rcases isFree_free hf with h | h <;> rw [e1] at h <;> cases h
      have hfree : isFree (setNth h.arrs b .go) sa = true := by
        simp only [isFree, Bool.or_eq_true] at hf ⊢
        rcases hf with hf | hf
        · left; rw [length_setNth]; exact hf
        · right; rw [nth_setNth, if_neg (fun e => hne e.symm)]; exact hf
      have hAl : A.K.kd.length = ei.sz := by rw [e2]; exact hkd
      have hblk : ∃ cur : Array Value, 0 < cap → ∃ b', ad = some ⟨b', 0, none⟩ ∧ p.ow b' = .arr b ∧ w.heap[b']? = some (.cells cur e (0, 0)) ∧ cur.size = cap * i2.size ∧ (∀ i, i < cur.size → B.wr b' i) ∧ ∀ i row, rows0[i]? = some row → RdRow g kd (fun j => cur[i * kd.length + j]?) row := by
        by_cases h0 : 0 < cap
        · obtain ⟨b', cur, s1, s2, s3, s4, s5, s6⟩ := r8 h0
          refine ⟨cur, fun _ => ⟨b', s1, s2, by rw [← e3]; exact s3, by rw [s4, hAl, g3], s5, fun i row hi => ?_⟩⟩
          have := s6 i row hi
          rw [e2] at this
          exact this
        · exact ⟨#[], fun h => absurd h h0⟩
      obtain ⟨cur, hcur⟩ := hblk
      refine ⟨ad, mm, cap, cur, rows0.take mm, b, c4, c3, r4, fun h0 => ?_, by rw [List.length_take]; omega, by simp only [X.den]; rw [mkTake_den r2, c2, y2]; simp, by rw [mkAdd_den, mkLen_den, y2, c2]; simp [y3], ?_, fun i row hi => ?_, H.dropArr b, hfree, fun b' hb' h0 => ?_, fun e => hne e.symm, fun A' h2 => ?_, fun _ _ => Iff.rfl, fun s A' hs => ?_⟩
      · obtain ⟨b', s1, _, s3, s4, _⟩ := hcur h0
        exact ⟨b', s1, s3, s4⟩
      · have := Nat.mul_le_mul_right ei.by_ n2
        exact Nat.le_trans this (Nat.div_mul_le_self _ _)
      · rw [List.getElem?_take] at hi
        split at hi
        · have h0 : 0 < cap := by have := (List.getElem?_eq_some_iff.1 hi).1; omega
          obtain ⟨b', s1, _, s3, s4, _, s6⟩ := hcur h0
          exact s6 i row hi
        · cases hi
      · obtain ⟨b2, s1, s2, _, _, s5, _⟩ := hcur h0
        rw [hb'] at s1
        cases s1
        exact ⟨s5, s2⟩
      · rw [nth_setNth, if_pos rfl] at h2
        split at h2 <;> cases h2
      · by_cases hsb : s = b
        · subst hsb
          right
          refine ⟨rfl, c1, ?_, fun hq => ?_⟩
          · rw [e1] at hs; cases hs; exact hAl
          · rw [e1] at hs
            cases hs
            have h9 := X.same_eq (e9 hq)
            rw [h9, mkLen_den] at c2
            simp only [CD.i.injEq] at c2
            omega
        · left
          rw [nth_setNth, if_neg (fun e => hsb e.symm)]
          exact hs
  obtain ⟨A, n, cap0, cur, rows0, bo, p1, p2, p3, p4, p5, p6, p7, p8, p9, p10, p11, p12, p16, p17, p13, p15⟩ := hpre
  clear hxc hns' hns
  have hm63 : n + m ≤ maxLen := by
    have : n + m ≤ (n + m) * ei.by_ := Nat.le_mul_of_pos_right _ hb0
    simp only [maxLen]; simp only [B47] at p8; omega
  obtain ⟨A', cap', w', hrun, q1, q2, q3⟩ := run_app (P := P) w t type e i2 z2 k2 g1 g5 (by rw [g6, g3]) A n cap0 p2 p3 cur p4 (a.eval y) m news hsrc hm63 (by rw [g4]; exact p8)
  -- the memory behind, the old array let go
  have hT1 : ∃ Mc : Nat → Nat → Prop, Turn Mc w w' ∧ (∀ k j, Mc k j → A = some ⟨k, 0, none⟩ ∧ 0 < cap0 ∧ n * i2.size ≤ j) := by
    rcases q3 with ⟨_, e2⟩ | ⟨b, cur', _, _, _, _, _, _, ⟨_, hb⟩ | ⟨hb1, hb2, hb3⟩⟩
    · subst e2; exact ⟨fun _ _ => False, Turn.refl _ _, fun _ _ h => h.elim⟩
    · exact ⟨fun _ _ => False, Turn.of_below hb, fun _ _ h => h.elim⟩
    · exact ⟨_, hb3, fun k j ⟨e, hj⟩ => by subst e; exact ⟨hb1, hb2, hj⟩⟩
  obtain ⟨Mc, hT1, hT2⟩ := hT1
  have hsz : 0 < i2.size := by omega
  -- cells beyond the block's end do not turn: only cells that are there may be written
  let Mc' : Nat → Nat → Prop := fun k j => Mc k j ∧ j < cur.size
  have hT1' : Turn Mc' w w' := ⟨hT1.os, hT1.tape, hT1.output, hT1.size, fun k o hk => by
    obtain ⟨o', h1', h2'⟩ := hT1.obj k o hk
    refine ⟨o', h1', ?_⟩
    cases o with
    | cells c e' f =>
      obtain ⟨c', rfl, s1, s2⟩ := h2'
      refine ⟨c', rfl, s1, fun i hi => ?_⟩
      by_cases hm : Mc k i
      · obtain ⟨a1, a2, _⟩ := hT2 k i hm
        obtain ⟨b, b1, b2, b3⟩ := p4 a2
        rw [a1] at b1
        cases b1
        rw [hk] at b2
        cases b2
        have : ¬ i < cur.size := fun hlt => hi ⟨hm, hlt⟩
        rw [Array.getElem?_eq_none (by omega), Array.getElem?_eq_none (by omega)]
      · exact s2 i hm
    | _ => exact h2'⟩
  have hown : ∀ k j, k < w.heap.size → Mc' k j → p.ow k = .arr bo ∧ B.wr k j := fun k j _ ⟨hm, hj⟩ => by
    obtain ⟨f1, f2, _⟩ := hT2 k j hm
    obtain ⟨f3, f4⟩ := p12 k f1 f2
    exact ⟨f4, f3 j hj⟩
  have H1 : RepH B E p g h1 w' := by
    refine ⟨p10.fr_turn hT1' fun k i hk hm => (hown k i hk hm).2, p10.g0, p10.g1, fun k o v hk => ⟨p10.gg_turn hT1' (fun k i hk hm => ?_) hk, (p10.gg k o v hk).2⟩, fun r cs hr => ?_, p10.rfree, fun s A'' hs => ?_, p10.afree, p10.mm.keep hT1'⟩
    · rw [(hown k i hk hm).1]; simp
    · have R := p10.reg r cs hr
      refine R.turn hT1' (fun b q o e1 ho hm => ?_) (Pl.Le.refl _) (Gm.Le.refl _) fun b q e1 => R.own e1
      have hlt : b < w.heap.size := by obtain ⟨b', q', e2, _, e3, _⟩ := R.ex; rw [e1] at e2; cases e2; exact e3
      have f1 := (hown _ _ hlt hm).1
      rw [R.own e1] at f1; cases f1
    · refine (p10.arr s A'' hs).turn hT1' (fun b c i e1 _ hlt ho hm => ?_) (Pl.Le.refl _) (Gm.Le.refl _) fun _ _ _ _ _ h => h
      have f1 := (hown _ _ hlt hm).1
      rw [ho] at f1
      cases f1
      exact p17 A'' hs
  have hrow : ∀ (cur' : Array Value), (∀ j, j < n * i2.size → cur'[j]? = cur[j]?) → (∀ j, j < m * i2.size → cur'[n * i2.size + j]? = news[j]?) → ∀ i row, (rows0 ++ rows)[i]? = some row → RdRow g kd (fun j => cur'[i * kd.length + j]?) row := fun cur' s1 s2 i row hi => by
    rcases Nat.lt_or_ge i n with hin | hin
    · rw [List.getElem?_append_left (by omega)] at hi
      refine RdRow.of (p9 i row hi).length fun j k hk => ?_
      obtain ⟨v, hv, hr⟩ := (p9 i row hi).cell hk
      refine ⟨v, ?_, hr⟩
      rw [s1]
      · exact hv
      · rw [g3, ← hkd]; exact flat_lt (List.getElem?_eq_some_iff.1 hk).1 hin
    · rw [List.getElem?_append_right (by omega), p5] at hi
      refine RdRow.of (y10 _ row hi).length fun j k hk => ?_
      obtain ⟨v, hv, hr⟩ := (y10 _ row hi).cell hk
      refine ⟨v, ?_, hr⟩
      have hlt : (i - n) * ei.sz + j < m * i2.size := by rw [g3]; exact flat_lt (by have := (List.getElem?_eq_some_iff.1 hk).1; omega) (by have := (List.getElem?_eq_some_iff.1 hi).1; omega)
      have := s2 ((i - n) * ei.sz + j) hlt
      rw [hkd] at hv ⊢
      rw [← hv, ← this]
      congr 1
      rw [g3, ← Nat.add_assoc, ← Nat.add_mul, show n + (i - n) = i from by omega]
  have hadd := H1.addArr p11 (A := { e := e, K := ⟨ei.by_, kd⟩, x := d }) (ad := A') (cap := cap') (rows := rows0 ++ rows) p6 (by rw [List.length_append]; omega) q2 (by rw [List.length_append, p5, y3]; exact p8) (by simp only; omega) hb0 (fun hc => by
    rcases q3 with ⟨e1, _⟩ | ⟨b, cur', s0, s1, s2, s3, s4, s5, s6⟩
    · omega
    · refine ⟨b, cur', s1, s2, by simp only; rw [s3, g3, hkd], fun i hi => ?_, hrow cur' s4 s5, fun r cs q hr e1 => ?_, fun s A'' c hs h0 ho e1 => ?_, fun o v hg => ?_⟩
      · rcases s6 with ⟨f1, _⟩ | ⟨f1, f2, f3⟩
        · right; rw [f1]; exact H.fr.size
        · obtain ⟨t1, _⟩ := p12 b f1 f2
          obtain ⟨b', t2, t3, t4⟩ := p4 f2
          rw [f1] at t2
          cases t2
          obtain ⟨o', t5, t6⟩ := f3.obj b _ t3
          rw [s2] at t5
          cases t5
          obtain ⟨c', t7, t8, _⟩ := t6
          cases t7
          exact t1 i (by omega)
      · rcases s6 with ⟨f1, f2⟩ | ⟨f1, f2, _⟩
        · obtain ⟨b', q', k1, _, k3, _⟩ := (p10.reg r cs hr).ex
          rw [e1] at k1; cases k1; omega
        · have t1 := (p12 b f1 f2).2
          rw [(p10.reg r cs hr).own e1] at t1; cases t1
      · rcases s6 with ⟨f1, f2⟩ | ⟨f1, f2, _⟩
        · obtain ⟨ad, cap2, rows2, u1, _, _, _, _, _, _, u8⟩ := (p10.arr s A'' hs).ex
          rw [e1] at u1; cases u1
          obtain ⟨b', cur2, u9, _, u10, _⟩ := u8 h0
          cases u9
          have := lt_of_block u10
          omega
        · have t1 := (p12 b f1 f2).2
          rw [ho] at t1; cases t1
          exact p17 A'' hs
      · rcases s6 with ⟨f1, f2⟩ | ⟨f1, f2, _⟩
        · have := H.gg_lt hg; omega
        · have t1 := (p12 b f1 f2).2
          rw [(H.gg b o v hg).2] at t1; cases t1)
  obtain ⟨q, u1, u2, u3, u4⟩ := hadd
  have hfin : ∀ A'', nth (putAt h1.arrs sa { e := e, K := ⟨ei.by_, kd⟩, x := d }) bo ≠ some (.at A'') := fun A'' h2 => by
    rw [nth_putAt p11, if_neg p16] at h2
    exact p17 A'' h2
  refine ⟨.slice A' (n + m) cap', w', q.disown bo, ?_, u3.disown hfin, ⟨A', cap', n + m, u2, p7, q1, rfl⟩, u1.trans (q.le_disown bo), hT1.size, fun hq => ?_⟩
  · simp [execOp, resolve, invoke, builtin, p1, hrun]
  · -- what was known
    have hold : ∀ s A'' b c i, nth h.arrs s = some (.at A'') → p.arr s = some (some ⟨b, 0, none⟩, c) → i < (A''.x.den E).rows.length * A''.K.kd.length → p.ow b = .arr s ∧ 0 < c := fun s A'' b c i k1 k2 k3 => by
      obtain ⟨ad, cap2, rows2, u1, ux, ul, _, _, _, _, u8⟩ := (H.arr s A'' k1).ex
      rw [k2] at u1; cases u1
      rw [ux, CD.rows_l] at k3
      have hc0 : 0 < c := by
        rcases Nat.eq_zero_or_pos c with h0 | h0
        · have : rows2.length = 0 := by omega
          rw [this, Nat.zero_mul] at k3
          omega
        · exact h0
      obtain ⟨b', cur2, u9, u10, _⟩ := u8 hc0
      cases u9
      exact ⟨u10, hc0⟩
    have hkn : ∀ k i, k < w.heap.size → Kn E p h k i → ¬ Mc' k i := fun k i hk hkn hm => by
      have f1 := (hown k i hk hm).1
      obtain ⟨f3, f4, f5⟩ := hT2 k i hm.1
      rcases hkn with k1 | ⟨r, cs, b, q', k1, k2, rfl, _⟩ | ⟨s, A'', b, c, k1, k2, rfl, k3⟩
      · rw [f1] at k1; cases k1
      · rw [(H.reg r cs k1).own k2] at f1; cases f1
      · obtain ⟨o1, o2⟩ := hold s A'' k c i k1 k2 k3
        rw [f1] at o1
        cases o1
        rcases p15 bo A'' k1 with g1' | ⟨_, g1', g2', g3'⟩
        · exact p17 A'' g1'
        · rw [g3' hq, g2'] at k3
          rw [g3] at f5
          omega
    refine ⟨fun k i hk hkn' => hT1'.cell hk (hkn k i hk hkn'), fun k i hk hkn' => ?_⟩
    have how : ∀ k, (q.disown bo).ow k = if q.ow k = .arr bo then Ow.z else q.ow k := fun _ => rfl
    by_cases hbk : 0 < cap' ∧ A' = some ⟨k, 0, none⟩
    · -- the new array's block
      obtain ⟨hb1, hb2⟩ := hbk
      rcases q3 with ⟨e1, _⟩ | ⟨b, cur', s0, s1, s2, s3, s4, s5, s6⟩
      · omega
      · rw [hb2] at s1
        cases s1
        rcases s6 with ⟨f1, _⟩ | ⟨f1, f2, f3⟩
        · omega
        · have t1 := (p12 k f1 f2).2
          rcases hkn' with k1 | ⟨r, cs, b, q', k1, k2, rfl, _⟩ | ⟨s, A'', b, c, k1, k2, rfl, k3⟩
          · rw [t1] at k1; cases k1
          · rw [(H.reg r cs k1).own k2] at t1; cases t1
          · refine .inr (.inr ⟨sa, { e := e, K := ⟨ei.by_, kd⟩, x := d }, k, cap', by rw [nth_putAt p11, if_pos rfl], by rw [← hb2]; exact u2, rfl, ?_⟩)
            simp only
            rw [p6, CD.rows_l, List.length_append, p5, y3, hkd]
            obtain ⟨o1, o2⟩ := hold s A'' k c i k1 k2 k3
            rw [t1] at o1
            cases o1
            rcases p15 bo A'' k1 with g1' | ⟨_, g1', g2', g3'⟩
            · exact absurd g1' (p17 A'')
            · rw [g3' hq, g2'] at k3
              rw [Nat.add_mul]
              omega
    · -- another one
      have howk : q.ow k = p.ow k := u4 k fun b h0 e1 e2 => hbk ⟨h0, by rw [e2]; exact e1⟩
      rcases hkn' with k1 | ⟨r, cs, b, q', k1, k2, k3⟩ | ⟨s, A'', b, c, k1, k2, rfl, k3⟩
      · left
        rw [how, howk, k1]; simp
      · exact .inr (.inl ⟨r, cs, b, q', (p13 r cs).2 k1, (u1.reg _ _ k2), k3⟩)
      · rcases p15 s A'' k1 with g1' | ⟨g0', g1', g2', g3'⟩
        · refine .inr (.inr ⟨s, A'', k, c, ?_, u1.arr _ _ k2, rfl, k3⟩)
          rw [nth_putAt p11, if_neg]
          · exact g1'
          · rintro rfl
            rcases isFree_free p11 with h | h <;> rw [g1'] at h <;> cases h
        · left
          obtain ⟨o1, o2⟩ := hold s A'' k c i k1 k2 k3
          rw [how, howk, o1, g0']; simp
end
end Go.Sy
