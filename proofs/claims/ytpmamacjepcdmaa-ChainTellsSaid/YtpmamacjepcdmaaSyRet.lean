/- The end of a function. -/
import Derived.Test.YtpmamacjepcdmaaSyLoop3
namespace Go.Sy
open Go.RowKit

section
variable {P : Program} {Z : Cx} {Γ : Gam} {B : Base} {Q : List CD → Prop} {E F : Env} {J : JJ} {p q : Pl} {g : Gm} {s : St} {a : Act} {as : List Act} {w : World}

def resM (a : Act) : ResultVar → Sem Value
  | .tmp t => pure (a.tmps.getD t Go.undef)
  | .cell b t => do loadVar t (← asAddr (a.tmps.getD b Go.undef))
theorem resOf_sound {T : TT} (hT : TOk P T) (R : Rep B E p g s a as w) : ∀ {l : List ResultVar} {vals : List SV}, resOf T s.h s.tmps l = some vals → ∃ vs : List Value, All2 (SV.is E p g) vals vs ∧
    l.length = vs.length ∧ ∀ (i : Nat) x, l[i]? = some x → ∃ v, vs[i]? = some v ∧ (resM a x).run P w = .ok v w
  | [], vals, h => by
    simp only [resOf, Option.some.injEq] at h
    subst h
    exact ⟨[], trivial, rfl, fun i x hx => (by simp at hx)⟩
  | .tmp t :: l, vals, h => by
    simp only [resOf] at h
    split at h
    · rename_i x m h1 h2
      cases h
      obtain ⟨vs, i1, i2, i3⟩ := resOf_sound hT R h2
      refine ⟨a.tmps.getD t Go.undef :: vs, ⟨R.frame.tmp t _ h1, i1⟩, by simp [i2], fun i y hy => ?_⟩
      cases i with
      | zero =>
        simp only [List.getElem?_cons_zero, Option.some.injEq] at hy
        subst hy
        exact ⟨_, rfl, rfl⟩
      | succ i => simpa using i3 i y (by simpa using hy)
    · cases h
  | .cell t ty :: l, vals, h => by
    simp only [resOf] at h
    split at h
    · rename_i r o m h1 h2
      split at h
      · rename_i x hh hl
        cases h
        obtain ⟨vs, i1, i2, i3⟩ := resOf_sound hT R h2
        obtain ⟨b, q, h5, hv⟩ := (R.frame.tmp t _ h1 : ∃ b q, p.reg r = some (b, q) ∧ a.tmps.getD t Go.undef = .pointer (some ⟨b, q + o, none⟩))
        obtain ⟨_, v, h3, h4⟩ := loadAt_sound hT R.mem (r := .v (.one (.loc r o))) (v := .pointer (some ⟨b, q + o, none⟩)) ⟨b, q, h5, rfl⟩ hl (fun b hb => by cases hb)
        have h3 := h3 w (CellsSame.refl _ _ _ _)
        refine ⟨v :: vs, ⟨h4, i1⟩, by simp [i2], fun i y hy => ?_⟩
        cases i with
        | zero =>
          simp only [List.getElem?_cons_zero, Option.some.injEq] at hy
          subst hy
          refine ⟨v, rfl, ?_⟩
          simp only [resM, hv]
          simpa [Instr.loadAt, Instr.sureAddr, asAddr] using h3
        | succ i => simpa using i3 i y (by simpa using hy)
      · cases h
    · cases h

theorem mapM_get {α β : Type} {P : Program} {w : World} {f : α → Sem β} : ∀ {l : List α} {vs : List β}, l.length = vs.length → (∀ (i : Nat) x, l[i]? = some x → ∃ v, vs[i]? = some v ∧ (f x).run P w = .ok v w) → (l.mapM f).run P w = .ok vs w
  | [], [], _, _ => by simp [List.mapM_nil]
  | x :: l, v :: vs, h, hh => by
    obtain ⟨v', h1, h2⟩ := hh 0 x rfl
    simp only [List.getElem?_cons_zero, Option.some.injEq] at h1
    subst h1
    rw [List.mapM_cons, Sem.run_bind, h2, Result.andThen_ok, Sem.run_bind, mapM_get (l := l) (vs := vs) (by simpa using h) (fun i y hy => by simpa using hh (i + 1) y (by simpa using hy))]
    rfl
  | [], _ :: _, h, _ => by simp at h
  | _ :: _, [], h, _ => by simp at h
def outV : List Value → Value
  | [v] => v
  | vs => .tuple vs.toArray
theorem results_run {T : TT} {fn : Func} (hT : TOk P T) (R : Rep B E p g s a as w) {vals : List SV} (h : resOf T s.h s.tmps fn.results.toList = some vals) :
    ∃ vs v, All2 (SV.is E p g) vals vs ∧ v = outV vs ∧ (results fn a.tmps).run P w = .ok v w := by
  obtain ⟨vs, h1, h2, h3⟩ := resOf_sound hT R h
  refine ⟨vs, _, h1, rfl, ?_⟩
  unfold results
  rw [Sem.run_bind, Array.mapM_eq_mapM_toList]
  simp only [Sem.run_map]
  rw [mapM_get h2 (fun i x hx => (by
    obtain ⟨v, e1, e2⟩ := h3 i x hx
    exact ⟨v, e1, by cases x <;> exact e2⟩))]
  simp only [Result.andThen_ok]
  cases vs with
  | nil => rfl
  | cons x l => cases l <;> rfl
theorem toSR_is {vals : List SV} {vs : List Value} (h : All2 (SV.is E p g) vals vs) : (toSR vals).is E p g (outV vs) := by
  match vals, vs, h with
  | [], [], _ => exact ⟨[], rfl, trivial⟩
  | [x], [v], h => exact h.1
  | x :: y :: l, u :: v :: m, h => exact ⟨_, rfl, h⟩
  | [], _ :: _, h => exact h.elim
  | _ :: _, [], h => exact h.elim
  | [_], _ :: _ :: _, h => exact h.2.elim
  | _ :: _ :: _, [_], h => exact h.2.elim

theorem flatV_sound : ∀ {l : List RK} {vals : List SV} {vs : List Value} {ds : List SC}, flatV l vals = some ds → All2 (SV.is E p g) vals vs →
    ∃ us, All2 (SC.is E p g) ds us ∧ ∀ (Ec : Env) (pc : Pl) (gc : Gm) (cs : List SC), All2 (SC.is Ec pc gc) cs us → All2 (SV.is Ec pc gc) (grpV l cs) vs
  | [], [], vs, ds, h, hv => by
    simp only [flatV, Option.some.injEq] at h
    subst h
    cases vs with
    | nil => exact ⟨[], trivial, fun Ec pc gc cs _ => by cases cs <;> trivial⟩
    | cons => exact hv.elim
  | .one k :: l, .one c :: vals, vs, ds, h, hv => by
    simp only [flatV] at h
    split at h
    · rename_i m hm
      cases h
      cases vs with
      | nil => exact hv.elim
      | cons v vs =>
        obtain ⟨us, h1, h2⟩ := flatV_sound hm hv.2
        refine ⟨v :: us, ⟨hv.1, h1⟩, fun Ec pc gc cs hc => ?_⟩
        cases cs with
        | nil => exact hc.elim
        | cons c cs => exact ⟨hc.1, h2 Ec pc gc cs hc.2⟩
    · cases h
  | .agg ks :: l, .agg c :: vals, vs, ds, h, hv => by
    simp only [flatV] at h
    split at h
    · rename_i hlen
      have hlen := Nat.eq_of_beq_eq_true hlen
      split at h
      · rename_i m hm
        cases h
        cases vs with
        | nil => exact hv.elim
        | cons v vs =>
          obtain ⟨us, h1, h2⟩ := flatV_sound hm hv.2
          obtain ⟨ws, e, hw⟩ := hv.1
          have hwl := hw.length
          refine ⟨ws ++ us, hw.append h1, fun Ec pc gc cs hc => ?_⟩
          have ht := hc.take ks.length
          have hd := hc.drop ks.length
          rw [take_app (l := ws) (by omega)] at ht
          rw [drop_app (l := ws) (by omega)] at hd
          have e1 : grpV (.agg ks :: l) cs = .agg (cs.take ks.length) :: grpV l (cs.drop ks.length) := by cases cs <;> rfl
          rw [e1]
          exact ⟨⟨ws, e, ht⟩, h2 Ec pc gc _ hd⟩
      · cases h
    · cases h
  | [], _ :: _, _, _, h, _ => by simp [flatV] at h
  | .one _ :: _, [], _, _, h, _ => by simp [flatV] at h
  | .agg _ :: _, [], _, _, h, _ => by simp [flatV] at h
  | .one _ :: _, .agg _ :: _, _, _, h, _ => by simp [flatV] at h
  | .agg _ :: _, .one _ :: _, _, _, h, _ => by simp [flatV] at h

/-- A region at its end. -/
def RegEnd (p : Pl) (w : World) (Ec : Env) (pc : Pl) (gc : Gm) (r : Nat) (cs : List SC) : Prop := ∃ b q, p.reg r = some (b, q) ∧ ∀ i c, nth cs i = some c → ∃ v, w.cell? ⟨b, q + i, none⟩ = some v ∧ c.is Ec pc gc v
theorem flatP_sound {h : Hp} (H : RepH B E p g h w) : ∀ {l : List AK} {r : Nat} {cs : List SC}, flatP h r l = some cs → cs.length = (l.flatMap AK.ps).length ∧ (∀ j, j < nPtr l → ∃ old, nth h.regs (r + j) = some (.at old) ∧ ∀ ds c, nth (grpP l ds) j = some c → c.length ≤ old.length) ∧
    ∃ us, All2 (SC.is E p g) cs us ∧ ∀ (Ec : Env) (pc : Pl) (gc : Gm) (ds : List SC) (us' : List Value), All2 (SC.is Ec pc gc) ds (us ++ us') → ∀ j c, nth (grpP l ds) j = some c → RegEnd p w Ec pc gc (r + j) c
  | [], r, cs, hf => by
    simp only [flatP, Option.some.injEq] at hf
    subst hf
    exact ⟨rfl, fun j hj => (by simp [nPtr] at hj), [], trivial, fun _ _ _ _ _ _ j c hj => by simp [grpP, nth] at hj⟩
  | .one k :: l, r, cs, hf => by
    have hf : flatP h r l = some cs := hf
    obtain ⟨h1, h2, h3⟩ := flatP_sound H hf
    exact ⟨by simpa [AK.ps] using h1, h2, h3⟩
  | .agg k :: l, r, cs, hf => by
    have hf : flatP h r l = some cs := hf
    obtain ⟨h1, h2, h3⟩ := flatP_sound H hf
    exact ⟨by simpa [AK.ps] using h1, h2, h3⟩
  | .ptr ks :: l, r, cs, hf => by
    simp only [flatP] at hf
    split at hf
    · rename_i c m hc hm
      split at hf
      · rename_i hlen
        have hlen := Nat.eq_of_beq_eq_true hlen
        cases hf
        obtain ⟨h1, h2, us, h3, h4⟩ := flatP_sound H hm
        obtain ⟨b, q, e1, e2, e3, e4⟩ := (H.reg r c hc).ex
        obtain ⟨ws, w1, w2⟩ := list_of (R := SC.is E p g) (l := c) (f := fun j => w.cell? ⟨b, q + j, none⟩) fun j c0 hc0 => (e4 j c0 hc0).2.2
        have hwl := w1.length
        refine ⟨by simp [AK.ps, h1, hlen], fun j hj => ?_, ws ++ us, w1.append h3, fun Ec pc gc ds us' hd j c' hj => ?_⟩
        · cases j with
          | zero =>
            refine ⟨c, hc, fun ds c0 h0 => ?_⟩
            simp only [grpP, nth, Option.some.injEq] at h0
            subst h0
            rw [List.length_take]; omega
          | succ j =>
            obtain ⟨old, o1, o2⟩ := h2 j (by simp only [nPtr] at hj; omega)
            exact ⟨old, by rw [show r + (j + 1) = r + 1 + j from by omega]; exact o1, fun ds c0 h0 => o2 (ds.drop ks.length) c0 h0⟩
        · rw [List.append_assoc] at hd
          have ht := hd.take ks.length
          have hdd := hd.drop ks.length
          rw [take_app (l := ws) (by omega)] at ht
          rw [drop_app (l := ws) (by omega)] at hdd
          cases j with
          | zero =>
            simp only [grpP, nth, Option.some.injEq] at hj
            subst hj
            refine ⟨b, q, e1, fun i c0 hi => ?_⟩
            obtain ⟨v, v1, v2⟩ := ht.nth hi
            exact ⟨v, w2 i v v1, v2⟩
          | succ j =>
            rw [show r + (j + 1) = r + 1 + j from by omega]
            exact h4 Ec pc gc _ us' hdd j c' hj
      · cases hf
    · cases hf

/-- Places, as they are handed back. -/
def retPl (p : Pl) (n : Nat) (own : List (Option Nat)) (L : List (Option Addr × Nat)) : Pl where
  reg j := if j < n then p.reg j else none
  arr j := L[j]?
  mp _ := none
  ow k := match p.ow k with
    | .reg r => .reg r
    | .arr a => (match posO a own with | some j => .arr j | none => .z)
    | _ => .z

/-- What a function hands back. -/
def EndOk (Z : Cx) (B : Base) (Q : List CD → Prop) (E0 : Env) (e : Ending) (w : World) : Prop :=
  ∃ outs p1 g1 v, e = .returned v ∧ CD.oks Z.sig.outKinds outs ∧ Q outs ∧ (∀ i x, i < nPtr Z.sig.args → B.r0 i = some x → p1.reg i = some x) ∧ RepH B (E0.put Z.sig.ins.length outs) p1 g1 Z.sig.h1 w ∧ Z.sig.res1.is (E0.put Z.sig.ins.length outs) p1 g1 v

theorem topRet_sound (S : Told P Z Γ) {fn : Func} (E0 : Env) : ∀ (n : Nat) (s : St) (p : Pl) (g : Gm), (topRet Z fn.results.toList n s).den Γ Q E J → Rep B E p g s a as w → bodyPost P fn (EndOk Z B Q E0) .ret a w
  | 0, s, p, g, hd, _ => hd.elim
  | n + 1, s, p, g, hd, R => by
    simp only [topRet] at hd
    split at hd
    · exact hd.elim
    · rename_i vals hvals
      split at hd
      · rename_i cs ds hcs hds
        split at hd
        · rename_i b hb
          split at hd
          · rename_i s' hs
            obtain ⟨q, g', h1, h2, h3, h4, h5, h6⟩ := frz_sound R hs
            exact topRet_sound S E0 n s' q g' hd h3
          · exact hd.elim
        · rename_i hfz
          split at hd
          · exact hd.elim
          · rename_i m hm
            split at hd
            · rename_i hdup
              obtain ⟨hn, hd⟩ := needs_den R.known hd
              have hd : Q (m.data.map (X.den E)) := hd
              obtain ⟨vs, v, v1, v2, v3⟩ := results_run (fn := fn) S.T R hvals
              obtain ⟨u1, f1, f2⟩ := flatV_sound hds v1
              obtain ⟨p1, p2, u2, p3, p4⟩ := flatP_sound R.mem hcs
              have hlent := mtCs_lent hm hfz
              obtain ⟨m1, m2, L, m3, m4, m5, m6⟩ := mtCs_sound R.mem hm (p3.append f1) hn
              let n0 := Z.sig.ins.length
              let Ec : Env := E0.put n0 (m.data.map (X.den E))
              let pc : Pl := retPl p (nPtr Z.sig.args) m.own L
              have hEc : ∀ i x, m.data[i]? = some x → Ec (n0 + i) = x.den E := fun i x hi => by
                rw [show Ec (n0 + i) = (m.data.map (X.den E)).getD i .u from getD_put]
                simp [List.getD_eq_getElem?_getD, hi]
              have hcells : All2 (SC.is Ec pc g) (mkC n0 0 Z.sig.outs) (u2 ++ u1) := m6 Ec pc g n0 0 hEc (fun i pl hi => by rw [Nat.zero_add]; exact hi) (Gm.Le.refl _) (by rw [hlent]; intro a ha; cases ha)
              have hnP : Z.sig.nP = u2.length := by
                rw [← p3.length, p1]; rfl
              have hres := hcells.drop Z.sig.nP
              rw [drop_app (l := u2) hnP.symm] at hres
              have hAr : ∀ j A, nth Z.sig.h1.arrs j = some (.at A) → ∃ i e K o pl d, nth Z.sig.outs i = some (.own e K) ∧ A = ⟨e, K, .var (n0 + i)⟩ ∧ Ec (n0 + i) = d ∧ m.own[j]? = some o ∧ L[j]? = some pl ∧ OwnIs E p s.h o pl e K d := fun j A hj => by
                obtain ⟨i, e, K, o, pl, d, h1, h2, h3, h4, h5, h6⟩ := mkA_own m3 (show nth (mkA n0 Z.sig.outs) j = _ from hj)
                refine ⟨i, e, K, o, pl, d, h1, h2, ?_, h4, h5, h6⟩
                rw [show Ec (n0 + i) = (m.data.map (X.den E)).getD i .u from getD_put]
                simp [List.getD_eq_getElem?_getD, h3]
              have hregs : ∀ j x, nth Z.sig.h1.regs j = some x → j < nPtr Z.sig.args ∧ ∃ c, x = .at c ∧ nth (grpP Z.sig.args (mkC n0 0 Z.sig.outs)) j = some c := fun j x hj => by
                have hj' : nth ((grpP Z.sig.args (mkC n0 0 Z.sig.outs)).map Pc.at) j = some x := hj
                rw [nth_eq, List.getElem?_map, Option.map_eq_some_iff] at hj'
                obtain ⟨c, h1, h2⟩ := hj'
                rw [← nth_eq] at h1
                exact ⟨by rw [← length_grpP Z.sig.args (mkC n0 0 Z.sig.outs)]; exact nth_lt h1, c, h2.symm, h1⟩
              refine ⟨R.frame.defers, v, v3, m.data.map (X.den E), pc, g, v, rfl, m2, hd, fun i x hi hx => (if_pos hi).trans (R.keep i x hx), ⟨R.mem.fr, R.mem.g0, R.mem.g1, fun k o u hk => ?_, fun r c hr => ?_, fun r hr => ?_, fun j A hj => ?_, fun j hj => ?_, ⟨fun a M ha => (by cases a <;> cases ha), fun _ _ => rfl⟩⟩, ?_⟩
              · obtain ⟨h1, h2⟩ := R.mem.gg k o u hk
                refine ⟨h1, ?_⟩
                show (match p.ow k with | .reg r => _ | .arr a => _ | _ => _) = _
                rw [h2]
              · obtain ⟨h1, c', h2, h3⟩ := hregs r _ hr
                cases h2
                obtain ⟨old, h4, h5⟩ := p2 r h1
                rw [Nat.zero_add] at h4
                obtain ⟨b, q, e1, e2, e3, e4⟩ := (R.mem.reg r old h4).ex
                obtain ⟨b', q', k1, k2⟩ := p4 Ec pc g _ u1 hcells r c h3
                rw [Nat.zero_add, e1] at k1
                cases k1
                refine ⟨b, q, (if_pos h1).trans e1, ?_, e3, fun i c0 hi => ?_⟩
                · show (match p.ow b with | .reg r => _ | .arr a => _ | _ => _) = _
                  rw [e2]
                · have hil := nth_lt hi
                  obtain ⟨c1, hc1⟩ := nth_some (l := old) (i := i) (by have := h5 _ _ h3; omega)
                  obtain ⟨n1, n2, _⟩ := e4 i c1 hc1
                  obtain ⟨u, x1, x2⟩ := k2 i c0 hi
                  exact ⟨n1, n2, u, x1, x2⟩
              · have hno : ¬ r < nPtr Z.sig.args := fun hl => by
                  rw [← length_grpP Z.sig.args (mkC n0 0 Z.sig.outs)] at hl
                  obtain ⟨c, hc⟩ := nth_some hl
                  have : nth Z.sig.h1.regs r = some (.at c) := by
                    show nth ((grpP Z.sig.args (mkC n0 0 Z.sig.outs)).map Pc.at) r = _
                    rw [nth_eq, List.getElem?_map, ← nth_eq, hc]; rfl
                  rcases hr with hr | hr <;> rw [this] at hr <;> cases hr
                exact if_neg hno
              · obtain ⟨i, e, K, o, pl, d, h1, h2, h3, h4, h5, h6⟩ := hAr j A hj
                subst h2
                cases o with
                | none =>
                  obtain ⟨k1, k2, k3, k4⟩ := h6
                  refine ⟨pl.1, pl.2, [], h5, ?_, by simp, by rw [k1]; simp, by simp, k4, k3, fun h => by omega⟩
                  simp only [X.den]; exact h3.trans k2
                | some a' =>
                  obtain ⟨k1, A, k, rows, k2, k3, k4, k5, k6, k7⟩ := h6
                  subst k3; subst k4
                  obtain ⟨ad, cap, rows', e1, e2, e3, e4, e5, e6, e7, e8⟩ := (R.mem.arr a' A k2).ex
                  rw [k1] at e1; cases e1
                  rw [k5] at e2; cases e2
                  refine ⟨ad, cap, rows.take k, h5, by simp only [X.den]; exact h3.trans k7, by rw [List.length_take]; omega, e4, ?_, e6, e7, fun hc => ?_⟩
                  · rw [List.length_take]
                    exact Nat.le_trans (Nat.mul_le_mul_right _ (Nat.min_le_right _ _)) e5
                  · obtain ⟨b, cur, g1, g2, g3, g4, g5, g6⟩ := e8 hc
                    subst g1
                    refine ⟨b, cur, rfl, ?_, g3, g4, g5, fun i' row hi => ?_⟩
                    · show (match p.ow b with | .reg r => _ | .arr a => _ | _ => _) = _
                      rw [g2]
                      show (match posO a' m.own with | some j => Ow.arr j | none => .z) = _
                      rw [posO_of hdup h4]
                    · rw [List.getElem?_take] at hi
                      split at hi
                      · exact g6 i' row hi
                      · cases hi
              · have : nth Z.sig.h1.arrs j = none := by
                  rcases hj with hj | hj
                  · exact hj
                  · obtain ⟨A, e⟩ := mkA_at (show nth (mkA n0 Z.sig.outs) j = _ from hj)
                    cases e
                rw [nth_eq, List.getElem?_eq_none_iff] at this
                show L[j]? = none
                exact List.getElem?_eq_none (by rw [m4, ← length_mkA Z.sig.outs n0]; exact this)
              · rw [v2]
                exact toSR_is (f2 Ec pc g _ hres)
            · exact hd.elim
      · exact hd.elim
end
end Go.Sy
