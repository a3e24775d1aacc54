import Derived.Test.YtpmamacjepcdmaaSyLoop2
/- A state that meets a loop's head. -/
namespace Go.Sy
open Go.RowKit

section
variable {B : Base} {E F : Env} {p q : Pl} {g : Gm} {L : LI} {s : St} {a : Act} {as : List Act} {w : World} {ls : List (Nat × Kd × X)} {al : List (Nat × Nat)}

/-- What the head's letters and places are to the state's. -/
structure Meet (E F : Env) (p q : Pl) (L : LI) (ls : List (Nat × Kd × X)) (al : List (Nat × Nat)) : Prop where
  agree : E.Agree L.nx0 F
  ls : ∀ i k x, (i, k, x) ∈ ls → F i = x.den E
  reg : ∀ r, r < L.r0 → q.reg r = p.reg r
  arr : ∀ a, a < L.a0 → q.arr a = p.arr a
  mp : q.mp = p.mp
  nil : ∀ a, (a, 0) ∈ al → q.arr a = some (none, 0)
  new : ∀ a c, (a, c + 1) ∈ al → q.arr a = p.arr c

theorem old_is (M : Meet E F p q L ls al) {c : SC} {v : Value} (ho : c.old L = true) (h : c.is E p g v) : c.is F q g v := by
  simp only [SC.old, Bool.and_eq_true] at ho
  obtain ⟨u, ho⟩ := ho
  have h := SC.is_agree M.agree u h
  cases c with
  | sl a n =>
    obtain ⟨A, c, m, h1, h2⟩ := h
    exact ⟨A, c, m, by rw [M.arr a (blt_lt ho)]; exact h1, h2⟩
  | sub a z i n =>
    obtain ⟨A, c, k, m, h1, h2⟩ := h
    exact ⟨A, c, k, m, by rw [M.arr a (blt_lt ho)]; exact h1, h2⟩
  | ep a z i o =>
    obtain ⟨b, c, n, h1, h2⟩ := h
    exact ⟨b, c, n, by rw [M.arr a (blt_lt ho)]; exact h1, h2⟩
  | loc r o =>
    obtain ⟨b, q', h1, h2⟩ := h
    exact ⟨b, q', by rw [M.reg r (blt_lt ho)]; exact h1, h2⟩
  | mp a =>
    obtain ⟨b, h1, h2⟩ := h
    exact ⟨b, by rw [M.mp]; exact h1, h2⟩
  | fn f caps =>
    obtain ⟨vs, h1, h2⟩ := h
    refine ⟨vs, h1, h2.imp fun x hx u ⟨b, q', h3, h4⟩ => ⟨b, q', ?_, h4⟩⟩
    rw [M.reg _ (blt_lt (allB_mem ho x hx))]; exact h3
  | _ => exact h
theorem oldV_is (M : Meet E F p q L ls al) {c : SV} {v : Value} (ho : c.old L = true) (h : c.is E p g v) : c.is F q g v := by
  cases c with
  | one c => exact old_is M ho h
  | agg l => obtain ⟨vs, e, hv⟩ := h; exact ⟨vs, e, hv.imp fun x hx b hb => old_is M (allB_mem ho x hx) hb⟩
theorem oldR_is (M : Meet E F p q L ls al) {c : SR} {v : Value} (ho : c.old L = true) (h : c.is E p g v) : c.is F q g v := by
  cases c with
  | v c => exact oldV_is M ho h
  | tup l => obtain ⟨vs, e, hv⟩ := h; exact ⟨vs, e, hv.imp fun x hx b hb => oldV_is M (allB_mem ho x hx) hb⟩

theorem cl_is (H : RepH B E p g s.h w) (hk : ∀ b ∈ s.known, (b.den E).bool = true) (M : Meet E F p q L ls al) {hc c : SC} {v : Value} (hcl : Cl L s ls al hc c) (h : c.is E p g v) : hc.is F q g v := by
  cases hcl with
  | any => trivial
  | old _ ho => exact old_is M ho h
  | int k i x hm => obtain ⟨n, h1, h2⟩ := h; exact ⟨n, by simp only [X.den]; rw [M.ls _ _ _ hm]; exact h1, h2⟩
  | bool i x hm => obtain ⟨n, h1, h2⟩ := h; exact ⟨n, by simp only [X.den]; rw [M.ls _ _ _ hm]; exact h1, h2⟩
  | str i x hm => obtain ⟨n, h1, h2⟩ := h; exact ⟨n, by simp only [X.den]; rw [M.ls _ _ _ hm]; exact h1, h2⟩
  | fz K i x hm =>
    show Rd g _ v ((X.var i).den F)
    simp only [X.den]
    rw [M.ls _ _ _ hm]; exact h
  | fzn K i hm =>
    show Rd g _ v ((X.var i).den F)
    simp only [X.den]
    rw [M.ls _ _ _ hm]
    have h : v = .slice none 0 0 := h
    subst h; exact Rd.nil _
  | fzz K i hm =>
    show Rd g _ v ((X.var i).den F)
    simp only [X.den]
    rw [M.ls _ _ _ hm]
    obtain ⟨A, h⟩ := h
    subst h; exact Rd.nil _
  | sl a' c' i n k A' hm ha hA hd =>
    obtain ⟨ad, cap, m, h1, h2, h3, h4⟩ := h
    obtain ⟨ad', cap', rows, e1, e2, e3, e4, e5, e6, e7, e8⟩ := (H.arr c' A' hA).ex
    have hle := dec_den hk hd
    rw [mkLe_den, mkLen_den, e2, h2] at hle
    have hle := of_decide_eq_true hle
    simp only [CD.int_i, CD.rows_l] at hle
    refine ⟨ad, cap, m, by rw [M.new _ _ ha]; exact h1, ?_, h3, h4⟩
    simp only [X.den]
    rw [M.ls _ _ _ hm, mkTake_den e2, h2]
    simp only [CD.int_i, CD.rows_l, List.length_take]
    congr 2
    omega
  | sln a' i k hm ha =>
    have h : v = .slice none 0 0 := h
    refine ⟨none, 0, 0, M.nil _ ha, ?_, Nat.le_refl _, h⟩
    simp only [X.den]
    rw [M.ls _ _ _ hm]
    rfl
theorem tl_is (H : RepH B E p g s.h w) (hk : ∀ b ∈ s.known, (b.den E).bool = true) (M : Meet E F p q L ls al) {t u : SR} {v : Value} (htl : Tl L s ls al t u) (h : u.is E p g v) : t.is F q g v := by
  rcases htl with e | ⟨c, d, e1, e2, hcl⟩ | ⟨e, ho⟩
  · subst e; trivial
  · subst e1; subst e2; exact cl_is H hk M hcl h
  · subst e; exact oldR_is M ho h
theorem frame_of (H : RepH B E p g s.h w) (hk : ∀ b ∈ s.known, (b.den E).bool = true) (M : Meet E F p q L ls al) {t u : List SR} (h : All2 (Tl L s ls al) t u) (R : FrameOk E p g u a) : FrameOk F q g t a :=
  ⟨R.defers, R.size.trans h.length.symm, fun i c hc => by
    obtain ⟨d, h1, h2⟩ := h.nth hc
    exact tl_is H hk M h2 (R.tmp i d h1)⟩
theorem stk_of (M : Meet E F p q L ls al) : ∀ {l m : List (List SR)} {as : List Act}, bkStk L l m = true → All2 (FrameOk E p g) m as → All2 (FrameOk F q g) l as
  | [], [], [], _, _ => trivial
  | [], [], _ :: _, _, h => h.elim
  | _ :: _, _ :: _, [], _, h => h.elim
  | t :: l, u :: m, a :: as, hb, h => by
    simp only [bkStk, listAll2, Bool.and_eq_true] at hb
    refine ⟨?_, stk_of M hb.2 h.2⟩
    have key : ∀ {t u : List SR}, listAll2 (srSame L) t u = true → t.length = u.length ∧ ∀ i c, nth t i = some c → ∃ d, nth u i = some d ∧ srSame L c d = true := by
      intro t
      induction t with
      | nil => intro u h; cases u <;> simp only [listAll2, Bool.false_eq_true] at h; exact ⟨rfl, fun i c hc => by simp [nth] at hc⟩
      | cons x t ih =>
        intro u h
        cases u <;> simp only [listAll2, Bool.false_eq_true, Bool.and_eq_true] at h
        obtain ⟨i1, i2⟩ := ih h.2
        refine ⟨by simp [i1], fun i c hc => ?_⟩
        cases i with
        | zero => simp only [nth, Option.some.injEq] at hc; subst hc; exact ⟨_, rfl, h.1⟩
        | succ i => exact i2 i c hc
    obtain ⟨k1, k2⟩ := key hb.1
    refine ⟨h.1.defers, h.1.size.trans k1.symm, fun i c hc => ?_⟩
    obtain ⟨d, d1, d2⟩ := k2 i c hc
    have hd := h.1.tmp i d d1
    unfold srSame at d2
    split at d2
    · trivial
    · simp only [Bool.and_eq_true] at d2
      have e := SR.same_eq _ _ d2.1
      subst e
      exact oldR_is M d2.2 hd
  | [], _ :: _, _, h, _ => by simp [bkStk, listAll2] at h
  | _ :: _, [], _, h, _ => by simp [bkStk, listAll2] at h

theorem FlatIs.ok {k : Kd} {v : Value} {d : CD} (h : FlatIs k v d) : CD.ok k d := by
  cases k with
  | int k => obtain ⟨n, _, e⟩ := h; exact ⟨n, e⟩
  | bool => obtain ⟨n, _, e⟩ := h; exact ⟨n, e⟩
  | str => exact h.elim
  | sl _ _ => exact h.elim
theorem FlatRow.oks : ∀ {kk : List Kd} {vs : List Value} {a : List CD}, FlatRow kk vs a → CD.oks kk a
  | [], [], [], _ => trivial
  | _ :: _, _ :: _, _ :: _, h => ⟨h.1.ok, FlatRow.oks h.2⟩
  | [], _ :: _, _, h => h.elim
  | [], [], _ :: _, h => h.elim
  | _ :: _, [], _, h => h.elim
  | _ :: _, _ :: _, [], h => h.elim
/-- A map of the head and one of the state. -/
def Ml (L : LI) (ls : List (Nat × Kd × X)) : Pc Mp → Pc Mp → Prop
  | .at A, .at B => mpTy A B = true ∧ ((A.x = B.x ∧ A.x.under L.nx0 = true) ∨ ∃ i, A.x = .var i ∧ (i, Kd.sl 0 (A.kk ++ [A.vk]), B.x) ∈ ls)
  | .at _, _ => False
  | _, _ => True
theorem Ml.mono {ls ls' : List (Nat × Kd × X)} (h1 : ∀ x ∈ ls, x ∈ ls') {x y : Pc Mp} (h : Ml L ls x y) : Ml L ls' x y := by
  cases x with
  | fr => trivial
  | go => trivial
  | «at» A => cases y with
    | fr => exact h.elim
    | go => exact h.elim
    | «at» B => exact ⟨h.1, h.2.imp id fun ⟨i, e, hm⟩ => ⟨i, e, h1 _ hm⟩⟩
def MpFlat (E : Env) (M : Mp) : Prop := ∃ rows, M.x.den E = .l rows ∧ ∀ row ∈ rows, ∃ vs, FlatRow (M.kk ++ [M.vk]) vs row
theorem mpTy_spec {A B : Mp} (h : mpTy A B = true) : A.kk = B.kk ∧ A.vk = B.vk ∧ A.agg = B.agg := by
  simp only [mpTy, Bool.and_eq_true] at h
  exact ⟨Kd.sames_eq _ _ h.2.1.1, Kd.same_eq _ _ h.2.1.2, boolSame_eq h.2.2⟩
theorem bkMp_spec {A B' : Mp} {b : Sub} (hf : MpFlat E B') (h : (bkMp L A B' b).no = []) : Grow E L s b (bkMp L A B' b) ∧ Ml L (bkMp L A B' b).ls (.at A) (.at B') := by
  generalize hb' : bkMp L A B' b = b' at h ⊢
  unfold bkMp at hb'
  split at hb'
  · rename_i ht
    obtain ⟨t1, t2, t3⟩ := mpTy_spec ht
    split at hb'
    · rename_i hs
      simp only [Bool.and_eq_true] at hs
      subst hb'
      exact ⟨.refl h, ht, .inl ⟨X.same_eq hs.1, hs.2⟩⟩
    · split at hb'
      · rename_i i hx
        split at hb'
        · rename_i hi
          subst hb'
          obtain ⟨rows, e1, e2⟩ := hf
          refine ⟨.let_ h hi ?_, ht, .inr ⟨i, hx, by simp [Sub.let_]⟩⟩
          rw [e1]
          simp only [CD.ok]
          refine ⟨rows, rfl, by simp, fun row hr => ?_⟩
          obtain ⟨vs, hv⟩ := e2 row hr
          rw [t1, t2]
          exact hv.oks
        · subst hb'; exact (fail_no h).elim
      · subst hb'; exact (fail_no h).elim
  · subst hb'; exact (fail_no h).elim
theorem bkMps_spec : ∀ {l m : List (Pc Mp)} {b : Sub}, (∀ j M, nth m j = some (.at M) → MpFlat E M) → (bkMps L l m b).no = [] → Grow E L s b (bkMps L l m b) ∧ All2 (Ml L (bkMps L l m b).ls) l m
  | [], [], b, _, h => ⟨.refl h, trivial⟩
  | .at A :: l, .at B' :: m, b, hv, h => by
    simp only [bkMps] at h ⊢
    obtain ⟨h3, h4⟩ := bkMps_spec (l := l) (m := m) (fun j u hj => hv (j + 1) u hj) h
    obtain ⟨h1, h2⟩ := bkMp_spec (s := s) (hv 0 B' rfl) h3.no
    exact ⟨h1.trans h3, h2.mono h3.ls, h4⟩
  | .go :: l, .go :: m, b, hv, h => by
    simp only [bkMps] at h ⊢
    obtain ⟨h3, h4⟩ := bkMps_spec (l := l) (m := m) (fun j u hj => hv (j + 1) u hj) h
    exact ⟨h3, trivial, h4⟩
  | [], _ :: _, b, _, h => (fail_no h).elim
  | .at _ :: _, [], b, _, h => (fail_no h).elim
  | .at _ :: _, .fr :: _, b, _, h => (fail_no h).elim
  | .at _ :: _, .go :: _, b, _, h => (fail_no h).elim
  | .fr :: _, _, b, _, h => (fail_no h).elim
  | .go :: _, [], b, _, h => (fail_no h).elim
  | .go :: _, .fr :: _, b, _, h => (fail_no h).elim
  | .go :: _, .at _ :: _, b, _, h => (fail_no h).elim

theorem holds_sound (R : Rep B E p g s a as w) (hb : (holds L s).no = []) {cs : List X} (hc : collect (holds L s).ls (L.nx0 + 1) L.ks = some cs) {E0 : Env} (hE : E0.Agree L.nx0 E)
    (hkn : ∀ b ∈ L.hd.known, b.under L.nx0 = true ∧ (b.den E0).bool = true) (hr0 : ∀ i x, B.r0 i = some x → i < L.r0) :
    CD.oks L.ks (cs.map (X.den E)) ∧ ∃ p', Rep B (E0.put (L.nx0 + 1) (cs.map (X.den E))) p' g L.hd a as w := by
  unfold holds at hb hc
  dsimp only at hb hc
  generalize hbM : bkMps L L.hd.h.mps s.h.mps ⟨[], [], []⟩ = bM at hb hc
  generalize hbT : bkTmps L s 0 L.hd.tmps s.tmps bM = bT at hb hc
  generalize hbR : bkRegs L s 0 L.hd.h.regs s.h.regs bT = bR at hb hc
  generalize hbA : bkArrs L s 0 L.hd.h.arrs bR = bA at hb hc
  split at hb
  · rename_i hcond
    rw [if_pos hcond] at hc
    simp only [Bool.and_eq_true] at hcond
    obtain ⟨⟨c1, c2⟩, ⟨c3, c4⟩, c5, c6, c7⟩ := hcond
    have c5 := Nat.le_of_ble_eq_true c5
    have c6 := Nat.eq_of_beq_eq_true c6
    have c7 := Nat.eq_of_beq_eq_true c7
    rw [← hbA] at hb
    obtain ⟨x1, x2⟩ := bkArrs_spec hb
    rw [hbA] at x1 hb
    have x1 := x1.symm
    subst x1
    rw [← hbR] at hb
    obtain ⟨y1, y2⟩ := bkRegs_spec R.mem (fun j cs hj i c hi => by
      obtain ⟨b, q, _, _, _, e4⟩ := (R.mem.reg j cs hj).ex
      obtain ⟨_, _, v, _, hv⟩ := e4 i c hi
      exact ⟨v, hv⟩) hb
    have hbT' := y1.no
    rw [← hbT] at hbT'
    obtain ⟨z1, z2⟩ := bkTmps_spec R.mem (fun j u hj => ⟨_, R.frame.tmp j u hj⟩) hbT'
    rw [hbT] at z1 z2
    rw [hbR] at y1 y2
    have hbM' := z1.no
    rw [← hbM] at hbM'
    obtain ⟨m1, m2⟩ := bkMps_spec (E := E) (s := s) (fun j M hj => by
      obtain ⟨b, es, clock, rows, _, _, _, _, h5, h6⟩ := R.mem.mm.at_ j M hj
      obtain ⟨ents, _, h7, _⟩ := h6
      exact ⟨rows, h5, h7⟩) hbM'
    rw [hbM] at m1 m2
    have m2 := m2.mono fun _ _ h => (h.mono z1.ls).mono y1.ls
    have ok : BOk E L s bR := y1.ok (z1.ok (m1.ok ⟨fun x hx => (by cases hx), fun x hx => (by cases hx)⟩))
    obtain ⟨k1, k2⟩ := collect_spec hc
    have hds : (cs.map (X.den E)).length = L.ks.length := by rw [List.length_map, k1]
    have hlook : ∀ i k x, (i, k, x) ∈ bR.ls → (E0.put (L.nx0 + 1) (cs.map (X.den E))) i = x.den E := fun i k x hm => by
      obtain ⟨⟨n1, n2⟩, _⟩ := ok.ls _ hm
      simp only at n1 n2
      rw [c7] at n2
      obtain ⟨k0, hk0⟩ : ∃ k0, L.ks[i - (L.nx0 + 1)]? = some k0 := ⟨_, List.getElem?_eq_getElem (by omega)⟩
      obtain ⟨y, y1, y2⟩ := k2 _ _ hk0
      rw [show L.nx0 + 1 + (i - (L.nx0 + 1)) = i from by omega, mem_lookT c3 hm] at y2
      cases y2
      have : ¬ i < L.nx0 + 1 := by omega
      simp [Env.put, this, y1]
    have hF : E.Agree L.nx0 (E0.put (L.nx0 + 1) (cs.map (X.den E))) := fun i hi => by
      have : i < L.nx0 + 1 := by omega
      simp only [Env.put, if_pos this]
      exact (hE i hi).symm
    have M : Meet E (E0.put (L.nx0 + 1) (cs.map (X.den E))) p (headPl p L bR.as) L bR.ls bR.as :=
      ⟨hF, hlook, fun r hr => headPl_reg hr, fun a ha => headPl_old ha, rfl, fun a ha => headPl_nil (ok.as _ ha).1 (mem_lookT c4 ha), fun a c ha => headPl_new (ok.as _ ha).1 (mem_lookT c4 ha)⟩
    refine ⟨oks_of hds fun j k hj => ?_, headPl p L bR.as, ⟨R.mem.fr, R.mem.g0, R.mem.g1, fun k o v hk => ?_, fun r cs' hr => ?_, fun r hr => ?_, fun a' A ha => ?_, fun a' ha => ?_, ⟨fun a' M' ha => ?_, fun a' ha => R.mem.mm.free a' (by rw [← m2.length]; exact ha)⟩⟩, frame_of R.mem R.known M (z2.mono fun _ _ h => h.mono y1.ls y1.as) R.frame, stk_of M c1 R.stk, fun b hb' => ?_, fun i x hi => ?_⟩
    · obtain ⟨y, y1, y2⟩ := k2 j k hj
      exact ⟨y.den E, by rw [List.getElem?_map, y1]; rfl, (ok.ls _ (lookT_mem y2)).2⟩
    · obtain ⟨h1, h2⟩ := R.mem.gg k o v hk
      exact ⟨h1, by rw [headPl_ow (by rw [h2]; intro c; simp)]; exact h2⟩
    · obtain ⟨r1, r2⟩ := y2 r _ hr
      obtain ⟨ds, d1, d2⟩ := r2 cs' rfl
      obtain ⟨b, q0, e1, e2, e3, e4⟩ := (R.mem.reg r ds d1).ex
      have hrl : r < L.r0 := by rw [c6]; exact nth_lt hr
      refine ⟨b, q0, by rw [headPl_reg hrl]; exact e1, by rw [headPl_ow (by rw [e2]; intro c; simp)]; exact e2, e3, fun o c hc' => ?_⟩
      obtain ⟨d, d3, d4⟩ := d2.nth hc'
      obtain ⟨f1, f2, v, f3, f4⟩ := e4 o d d3
      exact ⟨f1, f2, v, f3, cl_is R.mem R.known M d4 f4⟩
    · have hno : ¬ r < L.r0 := fun hl => by
        rcases hr with hr | hr
        · rw [c6] at hl
          obtain ⟨x, hx⟩ := nth_some hl
          rw [hr] at hx; cases hx
        · exact (y2 r _ hr).1 rfl
      exact if_neg hno
    · obtain ⟨a1, a2⟩ := x2 a' _ ha
      rw [Nat.zero_add] at a2
      rcases a2 A rfl with ⟨h1, A', h2, h3, h4, h5, h6⟩ | ⟨h1, c, h2⟩
      · obtain ⟨ad, cap, rows, e1, e2, e3, e4, e5, e6, e7, e8⟩ := (R.mem.arr a' A' h2).ex
        refine ⟨ad, cap, rows, (M.arr a' h1).trans e1, ?_, e3, e4, by rw [h4]; exact e5, by rw [h4]; exact e6, by rw [h4]; exact e7, fun hcap => ?_⟩
        · rw [← X.den_agree hF h6, h5]; exact e2
        · obtain ⟨b, cur, f1, f2, f3, f4, f5, f6⟩ := e8 hcap
          refine ⟨b, cur, f1, headPl_owa c2 f2 ha (if_pos h1), by rw [h3]; exact f3, by rw [h4]; exact f4, f5, by rw [h4]; exact f6⟩
      · obtain ⟨_, A0, i, g1, g2, g3⟩ := ok.as _ (lookT_mem h2)
        simp only at g1
        rw [ha] at g1
        cases g1
        cases c with
        | zero =>
          obtain ⟨g3, g4⟩ := g3
          obtain ⟨p1, p2⟩ := SK.pos_lt g3
          refine ⟨none, 0, [], headPl_nil h1 h2, ?_, Nat.le_refl _, Nat.zero_le _, by simp, p2, p1, fun h => absurd h (Nat.lt_irrefl _)⟩
          rw [g2]
          simp only [X.den]
          rw [hlook _ _ _ g4]; rfl
        | succ c =>
          obtain ⟨A', n, g4, g5, g6, g7, g8⟩ := g3
          obtain ⟨ad, cap, rows, e1, e2, e3, e4, e5, e6, e7, e8⟩ := (R.mem.arr c A' g4).ex
          refine ⟨ad, cap, rows.take (n.den E).int.toNat, (headPl_new h1 h2).trans e1, ?_, ?_, e4, ?_, by rw [g6]; exact e6, by rw [g6]; exact e7, fun hcap => ?_⟩
          · rw [g2]
            simp only [X.den]
            rw [hlook _ _ _ g8, mkTake_den e2]
          · rw [List.length_take]; omega
          · rw [g6, List.length_take]
            exact Nat.le_trans (Nat.mul_le_mul_right _ (Nat.min_le_right _ _)) e5
          · obtain ⟨b, cur, f1, f2, f3, f4, f5, f6⟩ := e8 hcap
            have ht : tgt L bR.as a' = some c := by
              unfold tgt
              rw [if_neg (by omega), h2]
            refine ⟨b, cur, f1, headPl_owa c2 f2 ha ht, by rw [g5]; exact f3, by rw [g6]; exact f4, f5, fun i' row hi' => ?_⟩
            rw [List.getElem?_take] at hi'
            split at hi'
            · rw [g6]; exact f6 i' row hi'
            · cases hi'
    · have hnl : L.hd.h.arrs.length ≤ a' := by
        rcases Nat.lt_or_ge a' L.hd.h.arrs.length with hl | hl
        · exfalso
          obtain ⟨x, hx⟩ := nth_some hl
          rcases ha with ha | ha
          · rw [ha] at hx; cases hx
          · exact (x2 a' _ ha).1 rfl
        · exact hl
      have : lookT a' bR.as = none := by
        cases hl : lookT a' bR.as with
        | none => rfl
        | some c =>
          obtain ⟨_, A, i, h2, _⟩ := ok.as _ (lookT_mem hl)
          have := nth_lt h2
          simp only at this
          omega
      simp only [headPl, if_neg (show ¬ a' < L.a0 by omega), this]
    · obtain ⟨y, k1, k2⟩ := m2.nth ha
      cases y with
      | fr => exact k2.elim
      | go => exact k2.elim
      | «at» M0 =>
        obtain ⟨b, es, clock, rows, h1, h2, h3, h4, h5, h6⟩ := R.mem.mm.at_ a' M0 k1
        obtain ⟨t, k3⟩ := k2
        obtain ⟨t1, t2, t3⟩ := mpTy_spec t
        refine ⟨b, es, clock, rows, h1, by rw [headPl_ow (by rw [h2]; intro c; simp)]; exact h2, h3, h4, ?_, by rw [t1, t2, t3]; exact h6⟩
        rcases k3 with ⟨e1, e2⟩ | ⟨i, e1, e2⟩
        · rw [← X.den_agree hF e2, e1]; exact h5
        · rw [e1]
          simp only [X.den]
          rw [hlook _ _ _ e2]; exact h5
    · obtain ⟨u, hu⟩ := hkn b hb'
      rw [← X.den_agree (hE.trans hF) u]; exact hu
    · rw [headPl_reg (hr0 i x hi)]; exact R.keep i x hi
  · exact (fail_no hb).elim
end
end Go.Sy

/- The end of a function. -/
namespace Go.Sy
open Go.RowKit

section
variable {P : Program} {Z : Cx} {Γ : Gam} {B : Base} {Q : List CD → Prop} {E F : Env} {J : JJ} {p q : Pl} {g : Gm} {s : St} {a : Act} {as : List Act} {w : World}

def resM (a : Act) : ResultVar → Sem Value
  | .tmp t => pure (a.tmps.getD t Go.undef)
  | .cell b t => do loadVar t (← asAddr (a.tmps.getD b Go.undef))
theorem resOf_sound {T : TT} (hT : TOk P T) (R : Rep B E p g s a as w) : ∀ {l : List ResultVar} {vals : List SV}, resOf T s.h s.tmps l = some vals → ∃ vs : List Value, All2 (SV.is E p g) vals vs ∧
    l.length = vs.length ∧ ∀ (i : Nat) x, l[i]? = some x → ∃ v, vs[i]? = some v ∧ (resM a x).run P w = .ok v w
  | [], vals, h => by
    simp only [resOf, Option.some.injEq] at h
    subst h
    exact ⟨[], trivial, rfl, fun i x hx => (by simp at hx)⟩
  | .tmp t :: l, vals, h => by
    simp only [resOf] at h
    split at h
    · rename_i x m h1 h2
      cases h
      obtain ⟨vs, i1, i2, i3⟩ := resOf_sound hT R h2
      refine ⟨a.tmps.getD t Go.undef :: vs, ⟨R.frame.tmp t _ h1, i1⟩, by simp [i2], fun i y hy => ?_⟩
      cases i with
      | zero =>
        simp only [List.getElem?_cons_zero, Option.some.injEq] at hy
        subst hy
        exact ⟨_, rfl, rfl⟩
      | succ i => simpa using i3 i y (by simpa using hy)
    · cases h
  | .cell t ty :: l, vals, h => by
    simp only [resOf] at h
    split at h
    · rename_i r o m h1 h2
      split at h
      · rename_i x hh hl
        cases h
        obtain ⟨vs, i1, i2, i3⟩ := resOf_sound hT R h2
        obtain ⟨b, q, h5, hv⟩ := (R.frame.tmp t _ h1 : ∃ b q, p.reg r = some (b, q) ∧ a.tmps.getD t Go.undef = .pointer (some ⟨b, q + o, none⟩))
        obtain ⟨_, v, h3, h4⟩ := loadAt_sound hT R.mem (r := .v (.one (.loc r o))) (v := .pointer (some ⟨b, q + o, none⟩)) ⟨b, q, h5, rfl⟩ hl (fun b hb => by cases hb)
        have h3 := h3 w (CellsSame.refl _ _ _ _)
        refine ⟨v :: vs, ⟨h4, i1⟩, by simp [i2], fun i y hy => ?_⟩
        cases i with
        | zero =>
          simp only [List.getElem?_cons_zero, Option.some.injEq] at hy
          subst hy
          refine ⟨v, rfl, ?_⟩
          simp only [resM, hv]
          simpa [Instr.loadAt, Instr.sureAddr, asAddr] using h3
        | succ i => simpa using i3 i y (by simpa using hy)
      · cases h
    · cases h

theorem mapM_get {α β : Type} {P : Program} {w : World} {f : α → Sem β} : ∀ {l : List α} {vs : List β}, l.length = vs.length → (∀ (i : Nat) x, l[i]? = some x → ∃ v, vs[i]? = some v ∧ (f x).run P w = .ok v w) → (l.mapM f).run P w = .ok vs w
  | [], [], _, _ => by simp [List.mapM_nil]
  | x :: l, v :: vs, h, hh => by
    obtain ⟨v', h1, h2⟩ := hh 0 x rfl
    simp only [List.getElem?_cons_zero, Option.some.injEq] at h1
    subst h1
    rw [List.mapM_cons, Sem.run_bind, h2, Result.andThen_ok, Sem.run_bind, mapM_get (l := l) (vs := vs) (by simpa using h) (fun i y hy => by simpa using hh (i + 1) y (by simpa using hy))]
    rfl
  | [], _ :: _, h, _ => by simp at h
  | _ :: _, [], h, _ => by simp at h
def outV : List Value → Value
  | [v] => v
  | vs => .tuple vs.toArray
theorem results_run {T : TT} {fn : Func} (hT : TOk P T) (R : Rep B E p g s a as w) {vals : List SV} (h : resOf T s.h s.tmps fn.results.toList = some vals) :
    ∃ vs v, All2 (SV.is E p g) vals vs ∧ v = outV vs ∧ (results fn a.tmps).run P w = .ok v w := by
  obtain ⟨vs, h1, h2, h3⟩ := resOf_sound hT R h
  refine ⟨vs, _, h1, rfl, ?_⟩
  unfold results
  rw [Sem.run_bind, Array.mapM_eq_mapM_toList]
  simp only [Sem.run_map]
  rw [mapM_get h2 (fun i x hx => (by
    obtain ⟨v, e1, e2⟩ := h3 i x hx
    exact ⟨v, e1, by cases x <;> exact e2⟩))]
  simp only [Result.andThen_ok]
  cases vs with
  | nil => rfl
  | cons x l => cases l <;> rfl
theorem toSR_is {vals : List SV} {vs : List Value} (h : All2 (SV.is E p g) vals vs) : (toSR vals).is E p g (outV vs) := by
  match vals, vs, h with
  | [], [], _ => exact ⟨[], rfl, trivial⟩
  | [x], [v], h => exact h.1
  | x :: y :: l, u :: v :: m, h => exact ⟨_, rfl, h⟩
  | [], _ :: _, h => exact h.elim
  | _ :: _, [], h => exact h.elim
  | [_], _ :: _ :: _, h => exact h.2.elim
  | _ :: _ :: _, [_], h => exact h.2.elim

theorem flatV_sound : ∀ {l : List RK} {vals : List SV} {vs : List Value} {ds : List SC}, flatV l vals = some ds → All2 (SV.is E p g) vals vs →
    ∃ us, All2 (SC.is E p g) ds us ∧ ∀ (Ec : Env) (pc : Pl) (gc : Gm) (cs : List SC), All2 (SC.is Ec pc gc) cs us → All2 (SV.is Ec pc gc) (grpV l cs) vs
  | [], [], vs, ds, h, hv => by
    simp only [flatV, Option.some.injEq] at h
    subst h
    cases vs with
    | nil => exact ⟨[], trivial, fun Ec pc gc cs _ => by cases cs <;> trivial⟩
    | cons => exact hv.elim
  | .one k :: l, .one c :: vals, vs, ds, h, hv => by
    simp only [flatV] at h
    split at h
    · rename_i m hm
      cases h
      cases vs with
      | nil => exact hv.elim
      | cons v vs =>
        obtain ⟨us, h1, h2⟩ := flatV_sound hm hv.2
        refine ⟨v :: us, ⟨hv.1, h1⟩, fun Ec pc gc cs hc => ?_⟩
        cases cs with
        | nil => exact hc.elim
        | cons c cs => exact ⟨hc.1, h2 Ec pc gc cs hc.2⟩
    · cases h
  | .agg ks :: l, .agg c :: vals, vs, ds, h, hv => by
    simp only [flatV] at h
    split at h
    · rename_i hlen
      have hlen := Nat.eq_of_beq_eq_true hlen
      split at h
      · rename_i m hm
        cases h
        cases vs with
        | nil => exact hv.elim
        | cons v vs =>
          obtain ⟨us, h1, h2⟩ := flatV_sound hm hv.2
          obtain ⟨ws, e, hw⟩ := hv.1
          have hwl := hw.length
          refine ⟨ws ++ us, hw.append h1, fun Ec pc gc cs hc => ?_⟩
          have ht := hc.take ks.length
          have hd := hc.drop ks.length
          rw [take_app (l := ws) (by omega)] at ht
          rw [drop_app (l := ws) (by omega)] at hd
          have e1 : grpV (.agg ks :: l) cs = .agg (cs.take ks.length) :: grpV l (cs.drop ks.length) := by cases cs <;> rfl
          rw [e1]
          exact ⟨⟨ws, e, ht⟩, h2 Ec pc gc _ hd⟩
      · cases h
    · cases h
  | [], _ :: _, _, _, h, _ => by simp [flatV] at h
  | .one _ :: _, [], _, _, h, _ => by simp [flatV] at h
  | .agg _ :: _, [], _, _, h, _ => by simp [flatV] at h
  | .one _ :: _, .agg _ :: _, _, _, h, _ => by simp [flatV] at h
  | .agg _ :: _, .one _ :: _, _, _, h, _ => by simp [flatV] at h

/-- A region at its end. -/
def RegEnd (p : Pl) (w : World) (Ec : Env) (pc : Pl) (gc : Gm) (r : Nat) (cs : List SC) : Prop := ∃ b q, p.reg r = some (b, q) ∧ ∀ i c, nth cs i = some c → ∃ v, w.cell? ⟨b, q + i, none⟩ = some v ∧ c.is Ec pc gc v
theorem flatP_sound {h : Hp} (H : RepH B E p g h w) : ∀ {l : List AK} {r : Nat} {cs : List SC}, flatP h r l = some cs → cs.length = (l.flatMap AK.ps).length ∧ (∀ j, j < nPtr l → ∃ old, nth h.regs (r + j) = some (.at old) ∧ ∀ ds c, nth (grpP l ds) j = some c → c.length ≤ old.length) ∧
    ∃ us, All2 (SC.is E p g) cs us ∧ ∀ (Ec : Env) (pc : Pl) (gc : Gm) (ds : List SC) (us' : List Value), All2 (SC.is Ec pc gc) ds (us ++ us') → ∀ j c, nth (grpP l ds) j = some c → RegEnd p w Ec pc gc (r + j) c
  | [], r, cs, hf => by
    simp only [flatP, Option.some.injEq] at hf
    subst hf
    exact ⟨rfl, fun j hj => (by simp [nPtr] at hj), [], trivial, fun _ _ _ _ _ _ j c hj => by simp [grpP, nth] at hj⟩
  | .one k :: l, r, cs, hf => by
    have hf : flatP h r l = some cs := hf
    obtain ⟨h1, h2, h3⟩ := flatP_sound H hf
    exact ⟨by simpa [AK.ps] using h1, h2, h3⟩
  | .agg k :: l, r, cs, hf => by
    have hf : flatP h r l = some cs := hf
    obtain ⟨h1, h2, h3⟩ := flatP_sound H hf
    exact ⟨by simpa [AK.ps] using h1, h2, h3⟩
  | .ptr ks :: l, r, cs, hf => by
    simp only [flatP] at hf
    split at hf
    · rename_i c m hc hm
      split at hf
      · rename_i hlen
        have hlen := Nat.eq_of_beq_eq_true hlen
        cases hf
        obtain ⟨h1, h2, us, h3, h4⟩ := flatP_sound H hm
        obtain ⟨b, q, e1, e2, e3, e4⟩ := (H.reg r c hc).ex
        obtain ⟨ws, w1, w2⟩ := list_of (R := SC.is E p g) (l := c) (f := fun j => w.cell? ⟨b, q + j, none⟩) fun j c0 hc0 => (e4 j c0 hc0).2.2
        have hwl := w1.length
        refine ⟨by simp [AK.ps, h1, hlen], fun j hj => ?_, ws ++ us, w1.append h3, fun Ec pc gc ds us' hd j c' hj => ?_⟩
        · cases j with
          | zero =>
            refine ⟨c, hc, fun ds c0 h0 => ?_⟩
            simp only [grpP, nth, Option.some.injEq] at h0
            subst h0
            rw [List.length_take]; omega
          | succ j =>
            obtain ⟨old, o1, o2⟩ := h2 j (by simp only [nPtr] at hj; omega)
            exact ⟨old, by rw [show r + (j + 1) = r + 1 + j from by omega]; exact o1, fun ds c0 h0 => o2 (ds.drop ks.length) c0 h0⟩
        · rw [List.append_assoc] at hd
          have ht := hd.take ks.length
          have hdd := hd.drop ks.length
          rw [take_app (l := ws) (by omega)] at ht
          rw [drop_app (l := ws) (by omega)] at hdd
          cases j with
          | zero =>
            simp only [grpP, nth, Option.some.injEq] at hj
            subst hj
            refine ⟨b, q, e1, fun i c0 hi => ?_⟩
            obtain ⟨v, v1, v2⟩ := ht.nth hi
            exact ⟨v, w2 i v v1, v2⟩
          | succ j =>
            rw [show r + (j + 1) = r + 1 + j from by omega]
            exact h4 Ec pc gc _ us' hdd j c' hj
      · cases hf
    · cases hf

/-- Places, as they are handed back. -/
def retPl (p : Pl) (n : Nat) (own : List (Option Nat)) (L : List (Option Addr × Nat)) : Pl where
  reg j := if j < n then p.reg j else none
  arr j := L[j]?
  mp _ := none
  ow k := match p.ow k with
    | .reg r => .reg r
    | .arr a => (match posO a own with | some j => .arr j | none => .z)
    | _ => .z

/-- What a function hands back. -/
def EndOk (Z : Cx) (B : Base) (Q : List CD → Prop) (E0 : Env) (e : Ending) (w : World) : Prop :=
  ∃ outs p1 g1 v, e = .returned v ∧ CD.oks Z.sig.outKinds outs ∧ Q outs ∧ (∀ i x, i < nPtr Z.sig.args → B.r0 i = some x → p1.reg i = some x) ∧ RepH B (E0.put Z.sig.ins.length outs) p1 g1 Z.sig.h1 w ∧ Z.sig.res1.is (E0.put Z.sig.ins.length outs) p1 g1 v

theorem topRet_sound (S : Told P Z Γ) {fn : Func} (E0 : Env) : ∀ (n : Nat) (s : St) (p : Pl) (g : Gm), (topRet Z fn.results.toList n s).den Γ Q E J → Rep B E p g s a as w → bodyPost P fn (EndOk Z B Q E0) .ret a w
  | 0, s, p, g, hd, _ => hd.elim
  | n + 1, s, p, g, hd, R => by
    simp only [topRet] at hd
    split at hd
    · exact hd.elim
    · rename_i vals hvals
      split at hd
      · rename_i cs ds hcs hds
        split at hd
        · rename_i b hb
          split at hd
          · rename_i s' hs
            obtain ⟨q, g', h1, h2, h3, h4, h5, h6⟩ := frz_sound R hs
            exact topRet_sound S E0 n s' q g' hd h3
          · exact hd.elim
        · rename_i hfz
          split at hd
          · exact hd.elim
          · rename_i m hm
            split at hd
            · rename_i hdup
              obtain ⟨hn, hd⟩ := needs_den R.known hd
              have hd : Q (m.data.map (X.den E)) := hd
              obtain ⟨vs, v, v1, v2, v3⟩ := results_run (fn := fn) S.T R hvals
              obtain ⟨u1, f1, f2⟩ := flatV_sound hds v1
              obtain ⟨p1, p2, u2, p3, p4⟩ := flatP_sound R.mem hcs
              have hlent := mtCs_lent hm hfz
              obtain ⟨m1, m2, L, m3, m4, m5, m6⟩ := mtCs_sound R.mem hm (p3.append f1) hn
              let n0 := Z.sig.ins.length
              let Ec : Env := E0.put n0 (m.data.map (X.den E))
              let pc : Pl := retPl p (nPtr Z.sig.args) m.own L
              have hEc : ∀ i x, m.data[i]? = some x → Ec (n0 + i) = x.den E := fun i x hi => by
                rw [show Ec (n0 + i) = (m.data.map (X.den E)).getD i .u from getD_put]
                simp [List.getD_eq_getElem?_getD, hi]
              have hcells : All2 (SC.is Ec pc g) (mkC n0 0 Z.sig.outs) (u2 ++ u1) := m6 Ec pc g n0 0 hEc (fun i pl hi => by rw [Nat.zero_add]; exact hi) (Gm.Le.refl _) (by rw [hlent]; intro a ha; cases ha)
              have hnP : Z.sig.nP = u2.length := by
                rw [← p3.length, p1]; rfl
              have hres := hcells.drop Z.sig.nP
              rw [drop_app (l := u2) hnP.symm] at hres
              have hAr : ∀ j A, nth Z.sig.h1.arrs j = some (.at A) → ∃ i e K o pl d, nth Z.sig.outs i = some (.own e K) ∧ A = ⟨e, K, .var (n0 + i)⟩ ∧ Ec (n0 + i) = d ∧ m.own[j]? = some o ∧ L[j]? = some pl ∧ OwnIs E p s.h o pl e K d := fun j A hj => by
                obtain ⟨i, e, K, o, pl, d, h1, h2, h3, h4, h5, h6⟩ := mkA_own m3 (show nth (mkA n0 Z.sig.outs) j = _ from hj)
                refine ⟨i, e, K, o, pl, d, h1, h2, ?_, h4, h5, h6⟩
                rw [show Ec (n0 + i) = (m.data.map (X.den E)).getD i .u from getD_put]
                simp [List.getD_eq_getElem?_getD, h3]
              have hregs : ∀ j x, nth Z.sig.h1.regs j = some x → j < nPtr Z.sig.args ∧ ∃ c, x = .at c ∧ nth (grpP Z.sig.args (mkC n0 0 Z.sig.outs)) j = some c := fun j x hj => by
                have hj' : nth ((grpP Z.sig.args (mkC n0 0 Z.sig.outs)).map Pc.at) j = some x := hj
                rw [nth_eq, List.getElem?_map, Option.map_eq_some_iff] at hj'
                obtain ⟨c, h1, h2⟩ := hj'
                rw [← nth_eq] at h1
                exact ⟨by rw [← length_grpP Z.sig.args (mkC n0 0 Z.sig.outs)]; exact nth_lt h1, c, h2.symm, h1⟩
              refine ⟨R.frame.defers, v, v3, m.data.map (X.den E), pc, g, v, rfl, m2, hd, fun i x hi hx => (if_pos hi).trans (R.keep i x hx), ⟨R.mem.fr, R.mem.g0, R.mem.g1, fun k o u hk => ?_, fun r c hr => ?_, fun r hr => ?_, fun j A hj => ?_, fun j hj => ?_, ⟨fun a M ha => (by cases a <;> cases ha), fun _ _ => rfl⟩⟩, ?_⟩
              · obtain ⟨h1, h2⟩ := R.mem.gg k o u hk
                refine ⟨h1, ?_⟩
                show (match p.ow k with | .reg r => _ | .arr a => _ | _ => _) = _
                rw [h2]
              · obtain ⟨h1, c', h2, h3⟩ := hregs r _ hr
                cases h2
                obtain ⟨old, h4, h5⟩ := p2 r h1
                rw [Nat.zero_add] at h4
                obtain ⟨b, q, e1, e2, e3, e4⟩ := (R.mem.reg r old h4).ex
                obtain ⟨b', q', k1, k2⟩ := p4 Ec pc g _ u1 hcells r c h3
                rw [Nat.zero_add, e1] at k1
                cases k1
                refine ⟨b, q, (if_pos h1).trans e1, ?_, e3, fun i c0 hi => ?_⟩
                · show (match p.ow b with | .reg r => _ | .arr a => _ | _ => _) = _
                  rw [e2]
                · have hil := nth_lt hi
                  obtain ⟨c1, hc1⟩ := nth_some (l := old) (i := i) (by have := h5 _ _ h3; omega)
                  obtain ⟨n1, n2, _⟩ := e4 i c1 hc1
                  obtain ⟨u, x1, x2⟩ := k2 i c0 hi
                  exact ⟨n1, n2, u, x1, x2⟩
              · have hno : ¬ r < nPtr Z.sig.args := fun hl => by
                  rw [← length_grpP Z.sig.args (mkC n0 0 Z.sig.outs)] at hl
                  obtain ⟨c, hc⟩ := nth_some hl
                  have : nth Z.sig.h1.regs r = some (.at c) := by
                    show nth ((grpP Z.sig.args (mkC n0 0 Z.sig.outs)).map Pc.at) r = _
                    rw [nth_eq, List.getElem?_map, ← nth_eq, hc]; rfl
                  rcases hr with hr | hr <;> rw [this] at hr <;> cases hr
                exact if_neg hno
              · obtain ⟨i, e, K, o, pl, d, h1, h2, h3, h4, h5, h6⟩ := hAr j A hj
                subst h2
                cases o with
                | none =>
                  obtain ⟨k1, k2, k3, k4⟩ := h6
                  refine ⟨pl.1, pl.2, [], h5, ?_, by simp, by rw [k1]; simp, by simp, k4, k3, fun h => by omega⟩
                  simp only [X.den]; exact h3.trans k2
                | some a' =>
                  obtain ⟨k1, A, k, rows, k2, k3, k4, k5, k6, k7⟩ := h6
                  subst k3; subst k4
                  obtain ⟨ad, cap, rows', e1, e2, e3, e4, e5, e6, e7, e8⟩ := (R.mem.arr a' A k2).ex
                  rw [k1] at e1; cases e1
                  rw [k5] at e2; cases e2
                  refine ⟨ad, cap, rows.take k, h5, by simp only [X.den]; exact h3.trans k7, by rw [List.length_take]; omega, e4, ?_, e6, e7, fun hc => ?_⟩
                  · rw [List.length_take]
                    exact Nat.le_trans (Nat.mul_le_mul_right _ (Nat.min_le_right _ _)) e5
                  · obtain ⟨b, cur, g1, g2, g3, g4, g5, g6⟩ := e8 hc
                    subst g1
                    refine ⟨b, cur, rfl, ?_, g3, g4, g5, fun i' row hi => ?_⟩
                    · show (match p.ow b with | .reg r => _ | .arr a => _ | _ => _) = _
                      rw [g2]
                      show (match posO a' m.own with | some j => Ow.arr j | none => .z) = _
                      rw [posO_of hdup h4]
                    · rw [List.getElem?_take] at hi
                      split at hi
                      · exact g6 i' row hi
                      · cases hi
              · have : nth Z.sig.h1.arrs j = none := by
                  rcases hj with hj | hj
                  · exact hj
                  · obtain ⟨A, e⟩ := mkA_at (show nth (mkA n0 Z.sig.outs) j = _ from hj)
                    cases e
                rw [nth_eq, List.getElem?_eq_none_iff] at this
                show L[j]? = none
                exact List.getElem?_eq_none (by rw [m4, ← length_mkA Z.sig.outs n0]; exact this)
              · rw [v2]
                exact toSR_is (f2 Ec pc g _ hres)
            · exact hd.elim
      · exact hd.elim
end
end Go.Sy
