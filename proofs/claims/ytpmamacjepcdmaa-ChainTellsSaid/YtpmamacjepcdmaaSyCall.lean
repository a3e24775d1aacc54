/- Cells of letters; what is handed over and handed back. -/
import Derived.Test.YtpmamacjepcdmaaSyDen
namespace Go.Sy
open Go.RowKit

section
variable {E E' : Env} {p p' : Pl} {g g' : Gm}

/-! ### Lists side by side -/
theorem All2.append {α β : Type} {R : α → β → Prop} : ∀ {l l' : List α} {m m' : List β}, All2 R l m → All2 R l' m' → All2 R (l ++ l') (m ++ m')
  | [], _, [], _, _, h => h
  | _ :: _, _, _ :: _, _, h, h' => ⟨h.1, All2.append h.2 h'⟩
  | [], _, _ :: _, _, h, _ => h.elim
  | _ :: _, _, [], _, h, _ => h.elim
theorem All2.take {α β : Type} {R : α → β → Prop} : ∀ {l : List α} {m : List β} (n : Nat), All2 R l m → All2 R (l.take n) (m.take n)
  | _, _, 0, _ => trivial
  | [], [], _ + 1, _ => trivial
  | _ :: _, _ :: _, n + 1, h => ⟨h.1, All2.take n h.2⟩
  | [], _ :: _, _, h => h.elim
  | _ :: _, [], _, h => h.elim
theorem All2.drop {α β : Type} {R : α → β → Prop} : ∀ {l : List α} {m : List β} (n : Nat), All2 R l m → All2 R (l.drop n) (m.drop n)
  | _, _, 0, h => h
  | [], [], _ + 1, _ => trivial
  | _ :: _, _ :: _, n + 1, h => All2.drop n h.2
  | [], _ :: _, _, h => h.elim
  | _ :: _, [], _, h => h.elim
theorem All2.conv {α β γ : Type} {R : α → β → Prop} {S : α → γ → Prop} {U : γ → β → Prop} (hu : ∀ a b c, S a c → R a b → U c b) : ∀ {l : List α} {m : List β} {n : List γ}, All2 S l n → All2 R l m → All2 U n m
  | [], [], [], _, _ => trivial
  | _ :: _, _ :: _, _ :: _, h, k => ⟨hu _ _ _ h.1 k.1, All2.conv hu h.2 k.2⟩
  | [], _ :: _, _, _, h => h.elim
  | _ :: _, [], _, _, h => h.elim
  | [], _, _ :: _, h, _ => h.elim
  | _ :: _, _, [], h, _ => h.elim

/-! ### Cells of letters -/
def PK.isOwn : PK → Bool | .own _ _ => true | _ => false
theorem length_mkC : ∀ (ks : List PK) (nx na : Nat), (mkC nx na ks).length = ks.length
  | [], _, _ => rfl
  | k :: l, nx, na => by cases k <;> simp [mkC, length_mkC l]
def cnt : List PK → Nat
  | [] => 0
  | .own _ _ :: l => cnt l + 1
  | _ :: l => cnt l
theorem length_mkA : ∀ (ks : List PK) (nx : Nat), (mkA nx ks).length = cnt ks
  | [], _ => rfl
  | k :: l, nx => by cases k <;> simp [mkA, cnt, length_mkA l]

/-- A flat kind reads the same whatever is only read. -/
theorem Rd.flat {k : Kd} {v : Value} {d : CD} (hk : k.isSl = false) (h : Rd g k v d) : Rd g' k v d := by
  cases k <;> first
    | exact h
    | cases hk
theorem RdRow.flat : ∀ {kd : List Kd} {f : Nat → Option Value} {row : List CD}, anyB Kd.isSl kd = false → RdRow g kd f row → RdRow g' kd f row
  | [], _, [], _, _ => trivial
  | k :: ks, f, d :: ds, hk, ⟨⟨v, hv, hr⟩, hrest⟩ => by
    simp only [anyB, Bool.or_eq_false_iff] at hk
    exact ⟨⟨v, hv, hr.flat hk.1⟩, RdRow.flat hk.2 hrest⟩
  | [], _, _ :: _, _, h => h.elim
  | _ :: _, _, [], _, h => h.elim

/-- The same cells, of other letters and other numbers of arrays. -/
theorem mkC_conv {nx nx' na na' : Nat} : ∀ {ks : List PK}, (∀ i, i < ks.length → E' (nx' + i) = E (nx + i)) → (∀ i, i < cnt ks → p'.arr (na' + i) = p.arr (na + i)) → (g.Le g' ∨ anyB PK.isFz ks = false) →
    All2 (fun c c' => ∀ v, SC.is E p g c v → SC.is E' p' g' c' v) (mkC nx na ks) (mkC nx' na' ks) := by
  intro ks
  induction ks generalizing nx nx' na na' with
  | nil => intro _ _ _; trivial
  | cons k l ih =>
    intro hE hp hg
    have h0 : E' nx' = E nx := hE 0 (by simp)
    have hE' : ∀ i, i < l.length → E' (nx' + 1 + i) = E (nx + 1 + i) := fun i hi => by
      have := hE (i + 1) (by simp; omega)
      rw [show nx' + 1 + i = nx' + (i + 1) from by omega, show nx + 1 + i = nx + (i + 1) from by omega]; exact this
    have hg' : g.Le g' ∨ anyB PK.isFz l = false := by
      rcases hg with hg | hg
      · exact .inl hg
      · simp only [anyB, Bool.or_eq_false_iff] at hg; exact .inr hg.2
    cases k with
    | int k => exact ⟨fun v ⟨n, h1, h2⟩ => ⟨n, by simp only [X.den] at h1 ⊢; rw [h0]; exact h1, h2⟩, ih hE' hp hg'⟩
    | bool => exact ⟨fun v ⟨n, h1, h2⟩ => ⟨n, by simp only [X.den] at h1 ⊢; rw [h0]; exact h1, h2⟩, ih hE' hp hg'⟩
    | str => exact ⟨fun v ⟨n, h1, h2⟩ => ⟨n, by simp only [X.den] at h1 ⊢; rw [h0]; exact h1, h2⟩, ih hE' hp hg'⟩
    | fz K =>
      refine ⟨fun v h => ?_, ih hE' hp hg'⟩
      rcases hg with hg | hg
      · have h : Rd g _ v _ := h
        simp only [SC.is, X.den] at h ⊢
        rw [h0]; exact Rd.mono hg _ _ _ h
      · simp [anyB, PK.isFz] at hg
    | own e K =>
      have hp0 : p'.arr na' = p.arr na := hp 0 (by simp [cnt])
      refine ⟨fun v ⟨A, c, m, h1, h2, h3, h4⟩ => ⟨A, c, m, by rw [hp0]; exact h1, by simp only [X.den] at h2 ⊢; rw [h0]; exact h2, h3, h4⟩, ih hE' (fun i hi => ?_) hg'⟩
      have := hp (i + 1) (by simp [cnt]; omega)
      rw [show na' + 1 + i = na' + (i + 1) from by omega, show na + 1 + i = na + (i + 1) from by omega]; exact this

theorem grpV_conv {R : SC → SC → Prop} (hR : ∀ c c', R c c' → ∀ v, SC.is E p g c v → SC.is E' p' g' c' v) : ∀ {rs : List RK} {cs cs' : List SC}, All2 R cs cs' → All2 (fun x x' => ∀ v, SV.is E p g x v → SV.is E' p' g' x' v) (grpV rs cs) (grpV rs cs')
  | [], cs, cs', _ => by simp only [grpV]; trivial
  | .one k :: l, [], [], _ => by simp only [grpV]; trivial
  | .one k :: l, c :: cs, c' :: cs', h => by simp only [grpV]; exact ⟨hR c c' h.1, grpV_conv hR h.2⟩
  | .agg ks :: l, cs, cs', h => by
    have e : grpV (.agg ks :: l) cs = .agg (cs.take ks.length) :: grpV l (cs.drop ks.length) := by cases cs <;> rfl
    have e' : grpV (.agg ks :: l) cs' = .agg (cs'.take ks.length) :: grpV l (cs'.drop ks.length) := by cases cs' <;> rfl
    rw [e, e']
    refine ⟨fun v ⟨vs, e1, hv⟩ => ⟨vs, e1, All2.conv (fun a b c h1 h2 => hR a c h1 b h2) (h.take ks.length) hv⟩, grpV_conv hR (h.drop ks.length)⟩
  | .one _ :: _, [], _ :: _, h => h.elim
  | .one _ :: _, _ :: _, [], h => h.elim
theorem toSR_conv {xs xs' : List SV} {v : Value} (h : All2 (fun x x' => ∀ v, SV.is E p g x v → SV.is E' p' g' x' v) xs xs') (hv : (toSR xs).is E p g v) : (toSR xs').is E' p' g' v := by
  match xs, xs', h with
  | [], [], _ =>
    obtain ⟨vs, e, h2⟩ := hv
    cases vs with
    | nil => exact ⟨[], e, trivial⟩
    | cons a l => exact h2.elim
  | [x], [x'], h => exact h.1 v hv
  | x :: y :: l, x' :: y' :: l', h =>
    obtain ⟨vs, e, h2⟩ := hv
    exact ⟨vs, e, All2.conv (fun a b c h1 h2 => h1 b h2) h h2⟩
  | [], _ :: _, h => exact h.elim
  | _ :: _, [], h => exact h.elim
  | [_], _ :: _ :: _, h => exact h.2.elim
  | _ :: _ :: _, [_], h => exact h.2.elim
theorem grpP_conv {R : SC → SC → Prop} : ∀ {as : List AK} {cs cs' : List SC}, All2 R cs cs' → All2 (All2 R) (grpP as cs) (grpP as cs')
  | [], _, _, _ => trivial
  | .ptr ks :: l, cs, cs', h => ⟨h.take ks.length, grpP_conv (as := l) (h.drop ks.length)⟩
  | .one _ :: l, cs, cs', h => by simp only [grpP]; exact grpP_conv h
  | .agg _ :: l, cs, cs', h => by simp only [grpP]; exact grpP_conv h
end

/-! ### What is handed over -/
section
variable {B : Base} {E : Env} {p : Pl} {g : Gm} {h : Hp} {w : World}

theorem SK.pos_lt {K : SK} (h : K.pos = true) : 0 < K.by_ ∧ 0 < K.kd.length := by
  simp only [SK.pos, Bool.and_eq_true] at h
  exact ⟨blt_lt h.1, blt_lt h.2⟩
/-- An array's cells, where it is lent. -/
def LentOk (E : Env) (p : Pl) (h : Hp) (w : World) (gc : Gm) (a : Nat) : Prop := ∀ A b c, nth h.arrs a = some (.at A) → p.arr a = some (some ⟨b, 0, none⟩, c) → 0 < c → ∀ i v, i < (A.x.den E).rows.length * A.K.kd.length → w.cell? ⟨b, i, none⟩ = some v → gc b i = some v
/-- What stands behind one that is handed over. -/
def OwnIs (E : Env) (p : Pl) (h : Hp) (o : Option Nat) (pl : Option Addr × Nat) (e : Nat) (K : SK) (d : CD) : Prop := match o with
  | some a => p.arr a = some pl ∧ ∃ A n rows, nth h.arrs a = some (.at A) ∧ A.e = e ∧ A.K = K ∧ A.x.den E = .l rows ∧ n ≤ rows.length ∧ d = .l (rows.take n)
  | none => pl.2 = 0 ∧ d = .l [] ∧ 0 < K.by_ ∧ 0 < K.kd.length
def OwnsIs (E : Env) (p : Pl) (h : Hp) : List PK → List CD → List (Option Nat) → List (Option Addr × Nat) → Prop
  | [], [], [], [] => True
  | .own e K :: ks, d :: ds, o :: os, pl :: pls => OwnIs E p h o pl e K d ∧ OwnsIs E p h ks ds os pls
  | .own _ _ :: _, _, _, _ => False
  | _ :: ks, _ :: ds, os, pls => OwnsIs E p h ks ds os pls
  | _, _, _, _ => False

theorem mtC_sound (H : RepH B E p g h w) {k : PK} {c : SC} {m : Mt} {u : Value} (hm : mtC h k c = some m) (hu : c.is E p g u) (hn : ∀ b ∈ m.need, (b.den E).bool = true) :
    ∃ x, m.data = [x] ∧ CD.ok k.kd (x.den E) ∧ ((k.isOwn = false ∧ m.own = [] ∧ ∀ (Ec : Env) (pc : Pl) (gc : Gm) (nx na : Nat), Ec nx = x.den E → g.Le gc → (∀ a ∈ m.lent, LentOk E p h w gc a) → ∀ l, ∃ c', mkC nx na (k :: l) = c' :: mkC (nx + 1) na l ∧ c'.is Ec pc gc u) ∨
      (∃ e K o pl, k = .own e K ∧ m.own = [o] ∧ m.lent = [] ∧ OwnIs E p h o pl e K (x.den E) ∧ ∀ (Ec : Env) (pc : Pl) (gc : Gm) (nx na : Nat), Ec nx = x.den E → pc.arr na = some pl → SC.is Ec pc gc (.sl na (.len (.var nx))) u)) := by
  unfold mtC at hm
  split at hm
  · split at hm
    · rename_i hk
      cases hm
      obtain ⟨n, h1, h2⟩ := hu
      refine ⟨_, rfl, ⟨n, h1⟩, .inl ⟨rfl, rfl, fun Ec pc gc nx na hE _ _ l => ⟨_, rfl, n, by simp only [X.den]; rw [hE]; exact h1, by rw [h2, IntKind.same_eq hk]⟩⟩⟩
    · cases hm
  · cases hm
    obtain ⟨n, h1, h2⟩ := hu
    exact ⟨_, rfl, ⟨n, h1⟩, .inl ⟨rfl, rfl, fun Ec pc gc nx na hE _ _ l => ⟨_, rfl, n, by simp only [X.den]; rw [hE]; exact h1, h2⟩⟩⟩
  · cases hm
    obtain ⟨n, h1, h2⟩ := hu
    exact ⟨_, rfl, ⟨_, h1⟩, .inl ⟨rfl, rfl, fun Ec pc gc nx na hE _ _ l => ⟨_, rfl, n, by simp only [X.den]; rw [hE]; exact h1, h2⟩⟩⟩
  · rename_i K
    split at hm
    · rename_i ns x hsl
      cases hm
      obtain ⟨A, mm, cc, rows, news, y1, y2, y3, y4, y5, y6, y7, y8, y9, y10⟩ := slData_sound H hsl hu hn
      have hokrow : ∀ row, row ∈ rows → CD.oks K.kd row := fun row hr => by
        obtain ⟨i, hi⟩ := List.getElem?_of_mem hr
        exact RdRow.oks _ _ _ (y10 i row hi)
      refine ⟨x, rfl, ⟨rows, y2, by rw [y3]; exact y6, hokrow⟩, .inl ⟨rfl, rfl, fun Ec pc gc nx na hE hg hl l => ⟨_, rfl, ?_⟩⟩⟩
      have key : Rd gc (.sl K.by_ K.kd) u (x.den E) := by
        unfold slData at hsl
        split at hsl
        · split at hsl
          · rename_i hs
            cases hsl
            have := SK.same_eq hs
            subst this
            exact Rd.mono hg _ _ _ hu
          · cases hsl
        · cases hsl
          have : u = .slice none 0 0 := hu
          subst this; exact Rd.nil _
        · cases hsl
          obtain ⟨A, hA⟩ := hu
          subst hA; exact Rd.nil _
        · rename_i b n
          split at hsl
          · rename_i A' hA'
            split at hsl
            · rename_i hs
              cases hsl
              have hs := SK.same_eq hs
              subst hs
              obtain ⟨ad, cap, rows', e1, e2, e3, e4, e5, e6, e7, e8⟩ := (H.arr b A' hA').ex
              obtain ⟨ad', c', k, c1, c2, c3, c4⟩ := hu
              rw [e1] at c1
              cases c1
              have hle := hn (mkLe n (mkLen A'.x)) (by simp)
              rw [mkLe_den, mkLen_den, e2, c2] at hle
              have hle := of_decide_eq_true hle
              simp only [CD.int_i, CD.rows_l] at hle
              have hle : k ≤ rows'.length := by omega
              subst c4
              simp only [Rd]
              refine ⟨ad, k, cap, rows'.take k, rfl, by rw [mkTake_den e2, c2]; simp, by rw [List.length_take]; omega, c3, e4, Nat.le_trans (Nat.mul_le_mul_right _ hle) e5, fun hk => ?_⟩
              obtain ⟨bb, cur, f1, f2, f3, f4, f5, f6⟩ := e8 (by omega)
              subst f1
              refine ⟨bb, 0, rfl, fun i row hi => ?_⟩
              rw [List.getElem?_take] at hi
              split at hi
              · have hr := f6 i row hi
                refine RdRow.of hr.length fun j kk hkk => ?_
                obtain ⟨v, hv, hrd⟩ := hr.cell hkk
                refine ⟨v, ?_, Rd.mono hg _ _ _ hrd⟩
                rw [Nat.zero_add]
                refine hl b (by simp) A' bb cap hA' e1 (by omega) _ v ?_ (by simp [World.cell?, f3, hv])
                rw [e2]
                exact flat_lt (List.getElem?_eq_some_iff.1 hkk).1 (List.getElem?_eq_some_iff.1 hi).1
              · cases hi
            · cases hsl
          · cases hsl
        · cases hsl
      show Rd gc (.sl K.by_ K.kd) u ((X.var nx).den Ec)
      simp only [X.den]
      rw [hE]
      exact key
    · cases hm
  · rename_i e K a n
    split at hm
    · rename_i A hA
      split at hm
      · rename_i hs
        simp only [Bool.and_eq_true] at hs
        cases hm
        obtain ⟨ad, cap, rows, e1, e2, e3, e4, e5, e6, e7, e8⟩ := (H.arr a A hA).ex
        obtain ⟨ad', c', k, c1, c2, c3, c4⟩ := hu
        rw [e1] at c1
        cases c1
        have hle := hn (mkLe n (mkLen A.x)) (by simp)
        rw [mkLe_den, mkLen_den, e2, c2] at hle
        have hle := of_decide_eq_true hle
        simp only [CD.int_i, CD.rows_l] at hle
        have hle : k ≤ rows.length := by omega
        have hd : (mkTake n A.x).den E = .l (rows.take k) := by rw [mkTake_den e2, c2]; simp
        have hAK := SK.same_eq hs.2
        subst hAK
        refine ⟨_, rfl, ⟨rows.take k, hd, ?_, fun row hr => ?_⟩, .inr ⟨e, _, some a, (ad, cap), rfl, rfl, rfl, ⟨e1, A, k, rows, hA, Nat.eq_of_beq_eq_true hs.1, rfl, e2, hle, hd⟩, fun Ec pc gc nx na hE hp => ⟨ad, cap, k, hp, ?_, c3, c4⟩⟩⟩
        · rw [List.length_take]
          exact Nat.le_trans (Nat.mul_le_mul_right _ (Nat.min_le_right _ _)) e5
        · obtain ⟨i, hi⟩ := List.getElem?_of_mem hr
          rw [List.getElem?_take] at hi
          split at hi
          · obtain ⟨bb, cur, f1, f2, f3, f4, f5, f6⟩ := e8 (by have := (List.getElem?_eq_some_iff.1 hi).1; omega)
            exact RdRow.oks _ _ _ (f6 i row hi)
          · cases hi
        · simp only [X.den]
          rw [hE, hd, CD.rows_l, List.length_take, Nat.min_eq_left hle]
      · cases hm
    · cases hm
  · rename_i e K
    split at hm
    · rename_i hK
      have hK := SK.pos_lt hK
      cases hm
      have hu : u = .slice none 0 0 := hu
      exact ⟨_, rfl, ⟨[], rfl, by simp, fun _ h => by cases h⟩, .inr ⟨e, K, none, (none, 0), rfl, rfl, rfl, ⟨rfl, rfl, hK⟩, fun Ec pc gc nx na hE hp => ⟨none, 0, 0, hp, by simp only [X.den]; rw [hE]; rfl, Nat.le_refl _, hu⟩⟩⟩
    · cases hm
  · rename_i e K
    split at hm
    · rename_i hK
      have hK := SK.pos_lt hK
      cases hm
      obtain ⟨A, hu⟩ := hu
      exact ⟨_, rfl, ⟨[], rfl, by simp, fun _ h => by cases h⟩, .inr ⟨e, K, none, (A, 0), rfl, rfl, rfl, ⟨rfl, rfl, hK⟩, fun Ec pc gc nx na hE hp => ⟨A, 0, 0, hp, by simp only [X.den]; rw [hE]; rfl, Nat.le_refl _, hu⟩⟩⟩
    · cases hm
  · cases hm

theorem mtCs_sound (H : RepH B E p g h w) : ∀ {ks : List PK} {cs : List SC} {us : List Value} {m : Mt}, mtCs h ks cs = some m → All2 (SC.is E p g) cs us → (∀ b ∈ m.need, (b.den E).bool = true) →
    m.data.length = ks.length ∧ CD.oks (ks.map PK.kd) (m.data.map (X.den E)) ∧ ∃ L : List (Option Addr × Nat), OwnsIs E p h ks (m.data.map (X.den E)) m.own L ∧ L.length = cnt ks ∧ m.own.length = cnt ks ∧
      ∀ (Ec : Env) (pc : Pl) (gc : Gm) (nx na : Nat), (∀ i x, m.data[i]? = some x → Ec (nx + i) = x.den E) → (∀ i pl, L[i]? = some pl → pc.arr (na + i) = some pl) → g.Le gc → (∀ a ∈ m.lent, LentOk E p h w gc a) → All2 (SC.is Ec pc gc) (mkC nx na ks) us
  | [], [], us, m, hm, hu, hn => by
    simp only [mtCs, Option.some.injEq] at hm
    subst hm
    cases us with
    | nil => exact ⟨rfl, trivial, [], trivial, rfl, rfl, fun _ _ _ _ _ _ _ _ _ => trivial⟩
    | cons u us => exact hu.elim
  | k :: ks, c :: cs, us, m, hm, hu, hn => by
    cases us with
    | nil => exact hu.elim
    | cons u us =>
      simp only [mtCs] at hm
      split at hm
      · rename_i m1 m2 h1 h2
        cases hm
        obtain ⟨x, d1, d2, d3⟩ := mtC_sound H h1 hu.1 (fun b hb => hn b (List.mem_append_left _ hb))
        obtain ⟨i1, i2, L, i3, i4, i5, i6⟩ := mtCs_sound H h2 hu.2 (fun b hb => hn b (List.mem_append_right _ hb))
        simp only [d1, List.singleton_append, List.map_cons, List.length_cons]
        refine ⟨by rw [i1], ⟨d2, i2⟩, ?_⟩
        rcases d3 with ⟨o1, o2, o3⟩ | ⟨e, K, o, pl, o1, o2, o3, o4, o5⟩
        · refine ⟨L, ?_, ?_, ?_, fun Ec pc gc nx na hE hL hg hl => ?_⟩
          · rw [o2]
            cases k <;> first | exact i3 | cases o1
          · cases k <;> first | exact i4 | cases o1
          · rw [o2]
            cases k <;> first | exact i5 | cases o1
          · obtain ⟨c', e1, e2⟩ := o3 Ec pc gc nx na (hE 0 x rfl) hg (fun a ha => hl a (List.mem_append_left _ ha)) ks
            rw [e1]
            exact ⟨e2, i6 Ec pc gc (nx + 1) na (fun i x hi => by rw [show nx + 1 + i = nx + (i + 1) from by omega]; exact hE (i + 1) x (by simpa using hi)) hL hg fun a ha => hl a (List.mem_append_right _ ha)⟩
        · subst o1
          refine ⟨pl :: L, ?_, by simp [cnt, i4], by simp [o2, cnt, i5], fun Ec pc gc nx na hE hL hg hl => ?_⟩
          · rw [o2]; exact ⟨o4, i3⟩
          · exact ⟨o5 Ec pc gc nx na (hE 0 x rfl) (hL 0 pl rfl), i6 Ec pc gc (nx + 1) (na + 1) (fun i x hi => by rw [show nx + 1 + i = nx + (i + 1) from by omega]; exact hE (i + 1) x (by simpa using hi)) (fun i pl' hi => by rw [show na + 1 + i = na + (i + 1) from by omega]; exact hL (i + 1) pl' (by simpa using hi)) hg fun a ha => hl a (List.mem_append_right _ ha)⟩
      · cases hm
  | [], _ :: _, _, _, hm, _, _ => by simp [mtCs] at hm
  | _ :: _, [], _, _, hm, _, _ => by simp [mtCs] at hm
end
end Go.Sy
