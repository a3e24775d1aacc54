import Derived.Test.YtpmamacjepcdmaaSyMap
/- One operation of the symbolic walk, whichever it is; stores. -/
namespace Go.Sy
open Go.RowKit

section
variable {P : Program} {T : TT} {B : Base} {E : Env} {p : Pl} {g : Gm} {h : Hp} {tm : List SR} {a : Act} {w : World}
variable (H : RepH B E p g h w) (ht : ∀ i c, nth tm i = some c → c.is E p g (a.tmps.getD i Go.undef)) (hT : TOk P T)
include H ht hT

theorem aop_builtin (dst : Option Tmp) (type : TypeId) (pos : String) (after : Array Edge) (guard : Option (Nat × Bool)) {sa : Nat} {b : Builtin} {args : Array Operand} {ats : Array TypeId} {vs : List SR} {ns : List X} {r : SR} {h' : Hp} {qu : Bool}
    (hv : evs tm args.toList = some vs) (ho : builtinOut T h sa ats.toList b vs = .val ns r h' qu) (hn : ∀ b ∈ ns, (b.den E).bool = true) :
    (h' = h ∧ YieldP P E p g a ⟨dst, .call { callee := .builtin b, args := args, argTypes := ats }, type, pos, after, guard⟩ r) ∨
      (reads ⟨dst, .call { callee := .builtin b, args := args, argTypes := ats }, type, pos, after, guard⟩ = false ∧ Yield P B E p g h a w ⟨dst, .call { callee := .builtin b, args := args, argTypes := ats }, type, pos, after, guard⟩ r h' qu) := by
  have arr : ∀ {α : Type} {x : Array α} {l : List α}, x.toList = l → x = l.toArray := fun h => by subst h; rfl
  have slice : ∀ {t e : Nat}, isSlice T t = some e → ∃ ti, T.get t = some ti ∧ ti.k = .slice e := fun {t e} h => by
    unfold isSlice at h
    split at h
    · rename_i ht; cases h; exact ⟨_, ht, rfl⟩
    · cases h
  unfold builtinOut at ho
  split at ho
  · obtain ⟨x, ex, h1⟩ := evs_one hv
    have := arr ex; subst this
    split at ho
    · rename_i t hat
      have := arr hat; subst this
      split at ho
      · rename_i e hs
        obtain ⟨ti, k1, k2⟩ := slice hs
        left
        split at ho
        · cases ho; exact ⟨rfl, y_len ht dst type pos after guard hT x t e k1 k2 h1 (.inl ⟨_, rfl⟩)⟩
        · cases ho; exact ⟨rfl, y_len ht dst type pos after guard hT x t e k1 k2 h1 (.inr (.inl ⟨_, _, rfl, rfl⟩))⟩
        · cases ho; exact ⟨rfl, y_len ht dst type pos after guard hT x t e k1 k2 h1 (.inr (.inr ⟨.inl rfl, rfl⟩))⟩
        · cases ho; exact ⟨rfl, y_len ht dst type pos after guard hT x t e k1 k2 h1 (.inr (.inr ⟨.inr rfl, rfl⟩))⟩
        · cases ho
      · cases ho
    · cases ho
  · obtain ⟨x, y, ex, h1, h2⟩ := evs_two hv
    have := arr ex; subst this
    cases ho
    exact .inl ⟨rfl, y_min ht dst type pos after guard x y ats h1 h2⟩
  · obtain ⟨x, y, ex, h1, h2⟩ := evs_two hv
    have := arr ex; subst this
    cases ho
    exact .inl ⟨rfl, y_max ht dst type pos after guard x y ats h1 h2⟩
  · obtain ⟨x, y, ex, h1, h2⟩ := evs_two hv
    have := arr ex; subst this
    split at ho
    · rename_i t u hat
      have := arr hat; subst this
      split at ho
      · rename_i htu
        have htu := Nat.eq_of_beq_eq_true htu
        subst htu
        split at ho
        · rename_i e hs
          obtain ⟨ti, k1, k2⟩ := slice hs
          split at ho
          · rename_i hei
            dsimp only at ho
            split at ho
            · rename_i hc
              simp only [Bool.and_eq_true] at hc
              obtain ⟨⟨c1, c2⟩, c3, c4⟩ := hc
              split at ho
              · rename_i ns0 dy hsl
                right
                refine ⟨rfl, ?_⟩
                split at ho
                · cases ho
                  exact y_append H ht dst type pos after guard hT x y k1 k2 hei (Nat.eq_of_beq_eq_true c1) (blt_lt c2) (blt_lt c3) h1 h2 hsl (fun b hb => hn b (List.mem_append_left _ hb)) c4 (.inl ⟨.inl rfl, rfl, rfl, rfl, rfl⟩) (fun b hb => hn b (List.mem_append_right _ hb))
                · cases ho
                  exact y_append H ht dst type pos after guard hT x y k1 k2 hei (Nat.eq_of_beq_eq_true c1) (blt_lt c2) (blt_lt c3) h1 h2 hsl (fun b hb => hn b (List.mem_append_left _ hb)) c4 (.inl ⟨.inr rfl, rfl, rfl, rfl, rfl⟩) (fun b hb => hn b (List.mem_append_right _ hb))
                · split at ho
                  · rename_i hA
                    split at ho
                    · rename_i hcc
                      simp only [Bool.and_eq_true] at hcc
                      cases ho
                      refine y_append H ht dst type pos after guard hT x y k1 k2 hei (Nat.eq_of_beq_eq_true c1) (blt_lt c2) (blt_lt c3) h1 h2 hsl (fun b hb => hn b (List.mem_append_left _ hb)) c4 (.inr ⟨_, _, _, rfl, hA, SK.same_eq hcc.1.1, Nat.eq_of_beq_eq_true hcc.1.2, fun c n' e0 e1 => ?_, rfl, rfl, rfl, rfl, fun hq => hq⟩) (fun b hb => hn b (List.mem_append_right _ hb))
                      subst e0; subst e1
                      have := hcc.2
                      simp [notAr] at this
                    · cases ho
                  · cases ho
                · cases ho
              · cases ho
            · cases ho
          · cases ho
        · cases ho
      · cases ho
    · cases ho
  · cases ho

theorem aop_val {o : Oper} {sr sa : Nat} {ns : List X} {r : SR} {h' : Hp} {qu : Bool} (ho : aop T tm h sr sa o.op = .val ns r h' qu) (hn : ∀ b ∈ ns, (b.den E).bool = true) :
    (h' = h ∧ YieldP P E p g a o r) ∨ (h' = h ∧ pureOp o = false ∧ YieldR P E p g h a w o r) ∨ (reads o = false ∧ Yield P B E p g h a w o r h' qu) := by
  obtain ⟨dst, op, type, pos, after, guard⟩ := o
  dsimp only at ho
  cases op with
  | move x =>
    simp only [aop] at ho
    split at ho
    · rename_i h1; cases ho; exact .inl ⟨rfl, y_move ht _ _ _ _ _ x h1⟩
    · cases ho
  | assign x =>
    simp only [aop] at ho
    split at ho
    · rename_i h1; cases ho; exact .inl ⟨rfl, y_assign ht _ _ _ _ _ x h1⟩
    · cases ho
  | pick c x y =>
    simp only [aop] at ho
    split at ho
    · rename_i h1 h2 h3; cases ho; exact .inl ⟨rfl, y_pick ht _ _ _ _ _ c x y h1 h2 h3⟩
    · cases ho
    · cases ho
  | alloc t =>
    simp only [aop] at ho
    split at ho
    · rename_i h1
      split at ho
      · rename_i hf
        cases ho; exact .inr (.inr ⟨rfl, y_alloc H _ _ _ _ _ hT t h1 hf⟩)
      · cases ho
    · cases ho
  | box t x =>
    simp only [aop] at ho
    split at ho
    · rename_i h1 h2
      split at ho
      · rename_i h3
        simp only [Bool.and_eq_true] at h3
        cases ho
        exact .inr (.inr ⟨rfl, y_box H ht _ _ _ _ _ t x h2 h3.1 h3.2⟩)
      · cases ho
    · cases ho
  | load t x =>
    simp only [aop] at ho
    split at ho
    · rename_i h1; obtain ⟨e1, e2⟩ := y_load H ht _ _ _ _ _ hT t x h1 ho hn; exact .inr (.inl ⟨e1, rfl, e2⟩)
    · cases ho
  | nilCheck x =>
    simp only [aop] at ho
    split at ho
    · rename_i h1; cases ho; exact .inl ⟨rfl, y_nilReg ht _ _ _ _ _ x h1⟩
    · rename_i h1
      split at ho
      · cases ho; exact .inl ⟨rfl, y_nilEp ht _ _ _ _ _ x h1⟩
      · cases ho
    · rename_i h1; cases ho; exact .inl ⟨rfl, y_nilFp ht _ _ _ _ _ x h1⟩
    · rename_i h1; cases ho; exact .inl ⟨rfl, y_nilFn ht _ _ _ _ _ x h1⟩
    · cases ho
  | fieldAddr t x f =>
    simp only [aop] at ho
    split at ho
    · rename_i hk h1
      split at ho
      · rename_i hfs
        split at ho
        · rename_i hu
          split at ho
          · rename_i hz
            split at ho
            · cases ho; exact .inl ⟨rfl, y_fieldReg ht _ _ _ _ _ hT t f x hk rfl hfs hu (blt_lt hz) h1⟩
            · split at ho
              · cases ho; exact .inl ⟨rfl, y_fieldEp ht _ _ _ _ _ hT t f x hk rfl hfs hu (blt_lt hz) h1⟩
              · cases ho
            · split at ho
              · cases ho; exact .inl ⟨rfl, y_fieldFp ht _ _ _ _ _ hT t f x hk rfl hfs hu (blt_lt hz) h1⟩
              · cases ho
            · cases ho
          · cases ho
        · cases ho
      · cases ho
    · cases ho
  | indexAddr t x i =>
    simp only [aop] at ho
    split at ho
    · rename_i hk h1 h2
      split at ho
      · rename_i he
        split at ho
        · split at ho
          · rename_i hA
            split at ho
            · cases ho; exact .inl ⟨rfl, y_indexSl H ht _ _ _ _ _ hT t x i hk rfl he h1 h2 hA hn⟩
            · cases ho
          · cases ho
        · split at ho
          · rename_i hz
            simp only [Bool.and_eq_true] at hz
            cases ho; exact .inl ⟨rfl, y_indexFz ht _ _ _ _ _ hT t x i hk rfl he h1 h2 (Nat.eq_of_beq_eq_true hz.1) hn⟩
          · cases ho
        · cases ho
      · cases ho
    · rename_i hk h1 h2
      split at ho
      · rename_i he hj
        split at ho
        · rename_i hjn; cases ho; exact .inl ⟨rfl, y_indexVar ht _ _ _ _ _ hT t x i hk rfl he h1 h2 hj (blt_lt hjn)⟩
        · cases ho
      · cases ho
    · cases ho
  | index t x i =>
    simp only [aop] at ho
    split at ho
    · rename_i hk h1 h2
      split at ho
      · rename_i he hj
        split at ho
        · rename_i hb
          simp only [Bool.and_eq_true] at hb
          split at ho
          · rename_i hm
            split at ho
            · rename_i hr; cases ho; exact .inl ⟨rfl, y_index ht _ _ _ _ _ hT t x i hk rfl he h1 h2 hj (blt_lt hb.1) hm hr⟩
            · cases ho
          · cases ho
        · cases ho
      · cases ho
    · cases ho
  | field t x f =>
    simp only [aop] at ho
    split at ho
    · rename_i hk h1
      split at ho
      · rename_i hfs
        split at ho
        · rename_i hu
          split at ho
          · rename_i hm
            split at ho
            · rename_i hr; cases ho; exact .inl ⟨rfl, y_field ht _ _ _ _ _ hT t f x hk rfl hfs hu h1 hm hr⟩
            · cases ho
          · cases ho
        · cases ho
      · cases ho
    · cases ho
  | extract x i =>
    simp only [aop] at ho
    split at ho
    · rename_i h1
      split at ho
      · rename_i h2; cases ho; exact .inl ⟨rfl, y_extract ht _ _ _ _ _ x i h1 h2⟩
      · cases ho
    · cases ho
  | binOp op t x y yt =>
    simp only [aop] at ho
    split at ho
    · rename_i h1 h2; exact .inl (y_bin ht _ _ _ _ _ hT op t x y yt h1 h2 ho hn)
    · cases ho
  | unOp op t x =>
    cases op with
    | not =>
      simp only [aop] at ho
      split at ho
      · rename_i h1; cases ho; exact .inl ⟨rfl, y_not ht _ _ _ _ _ t x h1⟩
      · cases ho
    | neg =>
      simp only [aop] at ho
      split at ho
      · rename_i h1
        split at ho
        · rename_i hq; cases ho; exact .inl ⟨rfl, y_neg ht _ _ _ _ _ t x h1 hq hn⟩
        · cases ho
      · cases ho
    | _ => simp only [aop] at ho; cases ho
  | build t parts =>
    simp only [aop] at ho
    split at ho
    · rename_i h1 h2
      split at ho
      · cases ho
      · rename_i hb
        split at ho
        · rename_i h3
          split at ho
          · cases ho
            simp only [Bool.or_eq_true, Bool.not_eq_true', not_or, Bool.not_eq_false] at hb
            exact .inl ⟨rfl, y_build ht _ _ _ _ _ hT t parts h1 h2 hb.2 hb.1 h3⟩
          · cases ho
        · cases ho
    · cases ho
  | buildSlice t n parts =>
    simp only [aop] at ho
    split at ho
    · rename_i hk h2
      split at ho
      · rename_i he
        split at ho
        · rename_i h3 hkd
          split at ho
          · rename_i hb
            simp only [Bool.and_eq_true] at hb
            obtain ⟨⟨b1, b2, b3⟩, b4, b5, b6⟩ := hb
            split at ho
            · cases ho
            · split at ho
              · rename_i hx
                cases ho
                exact .inr (.inr ⟨rfl, y_buildSlice H ht _ _ _ _ _ hT t n parts hk rfl he h2 b4 h3 (blt_lt b1.1) (Nat.le_of_ble_eq_true b2) (Nat.eq_of_beq_eq_true b3) (Nat.le_of_ble_eq_true b5) (blt_lt b1.2) hx b6⟩)
              · cases ho
          · cases ho
        · cases ho
      · cases ho
    · cases ho
  | makeFunc f first caps =>
    cases f with
    | func f =>
      simp only [aop] at ho
      split at ho
      · rename_i h1 h2
        split at ho
        · rename_i h3
          cases ho
          have : first = #[] := by
            apply Array.ext'
            simpa using h1
          subst this
          exact .inl ⟨rfl, y_makeFunc ht _ _ _ _ _ f caps h2 h3⟩
        · cases ho
      · cases ho
    | _ => simp only [aop] at ho; cases ho
  | makeSlice t n c =>
    simp only [aop] at ho
    split at ho
    · rename_i hk h1 h2
      split at ho
      · rename_i he
        split at ho
        · rename_i hkd hzd
          split at ho
          · rename_i hb
            simp only [Bool.and_eq_true] at hb
            obtain ⟨⟨b1, b2⟩, b3, b4, b5⟩ := hb
            cases ho
            have hzd' := hzd
            unfold zeroData at hzd'
            rw [hkd] at hzd'
            dsimp only at hzd'
            exact .inr (.inr ⟨rfl, y_makeSlice H ht _ _ _ _ _ hT t n c hk rfl he h1 h2 b1 (blt_lt b2) hzd' (Nat.eq_of_beq_eq_true b3) (blt_lt b4) hn b5⟩)
          · cases ho
        · cases ho
      · cases ho
    · cases ho
  | slice t x lo hi mx =>
    simp only [aop] at ho
    have bnd : ∀ {lo : Option Operand} {lx : X}, (match lo with | none => some (SR.v (.one (.int .i64 (.int 0)))) | some l => ev tm l) = some (.v (.one (.int .i64 lx))) → BndIs E a lo lx ∧ (lo = none → lx = .int 0) := fun {lo lx} hl => by
      cases lo with
      | none => cases hl; exact ⟨⟨0, rfl, .inl ⟨rfl, rfl⟩⟩, fun _ => rfl⟩
      | some l =>
        obtain ⟨k, k1, k2⟩ := (ev_is ht hl : ∃ k, lx.den E = .i k ∧ a.eval l = .int .i64 k)
        exact ⟨⟨k, k1, .inr ⟨l, rfl, k2⟩⟩, fun h => (by cases h)⟩
    have opt : ∀ {o : Option Operand} {v : SR}, (match o with | none => some none | some l => (ev tm l).map some) = some (some v) → ∃ y, o = some y ∧ ev tm y = some v := fun {o v} hl => by
      cases o with
      | none => cases hl
      | some l =>
        cases he : ev tm l with
        | none => simp only [he] at hl; cases hl
        | some u => simp only [he] at hl; cases hl; exact ⟨l, rfl, he⟩
    have optn : ∀ {o : Option Operand}, (match o with | none => some none | some l => (ev tm l).map some) = some (none : Option SR) → o = none := fun {o} hl => by
      cases o with
      | none => rfl
      | some l => cases he : ev tm l <;> simp only [he] at hl <;> cases hl
    split at ho
    · rename_i e x' lx hi' mx' hk h1 h2 h3 h4
      obtain ⟨hlo, hl0⟩ := bnd h2
      split at ho
      · rename_i he
        obtain ⟨z, rfl, hz⟩ := opt h4
        obtain ⟨y, rfl, hy⟩ := opt h3
        left
        split at ho <;> cases ho
        · exact ⟨rfl, y_sliceThree ht _ _ _ _ _ hT t x y z lo hk rfl he h1 (.inl ⟨_, _, rfl⟩) hlo hy hz⟩
        · exact ⟨rfl, y_sliceThree ht _ _ _ _ _ hT t x y z lo hk rfl he h1 (.inr (.inl ⟨_, _, rfl⟩)) hlo hy hz⟩
        · exact ⟨rfl, y_sliceThree ht _ _ _ _ _ hT t x y z lo hk rfl he h1 (.inr (.inr (.inl rfl))) hlo hy hz⟩
        · exact ⟨rfl, y_sliceThree ht _ _ _ _ _ hT t x y z lo hk rfl he h1 (.inr (.inr (.inr rfl))) hlo hy hz⟩
      · rename_i he
        have := optn h4
        subst this
        left
        split at ho
        · split at ho
          · rename_i m
            obtain ⟨y, rfl, hy⟩ := opt h3
            cases ho
            exact ⟨rfl, y_sliceSl ht _ _ _ _ _ hT t x lo _ hk rfl he h1 hlo rfl (.inr ⟨y, rfl, hy, hn _ (by simp), hn _ (by simp)⟩)⟩
          · have := optn h3
            subst this
            cases ho
            exact ⟨rfl, y_sliceSl ht _ _ _ _ _ hT t x lo _ hk rfl he h1 hlo rfl (.inl ⟨rfl, rfl⟩)⟩
          · cases ho
        · split at ho
          · cases ho
          · rename_i hz
            simp only [Bool.not_eq_true', Bool.not_eq_false] at hz
            have hz := Nat.eq_of_beq_eq_true hz
            split at ho
            · rename_i m
              obtain ⟨y, rfl, hy⟩ := opt h3
              cases ho
              exact ⟨rfl, y_sliceFz ht _ _ _ _ _ hT t x lo _ hk rfl he h1 hlo hz (hn _ (by simp)) (.inr ⟨y, rfl, rfl, hy, hn _ (by simp), hn _ (by simp)⟩)⟩
            · have := optn h3
              subst this
              cases ho
              exact ⟨rfl, y_sliceFz (m := .int 0) ht _ _ _ _ _ hT t x lo _ hk rfl he h1 hlo hz (hn _ (by simp)) (.inl ⟨rfl, rfl, hn _ (by simp)⟩)⟩
            · cases ho
        · cases ho
      · cases ho
    · cases ho
  | call c =>
    obtain ⟨callee, args, ats⟩ := c
    cases callee with
    | value f =>
      simp only [aop] at ho
      split at ho
      · split at ho <;> cases ho
      · rename_i h1 _; cases h1
      · cases ho
    | invoke r m => simp only [aop] at ho; cases ho
    | builtin b =>
      simp only [aop] at ho
      split at ho
      · rename_i h1 _; cases h1
      · rename_i b' as h1 h2
        cases h1
        rcases aop_builtin H ht hT _ _ _ _ _ h2 ho hn with h | h
        · exact .inl h
        · exact .inr (.inr h)
      · cases ho
  | store t x v =>
    simp only [aop] at ho
    split at ho
    · unfold storeAt at ho
      repeat (split at ho <;> try (cases ho; done))
    · cases ho
  | makeMap t r =>
    cases r with
    | some r => simp only [aop] at ho; cases ho
    | none =>
      simp only [aop] at ho
      split at ho
      · split at ho
        · split at ho
          · split at ho
            · cases ho
              exact .inr (.inr ⟨rfl, y_makeMap H _ _ _ _ _ t _ rfl⟩)
            · cases ho
          · cases ho
        · cases ho
      · cases ho
  | lookup t m x c =>
    cases c with
    | true => simp only [aop] at ho; cases ho
    | false =>
      simp only [aop] at ho
      split at ho
      · rename_i hti hm hx
        split at ho
        · rename_i hM hki hvi
          split at ho
          · rename_i hc
            simp only [Bool.and_eq_true] at hc
            split at ho
            · rename_i hks hz
              cases ho
              exact .inr (.inr ⟨rfl, y_lookup H ht _ _ _ _ _ hT t m x hti rfl hm hx hM hki hvi hc.1 hc.2 hks hz⟩)
            · cases ho
          · cases ho
        · cases ho
      · cases ho
  | mapUpdate t m x v =>
    simp only [aop] at ho
    repeat (split at ho <;> try (cases ho; done))
    all_goals cases ho
  | insert t m x v =>
    simp only [aop] at ho
    repeat (split at ho <;> try (cases ho; done))
    all_goals cases ho
  | _ => simp only [aop] at ho; cases ho

/-- A store. -/
theorem aop_skip {o : Oper} {sr sa : Nat} {ns : List X} {h' : Hp} (ho : aop T tm h sr sa o.op = .skip ns h') (hn : ∀ b ∈ ns, (b.den E).bool = true) :
    ∃ w', (execOp a.eval o).run P w = .ok .skip w' ∧ RepH B E p g h' w' ∧ w.heap.size ≤ w'.heap.size := by
  obtain ⟨dst, op, type, pos, after, guard⟩ := o
  dsimp only at ho
  have key : ∀ t x v ra rx, ev tm x = some ra → ev tm v = some rx → storeAt T h t ra rx = .skip ns h' → ∃ w', (Instr.storeAt t (a.eval x) (a.eval v)).run P w = .ok () w' ∧ RepH B E p g h' w' ∧ w.heap.size ≤ w'.heap.size := by
    intro t x v ra rx h1 h2 ho
    have ha := ev_is ht h1
    have hx := ev_is ht h2
    generalize a.eval x = va at ha ⊢
    generalize a.eval v = vx at hx ⊢
    unfold storeAt at ho
    split at ho
    · cases ho
    · rename_i xx
      split at ho
      · cases ho
      · rename_i ti hti
        split at ho
        · rename_i hlc
          simp only [Bool.and_eq_true] at hlc
          obtain ⟨hl, hfull⟩ := hlc
          have hl := Nat.eq_of_beq_eq_true hl
          have hone : ∀ c u, c ∈ xx.cells → SC.is E p g c u → u.oneCell' = true := fun c u hc hu => by
            have hf := allB_mem hfull c hc
            exact SC.one hu (by rintro rfl; cases hf) (by rintro rfl; cases hf)
          have hcells : All2 (SC.is E p g) xx.cells vx.cells.toList := cells_is hx fun c e => by
            subst e
            exact .inl (hone c vx (by simp [SV.cells]) hx)
          have hcl := hcells.length
          have hsz : vx.cells.size = ti.sz := by rw [← hl, hcl, Array.length_toList]
          have hones : ∀ y ∈ vx.cells.toList, y.oneCell' = true := fun y hy => by
            obtain ⟨j, hj⟩ := List.getElem?_of_mem hy
            obtain ⟨c, hc⟩ := nth_some (l := xx.cells) (i := j) (by rw [hcl]; exact (List.getElem?_eq_some_iff.1 hj).1)
            obtain ⟨u, hu, hcu⟩ := hcells.nth hc
            rw [nth_eq, hj] at hu
            cases hu
            exact hone c y (nth_mem hc) hcu
          have run : ∀ b o (w : World), (∀ j, j < vx.cells.toList.length → (w.cell? ⟨b, o + j, none⟩).isSome = true) → (∀ j, j < vx.cells.toList.length → w.frozen? ⟨b, o + j, none⟩ = false) → (Instr.storeAt t (.pointer (some ⟨b, o, none⟩)) vx).run P w = .ok () (w.setCells b o vx.cells.toList) := fun b o w hc hf => by
            have hs := run_storeCells_cells (P := P) b o vx.cells.toList 0 w (by simpa using hc) (by simpa using hf) hones
            simp only [Nat.add_zero] at hs
            simp [Instr.storeAt, Instr.sureAddr, storeVar, run_sizeOf hT hti, hsz, hs]
          split at ho
          · rename_i r o
            split at ho
            · rename_i cs hcs
              split at ho
              · rename_i hle
                have hle := Nat.le_of_ble_eq_true hle
                cases ho
                obtain ⟨b, q, hp, e⟩ := (ha : ∃ b q, p.reg r = some (b, q) ∧ va = .pointer (some ⟨b, q + o, none⟩))
                subst e
                have hc : ∀ j, j < vx.cells.toList.length → ∃ c, nth cs (o + j) = some c := fun j hj => nth_some (by omega)
                refine ⟨_, run b (q + o) w (fun j hj => ?_) (fun j hj => ?_), H.storeReg hcs (by omega) hcells hp, (setCells_turn b _ _ w).size⟩
                · obtain ⟨c, hc⟩ := hc j hj
                  obtain ⟨u, _, k2, _⟩ := H.reg_cell hcs hc hp
                  rw [Nat.add_assoc, k2 w (CellsSame.refl _ _ _ _)]; rfl
                · obtain ⟨c, hc⟩ := hc j hj
                  obtain ⟨u, _, _, _, k4, _⟩ := H.reg_cell hcs hc hp
                  rw [Nat.add_assoc]; exact k4
              · cases ho
            · cases ho
          · rename_i b z i o
            split at ho
            · rename_i A hA
              split at ho
              · rename_i hz
                simp only [Bool.and_eq_true] at hz
                have hz1 := Nat.eq_of_beq_eq_true hz.1
                have hz2 := Nat.le_of_ble_eq_true hz.2
                subst hz1
                split at ho
                · cases ho
                · split at ho
                  · rename_i ds hds
                    cases ho
                    obtain ⟨bb, c, n, k1, k2, e⟩ := (ha : ∃ bb c n : Nat, p.arr b = some (some ⟨bb, 0, none⟩, c) ∧ i.den E = .i n ∧ va = .pointer (some ⟨bb, n * A.K.kd.length + o, none⟩))
                    subst e
                    obtain ⟨h0, h3⟩ := inRange_den (mkLen_den A.x) hn
                    rw [k2] at h3
                    simp only [CD.int_i, Int.toNat_natCast] at h3
                    obtain ⟨d1, d2, _⟩ := scDatas_rd hds hcells
                    have hdl : ds.length = ti.sz := by rw [d1, List.length_take, List.length_drop]; omega
                    obtain ⟨b', c', g1, g2, g3, g4⟩ := H.storeArr (o := o) (kd := (A.K.kd.drop o).take ti.sz) hA k2 h3 (by rw [hdl]) hds (by omega) hcells
                    rw [k1] at g1
                    cases g1
                    exact ⟨_, run bb (n * A.K.kd.length + o) w g2 g3, g4, (setCells_turn bb _ _ w).size⟩
                  · cases ho
              · cases ho
            · cases ho
          · cases ho
        · cases ho
  cases op with
  | store t x v =>
    simp only [aop] at ho
    split at ho
    · rename_i h1 h2
      obtain ⟨w', e, k1, k2⟩ := key t x v _ _ h1 h2 ho
      exact ⟨w', by simp [execOp, e], k1, k2⟩
    · cases ho
  | mapUpdate t m x v =>
    simp only [aop] at ho
    split at ho
    · rename_i hti hm hx hv
      split at ho
      · rename_i hM hki hvi
        split at ho
        · rename_i hc
          simp only [Bool.and_eq_true] at hc
          split at ho
          · rename_i hks hd
            cases ho
            obtain ⟨w', g1, g2⟩ := y_mapUpdate H ht _ _ _ _ _ hT t m x v hti rfl hm hx hv hM hki hc.1 hc.2 hks hd
            exact ⟨w', g1 _ (.inl rfl), g2⟩
          · cases ho
        · cases ho
      · cases ho
    · cases ho
  | insert t m x v =>
    simp only [aop] at ho
    split at ho
    · rename_i hti hm hx hv
      split at ho
      · rename_i hM hki hvi
        split at ho
        · rename_i hc
          simp only [Bool.and_eq_true] at hc
          split at ho
          · rename_i hks hd
            cases ho
            obtain ⟨w', g1, g2⟩ := y_mapUpdate H ht _ _ _ _ _ hT t m x v hti rfl hm hx hv hM hki hc.1 hc.2 hks hd
            exact ⟨w', g1 _ (.inr rfl), g2⟩
          · cases ho
        · cases ho
      · cases ho
    · cases ho
  | load t x =>
    simp only [aop] at ho
    split at ho
    · unfold loadAt at ho
      repeat (split at ho <;> try (cases ho; done))
    · cases ho
  | binOp op t x y yt =>
    simp only [aop] at ho
    split at ho
    · unfold binOut at ho
      repeat (split at ho <;> try (cases ho; done))
    · cases ho
  | call c =>
    simp only [aop] at ho
    repeat (split at ho <;> try (cases ho; done))
    unfold builtinOut at ho
    repeat (first | (split at ho <;> try (cases ho; done)) | dsimp only at ho)
  | makeMap t r =>
    cases r <;> simp only [aop] at ho <;> repeat (split at ho <;> try (cases ho; done))
    all_goals cases ho
  | lookup t m x c =>
    cases c <;> simp only [aop] at ho <;> repeat (split at ho <;> try (cases ho; done))
    all_goals cases ho
  | unOp op t x =>
    cases op <;> simp only [aop] at ho <;> repeat (split at ho <;> try (cases ho; done))
    all_goals cases ho
  | makeFunc f first caps =>
    cases f <;> simp only [aop] at ho <;> repeat (split at ho <;> try (cases ho; done))
    all_goals cases ho
  | _ =>
    simp only [aop] at ho
    first
      | (cases ho; done)
      | (repeat (split at ho <;> try (cases ho; done)))
end
end Go.Sy

/- What a tree says, of data alone; contracts; the small steps of the walk, sound. -/
namespace Go.Sy
open Go.RowKit

/-! ### Data of a kind -/
mutual
def CD.ok : Kd → CD → Prop
  | .int _, d => ∃ n, d = .i n
  | .bool, d => ∃ b, d = .b b
  | .str, d => ∃ s, d = .s s
  | .sl by_ kd, d => ∃ rows, d = .l rows ∧ rows.length * by_ ≤ B47 ∧ ∀ row, row ∈ rows → CD.oks kd row
def CD.oks : List Kd → List CD → Prop
  | [], [] => True
  | k :: ks, d :: ds => CD.ok k d ∧ CD.oks ks ds
  | _, _ => False
end
mutual
theorem Rd.ok {g : Gm} : ∀ (k : Kd) (v : Value) (d : CD), Rd g k v d → CD.ok k d
  | .int _, _, _, h => by simp only [Rd] at h; obtain ⟨n, _, e⟩ := h; exact ⟨n, e⟩
  | .bool, _, _, h => by simp only [Rd] at h; obtain ⟨n, _, e⟩ := h; exact ⟨n, e⟩
  | .str, _, _, h => by simp only [Rd] at h; obtain ⟨n, _, e⟩ := h; exact ⟨_, e⟩
  | .sl by_ kd, v, d, h => by
    simp only [Rd] at h
    obtain ⟨A, n, c, rows, _, e1, e2, _, _, e5, e6⟩ := h
    simp only [CD.ok]
    refine ⟨rows, e1, by rw [e2]; exact e5, fun row hr => ?_⟩
    obtain ⟨i, hi⟩ := List.getElem?_of_mem hr
    obtain ⟨b, q, _, e8⟩ := e6 (by have := (List.getElem?_eq_some_iff.1 hi).1; omega)
    exact RdRow.oks kd _ row (e8 i row hi)
theorem RdRow.oks {g : Gm} : ∀ (kd : List Kd) (f : Nat → Option Value) (row : List CD), RdRow g kd f row → CD.oks kd row
  | [], _, [], _ => trivial
  | k :: ks, _, d :: ds, ⟨⟨v, _, hr⟩, hrest⟩ => ⟨Rd.ok k v d hr, RdRow.oks ks _ ds hrest⟩
  | [], _, _ :: _, hr => hr.elim
  | _ :: _, _, [], hr => hr.elim
end
theorem CD.oks_append : ∀ {k k' : List Kd} {d d' : List CD}, CD.oks k d → CD.oks k' d' → CD.oks (k ++ k') (d ++ d')
  | [], _, [], _, _, h => h
  | _ :: _, _, _ :: _, _, h, h' => ⟨h.1, CD.oks_append h.2 h'⟩
  | [], _, _ :: _, _, h, _ => h.elim
  | _ :: _, _, [], _, h, _ => h.elim
theorem CD.oks_length : ∀ {k : List Kd} {d : List CD}, CD.oks k d → d.length = k.length
  | [], [], _ => rfl
  | _ :: _, _ :: _, h => by simp [CD.oks_length h.2]
  | [], _ :: _, h => h.elim
  | _ :: _, [], h => h.elim

/-! ### Contracts -/
structure Ct where
  sig : Sig
  pre : List CD → Prop
  post : List CD → List CD → Prop
abbrev Gam := Nat → Option Ct
def Known (P : Program) (f : FuncId) : Prop := ∃ fn c, P.funcs[f]? = some fn ∧ fn.body = some c ∧ (fn.name == "runtime.NumGoroutine") = false
/-- The cells that are handed over. -/
def Mof (h : Hp) (p : Pl) (k i : Nat) : Prop :=
  (∃ r cs b q, nth h.regs r = some (.at cs) ∧ p.reg r = some (b, q) ∧ k = b ∧ q ≤ i ∧ i < q + cs.length) ∨ (∃ a A b c, nth h.arrs a = some (.at A) ∧ p.arr a = some (some ⟨b, 0, none⟩, c) ∧ 0 < c ∧ k = b)
def letters (E : Env) (n : Nat) : List CD := (List.range n).map E
/-- A function keeps its contract. -/
def CtOk (P : Program) (f : FuncId) (ct : Ct) : Prop := Known P f ∧ ∀ (w : World) (g : Gm) (p : Pl) (E : Env) (vals : List Value), RepH ⟨w, Mof ct.sig.h0 p, g, p.reg⟩ E p g ct.sig.h0 w → All2 (SR.is E p g) ct.sig.args0 vals → CD.oks ct.sig.inKinds (letters E ct.sig.ins.length) →
    ct.pre (letters E ct.sig.ins.length) → Calls P f vals.toArray w fun e w' => ∃ (outs : List CD) (p1 : Pl) (g1 : Gm) (v : Value), e = .returned v ∧ CD.oks ct.sig.outKinds outs ∧ ct.post (letters E ct.sig.ins.length) outs ∧ (∀ i x, p.reg i = some x → p1.reg i = some x) ∧
      RepH ⟨w, Mof ct.sig.h0 p, g, p.reg⟩ (E.put ct.sig.ins.length outs) p1 g1 ct.sig.h1 w' ∧ ct.sig.res1.is (E.put ct.sig.ins.length outs) p1 g1 v

abbrev JJ := Nat → List CD → Prop
def JJ.put (J : JJ) (id : Nat) (X : List CD → Prop) : JJ := fun k => if k = id then X else J k
/-- What is asked where a walk comes to this tree. -/
def Tree.den (Γ : Gam) (R : List CD → Prop) : Tree → Env → JJ → Prop
  | .ret outs, E, _ => R (outs.map (X.den E))
  | .ite b t e, E, J => ((b.den E).bool = true → t.den Γ R E J) ∧ ((b.den E).bool = false → e.den Γ R E J)
  | .need b t, E, J => (b.den E).bool = true ∧ t.den Γ R E J
  | .call f args lo t, E, J => ∃ ct, Γ f = some ct ∧ ct.pre (args.map (X.den E)) ∧ ∀ outs, CD.oks ct.sig.outKinds outs → ct.post (args.map (X.den E)) outs → t.den Γ R (E.put lo outs) J
  | .loop id ks init body, E, J => ∃ (I : List CD → Prop) (m : List CD → Nat), I (init.map (X.den E)) ∧ ∀ ds, CD.oks ks ds → I ds → body.den Γ R (E.put (id + 1) ds) (J.put id fun ds' => I ds' ∧ m ds' < m ds)
  | .back id cur, E, J => J id (cur.map (X.den E))
  | .both x y, E, J => x.den Γ R E J ∧ y.den Γ R E J
  | .bad _ _, _, _ => False

section
variable {P : Program} {Z : Cx} {Γ : Gam} {B : Base} {Q : List CD → Prop} {E F : Env} {J : JJ} {p q : Pl} {g g' : Gm} {s : St} {a : Act} {as : List Act} {w w' : World}

theorem needs_den {t : Tree} : ∀ {ns known : List X}, (∀ b ∈ known, (b.den E).bool = true) → (needs known ns t).den Γ Q E J → (∀ b ∈ ns, (b.den E).bool = true) ∧ t.den Γ Q E J
  | [], _, _, h => ⟨fun _ hb => (by cases hb), h⟩
  | b :: l, known, hk, h => by
    simp only [needs] at h
    split at h
    · rename_i hd
      obtain ⟨h1, h2⟩ := needs_den hk h
      exact ⟨fun c hc => by
        rcases List.mem_cons.1 hc with e | hc
        · subst e; exact dec_den hk hd
        · exact h1 c hc, h2⟩
    · exact h.elim
    · obtain ⟨h0, h⟩ := h
      obtain ⟨h1, h2⟩ := needs_den (known := b :: known) (fun c hc => by
        rcases List.mem_cons.1 hc with e | hc
        · subst e; exact h0
        · exact hk c hc) h
      exact ⟨fun c hc => by
        rcases List.mem_cons.1 hc with e | hc
        · subst e; exact h0
        · exact h1 c hc, h2⟩
theorem knows_den : ∀ {ns known : List X}, (∀ b ∈ known, (b.den E).bool = true) → (∀ b ∈ ns, (b.den E).bool = true) → ∀ b ∈ knows known ns, (b.den E).bool = true
  | [], _, hk, _ => hk
  | b :: l, known, hk, hn => by
    simp only [knows]
    split
    · exact knows_den hk fun c hc => hn c (by simp [hc])
    · exact knows_den (fun c hc => by
        rcases List.mem_cons.1 hc with e | hc
        · subst e; exact hn c (by simp)
        · exact hk c hc) fun c hc => hn c (by simp [hc])

/-- A temporary written. -/
theorem FrameOk.put {tm : List SR} (R : FrameOk E p g tm a) {d : Option Tmp} {r : SR} {v : Value} (hr : r.is E p g v) : FrameOk E p g (putT tm d r) (a.put d v) := by
  cases d with
  | none => exact R
  | some d =>
    refine ⟨R.defers, by simp only [Act.put, putT, Array.size_setIfInBounds, length_setNth]; exact R.size, fun i c hc => ?_⟩
    simp only [putT, nth_setNth] at hc
    have hsz := R.size
    split at hc
    · rename_i e
      subst e
      split at hc
      · rename_i hl
        cases hc
        have hd : d < a.tmps.size := by rw [hsz]; exact hl
        have : (a.put (some d) v).tmps.getD d Go.undef = v := by simp [Act.put, Array.getD, hd]
        rw [this]; exact hr
      · cases hc
    · rename_i hne
      have : (a.put (some d) v).tmps.getD i Go.undef = a.tmps.getD i Go.undef := by simp [Act.put, Array.getD_eq_getD_getElem?, Array.getElem?_setIfInBounds_ne hne]
      rw [this]; exact R.tmp i c hc
theorem Rep.step (R : Rep B E p g s a as w) (hp : p.Le q) (hg : g.Le g') {h' : Hp} {known' : List X} {d : Option Tmp} {r : SR} {v : Value} (H : RepH B E q g' h' w') (hr : r.is E q g' v) (hk : ∀ b ∈ known', (b.den E).bool = true) :
    Rep B E q g' { s with tmps := putT s.tmps d r, h := h', known := known' } (a.put d v) as w' :=
  ⟨H, (R.frame.le hp hg).put hr, R.stk.mono fun _ _ h => h.le hp hg, hk, fun i x h => hp.reg i x (R.keep i x h)⟩
theorem Rep.know (R : Rep B E p g s a as w) {b : X} (hb : (b.den E).bool = true) : Rep B E p g { s with known := X.says b ++ s.known } a as w :=
  ⟨R.mem, R.frame, R.stk, fun c hc => by
    rcases List.mem_append.1 hc with hc | hc
    · exact says_den hb c hc
    · exact R.known c hc, R.keep⟩
theorem split2_den {b : X} {k : St → Tree} (R : Rep B E p g s a as w) (h : (split2 b s k).den Γ Q E J) : ∃ s', s'.nx = s.nx ∧ s'.h = s.h ∧ (k s').den Γ Q E J ∧ Rep B E p g s' a as w := by
  cases hb : (b.den E).bool with
  | true => exact ⟨{ s with known := X.says b ++ s.known }, rfl, rfl, h.1 hb, R.know hb⟩
  | false => exact ⟨{ s with known := X.says (neg b) ++ s.known }, rfl, rfl, h.2 hb, R.know (by rw [neg_den, hb]; rfl)⟩
theorem nilT_den {n : X} {neg b : Bool} {d : Option Nat} {next : St → Tree} (R : Rep B E p g s a as w) (h0 : b = true → (n.den E).int = 0) (h : (nilT n neg s d next).den Γ Q E J) :
    ∃ s', s'.nx = s.nx ∧ s'.h = s.h ∧ (next s').den Γ Q E J ∧ Rep B E p g s' (a.put d (.bool (if neg then !b else b))) as w := by
  have hz : ((mkEq n (.int 0)).den E).bool = decide ((n.den E).int = 0) := by
    rw [mkEq_den]
    simp only [X.den, CD.bool, CD.int]
    rfl
  have go : ∀ {c : Bool} {e : X}, (e.den E).bool = true → (if neg then !b else b) = c → Rep B E p g { s with tmps := putT s.tmps d (.v (.one (.bool (.bool c)))), known := X.says e ++ s.known } (a.put d (.bool (if neg then !b else b))) as w := fun {c e} he hc =>
    R.step (Pl.Le.refl _) (Gm.Le.refl _) R.mem (⟨c, rfl, by rw [hc]⟩ : ∃ x, (X.bool c).den E = .b x ∧ _) (R.know he).known
  cases hb : ((mkEq n (.int 0)).den E).bool with
  | true =>
    obtain ⟨h1, h2⟩ := h.1 hb
    cases b with
    | true => exact ⟨_, (by rfl), (by rfl), h1, go hb (by cases neg <;> rfl)⟩
    | false => exact ⟨_, (by rfl), (by rfl), h2, go hb (by cases neg <;> rfl)⟩
  | false =>
    have : b = false := by
      cases b with
      | false => rfl
      | true => rw [hz, h0 rfl] at hb; simp at hb
    subst this
    exact ⟨_, (by rfl), (by rfl), h.2 hb, go (by rw [neg_den, hb]; rfl) (by cases neg <;> rfl)⟩
theorem written_rep {b : X} {c : Bool} (R : Rep B E p g s a as w) (h : (b.den E).bool = c) : Rep B E p g (written b c s) a as w := by
  refine ⟨R.mem, ⟨R.frame.defers, by simp only [written, List.length_map]; exact R.frame.size, fun i r hr => ?_⟩, R.stk, R.known, R.keep⟩
  simp only [written, nth_eq, List.getElem?_map, Option.map_eq_some_iff] at hr
  obtain ⟨r0, h0, h1⟩ := hr
  have h2 := R.frame.tmp i r0 (by rw [nth_eq]; exact h0)
  split at h1
  · split at h1
    · rename_i d hd
      subst h1
      have e := X.same_eq hd
      subst e
      obtain ⟨u, h3, h4⟩ := (h2 : ∃ u, d.den E = .b u ∧ _)
      refine ⟨c, rfl, ?_⟩
      rw [h4, ← h, h3]; rfl
    · subst h1; exact h2
  · subst h1; exact h2

/-! ### An array of one's own that is only read from here on -/
theorem frzC_is {A : Ar} {b : Nat} {kn : List X} (hkn : ∀ b ∈ kn, (b.den E).bool = true) {rows : List (List CD)} {ad : Option Addr} {cap : Nat} (e1 : p.arr b = some (ad, cap)) (e2 : A.x.den E = .l rows) (e4 : cap ≤ maxLen) (e5 : rows.length * A.K.by_ ≤ B47)
    (hrd : 0 < cap → ∃ bb, ad = some ⟨bb, 0, none⟩ ∧ ∀ i row, rows[i]? = some row → RdRow g' A.K.kd (fun j => g' bb (i * A.K.kd.length + j)) row) (hg : g.Le g') {q : Pl} (hp : p.Le q) {c : SC} {v : Value} (h : c.is E p g v) : (frzC kn b A c).is E q g' v := by
  cases c with
  | sl b' n =>
    simp only [frzC]
    split
    · rename_i hb
      have hb := Nat.eq_of_beq_eq_true hb
      subst hb
      split
      · rename_i hd
        obtain ⟨ad', c', m, c1, c2, c3, c4⟩ := h
        rw [e1] at c1
        cases c1
        have hle := dec_den hkn hd
        rw [mkLe_den, mkLen_den, e2, c2] at hle
        have hle := of_decide_eq_true hle
        simp only [CD.int_i, CD.rows_l] at hle
        have hle : m ≤ rows.length := by omega
        subst c4
        simp only [SC.is, Rd]
        refine ⟨ad, m, cap, rows.take m, rfl, by rw [mkTake_den e2, c2]; simp, by rw [List.length_take]; omega, c3, e4, Nat.le_trans (Nat.mul_le_mul_right _ hle) e5, fun hm => ?_⟩
        obtain ⟨bb, f1, f2⟩ := hrd (by omega)
        refine ⟨bb, 0, f1, fun i row hi => ?_⟩
        rw [List.getElem?_take] at hi
        split at hi
        · simp only [Nat.zero_add]; exact f2 i row hi
        · cases hi
      · trivial
    · exact SC.is_le hp hg h
  | ep b' z i o =>
    simp only [frzC]
    split
    · trivial
    · exact SC.is_le hp hg h
  | _ => exact SC.is_le hp hg h
theorem frzV_is {A : Ar} {b : Nat} {kn : List X} {q : Pl} (hc : ∀ c v, SC.is E p g c v → SC.is E q g' (frzC kn b A c) v) {x : SV} {v : Value} (h : x.is E p g v) : (frzV kn b A x).is E q g' v := by
  cases x with
  | one c => exact hc c v h
  | agg l =>
    obtain ⟨vs, e, hv⟩ := h
    refine ⟨vs, e, ?_⟩
    clear e
    induction l generalizing vs with
    | nil => cases vs <;> first | trivial | exact hv.elim
    | cons c l ih => cases vs with
      | nil => exact hv.elim
      | cons u vs => exact ⟨hc c u hv.1, ih vs hv.2⟩
theorem frzR_is {A : Ar} {b : Nat} {kn : List X} {q : Pl} (hc : ∀ c v, SC.is E p g c v → SC.is E q g' (frzC kn b A c) v) {x : SR} {v : Value} (h : x.is E p g v) : (frzR kn b A x).is E q g' v := by
  cases x with
  | v x => exact frzV_is hc h
  | tup l =>
    obtain ⟨vs, e, hv⟩ := h
    refine ⟨vs, e, ?_⟩
    clear e
    induction l generalizing vs with
    | nil => cases vs <;> first | trivial | exact hv.elim
    | cons c l ih => cases vs with
      | nil => exact hv.elim
      | cons u vs => exact ⟨frzV_is hc hv.1, ih vs hv.2⟩
theorem frz_frame {A : Ar} {b : Nat} {kn : List X} {q : Pl} (hc : ∀ c v, SC.is E p g c v → SC.is E q g' (frzC kn b A c) v) {t : List SR} {a : Act} (R : FrameOk E p g t a) : FrameOk E q g' (t.map (frzR kn b A)) a := by
  refine ⟨R.defers, by rw [List.length_map]; exact R.size, fun i c h => ?_⟩
  rw [nth_eq, List.getElem?_map, Option.map_eq_some_iff] at h
  obtain ⟨c0, h0, h1⟩ := h
  subst h1
  exact frzR_is hc (R.tmp i c0 (by rw [nth_eq]; exact h0))

theorem frz_sound {b : Nat} {s' : St} (R : Rep B E p g s a as w) (h : frzSt b s = some s') : ∃ q g', p.Le q ∧ g.Le g' ∧ Rep B E q g' s' a as w ∧ KnLe E p s.h q s'.h w.heap.size ∧ s'.nx = s.nx ∧ s'.fn = s.fn := by
  unfold frzSt at h
  split at h
  · rename_i A hA
    cases h
    obtain ⟨ad, cap, rows, e1, e2, e3, e4, e5, e6, e7, e8⟩ := (R.mem.arr b A hA).ex
    have hblk : ∃ (bb : Nat) (cur : Array Value), 0 < cap → ad = some ⟨bb, 0, none⟩ ∧ p.ow bb = .arr b ∧ w.heap[bb]? = some (.cells cur A.e (0, 0)) ∧ cur.size = cap * A.K.kd.length ∧ (∀ i, i < cur.size → B.wr bb i) ∧ ∀ i row, rows[i]? = some row → RdRow g A.K.kd (fun j => cur[i * A.K.kd.length + j]?) row := by
      by_cases h0 : 0 < cap
      · obtain ⟨bb, cur, k⟩ := e8 h0
        exact ⟨bb, cur, fun _ => k⟩
      · exact ⟨0, #[], fun h => absurd h h0⟩
    obtain ⟨bb, cur, hbl⟩ := hblk
    open Classical in
    let g' : Gm := fun k o => if 0 < cap ∧ k = bb then (if o < rows.length * A.K.kd.length then cur[o]? else none) else g k o
    open Classical in
    let q : Pl := { p with ow := fun k => if 0 < cap ∧ k = bb then .z else p.ow k }
    have hp : p.Le q := ⟨fun _ _ h => h, fun _ _ h => h, fun _ _ h => h⟩
    have hg : g.Le g' := fun k o v hk => by
      show (if 0 < cap ∧ k = bb then _ else _) = _
      rw [if_neg]
      · exact hk
      · rintro ⟨c1, rfl⟩
        have := (R.mem.gg k o v hk).2
        rw [(hbl c1).2.1] at this; cases this
    have how : ∀ k, ¬ (0 < cap ∧ k = bb) → q.ow k = p.ow k := fun k hk => if_neg hk
    have hc : ∀ c v, SC.is E p g c v → SC.is E q g' (frzC s.known b A c) v := fun c v h => frzC_is R.known e1 e2 e4 e5 (fun h0 => ⟨bb, (hbl h0).1, fun i row hi => by
      refine RdRow.of ((hbl h0).2.2.2.2.2 i row hi).length fun j k hk => ?_
      obtain ⟨v, hv, hr⟩ := ((hbl h0).2.2.2.2.2 i row hi).cell hk
      refine ⟨v, ?_, Rd.mono hg _ _ _ hr⟩
      show (if 0 < cap ∧ bb = bb then _ else _) = _
      rw [if_pos ⟨h0, rfl⟩, if_pos (flat_lt (List.getElem?_eq_some_iff.1 hk).1 (List.getElem?_eq_some_iff.1 hi).1)]
      exact hv⟩) hg hp h
    have T : Turn (fun _ _ => False) w w := Turn.refl _ _
    refine ⟨q, g', hp, hg, ⟨⟨R.mem.fr, R.mem.g0.trans hg, fun k o v hk => ?_, fun k o v hk => ?_, fun r cs hr => ?_, fun r hr => ?_, fun b' A' hb' => ?_, fun b' hb' => R.mem.afree b' (free_go hb'), R.mem.mm.turn T rfl fun a' b' e1 e2 e3 e4 => (how b' fun ⟨c1, c2⟩ => by rw [c2, (hbl c1).2.1] at e2; cases e2).trans e2⟩, frz_frame hc R.frame, ?_, R.known, R.keep⟩, fun k i hk hkn => ?_, rfl, rfl⟩
    · by_cases c1 : 0 < cap ∧ k = bb
      · have hk : cur[o]? = some v := by
          have hk : (if 0 < cap ∧ k = bb then (if o < rows.length * A.K.kd.length then cur[o]? else none) else g k o) = some v := hk
          rw [if_pos c1] at hk
          split at hk
          · exact hk
          · cases hk
        right
        rw [c1.2]
        exact (hbl c1.1).2.2.2.2.1 o (by
          rcases Nat.lt_or_ge o cur.size with hl | hl
          · exact hl
          · rw [Array.getElem?_eq_none hl] at hk; cases hk)
      · exact R.mem.g1 k o v (by
          have hk : (if 0 < cap ∧ k = bb then (if o < rows.length * A.K.kd.length then cur[o]? else none) else g k o) = some v := hk
          rw [if_neg c1] at hk; exact hk)
    · by_cases c1 : 0 < cap ∧ k = bb
      · have hk : cur[o]? = some v := by
          have hk : (if 0 < cap ∧ k = bb then (if o < rows.length * A.K.kd.length then cur[o]? else none) else g k o) = some v := hk
          rw [if_pos c1] at hk
          split at hk
          · exact hk
          · cases hk
        refine ⟨?_, if_pos c1⟩
        rw [c1.2]
        simp [World.cell?, (hbl c1.1).2.2.1, hk]
      · have hk : g k o = some v := by
          have hk : (if 0 < cap ∧ k = bb then (if o < rows.length * A.K.kd.length then cur[o]? else none) else g k o) = some v := hk
          rw [if_neg c1] at hk; exact hk
        exact ⟨(R.mem.gg k o v hk).1, (how k c1).trans (R.mem.gg k o v hk).2⟩
    · rw [nth_eq, List.getElem?_map, Option.map_eq_some_iff] at hr
      obtain ⟨r0, h0, h1⟩ := hr
      cases r0 with
      | «at» cs0 =>
        simp only [Pc.map, Pc.at.injEq] at h1
        subst h1
        obtain ⟨b1, q1, k1, k2, k3, k4⟩ := (R.mem.reg r cs0 (by rw [nth_eq]; exact h0)).ex
        refine ⟨b1, q1, k1, (how b1 ?_).trans k2, k3, fun o c ho => ?_⟩
        · rintro ⟨c1, rfl⟩
          rw [(hbl c1).2.1] at k2; cases k2
        · rw [nth_eq, List.getElem?_map, Option.map_eq_some_iff] at ho
          obtain ⟨c0, ho0, ho1⟩ := ho
          subst ho1
          obtain ⟨f1, f2, v, f3, f4⟩ := k4 o c0 (by rw [nth_eq]; exact ho0)
          exact ⟨f1, f2, v, f3, hc _ _ f4⟩
      | fr => simp [Pc.map] at h1
      | go => simp [Pc.map] at h1
    · refine R.mem.rfree r ?_
      rw [nth_eq, List.getElem?_map] at hr
      rw [nth_eq]
      cases h0 : s.h.regs[r]? with
      | none => exact .inl rfl
      | some r0 =>
        rw [h0] at hr
        cases r0 <;> simp [Pc.map] at hr ⊢
    · have hb2 : b' ≠ b ∧ nth s.h.arrs b' = some (.at A') := by
        rw [nth_setNth] at hb'
        split at hb'
        · split at hb' <;> cases hb'
        · rename_i hne; exact ⟨fun e => hne e.symm, hb'⟩
      refine (R.mem.arr b' A' hb2.2).turn T (fun _ _ _ _ _ _ _ h => h) hp hg fun b1 c k1 k2 k3 k4 => (how b1 ?_).trans k4
      rintro ⟨c1, rfl⟩
      rw [(hbl c1).2.1] at k4
      cases k4
      exact hb2.1 rfl
    · have hm : ∀ (l : List (List SR)) (m : List Act), All2 (FrameOk E p g) l m → All2 (FrameOk E q g') (l.map fun l => l.map (frzR s.known b A)) m := by
        intro l
        induction l with
        | nil => intro m h; cases m <;> first | trivial | exact h.elim
        | cons t l ih => intro m h; cases m with
          | nil => exact h.elim
          | cons u m => exact ⟨frz_frame hc h.1, ih m h.2⟩
      exact hm _ _ R.stk
    · by_cases hbk : 0 < cap ∧ k = bb
      · exact .inl (if_pos hbk)
      · rcases hkn with k1 | ⟨r, cs, b1, q1, k1, k2, rfl, k3⟩ | ⟨b', A', b1, c, k1, k2, rfl, k3⟩
        · exact .inl ((how k hbk).trans k1)
        · refine .inr (.inl ⟨r, cs.map (frzC s.known b A), k, q1, ?_, k2, rfl, by rw [List.length_map]; exact k3⟩)
          rw [nth_eq, List.getElem?_map, ← nth_eq, k1]; rfl
        · by_cases hbb : b' = b
          · subst hbb
            rw [hA] at k1
            cases k1
            rw [e1] at k2
            cases k2
            rw [e2, CD.rows_l] at k3
            have h0 : 0 < cap := by
              rcases Nat.eq_zero_or_pos cap with h0 | h0
              · have : rows.length = 0 := by omega
                rw [this, Nat.zero_mul] at k3; omega
              · exact h0
            have := (hbl h0).1
            cases this
            exact absurd ⟨h0, rfl⟩ hbk
          · refine .inr (.inr ⟨b', A', k, c, ?_, k2, rfl, k3⟩)
            rw [nth_setNth, if_neg (fun e => hbb e.symm)]; exact k1
  · cases h
theorem frzThen_den {b : Nat} {k : St → Tree} (R : Rep B E p g s a as w) (h : (frzThen b s k).den Γ Q E J) : ∃ s' q g', p.Le q ∧ g.Le g' ∧ Rep B E q g' s' a as w ∧ KnLe E p s.h q s'.h w.heap.size ∧ s'.nx = s.nx ∧ s'.fn = s.fn ∧ (k s').den Γ Q E J := by
  unfold frzThen at h
  split at h
  · rename_i s' hs
    obtain ⟨q, g', h1, h2, h3, h4, h5, h6⟩ := frz_sound R hs
    exact ⟨s', q, g', h1, h2, h3, h4, h5, h6, h⟩
  · exact h.elim
end
end Go.Sy
