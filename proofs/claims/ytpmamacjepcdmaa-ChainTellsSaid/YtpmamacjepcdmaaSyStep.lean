/- One operation of the symbolic walk, whichever it is; stores. -/
import Derived.Test.YtpmamacjepcdmaaSyMap
namespace Go.Sy
open Go.RowKit

section
variable {P : Program} {T : TT} {B : Base} {E : Env} {p : Pl} {g : Gm} {h : Hp} {tm : List SR} {a : Act} {w : World}
variable (H : RepH B E p g h w) (ht : ∀ i c, nth tm i = some c → c.is E p g (a.tmps.getD i Go.undef)) (hT : TOk P T)
include H ht hT

theorem aop_builtin (dst : Option Tmp) (type : TypeId) (pos : String) (after : Array Edge) (guard : Option (Nat × Bool)) {sa : Nat} {b : Builtin} {args : Array Operand} {ats : Array TypeId} {vs : List SR} {ns : List X} {r : SR} {h' : Hp} {qu : Bool}
    (hv : evs tm args.toList = some vs) (ho : builtinOut T h sa ats.toList b vs = .val ns r h' qu) (hn : ∀ b ∈ ns, (b.den E).bool = true) :
    (h' = h ∧ YieldP P E p g a ⟨dst, .call { callee := .builtin b, args := args, argTypes := ats }, type, pos, after, guard⟩ r) ∨
      (reads ⟨dst, .call { callee := .builtin b, args := args, argTypes := ats }, type, pos, after, guard⟩ = false ∧ Yield P B E p g h a w ⟨dst, .call { callee := .builtin b, args := args, argTypes := ats }, type, pos, after, guard⟩ r h' qu) := by
  have arr : ∀ {α : Type} {x : Array α} {l : List α}, x.toList = l → x = l.toArray := fun h => by subst h; rfl
  have slice : ∀ {t e : Nat}, isSlice T t = some e → ∃ ti, T.get t = some ti ∧ ti.k = .slice e := fun {t e} h => by
    unfold isSlice at h
    split at h
    · rename_i ht; cases h; exact ⟨_, ht, rfl⟩
    · cases h
  unfold builtinOut at ho
  split at ho
  · obtain ⟨x, ex, h1⟩ := evs_one hv
    have := arr ex; subst this
    split at ho
    · rename_i t hat
      have := arr hat; subst this
      split at ho
      · rename_i e hs
        obtain ⟨ti, k1, k2⟩ := slice hs
        left
        split at ho
        · cases ho; exact ⟨rfl, y_len ht dst type pos after guard hT x t e k1 k2 h1 (.inl ⟨_, rfl⟩)⟩
        · cases ho; exact ⟨rfl, y_len ht dst type pos after guard hT x t e k1 k2 h1 (.inr (.inl ⟨_, _, rfl, rfl⟩))⟩
        · cases ho; exact ⟨rfl, y_len ht dst type pos after guard hT x t e k1 k2 h1 (.inr (.inr ⟨.inl rfl, rfl⟩))⟩
        · cases ho; exact ⟨rfl, y_len ht dst type pos after guard hT x t e k1 k2 h1 (.inr (.inr ⟨.inr rfl, rfl⟩))⟩
        · cases ho
      · cases ho
    · cases ho
  · obtain ⟨x, y, ex, h1, h2⟩ := evs_two hv
    have := arr ex; subst this
    cases ho
    exact .inl ⟨rfl, y_min ht dst type pos after guard x y ats h1 h2⟩
  · obtain ⟨x, y, ex, h1, h2⟩ := evs_two hv
    have := arr ex; subst this
    cases ho
    exact .inl ⟨rfl, y_max ht dst type pos after guard x y ats h1 h2⟩
  · obtain ⟨x, y, ex, h1, h2⟩ := evs_two hv
    have := arr ex; subst this
    split at ho
    · rename_i t u hat
      have := arr hat; subst this
      split at ho
      · rename_i htu
        have htu := Nat.eq_of_beq_eq_true htu
        subst htu
        split at ho
        · rename_i e hs
          obtain ⟨ti, k1, k2⟩ := slice hs
          split at ho
          · rename_i hei
            dsimp only at ho
            split at ho
            · rename_i hc
              simp only [Bool.and_eq_true] at hc
              obtain ⟨⟨c1, c2⟩, c3, c4⟩ := hc
              split at ho
              · rename_i ns0 dy hsl
                right
                refine ⟨rfl, ?_⟩
                split at ho
                · cases ho
                  exact y_append H ht dst type pos after guard hT x y k1 k2 hei (Nat.eq_of_beq_eq_true c1) (blt_lt c2) (blt_lt c3) h1 h2 hsl (fun b hb => hn b (List.mem_append_left _ hb)) c4 (.inl ⟨.inl rfl, rfl, rfl, rfl, rfl⟩) (fun b hb => hn b (List.mem_append_right _ hb))
                · cases ho
                  exact y_append H ht dst type pos after guard hT x y k1 k2 hei (Nat.eq_of_beq_eq_true c1) (blt_lt c2) (blt_lt c3) h1 h2 hsl (fun b hb => hn b (List.mem_append_left _ hb)) c4 (.inl ⟨.inr rfl, rfl, rfl, rfl, rfl⟩) (fun b hb => hn b (List.mem_append_right _ hb))
                · split at ho
                  · rename_i hA
                    split at ho
                    · rename_i hcc
                      simp only [Bool.and_eq_true] at hcc
                      cases ho
                      refine y_append H ht dst type pos after guard hT x y k1 k2 hei (Nat.eq_of_beq_eq_true c1) (blt_lt c2) (blt_lt c3) h1 h2 hsl (fun b hb => hn b (List.mem_append_left _ hb)) c4 (.inr ⟨_, _, _, rfl, hA, SK.same_eq hcc.1.1, Nat.eq_of_beq_eq_true hcc.1.2, fun c n' e0 e1 => ?_, rfl, rfl, rfl, rfl, fun hq => hq⟩) (fun b hb => hn b (List.mem_append_right _ hb))
                      subst e0; subst e1
                      have := hcc.2
                      simp [notAr] at this
                    · cases ho
                  · cases ho
                · cases ho
              · cases ho
            · cases ho
          · cases ho
        · cases ho
      · cases ho
    · cases ho
  · cases ho

theorem aop_val {o : Oper} {sr sa : Nat} {ns : List X} {r : SR} {h' : Hp} {qu : Bool} (ho : aop T tm h sr sa o.op = .val ns r h' qu) (hn : ∀ b ∈ ns, (b.den E).bool = true) :
    (h' = h ∧ YieldP P E p g a o r) ∨ (h' = h ∧ pureOp o = false ∧ YieldR P E p g h a w o r) ∨ (reads o = false ∧ Yield P B E p g h a w o r h' qu) := by
  obtain ⟨dst, op, type, pos, after, guard⟩ := o
  dsimp only at ho
  cases op with
  | move x =>
    simp only [aop] at ho
    split at ho
    · rename_i h1; cases ho; exact .inl ⟨rfl, y_move ht _ _ _ _ _ x h1⟩
    · cases ho
  | assign x =>
    simp only [aop] at ho
    split at ho
    · rename_i h1; cases ho; exact .inl ⟨rfl, y_assign ht _ _ _ _ _ x h1⟩
    · cases ho
  | pick c x y =>
    simp only [aop] at ho
    split at ho
    · rename_i h1 h2 h3; cases ho; exact .inl ⟨rfl, y_pick ht _ _ _ _ _ c x y h1 h2 h3⟩
    · cases ho
    · cases ho
  | alloc t =>
    simp only [aop] at ho
    split at ho
    · rename_i h1
      split at ho
      · rename_i hf
        cases ho; exact .inr (.inr ⟨rfl, y_alloc H _ _ _ _ _ hT t h1 hf⟩)
      · cases ho
    · cases ho
  | box t x =>
    simp only [aop] at ho
    split at ho
    · rename_i h1 h2
      split at ho
      · rename_i h3
        simp only [Bool.and_eq_true] at h3
        cases ho
        exact .inr (.inr ⟨rfl, y_box H ht _ _ _ _ _ t x h2 h3.1 h3.2⟩)
      · cases ho
    · cases ho
  | load t x =>
    simp only [aop] at ho
    split at ho
    · rename_i h1; obtain ⟨e1, e2⟩ := y_load H ht _ _ _ _ _ hT t x h1 ho hn; exact .inr (.inl ⟨e1, rfl, e2⟩)
    · cases ho
  | nilCheck x =>
    simp only [aop] at ho
    split at ho
    · rename_i h1; cases ho; exact .inl ⟨rfl, y_nilReg ht _ _ _ _ _ x h1⟩
    · rename_i h1
      split at ho
      · cases ho; exact .inl ⟨rfl, y_nilEp ht _ _ _ _ _ x h1⟩
      · cases ho
    · rename_i h1; cases ho; exact .inl ⟨rfl, y_nilFp ht _ _ _ _ _ x h1⟩
    · rename_i h1; cases ho; exact .inl ⟨rfl, y_nilFn ht _ _ _ _ _ x h1⟩
    · cases ho
  | fieldAddr t x f =>
    simp only [aop] at ho
    split at ho
    · rename_i hk h1
      split at ho
      · rename_i hfs
        split at ho
        · rename_i hu
          split at ho
          · rename_i hz
            split at ho
            · cases ho; exact .inl ⟨rfl, y_fieldReg ht _ _ _ _ _ hT t f x hk rfl hfs hu (blt_lt hz) h1⟩
            · split at ho
              · cases ho; exact .inl ⟨rfl, y_fieldEp ht _ _ _ _ _ hT t f x hk rfl hfs hu (blt_lt hz) h1⟩
              · cases ho
            · split at ho
              · cases ho; exact .inl ⟨rfl, y_fieldFp ht _ _ _ _ _ hT t f x hk rfl hfs hu (blt_lt hz) h1⟩
              · cases ho
            · cases ho
          · cases ho
        · cases ho
      · cases ho
    · cases ho
  | indexAddr t x i =>
    simp only [aop] at ho
    split at ho
    · rename_i hk h1 h2
      split at ho
      · rename_i he
        split at ho
        · split at ho
          · rename_i hA
            split at ho
            · cases ho; exact .inl ⟨rfl, y_indexSl H ht _ _ _ _ _ hT t x i hk rfl he h1 h2 hA hn⟩
            · cases ho
          · cases ho
        · split at ho
          · rename_i hz
            simp only [Bool.and_eq_true] at hz
            cases ho; exact .inl ⟨rfl, y_indexFz ht _ _ _ _ _ hT t x i hk rfl he h1 h2 (Nat.eq_of_beq_eq_true hz.1) hn⟩
          · cases ho
        · cases ho
      · cases ho
    · rename_i hk h1 h2
      split at ho
      · rename_i he hj
        split at ho
        · rename_i hjn; cases ho; exact .inl ⟨rfl, y_indexVar ht _ _ _ _ _ hT t x i hk rfl he h1 h2 hj (blt_lt hjn)⟩
        · cases ho
      · cases ho
    · cases ho
  | index t x i =>
    simp only [aop] at ho
    split at ho
    · rename_i hk h1 h2
      split at ho
      · rename_i he hj
        split at ho
        · rename_i hb
          simp only [Bool.and_eq_true] at hb
          split at ho
          · rename_i hm
            split at ho
            · rename_i hr; cases ho; exact .inl ⟨rfl, y_index ht _ _ _ _ _ hT t x i hk rfl he h1 h2 hj (blt_lt hb.1) hm hr⟩
            · cases ho
          · cases ho
        · cases ho
      · cases ho
    · cases ho
  | field t x f =>
    simp only [aop] at ho
    split at ho
    · rename_i hk h1
      split at ho
      · rename_i hfs
        split at ho
        · rename_i hu
          split at ho
          · rename_i hm
            split at ho
            · rename_i hr; cases ho; exact .inl ⟨rfl, y_field ht _ _ _ _ _ hT t f x hk rfl hfs hu h1 hm hr⟩
            · cases ho
          · cases ho
        · cases ho
      · cases ho
    · cases ho
  | extract x i =>
    simp only [aop] at ho
    split at ho
    · rename_i h1
      split at ho
      · rename_i h2; cases ho; exact .inl ⟨rfl, y_extract ht _ _ _ _ _ x i h1 h2⟩
      · cases ho
    · cases ho
  | binOp op t x y yt =>
    simp only [aop] at ho
    split at ho
    · rename_i h1 h2; exact .inl (y_bin ht _ _ _ _ _ hT op t x y yt h1 h2 ho hn)
    · cases ho
  | unOp op t x =>
    cases op with
    | not =>
      simp only [aop] at ho
      split at ho
      · rename_i h1; cases ho; exact .inl ⟨rfl, y_not ht _ _ _ _ _ t x h1⟩
      · cases ho
    | neg =>
      simp only [aop] at ho
      split at ho
      · rename_i h1
        split at ho
        · rename_i hq; cases ho; exact .inl ⟨rfl, y_neg ht _ _ _ _ _ t x h1 hq hn⟩
        · cases ho
      · cases ho
    | _ => simp only [aop] at ho; cases ho
  | build t parts =>
    simp only [aop] at ho
    split at ho
    · rename_i h1 h2
      split at ho
      · cases ho
      · rename_i hb
        split at ho
        · rename_i h3
          split at ho
          · cases ho
            simp only [Bool.or_eq_true, Bool.not_eq_true', not_or, Bool.not_eq_false] at hb
            exact .inl ⟨rfl, y_build ht _ _ _ _ _ hT t parts h1 h2 hb.2 hb.1 h3⟩
          · cases ho
        · cases ho
    · cases ho
  | buildSlice t n parts =>
    simp only [aop] at ho
    split at ho
    · rename_i hk h2
      split at ho
      · rename_i he
        split at ho
        · rename_i h3 hkd
          split at ho
          · rename_i hb
            simp only [Bool.and_eq_true] at hb
            obtain ⟨⟨b1, b2, b3⟩, b4, b5, b6⟩ := hb
            split at ho
            · cases ho
            · split at ho
              · rename_i hx
                cases ho
                exact .inr (.inr ⟨rfl, y_buildSlice H ht _ _ _ _ _ hT t n parts hk rfl he h2 b4 h3 (blt_lt b1.1) (Nat.le_of_ble_eq_true b2) (Nat.eq_of_beq_eq_true b3) (Nat.le_of_ble_eq_true b5) (blt_lt b1.2) hx b6⟩)
              · cases ho
          · cases ho
        · cases ho
      · cases ho
    · cases ho
  | makeFunc f first caps =>
    cases f with
    | func f =>
      simp only [aop] at ho
      split at ho
      · rename_i h1 h2
        split at ho
        · rename_i h3
          cases ho
          have : first = #[] := by
            apply Array.ext'
            simpa using h1
          subst this
          exact .inl ⟨rfl, y_makeFunc ht _ _ _ _ _ f caps h2 h3⟩
        · cases ho
      · cases ho
    | _ => simp only [aop] at ho; cases ho
  | makeSlice t n c =>
    simp only [aop] at ho
    split at ho
    · rename_i hk h1 h2
      split at ho
      · rename_i he
        split at ho
        · rename_i hkd hzd
          split at ho
          · rename_i hb
            simp only [Bool.and_eq_true] at hb
            obtain ⟨⟨b1, b2⟩, b3, b4, b5⟩ := hb
            cases ho
            have hzd' := hzd
            unfold zeroData at hzd'
            rw [hkd] at hzd'
            dsimp only at hzd'
            exact .inr (.inr ⟨rfl, y_makeSlice H ht _ _ _ _ _ hT t n c hk rfl he h1 h2 b1 (blt_lt b2) hzd' (Nat.eq_of_beq_eq_true b3) (blt_lt b4) hn b5⟩)
          · cases ho
        · cases ho
      · cases ho
    · cases ho
  | slice t x lo hi mx =>
    simp only [aop] at ho
    have bnd : ∀ {lo : Option Operand} {lx : X}, (match lo with | none => some (SR.v (.one (.int .i64 (.int 0)))) | some l => ev tm l) = some (.v (.one (.int .i64 lx))) → BndIs E a lo lx ∧ (lo = none → lx = .int 0) := fun {lo lx} hl => by
      cases lo with
      | none => cases hl; exact ⟨⟨0, rfl, .inl ⟨rfl, rfl⟩⟩, fun _ => rfl⟩
      | some l =>
        obtain ⟨k, k1, k2⟩ := (ev_is ht hl : ∃ k, lx.den E = .i k ∧ a.eval l = .int .i64 k)
        exact ⟨⟨k, k1, .inr ⟨l, rfl, k2⟩⟩, fun h => (by cases h)⟩
    have opt : ∀ {o : Option Operand} {v : SR}, (match o with | none => some none | some l => (ev tm l).map some) = some (some v) → ∃ y, o = some y ∧ ev tm y = some v := fun {o v} hl => by
      cases o with
      | none => cases hl
      | some l =>
        cases he : ev tm l with
        | none => simp only [he] at hl; cases hl
        | some u => simp only [he] at hl; cases hl; exact ⟨l, rfl, he⟩
    have optn : ∀ {o : Option Operand}, (match o with | none => some none | some l => (ev tm l).map some) = some (none : Option SR) → o = none := fun {o} hl => by
      cases o with
      | none => rfl
      | some l => cases he : ev tm l <;> simp only [he] at hl <;> cases hl
    split at ho
    · rename_i e x' lx hi' mx' hk h1 h2 h3 h4
      obtain ⟨hlo, hl0⟩ := bnd h2
      split at ho
      · rename_i he
        obtain ⟨z, rfl, hz⟩ := opt h4
        obtain ⟨y, rfl, hy⟩ := opt h3
        left
        split at ho <;> cases ho
        · exact ⟨rfl, y_sliceThree ht _ _ _ _ _ hT t x y z lo hk rfl he h1 (.inl ⟨_, _, rfl⟩) hlo hy hz⟩
        · exact ⟨rfl, y_sliceThree ht _ _ _ _ _ hT t x y z lo hk rfl he h1 (.inr (.inl ⟨_, _, rfl⟩)) hlo hy hz⟩
        · exact ⟨rfl, y_sliceThree ht _ _ _ _ _ hT t x y z lo hk rfl he h1 (.inr (.inr (.inl rfl))) hlo hy hz⟩
        · exact ⟨rfl, y_sliceThree ht _ _ _ _ _ hT t x y z lo hk rfl he h1 (.inr (.inr (.inr rfl))) hlo hy hz⟩
      · rename_i he
        have := optn h4
        subst this
        left
        split at ho
        · split at ho
          · rename_i m
            obtain ⟨y, rfl, hy⟩ := opt h3
            cases ho
            exact ⟨rfl, y_sliceSl ht _ _ _ _ _ hT t x lo _ hk rfl he h1 hlo rfl (.inr ⟨y, rfl, hy, hn _ (by simp), hn _ (by simp)⟩)⟩
          · have := optn h3
            subst this
            cases ho
            exact ⟨rfl, y_sliceSl ht _ _ _ _ _ hT t x lo _ hk rfl he h1 hlo rfl (.inl ⟨rfl, rfl⟩)⟩
          · cases ho
        · split at ho
          · cases ho
          · rename_i hz
            simp only [Bool.not_eq_true', Bool.not_eq_false] at hz
            have hz := Nat.eq_of_beq_eq_true hz
            split at ho
            · rename_i m
              obtain ⟨y, rfl, hy⟩ := opt h3
              cases ho
              exact ⟨rfl, y_sliceFz ht _ _ _ _ _ hT t x lo _ hk rfl he h1 hlo hz (hn _ (by simp)) (.inr ⟨y, rfl, rfl, hy, hn _ (by simp), hn _ (by simp)⟩)⟩
            · have := optn h3
              subst this
              cases ho
              exact ⟨rfl, y_sliceFz (m := .int 0) ht _ _ _ _ _ hT t x lo _ hk rfl he h1 hlo hz (hn _ (by simp)) (.inl ⟨rfl, rfl, hn _ (by simp)⟩)⟩
            · cases ho
        · cases ho
      · cases ho
    · cases ho
  | call c =>
    obtain ⟨callee, args, ats⟩ := c
    cases callee with
    | value f =>
      simp only [aop] at ho
      split at ho
      · split at ho <;> cases ho
      · rename_i h1 _; cases h1
      · cases ho
    | invoke r m => simp only [aop] at ho; cases ho
    | builtin b =>
      simp only [aop] at ho
      split at ho
      · rename_i h1 _; cases h1
      · rename_i b' as h1 h2
        cases h1
        rcases aop_builtin H ht hT _ _ _ _ _ h2 ho hn with h | h
        · exact .inl h
        · exact .inr (.inr h)
      · cases ho
  | store t x v =>
    simp only [aop] at ho
    split at ho
    · unfold storeAt at ho
      repeat (split at ho <;> try (cases ho; done))
    · cases ho
  | makeMap t r =>
    cases r with
    | some r => simp only [aop] at ho; cases ho
    | none =>
      simp only [aop] at ho
      split at ho
      · split at ho
        · split at ho
          · split at ho
            · cases ho
              exact .inr (.inr ⟨rfl, y_makeMap H _ _ _ _ _ t _ rfl⟩)
            · cases ho
          · cases ho
        · cases ho
      · cases ho
  | lookup t m x c =>
    cases c with
    | true => simp only [aop] at ho; cases ho
    | false =>
      simp only [aop] at ho
      split at ho
      · rename_i hti hm hx
        split at ho
        · rename_i hM hki hvi
          split at ho
          · rename_i hc
            simp only [Bool.and_eq_true] at hc
            split at ho
            · rename_i hks hz
              cases ho
              exact .inr (.inr ⟨rfl, y_lookup H ht _ _ _ _ _ hT t m x hti rfl hm hx hM hki hvi hc.1 hc.2 hks hz⟩)
            · cases ho
          · cases ho
        · cases ho
      · cases ho
  | mapUpdate t m x v =>
    simp only [aop] at ho
    repeat (split at ho <;> try (cases ho; done))
    all_goals cases ho
  | insert t m x v =>
    simp only [aop] at ho
    repeat (split at ho <;> try (cases ho; done))
    all_goals cases ho
  | _ => simp only [aop] at ho; cases ho

/-- A store. -/
theorem aop_skip {o : Oper} {sr sa : Nat} {ns : List X} {h' : Hp} (ho : aop T tm h sr sa o.op = .skip ns h') (hn : ∀ b ∈ ns, (b.den E).bool = true) :
    ∃ w', (execOp a.eval o).run P w = .ok .skip w' ∧ RepH B E p g h' w' ∧ w.heap.size ≤ w'.heap.size := by
  obtain ⟨dst, op, type, pos, after, guard⟩ := o
  dsimp only at ho
  have key : ∀ t x v ra rx, ev tm x = some ra → ev tm v = some rx → storeAt T h t ra rx = .skip ns h' → ∃ w', (Instr.storeAt t (a.eval x) (a.eval v)).run P w = .ok () w' ∧ RepH B E p g h' w' ∧ w.heap.size ≤ w'.heap.size := by
    intro t x v ra rx h1 h2 ho
    have ha := ev_is ht h1
    have hx := ev_is ht h2
    generalize a.eval x = va at ha ⊢
    generalize a.eval v = vx at hx ⊢
    unfold storeAt at ho
    split at ho
    · cases ho
    · rename_i xx
      split at ho
      · cases ho
      · rename_i ti hti
        split at ho
        · rename_i hlc
          simp only [Bool.and_eq_true] at hlc
          obtain ⟨hl, hfull⟩ := hlc
          have hl := Nat.eq_of_beq_eq_true hl
          have hone : ∀ c u, c ∈ xx.cells → SC.is E p g c u → u.oneCell' = true := fun c u hc hu => by
            have hf := allB_mem hfull c hc
            exact SC.one hu (by rintro rfl; cases hf) (by rintro rfl; cases hf)
          have hcells : All2 (SC.is E p g) xx.cells vx.cells.toList := cells_is hx fun c e => by
            subst e
            exact .inl (hone c vx (by simp [SV.cells]) hx)
          have hcl := hcells.length
          have hsz : vx.cells.size = ti.sz := by rw [← hl, hcl, Array.length_toList]
          have hones : ∀ y ∈ vx.cells.toList, y.oneCell' = true := fun y hy => by
            obtain ⟨j, hj⟩ := List.getElem?_of_mem hy
            obtain ⟨c, hc⟩ := nth_some (l := xx.cells) (i := j) (by rw [hcl]; exact (List.getElem?_eq_some_iff.1 hj).1)
            obtain ⟨u, hu, hcu⟩ := hcells.nth hc
            rw [nth_eq, hj] at hu
            cases hu
            exact hone c y (nth_mem hc) hcu
          have run : ∀ b o (w : World), (∀ j, j < vx.cells.toList.length → (w.cell? ⟨b, o + j, none⟩).isSome = true) → (∀ j, j < vx.cells.toList.length → w.frozen? ⟨b, o + j, none⟩ = false) → (Instr.storeAt t (.pointer (some ⟨b, o, none⟩)) vx).run P w = .ok () (w.setCells b o vx.cells.toList) := fun b o w hc hf => by
            have hs := run_storeCells_cells (P := P) b o vx.cells.toList 0 w (by simpa using hc) (by simpa using hf) hones
            simp only [Nat.add_zero] at hs
            simp [Instr.storeAt, Instr.sureAddr, storeVar, run_sizeOf hT hti, hsz, hs]
          split at ho
          · rename_i r o
            split at ho
            · rename_i cs hcs
              split at ho
              · rename_i hle
                have hle := Nat.le_of_ble_eq_true hle
                cases ho
                obtain ⟨b, q, hp, e⟩ := (ha : ∃ b q, p.reg r = some (b, q) ∧ va = .pointer (some ⟨b, q + o, none⟩))
                subst e
                have hc : ∀ j, j < vx.cells.toList.length → ∃ c, nth cs (o + j) = some c := fun j hj => nth_some (by omega)
                refine ⟨_, run b (q + o) w (fun j hj => ?_) (fun j hj => ?_), H.storeReg hcs (by omega) hcells hp, (setCells_turn b _ _ w).size⟩
                · obtain ⟨c, hc⟩ := hc j hj
                  obtain ⟨u, _, k2, _⟩ := H.reg_cell hcs hc hp
                  rw [Nat.add_assoc, k2 w (CellsSame.refl _ _ _ _)]; rfl
                · obtain ⟨c, hc⟩ := hc j hj
                  obtain ⟨u, _, _, _, k4, _⟩ := H.reg_cell hcs hc hp
                  rw [Nat.add_assoc]; exact k4
              · cases ho
            · cases ho
          · rename_i b z i o
            split at ho
            · rename_i A hA
              split at ho
              · rename_i hz
                simp only [Bool.and_eq_true] at hz
                have hz1 := Nat.eq_of_beq_eq_true hz.1
                have hz2 := Nat.le_of_ble_eq_true hz.2
                subst hz1
                split at ho
                · cases ho
                · split at ho
                  · rename_i ds hds
                    cases ho
                    obtain ⟨bb, c, n, k1, k2, e⟩ := (ha : ∃ bb c n : Nat, p.arr b = some (some ⟨bb, 0, none⟩, c) ∧ i.den E = .i n ∧ va = .pointer (some ⟨bb, n * A.K.kd.length + o, none⟩))
                    subst e
                    obtain ⟨h0, h3⟩ := inRange_den (mkLen_den A.x) hn
                    rw [k2] at h3
                    simp only [CD.int_i, Int.toNat_natCast] at h3
                    obtain ⟨d1, d2, _⟩ := scDatas_rd hds hcells
                    have hdl : ds.length = ti.sz := by rw [d1, List.length_take, List.length_drop]; omega
                    obtain ⟨b', c', g1, g2, g3, g4⟩ := H.storeArr (o := o) (kd := (A.K.kd.drop o).take ti.sz) hA k2 h3 (by rw [hdl]) hds (by omega) hcells
                    rw [k1] at g1
                    cases g1
                    exact ⟨_, run bb (n * A.K.kd.length + o) w g2 g3, g4, (setCells_turn bb _ _ w).size⟩
                  · cases ho
              · cases ho
            · cases ho
          · cases ho
        · cases ho
  cases op with
  | store t x v =>
    simp only [aop] at ho
    split at ho
    · rename_i h1 h2
      obtain ⟨w', e, k1, k2⟩ := key t x v _ _ h1 h2 ho
      exact ⟨w', by simp [execOp, e], k1, k2⟩
    · cases ho
  | mapUpdate t m x v =>
    simp only [aop] at ho
    split at ho
    · rename_i hti hm hx hv
      split at ho
      · rename_i hM hki hvi
        split at ho
        · rename_i hc
          simp only [Bool.and_eq_true] at hc
          split at ho
          · rename_i hks hd
            cases ho
            obtain ⟨w', g1, g2⟩ := y_mapUpdate H ht _ _ _ _ _ hT t m x v hti rfl hm hx hv hM hki hc.1 hc.2 hks hd
            exact ⟨w', g1 _ (.inl rfl), g2⟩
          · cases ho
        · cases ho
      · cases ho
    · cases ho
  | insert t m x v =>
    simp only [aop] at ho
    split at ho
    · rename_i hti hm hx hv
      split at ho
      · rename_i hM hki hvi
        split at ho
        · rename_i hc
          simp only [Bool.and_eq_true] at hc
          split at ho
          · rename_i hks hd
            cases ho
            obtain ⟨w', g1, g2⟩ := y_mapUpdate H ht _ _ _ _ _ hT t m x v hti rfl hm hx hv hM hki hc.1 hc.2 hks hd
            exact ⟨w', g1 _ (.inr rfl), g2⟩
          · cases ho
        · cases ho
      · cases ho
    · cases ho
  | load t x =>
    simp only [aop] at ho
    split at ho
    · unfold loadAt at ho
      repeat (split at ho <;> try (cases ho; done))
    · cases ho
  | binOp op t x y yt =>
    simp only [aop] at ho
    split at ho
    · unfold binOut at ho
      repeat (split at ho <;> try (cases ho; done))
    · cases ho
  | call c =>
    simp only [aop] at ho
    repeat (split at ho <;> try (cases ho; done))
    unfold builtinOut at ho
    repeat (first | (split at ho <;> try (cases ho; done)) | dsimp only at ho)
  | makeMap t r =>
    cases r <;> simp only [aop] at ho <;> repeat (split at ho <;> try (cases ho; done))
    all_goals cases ho
  | lookup t m x c =>
    cases c <;> simp only [aop] at ho <;> repeat (split at ho <;> try (cases ho; done))
    all_goals cases ho
  | unOp op t x =>
    cases op <;> simp only [aop] at ho <;> repeat (split at ho <;> try (cases ho; done))
    all_goals cases ho
  | makeFunc f first caps =>
    cases f <;> simp only [aop] at ho <;> repeat (split at ho <;> try (cases ho; done))
    all_goals cases ho
  | _ =>
    simp only [aop] at ho
    first
      | (cases ho; done)
      | (repeat (split at ho <;> try (cases ho; done)))
end
end Go.Sy
