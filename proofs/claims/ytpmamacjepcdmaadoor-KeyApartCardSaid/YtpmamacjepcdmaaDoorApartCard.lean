/- KeyApart: unlike keys have unlike texts; a key turned is written the other way round, and of two like ends it is itself. Condition: the listed variables of the library begin as its text lays them (the card ties them). -/
import Derived.Test.YtpmamacjepcdmaaDoorApart
import Derived.Test.YtpmamacjepcdmaaDoorTie
import Derived.Test.YtpmamacjepcdmaaDoorCards
import Derived.SevenTiedAt
import Derived.Lib.SmallJoins
namespace Go.Proofs.YtpmamacjepcdmaaDoor
open Go Go.Proofs Go.ChangeShapes Go.WideShapes Go.ChangeAt Go.RowKit
open Go.ChangeMaps (open_string shut_string)
theorem text_ne {a b c d : Int} (h1 : keyIs a b = true) (h2 : keyIs c d = true) (h : ¬ (a = c ∧ b = d)) : bytes (keyText a b) ≠ bytes (keyText c d) := fun e => h ((text_inj h1 h2).1 (bytes_inj e))
theorem key_turn {a b : Int} (h : keyIs a b = true) : keyIs b a = true := by
  obtain ⟨k1, k2, k3, k4⟩ := keyIs_iff.1 h
  exact keyIs_iff.2 ⟨k3, k4, k1, k2⟩
theorem law_apart (a b c d : Int) (w : World) (hl : Laid w) : Calls Tryd.prog 5 #[.agg #[.int .i64 a, .int .i64 b], .agg #[.int .i64 c, .int .i64 d]] w fun e w' => e = .returned (.bool true) ∧ Below w.heap.size w w' := by
  cases ha : keyIs a b with
  | false =>
    cases hc : keyIs c d with
    | false => exact apart_bad2 a b c d w hl (print_no a b ha) (print_no c d hc)
    | true => exact apart_bad a b c d _ w hl (print_no a b ha) (print_gives c d hc)
  | true =>
    have hP := print_gives a b ha
    have hb := key_turn ha
    by_cases hab : a = b
    · subst hab
      have hX := parse_text a a ha
      cases hc : keyIs c d with
      | false => exact apart_off1 a c d _ w hl hP (print_no c d hc) hX
      | true =>
        by_cases h1 : a = c
        · subst h1
          by_cases h2 : a = d
          · subst h2
            exact apart_same1 a _ w hl hP hX
          · exact apart_three1 a d _ _ w hl hP (print_gives a d hc) hX (text_ne ha hc fun e => h2 e.2) h2
        · exact apart_two1 a c d _ _ w hl hP (print_gives c d hc) hX (text_ne ha hc fun e => h1 e.1) h1
    · have hU := print_gives b a hb
      have hX := parse_text b a hb
      have hUS : bytes (keyText b a) ≠ bytes (keyText a b) := text_ne hb ha fun e => hab e.2
      cases hc : keyIs c d with
      | false => exact apart_off a b c d _ _ w hl hP (print_no c d hc) hU hX hab hUS
      | true =>
        by_cases h1 : a = c
        · subst h1
          by_cases h2 : b = d
          · subst h2
            exact apart_same a b _ _ w hl hP hU hX hab hUS
          · exact apart_three a b d _ _ _ w hl hP (print_gives a d hc) hU hX (text_ne ha hc fun e => h2 e.2) h2 hab hUS
        · exact apart_two a b c d _ _ _ w hl hP (print_gives c d hc) hU hX (text_ne ha hc fun e => h1 e.1) h1 hab hUS
set_option maxRecDepth 100000 in
theorem lifted5 (os : Os) (started : os.Started) (H : Type) (enc : TypeId × Value → H) :
    ReturnsInHanded {} Tryd.checked os 5 .any (fun w args => (Rows.keyApartSpec.pre enc Tryd.prog Tryd.f5 Rows.keyApartRow.domain false w args ∧ laidMet Tryd.prog five w) ∧ sizedMet enc Tryd.prog Tryd.f5 (OpenSpec.ofChange Rows.keyApartSpec) false w args)
      (Rows.keyApartSpec.post enc Tryd.prog Tryd.f5 false true false false) := by
  refine builder (C := Tryd.checked) (X := fun w _ => laidMet Tryd.prog five w) (fun _ _ _ hh h => h.of_heap hh) own started (by kernel_rfl) Tryd.func5
    (ChangeSpec.witness_at (enc := enc) (C := Tryd.checked) (os := os) (X := fun w _ => laidMet Tryd.prog five w) false (laidWorld os) #[.agg #[.int .i64 0, .int .i64 0], .agg #[.int .i64 0, .int .i64 0]] 8 rfl (by kernel_rfl) (by kernel_rfl) (by kernel_rfl) (by kernel_rfl) (by kernel_rfl) (laidWorld_met os _)) ?_
  intro W base args ds gs before hval0 hW hL hsh
  have hval : ∀ (j : Nat) t v, Tryd.f5.params[j]? = some t → args[j]? = some v → Value.okWide Tryd.prog W .any base t v := hval0
  have hW' := hW
  obtain ⟨p, q, hA0, hV, rfl, _, _⟩ := hW
  have hA : DataW.TrodAll enc Tryd.prog W 0 (fun _ => true) true Tryd.f5.params.toList args.toList ds p := hA0
  rw [show Tryd.f5.params.toList = [23, 23] by kernel_rfl] at hA
  obtain ⟨v0, v1, d0, d1, p0, p1, rfl, rfl, rfl, h0, h1⟩ := trodAll_two hA
  have hp0 : Tryd.f5.params[0]? = some 23 := by kernel_rfl
  have hp1 : Tryd.f5.params[1]? = some 23 := by kernel_rfl
  obtain ⟨c0, c1, y0, y1, m, rfl, rfl, rfl, hy0, hy1⟩ := Joins.open_agg2 Tryd.underlying23 (by kernel_rfl) (by kernel_rfl : Tryd.prog.cellsOf 23 = 2) (hval 0 23 v0 hp0 rfl) h0
  obtain ⟨a, e0, rfl, wa⟩ := DataW.trod_int Tryd.underlying3 hy0
  obtain ⟨b, e1, rfl, wb⟩ := DataW.trod_int Tryd.underlying3 hy1
  simp at e0 e1
  subst e0 e1
  obtain ⟨c2, c3, y2, y3, m', rfl, rfl, rfl, hy2, hy3⟩ := Joins.open_agg2 Tryd.underlying23 (by kernel_rfl) (by kernel_rfl : Tryd.prog.cellsOf 23 = 2) (hval 1 23 v1 hp1 rfl) h1
  obtain ⟨c, e2, rfl, wc⟩ := DataW.trod_int Tryd.underlying3 hy2
  obtain ⟨d, e3, rfl, wd⟩ := DataW.trod_int Tryd.underlying3 hy3
  simp at e2 e3
  subst e2 e3
  obtain ⟨rfl, rfl⟩ := trodVars_none hV
  clear hA0 hval0
  refine (law_apart a b c d W (laid_of hL hsh)).mono fun e W' ⟨he, bel⟩ => ?_
  subst he
  refine ⟨_, rfl, _, _, _, [], [], [], hW', ?_, ?_, rfl, bel.frame _, fun h => by cases h⟩
  · exact trodAll_mk1 (shut_bool Tryd.underlying4 _)
  · rw [show Tryd.f5.params.toList = [23, 23] by kernel_rfl]
    exact trodAll_below (by kernel_rfl) bel (fun t ht => by
      simp only [List.mem_cons, List.mem_nil_iff, or_false, or_self] at ht
      subst ht
      exact ⟨by kernel_rfl, of_decide_eq_true (by kernel_rfl)⟩) hA
theorem holds5 : Rows.KeyApartSaid :=
  OpenClaim.holds_of_wide 5 Tryd.f5 rfl rfl rfl rfl rfl rfl rfl ⟨rfl, rfl, rfl, rfl, rfl⟩ rfl rfl rfl rfl rfl (by kernel_rfl) Tryd.func5 (by kernel_rfl)
    (of_decide_eq_true (by kernel_rfl)) (by unfold Func.isWrapper; first | (rw [if_pos (by decide +kernel)]; kernel_rfl) | (rw [if_neg (by decide +kernel)]; exact ⟨rfl, rfl⟩))
    (fun os started H enc _ => lifted5 os started H enc)
theorem card5 : Rows.KeyApartCardSaid :=
  Claim7.holds_tied_plain_at .later [] [.data, .data, .data, .sentinel, .sentinel] true (true, "4a09b34aac79786d2f3c1c905451588a2e6eaee5b3978303b346a9e6335a2bd9") true
    holds5 (fun _ h => by cases h) (by kernel_rfl) (fun _ h => by cases h) keyApart_row_tie rfl ⟨rfl, rfl⟩ (by kernel_rfl) rfl
    (fun f fn hf hfn => by
      obtain rfl : f = 5 := Option.some.inj ((show Tryd.prog.funcNamed "turnstile/turnstilelaw.KeyApart" = some 5 by kernel_rfl).symm.trans hf) |>.symm
      obtain rfl : fn = Tryd.f5 := (Option.some.inj (Tryd.func5.symm.trans hfn)).symm
      exact ⟨by kernel_rfl, fun j t ht => by
        rw [show Tryd.f5.params = #[23, 23] by kernel_rfl] at ht
        have h3 : t = 23 := by
          rcases j with _ | _ | j
          · simpa using ht.symm
          · simpa using ht.symm
          · simp at ht
        subst h3
        exact (show Tryd.prog.wantsStandIn 23 = false by kernel_rfl)⟩)
    (by kernel_rfl)
#print axioms card5
end Go.Proofs.YtpmamacjepcdmaaDoor
