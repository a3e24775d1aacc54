/- KeyBack: what is printed is read, and what is read is printed as it was; turned twice a key is itself; its chain is one there is. Condition: the listed variables of the library begin as its text lays them (the card ties them). -/
import Derived.Test.YtpmamacjepcdmaaDoorBack
import Derived.Test.YtpmamacjepcdmaaDoorTie
import Derived.Test.YtpmamacjepcdmaaDoorCards
import Derived.SevenTiedAt
import Derived.Lib.SmallJoins
namespace Go.Proofs.YtpmamacjepcdmaaDoor
open Go Go.Proofs Go.ChangeShapes Go.WideShapes Go.ChangeAt Go.RowKit
open Go.ChangeMaps (open_string shut_string)
theorem law_back (a b n : Int) (s : ByteArray) (hm : s.size ≤ 9223372036854775807) (w : World) (hl : Laid w) : Calls Tryd.prog 4 #[.agg #[.int .i64 a, .int .i64 b], .string s, .int .i64 n] w fun e w' => e = .returned (.bool true) ∧ Below w.heap.size w w' := by
  by_cases h : ∃ x y, parseKey s.data.toList = .ok x y
  · obtain ⟨x, y, h⟩ := h
    refine back_walk a b n x y s (bytes (keyText a b)) w hl ?_ (.inl ⟨parse_is s hm x y h, print_is s x y h⟩) (bucket_gives a b n)
    cases hk : keyIs a b with
    | true => exact .inl ⟨print_gives a b hk, parse_text a b hk⟩
    | false => exact .inr (print_no a b hk)
  · obtain ⟨c, c1, c2⟩ := parse_not s hm fun x y e => h ⟨x, y, e⟩
    refine back_walk a b n 0 0 s (bytes (keyText a b)) w hl ?_ (.inr ⟨c, c1, c2⟩) (bucket_gives a b n)
    cases hk : keyIs a b with
    | true => exact .inl ⟨print_gives a b hk, parse_text a b hk⟩
    | false => exact .inr (print_no a b hk)
set_option maxRecDepth 100000 in
theorem lifted4 (os : Os) (started : os.Started) (H : Type) (enc : TypeId × Value → H) :
    ReturnsInHanded {} Tryd.checked os 4 .any (fun w args => (Rows.keyBackSpec.pre enc Tryd.prog Tryd.f4 Rows.keyBackRow.domain false w args ∧ laidMet Tryd.prog five w) ∧ sizedMet enc Tryd.prog Tryd.f4 (OpenSpec.ofChange Rows.keyBackSpec) false w args)
      (Rows.keyBackSpec.post enc Tryd.prog Tryd.f4 false true false false) := by
  refine builder (C := Tryd.checked) (X := fun w _ => laidMet Tryd.prog five w) (fun _ _ _ hh h => h.of_heap hh) own started (by kernel_rfl) Tryd.func4
    (ChangeSpec.witness_at (enc := enc) (C := Tryd.checked) (os := os) (X := fun w _ => laidMet Tryd.prog five w) false (laidWorld os) #[.agg #[.int .i64 0, .int .i64 0], .string ⟨#[]⟩, .int .i64 0] 8 rfl (by kernel_rfl) (by kernel_rfl) (by kernel_rfl) (by kernel_rfl) (by kernel_rfl) (laidWorld_met os _)) ?_
  intro W base args ds gs before hval0 hW hL hsh
  have hval : ∀ (j : Nat) t v, Tryd.f4.params[j]? = some t → args[j]? = some v → Value.okWide Tryd.prog W .any base t v := hval0
  have hW' := hW
  obtain ⟨p, q, hA0, hV, rfl, _, _⟩ := hW
  have hA : DataW.TrodAll enc Tryd.prog W 0 (fun _ => true) true Tryd.f4.params.toList args.toList ds p := hA0
  rw [show Tryd.f4.params.toList = [23, 9, 3] by kernel_rfl] at hA
  obtain ⟨v0, v1, v2, d0, d1, d2, p0, p1, p2, rfl, rfl, rfl, h0, h1, h2⟩ := trodAll_three hA
  have hp0 : Tryd.f4.params[0]? = some 23 := by kernel_rfl
  have hp1 : Tryd.f4.params[1]? = some 9 := by kernel_rfl
  have hp2 : Tryd.f4.params[2]? = some 3 := by kernel_rfl
  obtain ⟨c0, c1, y0, y1, m, rfl, rfl, rfl, hy0, hy1⟩ := Joins.open_agg2 Tryd.underlying23 (by kernel_rfl) (by kernel_rfl : Tryd.prog.cellsOf 23 = 2) (hval 0 23 v0 hp0 rfl) h0
  obtain ⟨a, e0, rfl, wa⟩ := DataW.trod_int Tryd.underlying3 hy0
  obtain ⟨b, e1, rfl, wb⟩ := DataW.trod_int Tryd.underlying3 hy1
  simp at e0 e1
  subst e0 e1
  obtain ⟨s, rfl, rfl, rfl, hs⟩ := open_string Tryd.underlying9 (hval 1 9 v1 hp1 rfl) h1
  obtain ⟨n, rfl, rfl, rfl, wn⟩ := open_int Tryd.underlying3 (hval 2 3 v2 hp2 rfl) h2
  obtain ⟨rfl, rfl⟩ := trodVars_none hV
  clear hA0 hval0
  have hm : s.size ≤ 9223372036854775807 := hs
  refine (law_back a b n s hm W (laid_of hL hsh)).mono fun e W' ⟨he, bel⟩ => ?_
  subst he
  have e1 : Rows.keyBackSpec.fn H ([.agg [.lit (.int .i64 a), .lit (.int .i64 b)], .lit (.string s.data.toList), .lit (.int .i64 n)] ++ []) = { results := [.lit (.bool true)], args := [.agg [.lit (.int .i64 a), .lit (.int .i64 b)], .lit (.string s.data.toList), .lit (.int .i64 n)] } := rfl
  refine ⟨_, rfl, _, _, _, [], [], [], hW', ?_, ?_, rfl, bel.frame _, fun h => by cases h⟩
  · exact trodAll_mk1 (shut_bool Tryd.underlying4 _)
  · rw [show Tryd.f4.params.toList = [23, 9, 3] by kernel_rfl]
    exact trodAll_below (by kernel_rfl) bel (fun t ht => by
      simp only [List.mem_cons, List.mem_nil_iff, or_false] at ht
      rcases ht with rfl | rfl | rfl
      · exact ⟨by kernel_rfl, of_decide_eq_true (by kernel_rfl)⟩
      · exact ⟨by kernel_rfl, of_decide_eq_true (by kernel_rfl)⟩
      · exact ⟨by kernel_rfl, of_decide_eq_true (by kernel_rfl)⟩) hA
theorem holds4 : Rows.KeyBackSaid :=
  OpenClaim.holds_of_wide 4 Tryd.f4 rfl rfl rfl rfl rfl rfl rfl ⟨rfl, rfl, rfl, rfl, rfl⟩ rfl rfl rfl rfl rfl (by kernel_rfl) Tryd.func4 (by kernel_rfl)
    (of_decide_eq_true (by kernel_rfl)) (by unfold Func.isWrapper; first | (rw [if_pos (by decide +kernel)]; kernel_rfl) | (rw [if_neg (by decide +kernel)]; exact ⟨rfl, rfl⟩))
    (fun os started H enc _ => lifted4 os started H enc)
theorem card4 : Rows.KeyBackCardSaid :=
  Claim7.holds_tied_plain_at .later [] [.data, .data, .data, .sentinel, .sentinel] true (true, "4a09b34aac79786d2f3c1c905451588a2e6eaee5b3978303b346a9e6335a2bd9") true
    holds4 (fun _ h => by cases h) (by kernel_rfl) (fun _ h => by cases h) keyBack_row_tie rfl ⟨rfl, rfl⟩ (by kernel_rfl) rfl
    (fun f fn hf hfn => by
      obtain rfl : f = 4 := Option.some.inj ((show Tryd.prog.funcNamed "turnstile/turnstilelaw.KeyBack" = some 4 by kernel_rfl).symm.trans hf) |>.symm
      obtain rfl : fn = Tryd.f4 := (Option.some.inj (Tryd.func4.symm.trans hfn)).symm
      exact ⟨by kernel_rfl, fun j t ht => by
        rw [show Tryd.f4.params = #[23, 9, 3] by kernel_rfl] at ht
        have h3 : t = 23 ∨ t = 9 ∨ t = 3 := by
          rcases j with _ | _ | _ | j
          · exact .inl (by simpa using ht.symm)
          · exact .inr (.inl (by simpa using ht.symm))
          · exact .inr (.inr (by simpa using ht.symm))
          · simp at ht
        rcases h3 with rfl | rfl | rfl
        · exact (show Tryd.prog.wantsStandIn 23 = false by kernel_rfl)
        · exact (show Tryd.prog.wantsStandIn 9 = false by kernel_rfl)
        · exact (show Tryd.prog.wantsStandIn 3 = false by kernel_rfl)⟩)
    (by kernel_rfl)
#print axioms card4
end Go.Proofs.YtpmamacjepcdmaaDoor
