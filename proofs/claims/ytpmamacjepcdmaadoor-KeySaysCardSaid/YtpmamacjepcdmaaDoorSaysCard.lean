/- KeySays: what the package says of a key, its text and its chain is what the document says of them. Condition: the listed variables of the library begin as its text lays them (the card ties them). -/
import Derived.Test.YtpmamacjepcdmaaDoorSaysD
import Derived.Test.YtpmamacjepcdmaaDoorTie
import Derived.Test.YtpmamacjepcdmaaDoorCards
import Derived.SevenTiedAt
import Derived.Lib.SmallJoins
namespace Go.Proofs.YtpmamacjepcdmaaDoor
open Go Go.Proofs Go.ChangeShapes Go.WideShapes Go.ChangeAt Go.RowKit
open Go.ChangeMaps (open_string shut_string)
def seven : List (String × DataW Unit) := [("math/bits.deBruijn32tab", Rows.laid_math_bits_deBruijn32tab), ("math/bits.deBruijn64tab", Rows.laid_math_bits_deBruijn64tab), ("internal/strconv.uint64pow10", Rows.laid_internal_strconv_uint64pow10), ("unicode/utf8.acceptRanges", Rows.laid_unicode_utf8_acceptRanges), ("strconv.ErrRange", Rows.laid_strconv_ErrRange), ("strconv.ErrSyntax", Rows.laid_strconv_ErrSyntax), ("unicode/utf8.first", Rows.laid_unicode_utf8_first)]
theorem laid_of7 {W : World} (hL : laidMet Tryd.prog seven W) (hsh : W.ShapedOpen Tryd.prog) : Laid W := by
  have h3 := hL.tail.tail
  have h2 := h3.tail.tail
  obtain ⟨a2, t2, hv2, _, _, _⟩ := laid_sentinel (g := 2) h2 (by kernel_rfl) (by kernel_rfl) Tryd.underlying46 row93 Tryd.underlying93 Tryd.underlying95 rfl rfl Tryd.underlying9 (by kernel_rfl) (by kernel_rfl)
  obtain ⟨a1, t1, hv1, _, _, _⟩ := laid_sentinel (g := 1) h2.tail (by kernel_rfl) (by kernel_rfl) Tryd.underlying46 row93 Tryd.underlying93 Tryd.underlying95 rfl rfl Tryd.underlying9 (by kernel_rfl) (by kernel_rfl)
  refine ⟨⟨_, _, by have h0 := World.var?_cell (g := 1) (by kernel_rfl) hv1 0; simpa using h0⟩, ⟨_, _, by have h0 := World.var?_cell (g := 2) (by kernel_rfl) hv2 0; simpa using h0⟩, ?_, ?_⟩
  · have h3' : laidMet Tryd.prog (("internal/strconv.uint64pow10", Lib.tabData .u64 Lib.pow10Tab) :: [("unicode/utf8.acceptRanges", Rows.laid_unicode_utf8_acceptRanges), ("strconv.ErrRange", Rows.laid_strconv_ErrRange), ("strconv.ErrSyntax", Rows.laid_strconv_ErrSyntax), ("unicode/utf8.first", Rows.laid_unicode_utf8_first)]) W := by
      rw [← pow10_data]; exact h3
    exact Lib.tabIs_of_head (g := 3) (t := 85) (e := 64) (n := 20) (by kernel_rfl) (by kernel_rfl) Tryd.underlying85 Tryd.underlying64 (by kernel_rfl) (by kernel_rfl) h3'
  · exact Tryd.laysM145.s1_3 W hsh
def numV : DataW Unit → Value
  | .lit (.int k v) => .int k v
  | _ => undef
def flatOf : DataW Unit → Array Value
  | .agg l => (l.flatMap fun | .agg m => m.map numV | d => [numV d]).toArray
  | _ => #[]
noncomputable def laidWorld7 (os : Os) : World :=
  let w0 := World.holding Tryd.prog os ⟨#[.cells #[.string synS] 95, .cells #[.string rngS] 95], #[], []⟩
  { w0 with heap := putG (putG (putG (putG (putG (putG (putG w0.heap 1 #[.iface 93 (.pointer (some ⟨low, 0, none⟩))]) 2 #[.iface 93 (.pointer (some ⟨low + 1, 0, none⟩))]) 3 (valsOf Rows.laid_internal_strconv_uint64pow10)) 4 (flatOf Rows.laid_unicode_utf8_first)) 5 (flatOf Rows.laid_unicode_utf8_acceptRanges)) 6 (valsOf Rows.laid_math_bits_deBruijn32tab)) 7 (valsOf Rows.laid_math_bits_deBruijn64tab) }
set_option maxRecDepth 1000000 in
theorem laidWorld7_met (os : Os) (args : Array Value) : laidMet Tryd.prog seven ((laidWorld7 os).forCall (fun _ _ => 0) ⟨#[], args, []⟩).memory :=
  laidMet_of_run' 8 (by kernel_rfl) (by kernel_rfl)
set_option maxRecDepth 100000 in
theorem lifted3 (os : Os) (started : os.Started) (H : Type) (enc : TypeId × Value → H) :
    ReturnsInHanded {} Tryd.checked os 3 .any (fun w args => (Rows.keySaysSpec.pre enc Tryd.prog Tryd.f3 Rows.keySaysRow.domain false w args ∧ laidMet Tryd.prog seven w) ∧ sizedMet enc Tryd.prog Tryd.f3 (OpenSpec.ofChange Rows.keySaysSpec) false w args)
      (Rows.keySaysSpec.post enc Tryd.prog Tryd.f3 false true false false) := by
  refine builder (C := Tryd.checked) (X := fun w _ => laidMet Tryd.prog seven w) (fun _ _ _ hh h => h.of_heap hh) own started (by kernel_rfl) Tryd.func3
    (ChangeSpec.witness_at (enc := enc) (C := Tryd.checked) (os := os) (X := fun w _ => laidMet Tryd.prog seven w) false (laidWorld7 os) #[.agg #[.int .i64 0, .int .i64 0], .int .i64 0, .string ⟨#[]⟩] 8 rfl (by kernel_rfl) (by kernel_rfl) (by kernel_rfl) (by kernel_rfl) (by kernel_rfl) (laidWorld7_met os _)) ?_
  intro W base args ds gs before hval0 hW hL hsh
  have hval : ∀ (j : Nat) t v, Tryd.f3.params[j]? = some t → args[j]? = some v → Value.okWide Tryd.prog W .any base t v := hval0
  have hW' := hW
  obtain ⟨p, q, hA0, hV, rfl, _, _⟩ := hW
  have hA : DataW.TrodAll enc Tryd.prog W 0 (fun _ => true) true Tryd.f3.params.toList args.toList ds p := hA0
  rw [show Tryd.f3.params.toList = [23, 3, 9] by kernel_rfl] at hA
  obtain ⟨v0, v1, v2, d0, d1, d2, p0, p1, p2, rfl, rfl, rfl, h0, h1, h2⟩ := trodAll_three hA
  have hp0 : Tryd.f3.params[0]? = some 23 := by kernel_rfl
  have hp1 : Tryd.f3.params[1]? = some 3 := by kernel_rfl
  have hp2 : Tryd.f3.params[2]? = some 9 := by kernel_rfl
  obtain ⟨c0, c1, y0, y1, m, rfl, rfl, rfl, hy0, hy1⟩ := Joins.open_agg2 Tryd.underlying23 (by kernel_rfl) (by kernel_rfl : Tryd.prog.cellsOf 23 = 2) (hval 0 23 v0 hp0 rfl) h0
  obtain ⟨a, e0, rfl, wa⟩ := DataW.trod_int Tryd.underlying3 hy0
  obtain ⟨b, e1, rfl, wb⟩ := DataW.trod_int Tryd.underlying3 hy1
  simp at e0 e1
  subst e0 e1
  obtain ⟨n, rfl, rfl, rfl, wn⟩ := open_int Tryd.underlying3 (hval 1 3 v1 hp1 rfl) h1
  obtain ⟨s, rfl, rfl, rfl, hs⟩ := open_string Tryd.underlying9 (hval 2 9 v2 hp2 rfl) h2
  obtain ⟨rfl, rfl⟩ := trodVars_none hV
  clear hA0 hval0
  have hm : s.size ≤ 9223372036854775807 := hs
  refine (says_walk a b n s hm W (laid_of7 hL hsh)).mono fun e W' ⟨he, bel⟩ => ?_
  subst he
  have e1 : Rows.keySaysSpec.fn H ([.agg [.lit (.int .i64 a), .lit (.int .i64 b)], .lit (.int .i64 n), .lit (.string s.data.toList)] ++ []) = { results := [.lit (.bool true)], args := [.agg [.lit (.int .i64 a), .lit (.int .i64 b)], .lit (.int .i64 n), .lit (.string s.data.toList)] } := rfl
  refine ⟨_, rfl, _, _, _, [], [], [], hW', ?_, ?_, rfl, bel.frame _, fun h => by cases h⟩
  · exact trodAll_mk1 (shut_bool Tryd.underlying4 _)
  · rw [show Tryd.f3.params.toList = [23, 3, 9] by kernel_rfl]
    exact trodAll_below (by kernel_rfl) bel (fun t ht => by
      simp only [List.mem_cons, List.mem_nil_iff, or_false] at ht
      rcases ht with rfl | rfl | rfl
      · exact ⟨by kernel_rfl, of_decide_eq_true (by kernel_rfl)⟩
      · exact ⟨by kernel_rfl, of_decide_eq_true (by kernel_rfl)⟩
      · exact ⟨by kernel_rfl, of_decide_eq_true (by kernel_rfl)⟩) hA
theorem holds3 : Rows.KeySaysSaid :=
  OpenClaim.holds_of_wide 3 Tryd.f3 rfl rfl rfl rfl rfl rfl rfl ⟨rfl, rfl, rfl, rfl, rfl⟩ rfl rfl rfl rfl rfl (by kernel_rfl) Tryd.func3 (by kernel_rfl)
    (of_decide_eq_true (by kernel_rfl)) (by unfold Func.isWrapper; first | (rw [if_pos (by decide +kernel)]; kernel_rfl) | (rw [if_neg (by decide +kernel)]; exact ⟨rfl, rfl⟩))
    (fun os started H enc _ => lifted3 os started H enc)
theorem card3 : Rows.KeySaysCardSaid :=
  Claim7.holds_tied_plain_at .later [] [.data, .data, .data, .data, .sentinel, .sentinel, .pinned] true (true, "4a09b34aac79786d2f3c1c905451588a2e6eaee5b3978303b346a9e6335a2bd9") true
    holds3 (fun _ h => by cases h) (by kernel_rfl) (fun _ h => by cases h) keySays_row_tie rfl ⟨rfl, rfl⟩ (by kernel_rfl) rfl
    (fun f fn hf hfn => by
      obtain rfl : f = 3 := Option.some.inj ((show Tryd.prog.funcNamed "turnstile/turnstilelaw.KeySays" = some 3 by kernel_rfl).symm.trans hf) |>.symm
      obtain rfl : fn = Tryd.f3 := (Option.some.inj (Tryd.func3.symm.trans hfn)).symm
      exact ⟨by kernel_rfl, fun j t ht => by
        rw [show Tryd.f3.params = #[23, 3, 9] by kernel_rfl] at ht
        have h3 : t = 23 ∨ t = 3 ∨ t = 9 := by
          rcases j with _ | _ | _ | j
          · exact .inl (by simpa using ht.symm)
          · exact .inr (.inl (by simpa using ht.symm))
          · exact .inr (.inr (by simpa using ht.symm))
          · simp at ht
        rcases h3 with rfl | rfl | rfl
        · exact (show Tryd.prog.wantsStandIn 23 = false by kernel_rfl)
        · exact (show Tryd.prog.wantsStandIn 3 = false by kernel_rfl)
        · exact (show Tryd.prog.wantsStandIn 9 = false by kernel_rfl)⟩)
    (by kernel_rfl)
#print axioms card3
end Go.Proofs.YtpmamacjepcdmaaDoor
