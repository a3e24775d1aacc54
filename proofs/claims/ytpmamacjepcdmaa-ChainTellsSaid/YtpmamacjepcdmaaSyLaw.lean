/- The row's step of a law whose function keeps the contract 'true, whatever comes in'. -/
import Derived.Test.YtpmamacjepcdmaaSyGlue
import Derived.ProofKit
namespace Go.Sy
open Go.RowKit Go.ChangeShapes Go.WideShapes

section
variable {H : Type} {enc : TypeId × Value → H} {P : Program} {W W' : World}

theorem trodAll_below (hl : laidOutB P = true) (hb : Below W.heap.size W W') : ∀ {ts : List TypeId} {vs : List Value} {ds : List (DataW H)} {ps : List MemPlace}, (∀ t ∈ ts, P.readableRec t = true ∧ t < P.types.size) →
    DataW.TrodAll enc P W 0 (fun _ => true) true ts vs ds ps → DataW.TrodAll enc P W' 0 (fun b => decide (b < W.heap.size)) true ts vs ds ps
  | [], [], [], _, _, h => h
  | t :: ts, v :: vs, d :: ds, ps, hr, ⟨p, q, h1, h2, e⟩ => by
    have hlt : ∀ x ∈ p, x.block < W.heap.size := by obtain ⟨m, hm⟩ := h1; exact DataW.trod_lt m _ _ _ hm
    exact ⟨p, q, Below.trod hl (hr t (by simp)).1 (hr t (by simp)).2 h1 hb hlt, trodAll_below hl hb (fun t' ht => hr t' (by simp [ht])) h2, e⟩
  | [], [], _ :: _, _, _, h => h.elim
  | [], _ :: _, _, _, _, h => h.elim
  | _ :: _, [], _, _, _, h => h.elim
  | _ :: _, _ :: _, [], _, _, h => h.elim

theorem trodAll_length : ∀ {ts : List TypeId} {vs : List Value} {ds : List (DataW H)} {ps : List MemPlace} {sp : Nat → Bool}, DataW.TrodAll enc P W 0 sp true ts vs ds ps → ds.length = ts.length
  | [], [], [], _, _, _ => rfl
  | _ :: _, _ :: _, _ :: _, _, _, ⟨_, _, _, h2, _⟩ => by simp [trodAll_length h2]
  | [], [], _ :: _, _, _, h => h.elim
  | [], _ :: _, _, _, _, h => h.elim
  | _ :: _, [], _, _, _, h => h.elim
  | _ :: _, _ :: _, [], _, _, h => h.elim
end

theorem law_lifted {C : Checked} {os : Os} {f : FuncId} {fn : Func} {s : ChangeSpec} {conds : List PathCond} {as : List AK} {t4 : TypeId} {n : Nat} (own : ownKnob C.prog.godebug = none) (started : os.Started) (H : Type) (enc : TypeId × Value → H)
    (noInit : C.prog.inits.idxOf? f = none) (hfn : C.prog.funcs[f]? = some fn) (hlaid : laidOutB C.prog = true)
    (witness : ∃ (w : World) (tape : Tape) (i : Input), w.os = os ∧ (w.forCall tape i).Shaped C.prog ∧ i.vars = [] ∧ Input.okWide C.prog (w.forCall tape i) .any w.heap.size f i ∧
      s.pre6 enc C.prog fn conds false (w.forCall tape i).memory i.args ∧ ({} : Assume).holds C.prog (lone (Frame.enter C.prog f i.args .normal) [] (w.forCall tape i)))
    (hvars : s.vars = []) (hvt : s.plain.varTypes C.prog = []) (hs : ∀ ds : List (DataW H), ds.length = n → s.fn H ds = { results := [.lit (.bool true)], args := ds })
    (hn : fn.params.toList.length = n) (hres : fn.resultTypes = #[t4]) (h4 : C.prog.underlying t4 = some .bool) (hr : ∀ t ∈ fn.params.toList, C.prog.readableRec t = true ∧ t < C.prog.types.size)
    (hc : aksChk C.prog fn.params.toList as = true) (ok : CtOk C.prog f ⟨⟨as, [.one .bool]⟩, fun _ => True, fun _ o => o = [.b true]⟩) :
    ReturnsInHanded {} C os f .any (s.pre6 enc C.prog fn conds false) (s.post enc C.prog fn false true false false) := by
  refine returnsInHanded_of_change_sized own started noInit hfn witness ?_
  intro W base args ds gs before hval hW _ hsz _
  have hW' := hW
  obtain ⟨p, q, hA, hV, rfl, hfz, hnd⟩ := hW
  rw [hvars] at hV
  obtain ⟨rfl, rfl⟩ := trodVars_none hV
  rw [hvt, List.append_nil, List.append_nil] at hsz
  have := law_calls ok hc (fun j t v h1 h2 => hval j t v (by simpa using h1) (by simpa using h2)) hA (fun m hm => by simpa using List.all_eq_true.1 hsz m hm)
  rw [Array.toArray_toList] at this
  refine this.mono fun e W' ⟨he, bel⟩ => ?_
  subst he
  have e := hs (ds ++ []) (by rw [List.append_nil, trodAll_length hA, hn])
  simp only [List.append_nil] at hW' e
  refine ⟨_, rfl, ds, [], p, [], p, [], by simpa using hW', ?_, ?_, ?_, bel.frame _, fun h => by cases h⟩
  · rw [List.append_nil, e, hres]
    exact trodAll_mk1 (shut_bool h4 _)
  · rw [List.append_nil, e]
    exact trodAll_below hlaid bel hr hA
  · rw [hvars, List.append_nil, e]
    rfl
end Go.Sy
