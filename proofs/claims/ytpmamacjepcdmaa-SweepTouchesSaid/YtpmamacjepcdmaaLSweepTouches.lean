/- SweepTouches: a step of a Sweep or a List changes one slot at most, its own chain's begin and lock, and what is free; keys stay; a List changes no slot; no conditions. -/
import Derived.Test.YtpmamacjepcdmaaRows
import Derived.Test.YtpmamacjepcdmaaCSweepTouches
import Derived.Test.YtpmamacjepcdmaaSyLaw
import Derived.Test.YtpmamacjepcdmaaCHead
namespace Go.Proofs.Ytpmamacjepcdmaa
open Go Go.Sy Go.RowKit
set_option maxRecDepth 100000 in
theorem lifted26 (os : Os) (started : os.Started) (H : Type) (enc : TypeId × Value→H) :
  ReturnsInHanded {} Try.checked os 26 .any (Rows.sweepTouchesSpec.pre6 enc Try.prog Try.f26 Rows.sweepTouchesRow.domain false) (Rows.sweepTouchesSpec.post enc Try.prog Try.f26 false true false false) :=
 zE (C:=Try.checked) (f:=26) (fn:=Try.f26) (s:=Rows.sweepTouchesSpec) (n:=4) (t4:=4) (by kernel_rfl) started H enc (by kernel_rfl) Try.func26 (by kernel_rfl)
  (ChangeSpec.witness6 (enc:=enc) (C:=Try.checked) false ⟨#[],#[.agg #[.slice none 0 0,.slice none 0 0,.slice none 0 0,.slice none 0 0,.int .i64 0],.agg #[.int .i64 0,.int .i64 0,.int .i64 0,.int .i64 0,.int .i64 0,.int .i64 0,.int .i64 0,.int .i64 0,.int .i64 0,.int .i64 0,.int .i64 0,.slice none 0 0,.bool false,.int .i64 0],.int .i64 0,.bool false],[]⟩ 8 (by kernel_rfl) (by kernel_rfl) (by kernel_rfl) (by kernel_rfl))
  rfl rfl (fun ds h=>by
   match ds,h with
   | [_,_,_,_],_=>rfl) (by kernel_rfl) (by kernel_rfl) Try.underlying4 (of_decide_eq_true (by kernel_rfl)) (by kernel_rfl) ok26
theorem joined26 : joinedFacts Try.prog 26 Try.f26 Rows.sweepTouchesSpec Rows.sweepTouchesRow=true:=by
 simp only [joinedFacts,Bool.and_eq_true]
 repeat' apply And.intro
 all_goals first
  | with_reducible exact B1
  | (rw [xG];kernel_rfl)
  | (rw [Dw];kernel_rfl)
  | kernel_rfl
theorem said26 : Rows.SweepTouchesSaid :=
 OpenClaim.holds_of_wide 26 Try.f26 rfl rfl rfl rfl rfl rfl rfl ⟨rfl,rfl,rfl,rfl,rfl⟩ rfl rfl rfl rfl rfl (by kernel_rfl) Try.func26 joined26
  (of_decide_eq_true (by kernel_rfl)) (by unfold Func.isWrapper;first | (rw [if_pos (by decide +kernel)];kernel_rfl) | (rw [if_neg (by decide +kernel)];exact ⟨rfl,rfl⟩))
  (fun os started H enc _=>lifted26 os started H enc)
#print axioms said26
end Go.Proofs.Ytpmamacjepcdmaa
