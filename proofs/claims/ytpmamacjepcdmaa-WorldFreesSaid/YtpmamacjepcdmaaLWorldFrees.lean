/- WorldFrees: where all calls are over, all that was found is left, and all that is mapped dropped, each slot is free; no conditions. -/
import Derived.Test.YtpmamacjepcdmaaRows
import Derived.Test.YtpmamacjepcdmaaCWorldFrees
import Derived.Test.YtpmamacjepcdmaaSyLaw
import Derived.Test.YtpmamacjepcdmaaCHead
namespace Go.Proofs.Ytpmamacjepcdmaa
open Go Go.Sy Go.RowKit
set_option maxRecDepth 100000 in
theorem lifted32 (os : Os) (started : os.Started) (H : Type) (enc : TypeId × Value→H) :
  ReturnsInHanded {} Try.checked os 32 .any (Rows.worldFreesSpec.pre6 enc Try.prog Try.f32 Rows.worldFreesRow.domain false) (Rows.worldFreesSpec.post enc Try.prog Try.f32 false true false false) :=
 zE (C:=Try.checked) (f:=32) (fn:=Try.f32) (s:=Rows.worldFreesSpec) (n:=4) (t4:=4) (by kernel_rfl) started H enc (by kernel_rfl) Try.func32 (by kernel_rfl)
  (ChangeSpec.witness6 (enc:=enc) (C:=Try.checked) false ⟨#[],#[.int .i64 0,.int .i64 0,.int .i64 0,.slice none 0 0],[]⟩ 8 (by kernel_rfl) (by kernel_rfl) (by kernel_rfl) (by kernel_rfl))
  rfl rfl (fun ds h=>by
   match ds,h with
   | [_,_,_,_],_=>rfl) (by kernel_rfl) (by kernel_rfl) Try.underlying4 (of_decide_eq_true (by kernel_rfl)) (by kernel_rfl) ok32
theorem joined32 : joinedFacts Try.prog 32 Try.f32 Rows.worldFreesSpec Rows.worldFreesRow=true:=by
 simp only [joinedFacts,Bool.and_eq_true]
 repeat' apply And.intro
 all_goals first
  | with_reducible exact B1
  | (rw [xG];kernel_rfl)
  | (rw [Dw];kernel_rfl)
  | kernel_rfl
theorem said32 : Rows.WorldFreesSaid :=
 OpenClaim.holds_of_wide 32 Try.f32 rfl rfl rfl rfl rfl rfl rfl ⟨rfl,rfl,rfl,rfl,rfl⟩ rfl rfl rfl rfl rfl (by kernel_rfl) Try.func32 joined32
  (of_decide_eq_true (by kernel_rfl)) (by unfold Func.isWrapper;first | (rw [if_pos (by decide +kernel)];kernel_rfl) | (rw [if_neg (by decide +kernel)];exact ⟨rfl,rfl⟩))
  (fun os started H enc _=>lifted32 os started H enc)
#print axioms said32
end Go.Proofs.Ytpmamacjepcdmaa
