/- ChainTells: the slots of any chain of any memory, whether chains are right, and what is mapped, is told as the document says, errors too; no conditions. -/
import Derived.Test.YtpmamacjepcdmaaRows
import Derived.Test.YtpmamacjepcdmaaCChainTells
import Derived.Test.YtpmamacjepcdmaaSyLaw
import Derived.Test.YtpmamacjepcdmaaCHead
namespace Go.Proofs.Ytpmamacjepcdmaa
open Go Go.Sy Go.RowKit
set_option maxRecDepth 100000 in
theorem lifted11 (os : Os) (started : os.Started) (H : Type) (enc : TypeId × Value→H) :
  ReturnsInHanded {} Try.checked os 11 .any (Rows.chainTellsSpec.pre6 enc Try.prog Try.f11 Rows.chainTellsRow.domain false) (Rows.chainTellsSpec.post enc Try.prog Try.f11 false true false false) :=
 zE (C:=Try.checked) (f:=11) (fn:=Try.f11) (s:=Rows.chainTellsSpec) (n:=2) (t4:=4) (by kernel_rfl) started H enc (by kernel_rfl) Try.func11 (by kernel_rfl)
  (ChangeSpec.witness6 (enc:=enc) (C:=Try.checked) false ⟨#[],#[.agg #[.slice none 0 0,.slice none 0 0,.slice none 0 0,.slice none 0 0,.int .i64 0],.int .i64 0],[]⟩ 8 (by kernel_rfl) (by kernel_rfl) (by kernel_rfl) (by kernel_rfl))
  rfl rfl (fun ds h=>by
   match ds,h with
   | [_,_],_=>rfl) (by kernel_rfl) (by kernel_rfl) Try.underlying4 (of_decide_eq_true (by kernel_rfl)) (by kernel_rfl) ok11
theorem joined11 : joinedFacts Try.prog 11 Try.f11 Rows.chainTellsSpec Rows.chainTellsRow=true:=by
 simp only [joinedFacts,Bool.and_eq_true]
 repeat' apply And.intro
 all_goals first
  | with_reducible exact B1
  | (rw [xG];kernel_rfl)
  | (rw [Dw];kernel_rfl)
  | kernel_rfl
theorem said11 : Rows.ChainTellsSaid :=
 OpenClaim.holds_of_wide 11 Try.f11 rfl rfl rfl rfl rfl rfl rfl ⟨rfl,rfl,rfl,rfl,rfl⟩ rfl rfl rfl rfl rfl (by kernel_rfl) Try.func11 joined11
  (of_decide_eq_true (by kernel_rfl)) (by unfold Func.isWrapper;first | (rw [if_pos (by decide +kernel)];kernel_rfl) | (rw [if_neg (by decide +kernel)];exact ⟨rfl,rfl⟩))
  (fun os started H enc _=>lifted11 os started H enc)
#print axioms said11
end Go.Proofs.Ytpmamacjepcdmaa
