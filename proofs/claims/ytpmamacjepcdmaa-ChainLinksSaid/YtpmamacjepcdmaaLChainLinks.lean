/- ChainLinks: any slot is linked, and any key's cut out, as the document says, errors too; no conditions. -/
import Derived.Test.YtpmamacjepcdmaaRows
import Derived.Test.YtpmamacjepcdmaaCChainLinks
import Derived.Test.YtpmamacjepcdmaaSyLaw
import Derived.Test.YtpmamacjepcdmaaCHead
namespace Go.Proofs.Ytpmamacjepcdmaa
open Go Go.Sy Go.RowKit
set_option maxRecDepth 100000 in
theorem lifted13 (os : Os) (started : os.Started) (H : Type) (enc : TypeId × Value→H) :
  ReturnsInHanded {} Try.checked os 13 .any (Rows.chainLinksSpec.pre6 enc Try.prog Try.f13 Rows.chainLinksRow.domain false) (Rows.chainLinksSpec.post enc Try.prog Try.f13 false true false false) :=
 zE (C:=Try.checked) (f:=13) (fn:=Try.f13) (s:=Rows.chainLinksSpec) (n:=3) (t4:=4) (by kernel_rfl) started H enc (by kernel_rfl) Try.func13 (by kernel_rfl)
  (ChangeSpec.witness6 (enc:=enc) (C:=Try.checked) false ⟨#[],#[.agg #[.slice none 0 0,.slice none 0 0,.slice none 0 0,.slice none 0 0,.int .i64 0],.int .i64 0,.agg #[.int .i64 0,.int .i64 0]],[]⟩ 8 (by kernel_rfl) (by kernel_rfl) (by kernel_rfl) (by kernel_rfl))
  rfl rfl (fun ds h=>by
   match ds,h with
   | [_,_,_],_=>rfl) (by kernel_rfl) (by kernel_rfl) Try.underlying4 (of_decide_eq_true (by kernel_rfl)) (by kernel_rfl) ok13
theorem joined13 : joinedFacts Try.prog 13 Try.f13 Rows.chainLinksSpec Rows.chainLinksRow=true:=by
 simp only [joinedFacts,Bool.and_eq_true]
 repeat' apply And.intro
 all_goals first
  | with_reducible exact B1
  | (rw [xG];kernel_rfl)
  | (rw [Dw];kernel_rfl)
  | kernel_rfl
theorem said13 : Rows.ChainLinksSaid :=
 OpenClaim.holds_of_wide 13 Try.f13 rfl rfl rfl rfl rfl rfl rfl ⟨rfl,rfl,rfl,rfl,rfl⟩ rfl rfl rfl rfl rfl (by kernel_rfl) Try.func13 joined13
  (of_decide_eq_true (by kernel_rfl)) (by unfold Func.isWrapper;first | (rw [if_pos (by decide +kernel)];kernel_rfl) | (rw [if_neg (by decide +kernel)];exact ⟨rfl,rfl⟩))
  (fun os started H enc _=>lifted13 os started H enc)
#print axioms said13
end Go.Proofs.Ytpmamacjepcdmaa
