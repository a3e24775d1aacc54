/- AddAlone: where nobody else goes on, and no lock is had, an Add is done in two steps a slot and seven: it maps its key, if that isn't mapped, and a slot is free; else all is as it was, but for which slot is free last, and what that had; no conditions. -/
import Derived.Test.YtpmamacjepcdmaaRows
import Derived.Test.YtpmamacjepcdmaaCAddAlone
import Derived.Test.YtpmamacjepcdmaaSyLaw
import Derived.Test.YtpmamacjepcdmaaCHead
namespace Go.Proofs.Ytpmamacjepcdmaa
open Go Go.Sy Go.RowKit
set_option maxRecDepth 100000 in
theorem lifted23 (os : Os) (started : os.Started) (H : Type) (enc : TypeId × Value→H) :
  ReturnsInHanded {} Try.checked os 23 .any (Rows.addAloneSpec.pre6 enc Try.prog Try.f23 Rows.addAloneRow.domain false) (Rows.addAloneSpec.post enc Try.prog Try.f23 false true false false) :=
 zE (C:=Try.checked) (f:=23) (fn:=Try.f23) (s:=Rows.addAloneSpec) (n:=3) (t4:=4) (by kernel_rfl) started H enc (by kernel_rfl) Try.func23 (by kernel_rfl)
  (ChangeSpec.witness6 (enc:=enc) (C:=Try.checked) false ⟨#[],#[.agg #[.slice none 0 0,.slice none 0 0,.slice none 0 0,.slice none 0 0,.int .i64 0],.agg #[.int .i64 0,.int .i64 0],.int .i64 0],[]⟩ 8 (by kernel_rfl) (by kernel_rfl) (by kernel_rfl) (by kernel_rfl))
  rfl rfl (fun ds h=>by
   match ds,h with
   | [_,_,_],_=>rfl) (by kernel_rfl) (by kernel_rfl) Try.underlying4 (of_decide_eq_true (by kernel_rfl)) (by kernel_rfl) ok23
theorem joined23 : joinedFacts Try.prog 23 Try.f23 Rows.addAloneSpec Rows.addAloneRow=true:=by
 simp only [joinedFacts,Bool.and_eq_true]
 repeat' apply And.intro
 all_goals first
  | with_reducible exact B1
  | (rw [xG];kernel_rfl)
  | (rw [Dw];kernel_rfl)
  | kernel_rfl
theorem said23 : Rows.AddAloneSaid :=
 OpenClaim.holds_of_wide 23 Try.f23 rfl rfl rfl rfl rfl rfl rfl ⟨rfl,rfl,rfl,rfl,rfl⟩ rfl rfl rfl rfl rfl (by kernel_rfl) Try.func23 joined23
  (of_decide_eq_true (by kernel_rfl)) (by unfold Func.isWrapper;first | (rw [if_pos (by decide +kernel)];kernel_rfl) | (rw [if_neg (by decide +kernel)];exact ⟨rfl,rfl⟩))
  (fun os started H enc _=>lifted23 os started H enc)
#print axioms said23
end Go.Proofs.Ytpmamacjepcdmaa
