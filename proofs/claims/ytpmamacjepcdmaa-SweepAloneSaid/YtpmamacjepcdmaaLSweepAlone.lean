/- SweepAlone: where nobody else goes on, and no lock is had, a Sweep leaves just what isn't over in its chain, and all other chains; a List tells its chain's keys, and changes nothing; no conditions. -/
import Derived.Test.YtpmamacjepcdmaaRows
import Derived.Test.YtpmamacjepcdmaaCSweepAlone
import Derived.Test.YtpmamacjepcdmaaSyLaw
import Derived.Test.YtpmamacjepcdmaaCHead
namespace Go.Proofs.Ytpmamacjepcdmaa
open Go Go.Sy Go.RowKit
set_option maxRecDepth 100000 in
theorem lifted27 (os : Os) (started : os.Started) (H : Type) (enc : TypeId × Value→H) :
  ReturnsInHanded {} Try.checked os 27 .any (Rows.sweepAloneSpec.pre6 enc Try.prog Try.f27 Rows.sweepAloneRow.domain false) (Rows.sweepAloneSpec.post enc Try.prog Try.f27 false true false false) :=
 zE (C:=Try.checked) (f:=27) (fn:=Try.f27) (s:=Rows.sweepAloneSpec) (n:=2) (t4:=4) (by kernel_rfl) started H enc (by kernel_rfl) Try.func27 (by kernel_rfl)
  (ChangeSpec.witness6 (enc:=enc) (C:=Try.checked) false ⟨#[],#[.agg #[.slice none 0 0,.slice none 0 0,.slice none 0 0,.slice none 0 0,.int .i64 0],.int .i64 0],[]⟩ 8 (by kernel_rfl) (by kernel_rfl) (by kernel_rfl) (by kernel_rfl))
  rfl rfl (fun ds h=>by
   match ds,h with
   | [_,_],_=>rfl) (by kernel_rfl) (by kernel_rfl) Try.underlying4 (of_decide_eq_true (by kernel_rfl)) (by kernel_rfl) ok27
theorem joined27 : joinedFacts Try.prog 27 Try.f27 Rows.sweepAloneSpec Rows.sweepAloneRow=true:=by
 simp only [joinedFacts,Bool.and_eq_true]
 repeat' apply And.intro
 all_goals first
  | with_reducible exact B1
  | (rw [xG];kernel_rfl)
  | (rw [Dw];kernel_rfl)
  | kernel_rfl
theorem said27 : Rows.SweepAloneSaid :=
 OpenClaim.holds_of_wide 27 Try.f27 rfl rfl rfl rfl rfl rfl rfl ⟨rfl,rfl,rfl,rfl,rfl⟩ rfl rfl rfl rfl rfl (by kernel_rfl) Try.func27 joined27
  (of_decide_eq_true (by kernel_rfl)) (by unfold Func.isWrapper;first | (rw [if_pos (by decide +kernel)];kernel_rfl) | (rw [if_neg (by decide +kernel)];exact ⟨rfl,rfl⟩))
  (fun os started H enc _=>lifted27 os started H enc)
#print axioms said27
end Go.Proofs.Ytpmamacjepcdmaa
