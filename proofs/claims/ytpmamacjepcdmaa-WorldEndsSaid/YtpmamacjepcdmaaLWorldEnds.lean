/- WorldEnds: whatever was picked, tasks that go on, each in turn, come to an end; then nobody has a lock; no conditions. -/
import Derived.Test.YtpmamacjepcdmaaRows
import Derived.Test.YtpmamacjepcdmaaCWorldEnds
import Derived.Test.YtpmamacjepcdmaaSyLaw
import Derived.Test.YtpmamacjepcdmaaCHead
namespace Go.Proofs.Ytpmamacjepcdmaa
open Go Go.Sy Go.RowKit
set_option maxRecDepth 100000 in
theorem lifted31 (os : Os) (started : os.Started) (H : Type) (enc : TypeId × Value→H) :
  ReturnsInHanded {} Try.checked os 31 .any (Rows.worldEndsSpec.pre6 enc Try.prog Try.f31 Rows.worldEndsRow.domain false) (Rows.worldEndsSpec.post enc Try.prog Try.f31 false true false false) :=
 zE (C:=Try.checked) (f:=31) (fn:=Try.f31) (s:=Rows.worldEndsSpec) (n:=4) (t4:=4) (by kernel_rfl) started H enc (by kernel_rfl) Try.func31 (by kernel_rfl)
  (ChangeSpec.witness6 (enc:=enc) (C:=Try.checked) false ⟨#[],#[.int .i64 0,.int .i64 0,.int .i64 0,.slice none 0 0],[]⟩ 8 (by kernel_rfl) (by kernel_rfl) (by kernel_rfl) (by kernel_rfl))
  rfl rfl (fun ds h=>by
   match ds,h with
   | [_,_,_,_],_=>rfl) (by kernel_rfl) (by kernel_rfl) Try.underlying4 (of_decide_eq_true (by kernel_rfl)) (by kernel_rfl) ok31
theorem joined31 : joinedFacts Try.prog 31 Try.f31 Rows.worldEndsSpec Rows.worldEndsRow=true:=by
 simp only [joinedFacts,Bool.and_eq_true]
 repeat' apply And.intro
 all_goals first
  | with_reducible exact B1
  | (rw [xG];kernel_rfl)
  | (rw [Dw];kernel_rfl)
  | kernel_rfl
theorem said31 : Rows.WorldEndsSaid :=
 OpenClaim.holds_of_wide 31 Try.f31 rfl rfl rfl rfl rfl rfl rfl ⟨rfl,rfl,rfl,rfl,rfl⟩ rfl rfl rfl rfl rfl (by kernel_rfl) Try.func31 joined31
  (of_decide_eq_true (by kernel_rfl)) (by unfold Func.isWrapper;first | (rw [if_pos (by decide +kernel)];kernel_rfl) | (rw [if_neg (by decide +kernel)];exact ⟨rfl,rfl⟩))
  (fun os started H enc _=>lifted31 os started H enc)
#print axioms said31
end Go.Proofs.Ytpmamacjepcdmaa
