/- WorldLocks: who has a lock is busy with a call of that chain that is not a Look, and has one alone; no conditions. -/
import Derived.Test.YtpmamacjepcdmaaRows
import Derived.Test.YtpmamacjepcdmaaCWorldLocks
import Derived.Test.YtpmamacjepcdmaaSyLaw
import Derived.Test.YtpmamacjepcdmaaCHead
namespace Go.Proofs.Ytpmamacjepcdmaa
open Go Go.Sy Go.RowKit
set_option maxRecDepth 100000 in
theorem lifted30 (os : Os) (started : os.Started) (H : Type) (enc : TypeId × Value→H) :
  ReturnsInHanded {} Try.checked os 30 .any (Rows.worldLocksSpec.pre6 enc Try.prog Try.f30 Rows.worldLocksRow.domain false) (Rows.worldLocksSpec.post enc Try.prog Try.f30 false true false false) :=
 zE (C:=Try.checked) (f:=30) (fn:=Try.f30) (s:=Rows.worldLocksSpec) (n:=4) (t4:=4) (by kernel_rfl) started H enc (by kernel_rfl) Try.func30 (by kernel_rfl)
  (ChangeSpec.witness6 (enc:=enc) (C:=Try.checked) false ⟨#[],#[.int .i64 0,.int .i64 0,.int .i64 0,.slice none 0 0],[]⟩ 8 (by kernel_rfl) (by kernel_rfl) (by kernel_rfl) (by kernel_rfl))
  rfl rfl (fun ds h=>by
   match ds,h with
   | [_,_,_,_],_=>rfl) (by kernel_rfl) (by kernel_rfl) Try.underlying4 (of_decide_eq_true (by kernel_rfl)) (by kernel_rfl) ok30
theorem joined30 : joinedFacts Try.prog 30 Try.f30 Rows.worldLocksSpec Rows.worldLocksRow=true:=by
 simp only [joinedFacts,Bool.and_eq_true]
 repeat' apply And.intro
 all_goals first
  | with_reducible exact B1
  | (rw [xG];kernel_rfl)
  | (rw [Dw];kernel_rfl)
  | kernel_rfl
theorem said30 : Rows.WorldLocksSaid :=
 OpenClaim.holds_of_wide 30 Try.f30 rfl rfl rfl rfl rfl rfl rfl ⟨rfl,rfl,rfl,rfl,rfl⟩ rfl rfl rfl rfl rfl (by kernel_rfl) Try.func30 joined30
  (of_decide_eq_true (by kernel_rfl)) (by unfold Func.isWrapper;first | (rw [if_pos (by decide +kernel)];kernel_rfl) | (rw [if_neg (by decide +kernel)];exact ⟨rfl,rfl⟩))
  (fun os started H enc _=>lifted30 os started H enc)
#print axioms said30
end Go.Proofs.Ytpmamacjepcdmaa
