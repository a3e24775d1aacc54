import Derived.Test.YtpmamacjepcdmaaCLock
import Derived.Test.YtpmamacjepcdmaaCPlayed
namespace Go.Proofs.Ytpmamacjepcdmaa
open Go Go.Sy Go.RowKit
set_option linter.unusedSimpArgs false
set_option linter.unusedVariables false
theorem Hi {a b : Wrd} (h : a.m=b.m) (ht : a.ts.map Tsk.G4=b.ts.map Tsk.G4) : d142.fn [au a.m.slots,af a.m.heads,af a.m.free,af a.m.locks,.i a.m.now,G2 a.ts,au b.m.slots,af b.m.heads,af b.m.free,af b.m.locks,.i b.m.now,G2 b.ts]=[.b true]:=by
 simp only [d142,List.drop_succ_cons,List.drop_zero,fY,Wrd.G4,aA]
 rw [decide_eq_true ⟨h,ht⟩]
theorem Im (ts : List Tsk) : G2 (ts.map Tsk.bm)=G2 ts:=by
 simp only [G2,List.map_map];rfl
theorem Mv (ts : List Tsk) : (ts.map Tsk.bm).map Tsk.G4=ts.map Tsk.G4:=by
 simp only [List.map_map];rfl
theorem iQ (w : Wrd) : w.G4.bm=w.bm:=by
 simp only [Wrd.G4,Wrd.bm,List.map_map];rfl
end Go.Proofs.Ytpmamacjepcdmaa
