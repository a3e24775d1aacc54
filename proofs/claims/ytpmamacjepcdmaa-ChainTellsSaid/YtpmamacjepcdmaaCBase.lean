/- The program's tables; the kinds. -/
import Derived.Test.YtpmamacjepcdmaaProg
import Derived.Test.YtpmamacjepcdmaaSyMdl
import Derived.Test.YtpmamacjepcdmaaTTa2
namespace Go.Proofs.Ytpmamacjepcdmaa
open Go Go.Sy Go.RowKit
theorem tok : TOk Try.prog ttA := tOk_of (by kernel_rfl) (by kernel_rfl) (by kernel_rfl)
theorem mixed : Try.prog.follows .mixedOrders = true := by kernel_rfl
def kS : SK := ⟨48, [.int .i64, .int .i64, .int .i64, .int .i64, .bool, .int .i64]⟩
def kI : SK := ⟨8, [.int .i64]⟩
def kK : SK := ⟨16, [.int .i64, .int .i64]⟩
def kW : SK := ⟨32, [.int .i64, .int .i64, .int .i64, .int .i64]⟩
def kB : SK := ⟨1, [.bool]⟩
end Go.Proofs.Ytpmamacjepcdmaa
