/- What the first miner finds. Closed facts. -/
import Derived.Test.YtpcombaecbjmfaaNi
namespace Go.Proofs.Ytpcombaecbjmfaa
open Go.RowKit
theorem prov0 : provE 0 z32 z32 0 0 = 50 := by kernel_rfl
theorem prov1 : provE 0 z32 z32 0 1 = 0 := by kernel_rfl
end Go.Proofs.Ytpcombaecbjmfaa
