/- Bytes of numbers. (For a seat whose program has no Reader.) -/
import Derived.Test.YtlbpeihdedhjiaaWh
namespace Go.Proofs.Ytlbpeihdedhjiaa
theorem les_length (k n : Nat) : (les k n).length = k := by simp [les]
end Go.Proofs.Ytlbpeihdedhjiaa
