/- Bytes of numbers. (For a seat whose program has no Reader.) -/
import Derived.Test.YtlngjojibmnmeaaWh
namespace Go.Proofs.Ytlngjojibmnmeaa
theorem les_length (k n : Nat) : (les k n).length = k := by simp [les]
end Go.Proofs.Ytlngjojibmnmeaa
