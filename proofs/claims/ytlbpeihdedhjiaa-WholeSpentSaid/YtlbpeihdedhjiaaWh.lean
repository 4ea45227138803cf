/- An ID's cells. (For a seat whose program has no Reader.) -/
import Derived.Test.YtlbpeihdedhjiaaWd
import Derived.Deep.DeepCutAuto
import Derived.Deep.CutBlock
import Derived.Deep.RegionWith
import Derived.Deep.RegionLaw
namespace Go.Proofs.Ytlbpeihdedhjiaa
open Go.RowKit
def zeros32 : List Value := bts (List.replicate 32 0)
def idV (l : List UInt8) : Value := .agg (bts l).toArray
theorem infoID : (Try.prog.info? 25).map (·.size) = some 32 := by kernel_rfl
end Go.Proofs.Ytlbpeihdedhjiaa
