/- What law13.keeps finds, plainly. Closed facts. -/
import Derived.Test.YtlbpeihdedhjiaaMkr
namespace Go.Proofs.Ytlbpeihdedhjiaa
open Go.RowKit
def mkT (amt : Int) (key mark : List UInt8) : TxT := ([mkIn mark], [(amt, sha key, ())], ())
def spT (id : List UInt8) (key : List UInt8) (amt : Int) (lock : List UInt8) : TxT := ([((id, ((0 : Nat) : Int), ()), key, ())], [(amt, lock, ())], ())
def kT1 : TxT := mkT 50 [107] [97]
def kT2 : TxT := mkT 52 [107] [98]
def kT3 : TxT := spT (txX kT1) [107] 48 zid
def kL1 : CoL := [((txX kT1, 0), (50, sha [107], 1))]
def kL2 : CoL := [((txX kT3, 0), (48, zid, 2)), ((txX kT2, 0), (52, sha [107], 2))]
theorem kid12 : (txX kT1 == txX kT2) = false := by kernel_rfl
theorem kid13 : (txX kT1 == txX kT3) = false := by kernel_rfl
theorem kid23 : (txX kT2 == txX kT3) = false := by kernel_rfl
end Go.Proofs.Ytlbpeihdedhjiaa
