/- merkle.Root: what it answers; of one sum alone. -/
import Derived.Test.YtlbpeihdedhjiaaHd
import Derived.Test.YtlbpeihdedhjiaaSt
import Derived.Laws.ResultCell
namespace Go.Proofs.Ytlbpeihdedhjiaa
open Go.RowKit
abbrev Id32 := List UInt8
/-- a level's pairs -/
def mup : List Id32 → List Id32
  | [] => []
  | [a] => [sha2 (a ++ a)]
  | a :: b :: r => sha2 (a ++ b) :: mup r
/-- two that are a pair are the same -/
def mtw : List Id32 → Bool
  | a :: b :: r => a == b || mtw r
  | _ => false
/-- level by level -/
def mrootN : Nat → List Id32 → Bool → Id32 × Bool
  | 0, row, tw => (row.getD 0 (List.replicate 32 0), tw)
  | n + 1, row, tw => if row.length ≤ 1 then (row.getD 0 (List.replicate 32 0), tw) else mrootN n (mup row) (tw || mtw row)
def mroot (ids : List Id32) : Id32 × Bool := mrootN ids.length ids false
theorem mroot_one (a : Id32) : mroot [a] = (a, false) := rfl
theorem infoIDz : (Try.prog.info? 25).map (fun i => (i.zero, i.size, i.bytes)) = some (some (.agg zeros32.toArray), 32, 32) := by kernel_rfl
theorem results_row_tmp {P : Program} {fn : Func} {p u : Tmp} {ty : TypeId} (h : fn.results = #[.cell p ty, .tmp u]) (tmps : Array Value) (w : World) (g : Nat) (t : TypeId) (cs : Array Value) (fr : Nat × Nat) (d : TypeDesc)
    (hp : tmps.getD p undef = .pointer (some ⟨g, 0, none⟩)) (hg : w.heap[g]? = some (.cells cs t fr))
    (hu : P.underlying ty = some d) (hd : (match d with | .struct _ | .array _ _ => true | _ => false) = true) (hi : (P.info? ty).map (·.size) = some cs.size) :
    (results fn tmps).run P w = .ok (.tuple #[.agg cs, tmps.getD u undef]) w := by
  rw [results_cell_tmp h, hp]
  simp [asAddr, Result.andThen, run_loadVar_row w g t ty cs fr d hg hu hd hi]
end Go.Proofs.Ytlbpeihdedhjiaa
