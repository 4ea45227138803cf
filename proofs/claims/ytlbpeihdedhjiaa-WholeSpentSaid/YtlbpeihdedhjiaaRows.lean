/-
  No cell of these rows narrows 'for every input' (looked for: loops, veiled, ifaces, maps, wideKeys, modest, calm, conditions, laid).
  DERIVED. THE GIVEN ROWS OF THIS SEAT. 7 by the template 'for every input the law returns true; each argument reads behind the call as it read before'; 0 by the template 'total and deterministic' (their statements: YtlbpeihdedhjiaaTotals.lean).
  GIVEN WITH THE SEED: the statements are not yours to turn. If you find one false, say at which input.
  Laid BY PROGRAM, IN A SANDBOX (cutbox-rows.mjs): the forced cells as the released guide's own fill.sh prints them over the translation 3a0d835abafb2a1d… (all of the seat's roots in one cut). By AI agents, Wed Nov 11 2026. No macro, syntax, notation, axiom, sorry.
-/
import Derived.Test.YtlbpeihdedhjiaaChecked
import GoSem.Claim
import GoSem.ClaimJoined
import GoSem.ClaimMapViews
import Derived.JoinedTies
import Derived.KernelRfl
namespace Go.Proofs.Ytlbpeihdedhjiaa
/- THE CELL 'sum', in the pinned program and in every row, IS THE sha256 OF THE DUMP (.gsa) THAT YtlbpeihdedhjiaaProg.lean LOADS. Nothing in Lean hashes anything: it is a label: what it is worth is what the hold of that sum in a sandbox is worth. -/
noncomputable def Try.pinned : Pinned := { name := "ytlbpeihdedhjiaa", sum := "3a0d835abafb2a1d1e5362ba5c2bd7fd2dfc5b0004f95fa37da6f06f0d277dc4", checked := Try.checked }
namespace Rows
def none {H : Type} : Left H := { results := [], args := [] }

/-- 'tallysticktop.WholeSpent': WHATEVER THE INPUT: true; the input reads as it did. -/
def wholeSpentSpec : ChangeSpec := { name := "wholeSpent", fn := fun _ => fun
  | [d1, d2] => { results := [.lit (.bool true)], args := [d1, d2] }
  | _ => none }
def wholeSpentRow : OpenClaim := { program := "ytlbpeihdedhjiaa", sum := "3a0d835abafb2a1d1e5362ba5c2bd7fd2dfc5b0004f95fa37da6f06f0d277dc4", func := "tallystick/tallysticktop.WholeSpent", spec := "wholeSpent", inPlace := ["maps.clone"], plainKeys := false, apart := false }
def WholeSpentSaid : Prop := wholeSpentRow.holds Try.pinned (OpenSpec.ofChange wholeSpentSpec)

/-- ITS FALSE NEIGHBOUR: 'it returns false'. Refute it at one input. -/
def wholeSpentWrong : ChangeSpec := { name := "wholeSpent", fn := fun _ => fun
  | [d1, d2] => { results := [.lit (.bool false)], args := [d1, d2] }
  | _ => none }
def WholeSpentWrongFalsely : Prop := wholeSpentRow.holds Try.pinned (OpenSpec.ofChange wholeSpentWrong)

/-- 'tallysticklaw13.CoinsLock': WHATEVER THE INPUT: true; the input reads as it did. -/
def coinsLockSpec : ChangeSpec := { name := "coinsLock", fn := fun _ => fun
  | [d1, d2] => { results := [.lit (.bool true)], args := [d1, d2] }
  | _ => none }
def coinsLockRow : OpenClaim := { program := "ytlbpeihdedhjiaa", sum := "3a0d835abafb2a1d1e5362ba5c2bd7fd2dfc5b0004f95fa37da6f06f0d277dc4", func := "tallystick/tallysticklaw13.CoinsLock", spec := "coinsLock", inPlace := ["maps.clone"], plainKeys := false, apart := false }
def CoinsLockSaid : Prop := coinsLockRow.holds Try.pinned (OpenSpec.ofChange coinsLockSpec)

/-- ITS FALSE NEIGHBOUR: 'it returns false'. Refute it at one input. -/
def coinsLockWrong : ChangeSpec := { name := "coinsLock", fn := fun _ => fun
  | [d1, d2] => { results := [.lit (.bool false)], args := [d1, d2] }
  | _ => none }
def CoinsLockWrongFalsely : Prop := coinsLockRow.holds Try.pinned (OpenSpec.ofChange coinsLockWrong)

/-- 'tallysticklaw13.CoinsPlay': WHATEVER THE INPUT: true; the input reads as it did. -/
def coinsPlaySpec : ChangeSpec := { name := "coinsPlay", fn := fun _ => fun
  | [d1, d2] => { results := [.lit (.bool true)], args := [d1, d2] }
  | _ => none }
def coinsPlayRow : OpenClaim := { program := "ytlbpeihdedhjiaa", sum := "3a0d835abafb2a1d1e5362ba5c2bd7fd2dfc5b0004f95fa37da6f06f0d277dc4", func := "tallystick/tallysticklaw13.CoinsPlay", spec := "coinsPlay", inPlace := ["maps.clone"], plainKeys := false, apart := false }
def CoinsPlaySaid : Prop := coinsPlayRow.holds Try.pinned (OpenSpec.ofChange coinsPlaySpec)

/-- ITS FALSE NEIGHBOUR: 'it returns false'. Refute it at one input. -/
def coinsPlayWrong : ChangeSpec := { name := "coinsPlay", fn := fun _ => fun
  | [d1, d2] => { results := [.lit (.bool false)], args := [d1, d2] }
  | _ => none }
def CoinsPlayWrongFalsely : Prop := coinsPlayRow.holds Try.pinned (OpenSpec.ofChange coinsPlayWrong)

/-- 'tallysticklaw13.CoinsSum': WHATEVER THE INPUT: true; the input reads as it did. -/
def coinsSumSpec : ChangeSpec := { name := "coinsSum", fn := fun _ => fun
  | [d1, d2] => { results := [.lit (.bool true)], args := [d1, d2] }
  | _ => none }
def coinsSumRow : OpenClaim := { program := "ytlbpeihdedhjiaa", sum := "3a0d835abafb2a1d1e5362ba5c2bd7fd2dfc5b0004f95fa37da6f06f0d277dc4", func := "tallystick/tallysticklaw13.CoinsSum", spec := "coinsSum", inPlace := ["maps.clone"], plainKeys := false, apart := false }
def CoinsSumSaid : Prop := coinsSumRow.holds Try.pinned (OpenSpec.ofChange coinsSumSpec)

/-- ITS FALSE NEIGHBOUR: 'it returns false'. Refute it at one input. -/
def coinsSumWrong : ChangeSpec := { name := "coinsSum", fn := fun _ => fun
  | [d1, d2] => { results := [.lit (.bool false)], args := [d1, d2] }
  | _ => none }
def CoinsSumWrongFalsely : Prop := coinsSumRow.holds Try.pinned (OpenSpec.ofChange coinsSumWrong)

/-- 'tallysticklaw13.CoinsFees': WHATEVER THE INPUT: true; the input reads as it did. -/
def coinsFeesSpec : ChangeSpec := { name := "coinsFees", fn := fun _ => fun
  | [d1, d2, d3] => { results := [.lit (.bool true)], args := [d1, d2, d3] }
  | _ => none }
def coinsFeesRow : OpenClaim := { program := "ytlbpeihdedhjiaa", sum := "3a0d835abafb2a1d1e5362ba5c2bd7fd2dfc5b0004f95fa37da6f06f0d277dc4", func := "tallystick/tallysticklaw13.CoinsFees", spec := "coinsFees", inPlace := ["maps.clone"], plainKeys := false, apart := false }
def CoinsFeesSaid : Prop := coinsFeesRow.holds Try.pinned (OpenSpec.ofChange coinsFeesSpec)

/-- ITS FALSE NEIGHBOUR: 'it returns false'. Refute it at one input. -/
def coinsFeesWrong : ChangeSpec := { name := "coinsFees", fn := fun _ => fun
  | [d1, d2, d3] => { results := [.lit (.bool false)], args := [d1, d2, d3] }
  | _ => none }
def CoinsFeesWrongFalsely : Prop := coinsFeesRow.holds Try.pinned (OpenSpec.ofChange coinsFeesWrong)

/-- 'tallysticklaw13.CoinsBack': WHATEVER THE INPUT: true; the input reads as it did. -/
def coinsBackSpec : ChangeSpec := { name := "coinsBack", fn := fun _ => fun
  | [d1, d2] => { results := [.lit (.bool true)], args := [d1, d2] }
  | _ => none }
def coinsBackRow : OpenClaim := { program := "ytlbpeihdedhjiaa", sum := "3a0d835abafb2a1d1e5362ba5c2bd7fd2dfc5b0004f95fa37da6f06f0d277dc4", func := "tallystick/tallysticklaw13.CoinsBack", spec := "coinsBack", inPlace := ["maps.clone"], plainKeys := false, apart := false }
def CoinsBackSaid : Prop := coinsBackRow.holds Try.pinned (OpenSpec.ofChange coinsBackSpec)

/-- ITS FALSE NEIGHBOUR: 'it returns false'. Refute it at one input. -/
def coinsBackWrong : ChangeSpec := { name := "coinsBack", fn := fun _ => fun
  | [d1, d2] => { results := [.lit (.bool false)], args := [d1, d2] }
  | _ => none }
def CoinsBackWrongFalsely : Prop := coinsBackRow.holds Try.pinned (OpenSpec.ofChange coinsBackWrong)

/-- 'tallysticklaw13.CoinsClone': WHATEVER THE INPUT: true; the input reads as it did. -/
def coinsCloneSpec : ChangeSpec := { name := "coinsClone", fn := fun _ => fun
  | [d] => { results := [.lit (.bool true)], args := [d] }
  | _ => none }
def coinsCloneRow : OpenClaim := { program := "ytlbpeihdedhjiaa", sum := "3a0d835abafb2a1d1e5362ba5c2bd7fd2dfc5b0004f95fa37da6f06f0d277dc4", func := "tallystick/tallysticklaw13.CoinsClone", spec := "coinsClone", inPlace := ["maps.clone"], plainKeys := false, apart := false }
def CoinsCloneSaid : Prop := coinsCloneRow.holds Try.pinned (OpenSpec.ofChange coinsCloneSpec)

/-- ITS FALSE NEIGHBOUR: 'it returns false'. Refute it at one input. -/
def coinsCloneWrong : ChangeSpec := { name := "coinsClone", fn := fun _ => fun
  | [d] => { results := [.lit (.bool false)], args := [d] }
  | _ => none }
def CoinsCloneWrongFalsely : Prop := coinsCloneRow.holds Try.pinned (OpenSpec.ofChange coinsCloneWrong)

/- THE SECOND FORM. 'bulk': how many values and letters a reading holds, each counted each time it is reached (what is shared counts as often as it is met; a slice's spare places count too). A statement '..UptoSaid' is the law's where the arguments, and the package variables that the reading takes, are together of bulk at most 1048576: NARROWER than '..Said'. Prove '..Said' where nothing that the law and all that it calls make is longer than what came in: it says more and counts as full. Else prove '..UptoSaid'. A law counts once. -/
mutual
def uptoBulk {H : Type} : DataW H → Nat
  | .lit (.string bytes) => bytes.length + 1
  | .lit _ => 1
  | .nil => 1
  | .ptr d => uptoBulk d + 1
  | .slice elems spare => uptoBulkAll elems + uptoBulkAll spare + 1
  | .agg parts => uptoBulkAll parts + 1
  | .iface _ d => uptoBulk d + 1
  | .map entries => uptoBulkEntries entries + 1
  | .held _ => 1
def uptoBulkAll {H : Type} : List (DataW H) → Nat
  | [] => 0
  | d :: r => uptoBulk d + uptoBulkAll r
def uptoBulkEntries {H : Type} : List (Lit × DataW H) → Nat
  | [] => 0
  | x :: r => uptoBulkEntry x + uptoBulkEntries r
def uptoBulkEntry {H : Type} : Lit × DataW H → Nat
  | (.string bytes, d) => bytes.length + uptoBulk d + 1
  | (_, d) => uptoBulk d + 1
 end
def uptoSmall : (H : Type) → List (DataW H) → Bool := fun _ ds => decide (uptoBulkAll ds ≤ 1048576)
def OpenSpec.upto (s : _root_.Go.ChangeSpec) : _root_.Go.OpenSpec := { _root_.Go.OpenSpec.ofChange s with cond := some uptoSmall }

/-- 'tallysticktop.WholeSpent', WHERE WHAT IT READS IS OF BULK AT MOST 1048576: true; the input reads as it did. -/
def wholeSpentUptoRow : OpenClaim := { program := "ytlbpeihdedhjiaa", sum := "3a0d835abafb2a1d1e5362ba5c2bd7fd2dfc5b0004f95fa37da6f06f0d277dc4", func := "tallystick/tallysticktop.WholeSpent", spec := "wholeSpent", inPlace := ["maps.clone"], plainKeys := false, apart := false, narrowed := true }
def WholeSpentUptoSaid : Prop := wholeSpentUptoRow.holds Try.pinned (OpenSpec.upto wholeSpentSpec)

/-- 'tallysticklaw13.CoinsLock', WHERE WHAT IT READS IS OF BULK AT MOST 1048576: true; the input reads as it did. -/
def coinsLockUptoRow : OpenClaim := { program := "ytlbpeihdedhjiaa", sum := "3a0d835abafb2a1d1e5362ba5c2bd7fd2dfc5b0004f95fa37da6f06f0d277dc4", func := "tallystick/tallysticklaw13.CoinsLock", spec := "coinsLock", inPlace := ["maps.clone"], plainKeys := false, apart := false, narrowed := true }
def CoinsLockUptoSaid : Prop := coinsLockUptoRow.holds Try.pinned (OpenSpec.upto coinsLockSpec)

/-- 'tallysticklaw13.CoinsPlay', WHERE WHAT IT READS IS OF BULK AT MOST 1048576: true; the input reads as it did. -/
def coinsPlayUptoRow : OpenClaim := { program := "ytlbpeihdedhjiaa", sum := "3a0d835abafb2a1d1e5362ba5c2bd7fd2dfc5b0004f95fa37da6f06f0d277dc4", func := "tallystick/tallysticklaw13.CoinsPlay", spec := "coinsPlay", inPlace := ["maps.clone"], plainKeys := false, apart := false, narrowed := true }
def CoinsPlayUptoSaid : Prop := coinsPlayUptoRow.holds Try.pinned (OpenSpec.upto coinsPlaySpec)

/-- 'tallysticklaw13.CoinsSum', WHERE WHAT IT READS IS OF BULK AT MOST 1048576: true; the input reads as it did. -/
def coinsSumUptoRow : OpenClaim := { program := "ytlbpeihdedhjiaa", sum := "3a0d835abafb2a1d1e5362ba5c2bd7fd2dfc5b0004f95fa37da6f06f0d277dc4", func := "tallystick/tallysticklaw13.CoinsSum", spec := "coinsSum", inPlace := ["maps.clone"], plainKeys := false, apart := false, narrowed := true }
def CoinsSumUptoSaid : Prop := coinsSumUptoRow.holds Try.pinned (OpenSpec.upto coinsSumSpec)

/-- 'tallysticklaw13.CoinsFees', WHERE WHAT IT READS IS OF BULK AT MOST 1048576: true; the input reads as it did. -/
def coinsFeesUptoRow : OpenClaim := { program := "ytlbpeihdedhjiaa", sum := "3a0d835abafb2a1d1e5362ba5c2bd7fd2dfc5b0004f95fa37da6f06f0d277dc4", func := "tallystick/tallysticklaw13.CoinsFees", spec := "coinsFees", inPlace := ["maps.clone"], plainKeys := false, apart := false, narrowed := true }
def CoinsFeesUptoSaid : Prop := coinsFeesUptoRow.holds Try.pinned (OpenSpec.upto coinsFeesSpec)

/-- 'tallysticklaw13.CoinsBack', WHERE WHAT IT READS IS OF BULK AT MOST 1048576: true; the input reads as it did. -/
def coinsBackUptoRow : OpenClaim := { program := "ytlbpeihdedhjiaa", sum := "3a0d835abafb2a1d1e5362ba5c2bd7fd2dfc5b0004f95fa37da6f06f0d277dc4", func := "tallystick/tallysticklaw13.CoinsBack", spec := "coinsBack", inPlace := ["maps.clone"], plainKeys := false, apart := false, narrowed := true }
def CoinsBackUptoSaid : Prop := coinsBackUptoRow.holds Try.pinned (OpenSpec.upto coinsBackSpec)

/-- 'tallysticklaw13.CoinsClone', WHERE WHAT IT READS IS OF BULK AT MOST 1048576: true; the input reads as it did. -/
def coinsCloneUptoRow : OpenClaim := { program := "ytlbpeihdedhjiaa", sum := "3a0d835abafb2a1d1e5362ba5c2bd7fd2dfc5b0004f95fa37da6f06f0d277dc4", func := "tallystick/tallysticklaw13.CoinsClone", spec := "coinsClone", inPlace := ["maps.clone"], plainKeys := false, apart := false, narrowed := true }
def CoinsCloneUptoSaid : Prop := coinsCloneUptoRow.holds Try.pinned (OpenSpec.upto coinsCloneSpec)

end Rows
end Go.Proofs.Ytlbpeihdedhjiaa
