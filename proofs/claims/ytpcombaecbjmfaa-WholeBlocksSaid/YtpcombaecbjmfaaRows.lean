/-
  No cell of these rows narrows 'for every input' (looked for: loops, veiled, ifaces, maps, wideKeys, modest, calm, conditions, laid).
  DERIVED. THE GIVEN ROWS OF THIS SEAT. 8 by the template 'for every input the law returns true; each argument reads behind the call as it read before'; 0 by the template 'total and deterministic' (their statements: YtpcombaecbjmfaaTotals.lean).
  GIVEN WITH THE SEED: the statements are not yours to turn. If you find one false, say at which input.
  Laid BY PROGRAM, IN A SANDBOX (cutbox-rows.mjs): the forced cells as the released guide's own fill.sh prints them over the translation fdba8804115f8f80… (all of the seat's roots in one cut). By AI agents, Wed Nov 11 2026. No macro, syntax, notation, axiom, sorry.
-/
import Derived.Test.YtpcombaecbjmfaaChecked
import GoSem.Claim
import GoSem.ClaimJoined
import GoSem.ClaimMapViews
import Derived.JoinedTies
import Derived.KernelRfl
namespace Go.Proofs.Ytpcombaecbjmfaa
/- THE CELL 'sum', in the pinned program and in every row, IS THE sha256 OF THE DUMP (.gsa) THAT YtpcombaecbjmfaaProg.lean LOADS. Nothing in Lean hashes anything: it is a label: what it is worth is what the hold of that sum in a sandbox is worth. -/
noncomputable def Try.pinned : Pinned := { name := "ytpcombaecbjmfaa", sum := "fdba8804115f8f80f84a52c4d8c0b1b8ffebe86efde8f27332092131a0205976", checked := Try.checked }
namespace Rows
def none {H : Type} : Left H := { results := [], args := [] }

/-- 'tallysticklaw07.TxBytes': WHATEVER THE INPUT: true; the input reads as it did. -/
def txBytesSpec : ChangeSpec := { name := "txBytes", fn := fun _ => fun
  | [d] => { results := [.lit (.bool true)], args := [d] }
  | _ => none }
def txBytesRow : OpenClaim := { program := "ytpcombaecbjmfaa", sum := "fdba8804115f8f80f84a52c4d8c0b1b8ffebe86efde8f27332092131a0205976", func := "tallystick/tallysticklaw07.TxBytes", spec := "txBytes", apart := false }
def TxBytesSaid : Prop := txBytesRow.holds Try.pinned (OpenSpec.ofChange txBytesSpec)

/-- ITS FALSE NEIGHBOUR: 'it returns false'. Refute it at one input. -/
def txBytesWrong : ChangeSpec := { name := "txBytes", fn := fun _ => fun
  | [d] => { results := [.lit (.bool false)], args := [d] }
  | _ => none }
def TxBytesWrongFalsely : Prop := txBytesRow.holds Try.pinned (OpenSpec.ofChange txBytesWrong)

/-- 'tallysticklaw07.TxReads': WHATEVER THE INPUT: true; the input reads as it did. -/
def txReadsSpec : ChangeSpec := { name := "txReads", fn := fun _ => fun
  | [d] => { results := [.lit (.bool true)], args := [d] }
  | _ => none }
def txReadsRow : OpenClaim := { program := "ytpcombaecbjmfaa", sum := "fdba8804115f8f80f84a52c4d8c0b1b8ffebe86efde8f27332092131a0205976", func := "tallystick/tallysticklaw07.TxReads", spec := "txReads", apart := false }
def TxReadsSaid : Prop := txReadsRow.holds Try.pinned (OpenSpec.ofChange txReadsSpec)

/-- ITS FALSE NEIGHBOUR: 'it returns false'. Refute it at one input. -/
def txReadsWrong : ChangeSpec := { name := "txReads", fn := fun _ => fun
  | [d] => { results := [.lit (.bool false)], args := [d] }
  | _ => none }
def TxReadsWrongFalsely : Prop := txReadsRow.holds Try.pinned (OpenSpec.ofChange txReadsWrong)

/-- 'tallysticklaw07.TxBlocks': WHATEVER THE INPUT: true; the input reads as it did. -/
def txBlocksSpec : ChangeSpec := { name := "txBlocks", fn := fun _ => fun
  | [d1, d2] => { results := [.lit (.bool true)], args := [d1, d2] }
  | _ => none }
def txBlocksRow : OpenClaim := { program := "ytpcombaecbjmfaa", sum := "fdba8804115f8f80f84a52c4d8c0b1b8ffebe86efde8f27332092131a0205976", func := "tallystick/tallysticklaw07.TxBlocks", spec := "txBlocks", apart := false }
def TxBlocksSaid : Prop := txBlocksRow.holds Try.pinned (OpenSpec.ofChange txBlocksSpec)

/-- ITS FALSE NEIGHBOUR: 'it returns false'. Refute it at one input. -/
def txBlocksWrong : ChangeSpec := { name := "txBlocks", fn := fun _ => fun
  | [d1, d2] => { results := [.lit (.bool false)], args := [d1, d2] }
  | _ => none }
def TxBlocksWrongFalsely : Prop := txBlocksRow.holds Try.pinned (OpenSpec.ofChange txBlocksWrong)

/-- 'tallysticklaw07.TxRoots': WHATEVER THE INPUT: true; the input reads as it did. -/
def txRootsSpec : ChangeSpec := { name := "txRoots", fn := fun _ => fun
  | [d] => { results := [.lit (.bool true)], args := [d] }
  | _ => none }
def txRootsRow : OpenClaim := { program := "ytpcombaecbjmfaa", sum := "fdba8804115f8f80f84a52c4d8c0b1b8ffebe86efde8f27332092131a0205976", func := "tallystick/tallysticklaw07.TxRoots", spec := "txRoots", recurses := true, apart := false }
def TxRootsSaid : Prop := txRootsRow.holds Try.pinned (OpenSpec.ofChange txRootsSpec)

/-- ITS FALSE NEIGHBOUR: 'it returns false'. Refute it at one input. -/
def txRootsWrong : ChangeSpec := { name := "txRoots", fn := fun _ => fun
  | [d] => { results := [.lit (.bool false)], args := [d] }
  | _ => none }
def TxRootsWrongFalsely : Prop := txRootsRow.holds Try.pinned (OpenSpec.ofChange txRootsWrong)

/-- 'tallysticklaw07.TxApart': WHATEVER THE INPUT: true; the input reads as it did. -/
def txApartSpec : ChangeSpec := { name := "txApart", fn := fun _ => fun
  | [d1, d2] => { results := [.lit (.bool true)], args := [d1, d2] }
  | _ => none }
def txApartRow : OpenClaim := { program := "ytpcombaecbjmfaa", sum := "fdba8804115f8f80f84a52c4d8c0b1b8ffebe86efde8f27332092131a0205976", func := "tallystick/tallysticklaw07.TxApart", spec := "txApart", apart := false }
def TxApartSaid : Prop := txApartRow.holds Try.pinned (OpenSpec.ofChange txApartSpec)

/-- ITS FALSE NEIGHBOUR: 'it returns false'. Refute it at one input. -/
def txApartWrong : ChangeSpec := { name := "txApart", fn := fun _ => fun
  | [d1, d2] => { results := [.lit (.bool false)], args := [d1, d2] }
  | _ => none }
def TxApartWrongFalsely : Prop := txApartRow.holds Try.pinned (OpenSpec.ofChange txApartWrong)

/-- 'tallysticklaw07.TxCuts': WHATEVER THE INPUT: true; the input reads as it did. -/
def txCutsSpec : ChangeSpec := { name := "txCuts", fn := fun _ => fun
  | [d1, d2, d3] => { results := [.lit (.bool true)], args := [d1, d2, d3] }
  | _ => none }
def txCutsRow : OpenClaim := { program := "ytpcombaecbjmfaa", sum := "fdba8804115f8f80f84a52c4d8c0b1b8ffebe86efde8f27332092131a0205976", func := "tallystick/tallysticklaw07.TxCuts", spec := "txCuts", apart := false }
def TxCutsSaid : Prop := txCutsRow.holds Try.pinned (OpenSpec.ofChange txCutsSpec)

/-- ITS FALSE NEIGHBOUR: 'it returns false'. Refute it at one input. -/
def txCutsWrong : ChangeSpec := { name := "txCuts", fn := fun _ => fun
  | [d1, d2, d3] => { results := [.lit (.bool false)], args := [d1, d2, d3] }
  | _ => none }
def TxCutsWrongFalsely : Prop := txCutsRow.holds Try.pinned (OpenSpec.ofChange txCutsWrong)

/-- 'tallysticklaw07.TxOwn': WHATEVER THE INPUT: true; the input reads as it did. -/
def txOwnSpec : ChangeSpec := { name := "txOwn", fn := fun _ => fun
  | [d] => { results := [.lit (.bool true)], args := [d] }
  | _ => none }
def txOwnRow : OpenClaim := { program := "ytpcombaecbjmfaa", sum := "fdba8804115f8f80f84a52c4d8c0b1b8ffebe86efde8f27332092131a0205976", func := "tallystick/tallysticklaw07.TxOwn", spec := "txOwn", apart := false }
def TxOwnSaid : Prop := txOwnRow.holds Try.pinned (OpenSpec.ofChange txOwnSpec)

/-- ITS FALSE NEIGHBOUR: 'it returns false'. Refute it at one input. -/
def txOwnWrong : ChangeSpec := { name := "txOwn", fn := fun _ => fun
  | [d] => { results := [.lit (.bool false)], args := [d] }
  | _ => none }
def TxOwnWrongFalsely : Prop := txOwnRow.holds Try.pinned (OpenSpec.ofChange txOwnWrong)

/-- 'tallysticktop.WholeBlocks': WHATEVER THE INPUT: true; the input reads as it did. -/
def wholeBlocksSpec : ChangeSpec := { name := "wholeBlocks", fn := fun _ => fun
  | [d1, d2] => { results := [.lit (.bool true)], args := [d1, d2] }
  | _ => none }
def wholeBlocksRow : OpenClaim := { program := "ytpcombaecbjmfaa", sum := "fdba8804115f8f80f84a52c4d8c0b1b8ffebe86efde8f27332092131a0205976", func := "tallystick/tallysticktop.WholeBlocks", spec := "wholeBlocks", apart := false }
def WholeBlocksSaid : Prop := wholeBlocksRow.holds Try.pinned (OpenSpec.ofChange wholeBlocksSpec)

/-- ITS FALSE NEIGHBOUR: 'it returns false'. Refute it at one input. -/
def wholeBlocksWrong : ChangeSpec := { name := "wholeBlocks", fn := fun _ => fun
  | [d1, d2] => { results := [.lit (.bool false)], args := [d1, d2] }
  | _ => none }
def WholeBlocksWrongFalsely : Prop := wholeBlocksRow.holds Try.pinned (OpenSpec.ofChange wholeBlocksWrong)

/- THE SECOND FORM. 'bulk': how many values and letters a reading holds, each counted each time it is reached (what is shared counts as often as it is met; a slice's spare places count too). A statement '..UptoSaid' is the law's where the arguments, and the package variables that the reading takes, are together of bulk at most 1048576: NARROWER than '..Said'. Prove '..Said' where nothing that the law and all that it calls make is longer than what came in: it says more and counts as full. Else prove '..UptoSaid'. A law counts once. -/
mutual
def uptoBulk {H : Type} : DataW H → Nat
  | .lit (.string bytes) => bytes.length + 1
  | .lit _ => 1
  | .nil => 1
  | .ptr d => uptoBulk d + 1
  | .slice elems spare => uptoBulkAll elems + uptoBulkAll spare + 1
  | .agg parts => uptoBulkAll parts + 1
  | .iface _ d => uptoBulk d + 1
  | .map entries => uptoBulkEntries entries + 1
  | .held _ => 1
def uptoBulkAll {H : Type} : List (DataW H) → Nat
  | [] => 0
  | d :: r => uptoBulk d + uptoBulkAll r
def uptoBulkEntries {H : Type} : List (Lit × DataW H) → Nat
  | [] => 0
  | x :: r => uptoBulkEntry x + uptoBulkEntries r
def uptoBulkEntry {H : Type} : Lit × DataW H → Nat
  | (.string bytes, d) => bytes.length + uptoBulk d + 1
  | (_, d) => uptoBulk d + 1
 end
def uptoSmall : (H : Type) → List (DataW H) → Bool := fun _ ds => decide (uptoBulkAll ds ≤ 1048576)
def OpenSpec.upto (s : _root_.Go.ChangeSpec) : _root_.Go.OpenSpec := { _root_.Go.OpenSpec.ofChange s with cond := some uptoSmall }

/-- 'tallysticklaw07.TxBytes', WHERE WHAT IT READS IS OF BULK AT MOST 1048576: true; the input reads as it did. -/
def txBytesUptoRow : OpenClaim := { program := "ytpcombaecbjmfaa", sum := "fdba8804115f8f80f84a52c4d8c0b1b8ffebe86efde8f27332092131a0205976", func := "tallystick/tallysticklaw07.TxBytes", spec := "txBytes", apart := false, narrowed := true }
def TxBytesUptoSaid : Prop := txBytesUptoRow.holds Try.pinned (OpenSpec.upto txBytesSpec)

/-- 'tallysticklaw07.TxReads', WHERE WHAT IT READS IS OF BULK AT MOST 1048576: true; the input reads as it did. -/
def txReadsUptoRow : OpenClaim := { program := "ytpcombaecbjmfaa", sum := "fdba8804115f8f80f84a52c4d8c0b1b8ffebe86efde8f27332092131a0205976", func := "tallystick/tallysticklaw07.TxReads", spec := "txReads", apart := false, narrowed := true }
def TxReadsUptoSaid : Prop := txReadsUptoRow.holds Try.pinned (OpenSpec.upto txReadsSpec)

/-- 'tallysticklaw07.TxBlocks', WHERE WHAT IT READS IS OF BULK AT MOST 1048576: true; the input reads as it did. -/
def txBlocksUptoRow : OpenClaim := { program := "ytpcombaecbjmfaa", sum := "fdba8804115f8f80f84a52c4d8c0b1b8ffebe86efde8f27332092131a0205976", func := "tallystick/tallysticklaw07.TxBlocks", spec := "txBlocks", apart := false, narrowed := true }
def TxBlocksUptoSaid : Prop := txBlocksUptoRow.holds Try.pinned (OpenSpec.upto txBlocksSpec)

/-- 'tallysticklaw07.TxRoots', WHERE WHAT IT READS IS OF BULK AT MOST 1048576: true; the input reads as it did. -/
def txRootsUptoRow : OpenClaim := { program := "ytpcombaecbjmfaa", sum := "fdba8804115f8f80f84a52c4d8c0b1b8ffebe86efde8f27332092131a0205976", func := "tallystick/tallysticklaw07.TxRoots", spec := "txRoots", recurses := true, apart := false, narrowed := true }
def TxRootsUptoSaid : Prop := txRootsUptoRow.holds Try.pinned (OpenSpec.upto txRootsSpec)

/-- 'tallysticklaw07.TxApart', WHERE WHAT IT READS IS OF BULK AT MOST 1048576: true; the input reads as it did. -/
def txApartUptoRow : OpenClaim := { program := "ytpcombaecbjmfaa", sum := "fdba8804115f8f80f84a52c4d8c0b1b8ffebe86efde8f27332092131a0205976", func := "tallystick/tallysticklaw07.TxApart", spec := "txApart", apart := false, narrowed := true }
def TxApartUptoSaid : Prop := txApartUptoRow.holds Try.pinned (OpenSpec.upto txApartSpec)

/-- 'tallysticklaw07.TxCuts', WHERE WHAT IT READS IS OF BULK AT MOST 1048576: true; the input reads as it did. -/
def txCutsUptoRow : OpenClaim := { program := "ytpcombaecbjmfaa", sum := "fdba8804115f8f80f84a52c4d8c0b1b8ffebe86efde8f27332092131a0205976", func := "tallystick/tallysticklaw07.TxCuts", spec := "txCuts", apart := false, narrowed := true }
def TxCutsUptoSaid : Prop := txCutsUptoRow.holds Try.pinned (OpenSpec.upto txCutsSpec)

/-- 'tallysticklaw07.TxOwn', WHERE WHAT IT READS IS OF BULK AT MOST 1048576: true; the input reads as it did. -/
def txOwnUptoRow : OpenClaim := { program := "ytpcombaecbjmfaa", sum := "fdba8804115f8f80f84a52c4d8c0b1b8ffebe86efde8f27332092131a0205976", func := "tallystick/tallysticklaw07.TxOwn", spec := "txOwn", apart := false, narrowed := true }
def TxOwnUptoSaid : Prop := txOwnUptoRow.holds Try.pinned (OpenSpec.upto txOwnSpec)

/-- 'tallysticktop.WholeBlocks', WHERE WHAT IT READS IS OF BULK AT MOST 1048576: true; the input reads as it did. -/
def wholeBlocksUptoRow : OpenClaim := { program := "ytpcombaecbjmfaa", sum := "fdba8804115f8f80f84a52c4d8c0b1b8ffebe86efde8f27332092131a0205976", func := "tallystick/tallysticktop.WholeBlocks", spec := "wholeBlocks", apart := false, narrowed := true }
def WholeBlocksUptoSaid : Prop := wholeBlocksUptoRow.holds Try.pinned (OpenSpec.upto wholeBlocksSpec)

end Rows
end Go.Proofs.Ytpcombaecbjmfaa
