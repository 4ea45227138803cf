/-
  No cell of these rows narrows 'for every input' (looked for: loops, veiled, ifaces, maps, wideKeys, modest, calm, conditions, laid).
  DERIVED. THE GIVEN ROWS OF THIS SEAT. 7 by the template 'for every input the law returns true; each argument reads behind the call as it read before'; 0 by the template 'total and deterministic' (their statements: YtnonabmbichfnaaTotals.lean).
  GIVEN WITH THE SEED: the statements are not yours to turn. If you find one false, say at which input.
  Laid BY PROGRAM, IN A SANDBOX (cutbox-rows.mjs): the forced cells as the released guide's own fill.sh prints them over the translation 1aa5b25cc5cd192e… (all of the seat's roots in one cut). By AI agents, Wed Nov 11 2026. No macro, syntax, notation, axiom, sorry.
-/
import Derived.Test.YtnonabmbichfnaaChecked
import GoSem.Claim
import GoSem.ClaimJoined
import GoSem.ClaimMapViews
import Derived.JoinedTies
import Derived.KernelRfl
namespace Go.Proofs.Ytnonabmbichfnaa
/- THE CELL 'sum', in the pinned program and in every row, IS THE sha256 OF THE DUMP (.gsa) THAT YtnonabmbichfnaaProg.lean LOADS. Nothing in Lean hashes anything: it is a label: what it is worth is what the hold of that sum in a sandbox is worth. -/
noncomputable def Try.pinned : Pinned := { name := "ytnonabmbichfnaa", sum := "1aa5b25cc5cd192e771f3e6eb69ad5ce7c95aafa03cb1cbf3bc1a59bc9435c43", checked := Try.checked }
namespace Rows
def none {H : Type} : Left H := { results := [], args := [] }

/-- 'tallysticklaw12.CheckTxs': WHATEVER THE INPUT: true; the input reads as it did. -/
def checkTxsSpec : ChangeSpec := { name := "checkTxs", fn := fun _ => fun
  | [d1, d2] => { results := [.lit (.bool true)], args := [d1, d2] }
  | _ => none }
def checkTxsRow : OpenClaim := { program := "ytnonabmbichfnaa", sum := "1aa5b25cc5cd192e771f3e6eb69ad5ce7c95aafa03cb1cbf3bc1a59bc9435c43", func := "tallystick/tallysticklaw12.CheckTxs", spec := "checkTxs", plainKeys := false, apart := false }
def CheckTxsSaid : Prop := checkTxsRow.holds Try.pinned (OpenSpec.ofChange checkTxsSpec)

/-- ITS FALSE NEIGHBOUR: 'it returns false'. Refute it at one input. -/
def checkTxsWrong : ChangeSpec := { name := "checkTxs", fn := fun _ => fun
  | [d1, d2] => { results := [.lit (.bool false)], args := [d1, d2] }
  | _ => none }
def CheckTxsWrongFalsely : Prop := checkTxsRow.holds Try.pinned (OpenSpec.ofChange checkTxsWrong)

/-- 'tallysticklaw12.CheckBlocks': WHATEVER THE INPUT: true; the input reads as it did. -/
def checkBlocksSpec : ChangeSpec := { name := "checkBlocks", fn := fun _ => fun
  | [d1, d2] => { results := [.lit (.bool true)], args := [d1, d2] }
  | _ => none }
def checkBlocksRow : OpenClaim := { program := "ytnonabmbichfnaa", sum := "1aa5b25cc5cd192e771f3e6eb69ad5ce7c95aafa03cb1cbf3bc1a59bc9435c43", func := "tallystick/tallysticklaw12.CheckBlocks", spec := "checkBlocks", recurses := true, plainKeys := false, apart := false }
def CheckBlocksSaid : Prop := checkBlocksRow.holds Try.pinned (OpenSpec.ofChange checkBlocksSpec)

/-- ITS FALSE NEIGHBOUR: 'it returns false'. Refute it at one input. -/
def checkBlocksWrong : ChangeSpec := { name := "checkBlocks", fn := fun _ => fun
  | [d1, d2] => { results := [.lit (.bool false)], args := [d1, d2] }
  | _ => none }
def CheckBlocksWrongFalsely : Prop := checkBlocksRow.holds Try.pinned (OpenSpec.ofChange checkBlocksWrong)

/-- 'tallysticklaw12.CheckDoubled': WHATEVER THE INPUT: true; the input reads as it did. -/
def checkDoubledSpec : ChangeSpec := { name := "checkDoubled", fn := fun _ => fun
  | [d] => { results := [.lit (.bool true)], args := [d] }
  | _ => none }
def checkDoubledRow : OpenClaim := { program := "ytnonabmbichfnaa", sum := "1aa5b25cc5cd192e771f3e6eb69ad5ce7c95aafa03cb1cbf3bc1a59bc9435c43", func := "tallystick/tallysticklaw12.CheckDoubled", spec := "checkDoubled", plainKeys := false, apart := false }
def CheckDoubledSaid : Prop := checkDoubledRow.holds Try.pinned (OpenSpec.ofChange checkDoubledSpec)

/-- ITS FALSE NEIGHBOUR: 'it returns false'. Refute it at one input. -/
def checkDoubledWrong : ChangeSpec := { name := "checkDoubled", fn := fun _ => fun
  | [d] => { results := [.lit (.bool false)], args := [d] }
  | _ => none }
def CheckDoubledWrongFalsely : Prop := checkDoubledRow.holds Try.pinned (OpenSpec.ofChange checkDoubledWrong)

/-- 'tallysticklaw12.CheckOrder': WHATEVER THE INPUT: true; the input reads as it did. -/
def checkOrderSpec : ChangeSpec := { name := "checkOrder", fn := fun _ => fun
  | [d1, d2] => { results := [.lit (.bool true)], args := [d1, d2] }
  | _ => none }
def checkOrderRow : OpenClaim := { program := "ytnonabmbichfnaa", sum := "1aa5b25cc5cd192e771f3e6eb69ad5ce7c95aafa03cb1cbf3bc1a59bc9435c43", func := "tallystick/tallysticklaw12.CheckOrder", spec := "checkOrder", plainKeys := false, apart := false }
def CheckOrderSaid : Prop := checkOrderRow.holds Try.pinned (OpenSpec.ofChange checkOrderSpec)

/-- ITS FALSE NEIGHBOUR: 'it returns false'. Refute it at one input. -/
def checkOrderWrong : ChangeSpec := { name := "checkOrder", fn := fun _ => fun
  | [d1, d2] => { results := [.lit (.bool false)], args := [d1, d2] }
  | _ => none }
def CheckOrderWrongFalsely : Prop := checkOrderRow.holds Try.pinned (OpenSpec.ofChange checkOrderWrong)

/-- 'tallysticklaw12.CheckMoney': WHATEVER THE INPUT: true; the input reads as it did. -/
def checkMoneySpec : ChangeSpec := { name := "checkMoney", fn := fun _ => fun
  | [d1, d2] => { results := [.lit (.bool true)], args := [d1, d2] }
  | _ => none }
def checkMoneyRow : OpenClaim := { program := "ytnonabmbichfnaa", sum := "1aa5b25cc5cd192e771f3e6eb69ad5ce7c95aafa03cb1cbf3bc1a59bc9435c43", func := "tallystick/tallysticklaw12.CheckMoney", spec := "checkMoney", plainKeys := false, apart := false }
def CheckMoneySaid : Prop := checkMoneyRow.holds Try.pinned (OpenSpec.ofChange checkMoneySpec)

/-- ITS FALSE NEIGHBOUR: 'it returns false'. Refute it at one input. -/
def checkMoneyWrong : ChangeSpec := { name := "checkMoney", fn := fun _ => fun
  | [d1, d2] => { results := [.lit (.bool false)], args := [d1, d2] }
  | _ => none }
def CheckMoneyWrongFalsely : Prop := checkMoneyRow.holds Try.pinned (OpenSpec.ofChange checkMoneyWrong)

/-- 'tallysticklaw12.CheckRoots': WHATEVER THE INPUT: true; the input reads as it did. -/
def checkRootsSpec : ChangeSpec := { name := "checkRoots", fn := fun _ => fun
  | [d1, d2] => { results := [.lit (.bool true)], args := [d1, d2] }
  | _ => none }
def checkRootsRow : OpenClaim := { program := "ytnonabmbichfnaa", sum := "1aa5b25cc5cd192e771f3e6eb69ad5ce7c95aafa03cb1cbf3bc1a59bc9435c43", func := "tallystick/tallysticklaw12.CheckRoots", spec := "checkRoots", plainKeys := false, apart := false }
def CheckRootsSaid : Prop := checkRootsRow.holds Try.pinned (OpenSpec.ofChange checkRootsSpec)

/-- ITS FALSE NEIGHBOUR: 'it returns false'. Refute it at one input. -/
def checkRootsWrong : ChangeSpec := { name := "checkRoots", fn := fun _ => fun
  | [d1, d2] => { results := [.lit (.bool false)], args := [d1, d2] }
  | _ => none }
def CheckRootsWrongFalsely : Prop := checkRootsRow.holds Try.pinned (OpenSpec.ofChange checkRootsWrong)

/-- 'tallysticklaw12.CheckPairs': WHATEVER THE INPUT: true; the input reads as it did. -/
def checkPairsSpec : ChangeSpec := { name := "checkPairs", fn := fun _ => fun
  | [d1, d2] => { results := [.lit (.bool true)], args := [d1, d2] }
  | _ => none }
def checkPairsRow : OpenClaim := { program := "ytnonabmbichfnaa", sum := "1aa5b25cc5cd192e771f3e6eb69ad5ce7c95aafa03cb1cbf3bc1a59bc9435c43", func := "tallystick/tallysticklaw12.CheckPairs", spec := "checkPairs", plainKeys := false, apart := false }
def CheckPairsSaid : Prop := checkPairsRow.holds Try.pinned (OpenSpec.ofChange checkPairsSpec)

/-- ITS FALSE NEIGHBOUR: 'it returns false'. Refute it at one input. -/
def checkPairsWrong : ChangeSpec := { name := "checkPairs", fn := fun _ => fun
  | [d1, d2] => { results := [.lit (.bool false)], args := [d1, d2] }
  | _ => none }
def CheckPairsWrongFalsely : Prop := checkPairsRow.holds Try.pinned (OpenSpec.ofChange checkPairsWrong)

/- THE SECOND FORM. 'bulk': how many values and letters a reading holds, each counted each time it is reached (what is shared counts as often as it is met; a slice's spare places count too). A statement '..UptoSaid' is the law's where the arguments, and the package variables that the reading takes, are together of bulk at most 1048576: NARROWER than '..Said'. Prove '..Said' where nothing that the law and all that it calls make is longer than what came in: it says more and counts as full. Else prove '..UptoSaid'. A law counts once. -/
mutual
def uptoBulk {H : Type} : DataW H → Nat
  | .lit (.string bytes) => bytes.length + 1
  | .lit _ => 1
  | .nil => 1
  | .ptr d => uptoBulk d + 1
  | .slice elems spare => uptoBulkAll elems + uptoBulkAll spare + 1
  | .agg parts => uptoBulkAll parts + 1
  | .iface _ d => uptoBulk d + 1
  | .map entries => uptoBulkEntries entries + 1
  | .held _ => 1
def uptoBulkAll {H : Type} : List (DataW H) → Nat
  | [] => 0
  | d :: r => uptoBulk d + uptoBulkAll r
def uptoBulkEntries {H : Type} : List (Lit × DataW H) → Nat
  | [] => 0
  | x :: r => uptoBulkEntry x + uptoBulkEntries r
def uptoBulkEntry {H : Type} : Lit × DataW H → Nat
  | (.string bytes, d) => bytes.length + uptoBulk d + 1
  | (_, d) => uptoBulk d + 1
 end
def uptoSmall : (H : Type) → List (DataW H) → Bool := fun _ ds => decide (uptoBulkAll ds ≤ 1048576)
def OpenSpec.upto (s : _root_.Go.ChangeSpec) : _root_.Go.OpenSpec := { _root_.Go.OpenSpec.ofChange s with cond := some uptoSmall }

/-- 'tallysticklaw12.CheckTxs', WHERE WHAT IT READS IS OF BULK AT MOST 1048576: true; the input reads as it did. -/
def checkTxsUptoRow : OpenClaim := { program := "ytnonabmbichfnaa", sum := "1aa5b25cc5cd192e771f3e6eb69ad5ce7c95aafa03cb1cbf3bc1a59bc9435c43", func := "tallystick/tallysticklaw12.CheckTxs", spec := "checkTxs", plainKeys := false, apart := false, narrowed := true }
def CheckTxsUptoSaid : Prop := checkTxsUptoRow.holds Try.pinned (OpenSpec.upto checkTxsSpec)

/-- 'tallysticklaw12.CheckBlocks', WHERE WHAT IT READS IS OF BULK AT MOST 1048576: true; the input reads as it did. -/
def checkBlocksUptoRow : OpenClaim := { program := "ytnonabmbichfnaa", sum := "1aa5b25cc5cd192e771f3e6eb69ad5ce7c95aafa03cb1cbf3bc1a59bc9435c43", func := "tallystick/tallysticklaw12.CheckBlocks", spec := "checkBlocks", recurses := true, plainKeys := false, apart := false, narrowed := true }
def CheckBlocksUptoSaid : Prop := checkBlocksUptoRow.holds Try.pinned (OpenSpec.upto checkBlocksSpec)

/-- 'tallysticklaw12.CheckDoubled', WHERE WHAT IT READS IS OF BULK AT MOST 1048576: true; the input reads as it did. -/
def checkDoubledUptoRow : OpenClaim := { program := "ytnonabmbichfnaa", sum := "1aa5b25cc5cd192e771f3e6eb69ad5ce7c95aafa03cb1cbf3bc1a59bc9435c43", func := "tallystick/tallysticklaw12.CheckDoubled", spec := "checkDoubled", plainKeys := false, apart := false, narrowed := true }
def CheckDoubledUptoSaid : Prop := checkDoubledUptoRow.holds Try.pinned (OpenSpec.upto checkDoubledSpec)

/-- 'tallysticklaw12.CheckOrder', WHERE WHAT IT READS IS OF BULK AT MOST 1048576: true; the input reads as it did. -/
def checkOrderUptoRow : OpenClaim := { program := "ytnonabmbichfnaa", sum := "1aa5b25cc5cd192e771f3e6eb69ad5ce7c95aafa03cb1cbf3bc1a59bc9435c43", func := "tallystick/tallysticklaw12.CheckOrder", spec := "checkOrder", plainKeys := false, apart := false, narrowed := true }
def CheckOrderUptoSaid : Prop := checkOrderUptoRow.holds Try.pinned (OpenSpec.upto checkOrderSpec)

/-- 'tallysticklaw12.CheckMoney', WHERE WHAT IT READS IS OF BULK AT MOST 1048576: true; the input reads as it did. -/
def checkMoneyUptoRow : OpenClaim := { program := "ytnonabmbichfnaa", sum := "1aa5b25cc5cd192e771f3e6eb69ad5ce7c95aafa03cb1cbf3bc1a59bc9435c43", func := "tallystick/tallysticklaw12.CheckMoney", spec := "checkMoney", plainKeys := false, apart := false, narrowed := true }
def CheckMoneyUptoSaid : Prop := checkMoneyUptoRow.holds Try.pinned (OpenSpec.upto checkMoneySpec)

/-- 'tallysticklaw12.CheckRoots', WHERE WHAT IT READS IS OF BULK AT MOST 1048576: true; the input reads as it did. -/
def checkRootsUptoRow : OpenClaim := { program := "ytnonabmbichfnaa", sum := "1aa5b25cc5cd192e771f3e6eb69ad5ce7c95aafa03cb1cbf3bc1a59bc9435c43", func := "tallystick/tallysticklaw12.CheckRoots", spec := "checkRoots", plainKeys := false, apart := false, narrowed := true }
def CheckRootsUptoSaid : Prop := checkRootsUptoRow.holds Try.pinned (OpenSpec.upto checkRootsSpec)

/-- 'tallysticklaw12.CheckPairs', WHERE WHAT IT READS IS OF BULK AT MOST 1048576: true; the input reads as it did. -/
def checkPairsUptoRow : OpenClaim := { program := "ytnonabmbichfnaa", sum := "1aa5b25cc5cd192e771f3e6eb69ad5ce7c95aafa03cb1cbf3bc1a59bc9435c43", func := "tallystick/tallysticklaw12.CheckPairs", spec := "checkPairs", plainKeys := false, apart := false, narrowed := true }
def CheckPairsUptoSaid : Prop := checkPairsUptoRow.holds Try.pinned (OpenSpec.upto checkPairsSpec)

end Rows
end Go.Proofs.Ytnonabmbichfnaa
