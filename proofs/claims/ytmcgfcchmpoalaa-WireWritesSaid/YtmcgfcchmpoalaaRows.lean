/-
  No cell of these rows narrows 'for every input' (looked for: loops, veiled, ifaces, maps, wideKeys, modest, calm, conditions, laid).
  DERIVED. THE GIVEN ROWS OF THIS SEAT. 6 by the template 'for every input the law returns true; each argument reads behind the call as it read before'; 0 by the template 'total and deterministic' (their statements: YtmcgfcchmpoalaaTotals.lean).
  GIVEN WITH THE SEED: the statements are not yours to turn. If you find one false, say at which input.
  Laid BY PROGRAM, IN A SANDBOX (cutbox-rows.mjs): the forced cells as the released guide's own fill.sh prints them over the translation 0a62f62d30da96cc… (all of the seat's roots in one cut). By AI agents, Wed Nov 11 2026. No macro, syntax, notation, axiom, sorry.
-/
import Derived.Test.YtmcgfcchmpoalaaChecked
import GoSem.Claim
import GoSem.ClaimJoined
import GoSem.ClaimMapViews
import Derived.JoinedTies
import Derived.KernelRfl
namespace Go.Proofs.Ytmcgfcchmpoalaa
/- THE CELL 'sum', in the pinned program and in every row, IS THE sha256 OF THE DUMP (.gsa) THAT YtmcgfcchmpoalaaProg.lean LOADS. Nothing in Lean hashes anything: it is a label: what it is worth is what the hold of that sum in a sandbox is worth. -/
noncomputable def Try.pinned : Pinned := { name := "ytmcgfcchmpoalaa", sum := "0a62f62d30da96cc07074a17b40f37b3ef512dbe543221a597b5e42277d70908", checked := Try.checked }
namespace Rows
def none {H : Type} : Left H := { results := [], args := [] }

/-- 'tallysticklaw06.WireOwn': WHATEVER THE INPUT: true; the input reads as it did. -/
def wireOwnSpec : ChangeSpec := { name := "wireOwn", fn := fun _ => fun
  | [d] => { results := [.lit (.bool true)], args := [d] }
  | _ => none }
def wireOwnRow : OpenClaim := { program := "ytmcgfcchmpoalaa", sum := "0a62f62d30da96cc07074a17b40f37b3ef512dbe543221a597b5e42277d70908", func := "tallystick/tallysticklaw06.WireOwn", spec := "wireOwn", apart := false }
def WireOwnSaid : Prop := wireOwnRow.holds Try.pinned (OpenSpec.ofChange wireOwnSpec)

/-- ITS FALSE NEIGHBOUR: 'it returns false'. Refute it at one input. -/
def wireOwnWrong : ChangeSpec := { name := "wireOwn", fn := fun _ => fun
  | [d] => { results := [.lit (.bool false)], args := [d] }
  | _ => none }
def WireOwnWrongFalsely : Prop := wireOwnRow.holds Try.pinned (OpenSpec.ofChange wireOwnWrong)

/-- 'tallysticklaw06.WireSmall': WHATEVER THE INPUT: true; the input reads as it did. -/
def wireSmallSpec : ChangeSpec := { name := "wireSmall", fn := fun _ => fun
  | [d1, d2] => { results := [.lit (.bool true)], args := [d1, d2] }
  | _ => none }
def wireSmallRow : OpenClaim := { program := "ytmcgfcchmpoalaa", sum := "0a62f62d30da96cc07074a17b40f37b3ef512dbe543221a597b5e42277d70908", func := "tallystick/tallysticklaw06.WireSmall", spec := "wireSmall", apart := false }
def WireSmallSaid : Prop := wireSmallRow.holds Try.pinned (OpenSpec.ofChange wireSmallSpec)

/-- ITS FALSE NEIGHBOUR: 'it returns false'. Refute it at one input. -/
def wireSmallWrong : ChangeSpec := { name := "wireSmall", fn := fun _ => fun
  | [d1, d2] => { results := [.lit (.bool false)], args := [d1, d2] }
  | _ => none }
def WireSmallWrongFalsely : Prop := wireSmallRow.holds Try.pinned (OpenSpec.ofChange wireSmallWrong)

/-- 'tallysticklaw06.WireMost': WHATEVER THE INPUT: true; the input reads as it did. -/
def wireMostSpec : ChangeSpec := { name := "wireMost", fn := fun _ => fun
  | [d1, d2, d3] => { results := [.lit (.bool true)], args := [d1, d2, d3] }
  | _ => none }
def wireMostRow : OpenClaim := { program := "ytmcgfcchmpoalaa", sum := "0a62f62d30da96cc07074a17b40f37b3ef512dbe543221a597b5e42277d70908", func := "tallystick/tallysticklaw06.WireMost", spec := "wireMost", apart := false }
def WireMostSaid : Prop := wireMostRow.holds Try.pinned (OpenSpec.ofChange wireMostSpec)

/-- ITS FALSE NEIGHBOUR: 'it returns false'. Refute it at one input. -/
def wireMostWrong : ChangeSpec := { name := "wireMost", fn := fun _ => fun
  | [d1, d2, d3] => { results := [.lit (.bool false)], args := [d1, d2, d3] }
  | _ => none }
def WireMostWrongFalsely : Prop := wireMostRow.holds Try.pinned (OpenSpec.ofChange wireMostWrong)

/-- 'tallysticklaw06.WireOne': WHATEVER THE INPUT: true; the input reads as it did. -/
def wireOneSpec : ChangeSpec := { name := "wireOne", fn := fun _ => fun
  | [d] => { results := [.lit (.bool true)], args := [d] }
  | _ => none }
def wireOneRow : OpenClaim := { program := "ytmcgfcchmpoalaa", sum := "0a62f62d30da96cc07074a17b40f37b3ef512dbe543221a597b5e42277d70908", func := "tallystick/tallysticklaw06.WireOne", spec := "wireOne", apart := false }
def WireOneSaid : Prop := wireOneRow.holds Try.pinned (OpenSpec.ofChange wireOneSpec)

/-- ITS FALSE NEIGHBOUR: 'it returns false'. Refute it at one input. -/
def wireOneWrong : ChangeSpec := { name := "wireOne", fn := fun _ => fun
  | [d] => { results := [.lit (.bool false)], args := [d] }
  | _ => none }
def WireOneWrongFalsely : Prop := wireOneRow.holds Try.pinned (OpenSpec.ofChange wireOneWrong)

/-- 'tallysticklaw06.WireWrites': WHATEVER THE INPUT: true; the input reads as it did. -/
def wireWritesSpec : ChangeSpec := { name := "wireWrites", fn := fun _ => fun
  | [d] => { results := [.lit (.bool true)], args := [d] }
  | _ => none }
def wireWritesRow : OpenClaim := { program := "ytmcgfcchmpoalaa", sum := "0a62f62d30da96cc07074a17b40f37b3ef512dbe543221a597b5e42277d70908", func := "tallystick/tallysticklaw06.WireWrites", spec := "wireWrites", apart := false }
def WireWritesSaid : Prop := wireWritesRow.holds Try.pinned (OpenSpec.ofChange wireWritesSpec)

/-- ITS FALSE NEIGHBOUR: 'it returns false'. Refute it at one input. -/
def wireWritesWrong : ChangeSpec := { name := "wireWrites", fn := fun _ => fun
  | [d] => { results := [.lit (.bool false)], args := [d] }
  | _ => none }
def WireWritesWrongFalsely : Prop := wireWritesRow.holds Try.pinned (OpenSpec.ofChange wireWritesWrong)

/-- 'tallysticklaw06.WireReads': WHATEVER THE INPUT: true; the input reads as it did. -/
def wireReadsSpec : ChangeSpec := { name := "wireReads", fn := fun _ => fun
  | [d1, d2] => { results := [.lit (.bool true)], args := [d1, d2] }
  | _ => none }
def wireReadsRow : OpenClaim := { program := "ytmcgfcchmpoalaa", sum := "0a62f62d30da96cc07074a17b40f37b3ef512dbe543221a597b5e42277d70908", func := "tallystick/tallysticklaw06.WireReads", spec := "wireReads", apart := false }
def WireReadsSaid : Prop := wireReadsRow.holds Try.pinned (OpenSpec.ofChange wireReadsSpec)

/-- ITS FALSE NEIGHBOUR: 'it returns false'. Refute it at one input. -/
def wireReadsWrong : ChangeSpec := { name := "wireReads", fn := fun _ => fun
  | [d1, d2] => { results := [.lit (.bool false)], args := [d1, d2] }
  | _ => none }
def WireReadsWrongFalsely : Prop := wireReadsRow.holds Try.pinned (OpenSpec.ofChange wireReadsWrong)

/- THE SECOND FORM. 'bulk': how many values and letters a reading holds, each counted each time it is reached (what is shared counts as often as it is met; a slice's spare places count too). A statement '..UptoSaid' is the law's where the arguments, and the package variables that the reading takes, are together of bulk at most 1048576: NARROWER than '..Said'. Prove '..Said' where nothing that the law and all that it calls make is longer than what came in: it says more and counts as full. Else prove '..UptoSaid'. A law counts once. -/
mutual
def uptoBulk {H : Type} : DataW H → Nat
  | .lit (.string bytes) => bytes.length + 1
  | .lit _ => 1
  | .nil => 1
  | .ptr d => uptoBulk d + 1
  | .slice elems spare => uptoBulkAll elems + uptoBulkAll spare + 1
  | .agg parts => uptoBulkAll parts + 1
  | .iface _ d => uptoBulk d + 1
  | .map entries => uptoBulkEntries entries + 1
  | .held _ => 1
def uptoBulkAll {H : Type} : List (DataW H) → Nat
  | [] => 0
  | d :: r => uptoBulk d + uptoBulkAll r
def uptoBulkEntries {H : Type} : List (Lit × DataW H) → Nat
  | [] => 0
  | x :: r => uptoBulkEntry x + uptoBulkEntries r
def uptoBulkEntry {H : Type} : Lit × DataW H → Nat
  | (.string bytes, d) => bytes.length + uptoBulk d + 1
  | (_, d) => uptoBulk d + 1
 end
def uptoSmall : (H : Type) → List (DataW H) → Bool := fun _ ds => decide (uptoBulkAll ds ≤ 1048576)
def OpenSpec.upto (s : _root_.Go.ChangeSpec) : _root_.Go.OpenSpec := { _root_.Go.OpenSpec.ofChange s with cond := some uptoSmall }

/-- 'tallysticklaw06.WireOwn', WHERE WHAT IT READS IS OF BULK AT MOST 1048576: true; the input reads as it did. -/
def wireOwnUptoRow : OpenClaim := { program := "ytmcgfcchmpoalaa", sum := "0a62f62d30da96cc07074a17b40f37b3ef512dbe543221a597b5e42277d70908", func := "tallystick/tallysticklaw06.WireOwn", spec := "wireOwn", apart := false, narrowed := true }
def WireOwnUptoSaid : Prop := wireOwnUptoRow.holds Try.pinned (OpenSpec.upto wireOwnSpec)

/-- 'tallysticklaw06.WireSmall', WHERE WHAT IT READS IS OF BULK AT MOST 1048576: true; the input reads as it did. -/
def wireSmallUptoRow : OpenClaim := { program := "ytmcgfcchmpoalaa", sum := "0a62f62d30da96cc07074a17b40f37b3ef512dbe543221a597b5e42277d70908", func := "tallystick/tallysticklaw06.WireSmall", spec := "wireSmall", apart := false, narrowed := true }
def WireSmallUptoSaid : Prop := wireSmallUptoRow.holds Try.pinned (OpenSpec.upto wireSmallSpec)

/-- 'tallysticklaw06.WireMost', WHERE WHAT IT READS IS OF BULK AT MOST 1048576: true; the input reads as it did. -/
def wireMostUptoRow : OpenClaim := { program := "ytmcgfcchmpoalaa", sum := "0a62f62d30da96cc07074a17b40f37b3ef512dbe543221a597b5e42277d70908", func := "tallystick/tallysticklaw06.WireMost", spec := "wireMost", apart := false, narrowed := true }
def WireMostUptoSaid : Prop := wireMostUptoRow.holds Try.pinned (OpenSpec.upto wireMostSpec)

/-- 'tallysticklaw06.WireOne', WHERE WHAT IT READS IS OF BULK AT MOST 1048576: true; the input reads as it did. -/
def wireOneUptoRow : OpenClaim := { program := "ytmcgfcchmpoalaa", sum := "0a62f62d30da96cc07074a17b40f37b3ef512dbe543221a597b5e42277d70908", func := "tallystick/tallysticklaw06.WireOne", spec := "wireOne", apart := false, narrowed := true }
def WireOneUptoSaid : Prop := wireOneUptoRow.holds Try.pinned (OpenSpec.upto wireOneSpec)

/-- 'tallysticklaw06.WireWrites', WHERE WHAT IT READS IS OF BULK AT MOST 1048576: true; the input reads as it did. -/
def wireWritesUptoRow : OpenClaim := { program := "ytmcgfcchmpoalaa", sum := "0a62f62d30da96cc07074a17b40f37b3ef512dbe543221a597b5e42277d70908", func := "tallystick/tallysticklaw06.WireWrites", spec := "wireWrites", apart := false, narrowed := true }
def WireWritesUptoSaid : Prop := wireWritesUptoRow.holds Try.pinned (OpenSpec.upto wireWritesSpec)

/-- 'tallysticklaw06.WireReads', WHERE WHAT IT READS IS OF BULK AT MOST 1048576: true; the input reads as it did. -/
def wireReadsUptoRow : OpenClaim := { program := "ytmcgfcchmpoalaa", sum := "0a62f62d30da96cc07074a17b40f37b3ef512dbe543221a597b5e42277d70908", func := "tallystick/tallysticklaw06.WireReads", spec := "wireReads", apart := false, narrowed := true }
def WireReadsUptoSaid : Prop := wireReadsUptoRow.holds Try.pinned (OpenSpec.upto wireReadsSpec)

end Rows
end Go.Proofs.Ytmcgfcchmpoalaa
