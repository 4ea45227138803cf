/- What is built of parts: structs of a header, a block; slices of two sums. -/
import Derived.Test.YtkenkhefpemdmabCb
import Derived.Test.YtkenkhefpemdmabMk
import Derived.Laws.Tables
import Derived.Great.BuildSlice
namespace Go.Proofs.Ytkenkhefpemdmab
open Go.RowKit
section
variable {P : Program} {ops : Array Oper} {rest : List Oper} {o : Oper} {a : Act} {w w' : World} {Q : Exit → Act → World → Prop}
theorem wpList_bld (hg : o.guard = none) (t : TypeId) (parts : Array (Nat × Operand)) (ho : o.op = .build t parts) (l : List (Nat × Value)) (cells : Array Value) (hb : P.built t l = some cells) (hl : (parts.map fun p => (p.1, a.eval p.2)).toList = l)
    (h : wpList P ops Q rest (a.put o.dst (.agg cells)) w) : wpList P ops Q (o :: rest) a w :=
  wpList_plain hg fun _ hK => by
    unfold Oper.wp execOp
    simp only [ho, Sem.run_bind, run_build w t _ cells (by rw [← hb, ← hl]), Result.andThen_ok]
    exact hK _ _ h
theorem wpList_bsl (hg : o.guard = none) (t : TypeId) (n : Nat) (parts : Array (Nat × Operand)) (ho : o.op = .buildSlice t n parts) (l : Array (Nat × Value)) (v : Value) (hr : (Instr.buildSlice t n l).run P w = .ok v w') (hl : (parts.map fun p => (p.1, a.eval p.2)) = l)
    (h : wpList P ops Q rest (a.put o.dst v) w') : wpList P ops Q (o :: rest) a w :=
  wpList_plain hg fun _ hK => by
    have hr' : (Instr.buildSlice t n (parts.map fun p => (p.1, a.eval p.2))).run P w = .ok v w' := by rw [hl]; exact hr
    unfold Oper.wp execOp
    simp only [ho, Sem.run_bind, hr', Result.andThen_ok]
    exact hK _ _ h
end
theorem run_two (x y : List UInt8) (hx : x.length = 32) (hy : y.length = 32) (w : World) : (Instr.buildSlice 55 2 #[(0, .agg (bts x).toArray), (1, .agg (bts y).toArray)]).run Try.prog w = .ok (.slice (some ⟨w.heap.size, 0, none⟩) 2 2) (w.alloc (.cells (bts x ++ bts y).toArray 23)) := by
  match x, hx with
  | [_, _, _, _, _, _, _, _, _, _, _, _, _, _, _, _, _, _, _, _, _, _, _, _, _, _, _, _, _, _, _, _], _ =>
    match y, hy with
    | [_, _, _, _, _, _, _, _, _, _, _, _, _, _, _, _, _, _, _, _, _, _, _, _, _, _, _, _, _, _, _, _], _ => (show _ = _; kernel_rfl)
theorem built_hdr2 (r : List UInt8) (h : r.length = 32) : Try.prog.built 37 [(2, .agg (bts r).toArray)] = some (hdrC 0 zid r 0 0 0).toArray := by
  match r, h with
  | [_, _, _, _, _, _, _, _, _, _, _, _, _, _, _, _, _, _, _, _, _, _, _, _, _, _, _, _, _, _, _, _], _ => (show _ = _; kernel_rfl)
theorem built_blk (r : List UInt8) (A : Option Addr) (n c : Nat) (h : r.length = 32) : Try.prog.built 40 [(0, .agg (hdrC 0 zid r 0 0 0).toArray), (1, .slice A n c)] = some (blkC 0 zid r 0 0 0 (.slice A n c)).toArray := by
  match r, h with
  | [_, _, _, _, _, _, _, _, _, _, _, _, _, _, _, _, _, _, _, _, _, _, _, _, _, _, _, _, _, _, _, _], _ => (show _ = _; kernel_rfl)
end Go.Proofs.Ytkenkhefpemdmab
