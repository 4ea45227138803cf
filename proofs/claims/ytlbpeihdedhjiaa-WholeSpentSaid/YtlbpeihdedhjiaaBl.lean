/- What is built of parts, as a step of a plain region. No program in sight. -/
import Derived.Test.YtlbpeihdedhjiaaWa
import Derived.Laws.Tables
import Derived.Great.BuildSlice
namespace Go.Proofs.Ytlbpeihdedhjiaa
open Go.RowKit
section
variable {P : Program} {ops : Array Oper} {rest : List Oper} {o : Oper} {a : Act} {w w' : World} {Q : Exit → Act → World → Prop}
theorem wpList_bld (hg : o.guard = none) (t : TypeId) (parts : Array (Nat × Operand)) (ho : o.op = .build t parts) (l : List (Nat × Value)) (cells : Array Value) (hb : P.built t l = some cells) (hl : (parts.map fun p => (p.1, a.eval p.2)).toList = l)
    (h : wpList P ops Q rest (a.put o.dst (.agg cells)) w) : wpList P ops Q (o :: rest) a w :=
  wpList_plain hg fun _ hK => by
    unfold Oper.wp execOp
    simp only [ho, Sem.run_bind, run_build w t _ cells (by rw [← hb, ← hl]), Result.andThen_ok]
    exact hK _ _ h
theorem wpList_bsl (hg : o.guard = none) (t : TypeId) (n : Nat) (parts : Array (Nat × Operand)) (ho : o.op = .buildSlice t n parts) (l : Array (Nat × Value)) (v : Value) (hr : (Instr.buildSlice t n l).run P w = .ok v w') (hl : (parts.map fun p => (p.1, a.eval p.2)) = l)
    (h : wpList P ops Q rest (a.put o.dst v) w') : wpList P ops Q (o :: rest) a w :=
  wpList_plain hg fun _ hK => by
    have hr' : (Instr.buildSlice t n (parts.map fun p => (p.1, a.eval p.2))).run P w = .ok v w' := by rw [hl]; exact hr
    unfold Oper.wp execOp
    simp only [ho, Sem.run_bind, hr', Result.andThen_ok]
    exact hK _ _ h
end
end Go.Proofs.Ytlbpeihdedhjiaa
