/- Arguments that are structs or arrays, opened by their shapes. No program in sight. -/
import Derived.Test.YtlbpeihdedhjiaaShp
import Derived.WideKeyArr2
namespace Go.Proofs.Ytlbpeihdedhjiaa
open Go.RowKit Go.WideShapes
section
variable {α H : Type} {P : Program} {t : TypeId} {s : Shape α} {enc : TypeId × Value → H} {w : World} {base b0 : Nat} {spare : Nat → Bool} {held : Bool} {r : Reach} {v : Value} {d : DataW H} {p : List MemPlace}
theorem open_st {fs : Array Field} (ht : P.underlying t = some (.struct fs)) (ho : Opens P t s) (hv : Value.okWide P w r b0 t v) (h : DataW.Trod enc P w base spare held t v d p) : ∃ cs a, v = .agg cs ∧ s.rel w (fun b => b < w.heap.size) cs.toList a := by
  obtain ⟨a, ha⟩ := open_shape ho hv h
  obtain ⟨cs, rfl, _⟩ := okWide_struct ht hv
  exact ⟨cs, a, rfl, ha⟩
theorem okWide_array {e : TypeId} {n : Nat} (ht : P.underlying t = some (.array n e)) (h : Value.okWide P w r base t v) : ∃ cs, v = .agg cs ∧ cs.size = P.cellsOf t := by
  simp only [Value.okWide, ht] at h
  obtain ⟨cs, h1, h2, _⟩ := h
  exact ⟨cs, h1, h2⟩
theorem open_ar {e : TypeId} {n : Nat} (ht : P.underlying t = some (.array n e)) (ho : Opens P t s) (hv : Value.okWide P w r b0 t v) (h : DataW.Trod enc P w base spare held t v d p) : ∃ cs a, v = .agg cs ∧ s.rel w (fun b => b < w.heap.size) cs.toList a := by
  obtain ⟨a, ha⟩ := open_shape ho hv h
  obtain ⟨cs, rfl, _⟩ := okWide_array ht hv
  exact ⟨cs, a, rfl, ha⟩
end
end Go.Proofs.Ytlbpeihdedhjiaa
