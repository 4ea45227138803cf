/- CheckOrder: for every input the law returns true. No conditions. -/
import Derived.Test.YtkenkhefpemdmaaOrd
import Derived.Test.YtkenkhefpemdmaaArg
namespace Go.Proofs.Ytkenkhefpemdmaa
open Go.RowKit Go.WideShapes Go.ChangeShapes Go.ChangeAt
open Go.ChangeMaps (open_string)
set_option maxRecDepth 20000 in
set_option maxHeartbeats 4000000 in
theorem checkOrder_lifted (os : Os) (started : os.Started) (H : Type) (enc : TypeId × Value → H) :
    ReturnsInHanded {} Try.checked os 6 .any (Rows.checkOrderSpec.pre6 enc Try.prog Try.f6 Rows.checkOrderRow.domain false) (Rows.checkOrderSpec.post enc Try.prog Try.f6 false true false false) := by
  refine law_lift (C := Try.checked) own started (by kernel_rfl) Try.func6
    (ChangeSpec.witness6 (enc := enc) (C := Try.checked) false ⟨#[], #[.agg #[.slice none 0 0, .slice none 0 0], .bool false], []⟩ 8 (by kernel_rfl) (by kernel_rfl) (by kernel_rfl) (by kernel_rfl)) rfl Try.underlying4 laidOut ?hread rfl ?hs ?walk
  case hread =>
    intro t ht
    rw [Try.params6] at ht
    simp at ht
    rcases ht with rfl | rfl <;> exact ⟨by kernel_rfl, of_decide_eq_true (by kernel_rfl)⟩
  case hs =>
    intro ds hl
    match ds, hl with
    | [d0, d1], _ => exact ⟨rfl, rfl, rfl⟩
  case walk =>
    intro W base args ds p hval hA
    rw [Try.params6] at hA hval
    obtain ⟨v0, vs0, d0, ds0, p0, q0, hargs, rfl, rfl, h0, r0⟩ := trodAll_cons hA
    obtain ⟨v1, vs1, d1, ds1, p1, q1, rfl, rfl, rfl, h1, r1⟩ := trodAll_cons r0
    obtain ⟨rfl, rfl, rfl⟩ := trodAll_nil r1
    obtain rfl : args = #[v0, v1] := by cases args; simp_all
    obtain ⟨cs0, a0, rfl, ha0⟩ := open_st Try.underlying25 opens_tx (hval 0 25 v0 rfl rfl) h0
    obtain ⟨x1, rfl, rfl, rfl⟩ := open_bool Try.underlying4 (hval 1 4 v1 rfl rfl) h1
    obtain ⟨ins, outs, A, A', c, c', rfl, hcs, hi, ho⟩ := tx_cells ha0
    obtain ⟨cs0⟩ := cs0
    simp only at hcs
    subst hcs
    exact checkOrder_any W A A' _ _ c c' ins outs _ x1 hi ho (fun _ h => h)

theorem checkOrder_over : Rows.checkOrderRow.holds Try.pinned (OpenSpec.ofChange Rows.checkOrderSpec) :=
  OpenClaim.holds_of_wide 6 Try.f6 rfl rfl rfl rfl rfl rfl rfl ⟨rfl, rfl, rfl, rfl, rfl⟩ rfl rfl rfl rfl rfl (by kernel_rfl) Try.func6 (by kernel_rfl)
    (of_decide_eq_true (by kernel_rfl)) (by unfold Func.isWrapper; first | (rw [if_pos (by decide +kernel)]; kernel_rfl) | (rw [if_neg (by decide +kernel)]; exact ⟨rfl, rfl⟩))
    (fun os started H enc _ => checkOrder_lifted os started H enc)

/-- the statement -/
theorem CheckOrder_holds : Rows.CheckOrderSaid := checkOrder_over
#print axioms CheckOrder_holds
end Go.Proofs.Ytkenkhefpemdmaa
