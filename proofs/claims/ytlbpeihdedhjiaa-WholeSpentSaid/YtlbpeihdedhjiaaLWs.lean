/- WholeSpent: for every input the law returns true. No conditions. -/
import Derived.Test.YtlbpeihdedhjiaaWs
import Derived.Test.YtlbpeihdedhjiaaArg
namespace Go.Proofs.Ytlbpeihdedhjiaa
open Go.RowKit Go.WideShapes Go.ChangeShapes Go.ChangeAt
open Go.ChangeMaps (open_string)
set_option maxRecDepth 20000 in
set_option maxHeartbeats 4000000 in
theorem wholeSpent_lifted (os : Os) (started : os.Started) (H : Type) (enc : TypeId × Value → H) :
    ReturnsInHanded {} Try.checked os 3 .any (Rows.wholeSpentSpec.pre6 enc Try.prog Try.f3 Rows.wholeSpentRow.domain false) (Rows.wholeSpentSpec.post enc Try.prog Try.f3 false true false false) := by
  refine law_lift (C := Try.checked) own started (by kernel_rfl) Try.func3
    (ChangeSpec.witness6 (enc := enc) (C := Try.checked) false ⟨#[], #[.slice none 0 0, .slice none 0 0], []⟩ 8 (by kernel_rfl) (by kernel_rfl) (by kernel_rfl) (by kernel_rfl)) rfl Try.underlying4 laidOut ?hread rfl ?hs ?walk
  case hread =>
    intro t ht
    rw [Try.params3] at ht
    simp at ht
    rcases ht with rfl | rfl <;> exact ⟨by kernel_rfl, of_decide_eq_true (by kernel_rfl)⟩
  case hs =>
    intro ds hl
    match ds, hl with
    | [d0, d1], _ => exact ⟨rfl, rfl, rfl⟩
  case walk =>
    intro W base args ds p hval hA
    rw [Try.params3] at hA hval
    obtain ⟨v0, vs0, d0, ds0, p0, q0, hargs, rfl, rfl, h0, r0⟩ := trodAll_cons hA
    obtain ⟨v1, vs1, d1, ds1, p1, q1, rfl, rfl, rfl, h1, r1⟩ := trodAll_cons r0
    obtain ⟨rfl, rfl, rfl⟩ := trodAll_nil r1
    obtain rfl : args = #[v0, v1] := by cases args; simp_all
    obtain ⟨a0, ha0⟩ := open_sl Try.underlying22 opens_keys (hval 0 22 v0 rfl rfl) h0
    obtain ⟨a1, ha1⟩ := open_sl Try.underlying23 opens_fees (hval 1 23 v1 rfl rfl) h1
    have h0' := weak_slice weak_bytes _ _ (fun b => b < W.heap.size) _ _ ha0 (fun b hb _ => hb)
    have h1' := weak_slice (weak_int _) _ _ (fun b => b < W.heap.size) _ _ ha1 (fun b hb _ => hb)
    obtain ⟨A, c, rfl, _, _⟩ := shSlice_form ha0
    obtain ⟨F, fc, rfl, _, _⟩ := shSlice_form ha1
    exact wholeSpent_any W A _ c a0 F _ fc a1 h0' rfl h1' rfl

theorem wholeSpent_over : Rows.wholeSpentRow.holds Try.pinned (OpenSpec.ofChange Rows.wholeSpentSpec) :=
  OpenClaim.holds_of_wide 3 Try.f3 rfl rfl rfl rfl rfl rfl rfl ⟨rfl, rfl, rfl, rfl, rfl⟩ rfl rfl rfl rfl rfl (by kernel_rfl) Try.func3 (by kernel_rfl)
    (of_decide_eq_true (by kernel_rfl)) (by unfold Func.isWrapper; first | (rw [if_pos (by decide +kernel)]; kernel_rfl) | (rw [if_neg (by decide +kernel)]; exact ⟨rfl, rfl⟩))
    (fun os started H enc _ => wholeSpent_lifted os started H enc)

/-- the statement -/
theorem WholeSpent_holds : Rows.WholeSpentSaid := wholeSpent_over
#print axioms WholeSpent_holds
end Go.Proofs.Ytlbpeihdedhjiaa
