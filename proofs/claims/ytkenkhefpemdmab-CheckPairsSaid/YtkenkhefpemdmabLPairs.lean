/- CheckPairs: for every input the law returns true. No conditions. -/
import Derived.Test.YtkenkhefpemdmabPrs
import Derived.Test.YtkenkhefpemdmabArg
namespace Go.Proofs.Ytkenkhefpemdmab
open Go.RowKit Go.WideShapes Go.ChangeShapes Go.ChangeAt
open Go.ChangeMaps (open_string)
set_option maxRecDepth 20000 in
set_option maxHeartbeats 4000000 in
theorem checkPairs_lifted (os : Os) (started : os.Started) (H : Type) (enc : TypeId × Value → H) :
    ReturnsInHanded {} Try.checked os 3 .any (Rows.checkPairsSpec.pre6 enc Try.prog Try.f3 Rows.checkPairsRow.domain false) (Rows.checkPairsSpec.post enc Try.prog Try.f3 false true false false) := by
  refine law_lift (C := Try.checked) own started (by kernel_rfl) Try.func3
    (ChangeSpec.witness6 (enc := enc) (C := Try.checked) false ⟨#[], #[.agg (bts zid).toArray, .agg (bts zid).toArray], []⟩ 8 (by kernel_rfl) (by kernel_rfl) (by kernel_rfl) (by kernel_rfl)) rfl Try.underlying4 laidOut ?hread rfl ?hs ?walk
  case hread =>
    intro t ht
    rw [Try.params3] at ht
    simp at ht
    subst ht
    exact ⟨by kernel_rfl, of_decide_eq_true (by kernel_rfl)⟩
  case hs =>
    intro ds hl
    match ds, hl with
    | [d0, d1], _ => exact ⟨rfl, rfl, rfl⟩
  case walk =>
    intro W base args ds p hval hA
    rw [Try.params3] at hA hval
    obtain ⟨v0, vs0, d0, ds0, p0, q0, hargs, rfl, rfl, h0, r0⟩ := trodAll_cons hA
    obtain ⟨v1, vs1, d1, ds1, p1, q1, rfl, rfl, rfl, h1, r1⟩ := trodAll_cons r0
    obtain ⟨rfl, rfl, rfl⟩ := trodAll_nil r1
    obtain rfl : args = #[v0, v1] := by cases args; simp_all
    obtain ⟨cs0, a0, rfl, ha0⟩ := open_ar Try.underlying23 opens_id (hval 0 23 v0 rfl rfl) h0
    obtain ⟨cs1, a1, rfl, ha1⟩ := open_ar Try.underlying23 opens_id (hval 1 23 v1 rfl rfl) h1
    obtain ⟨cs0⟩ := cs0
    obtain ⟨cs1⟩ := cs1
    obtain ⟨hc0, k0⟩ := ha0
    obtain ⟨hc1, k1⟩ := ha1
    simp only at hc0 hc1
    subst hc0 hc1
    exact checkPairs_any W a0 a1 k0 k1

theorem checkPairs_over : Rows.checkPairsRow.holds Try.pinned (OpenSpec.ofChange Rows.checkPairsSpec) :=
  OpenClaim.holds_of_wide 3 Try.f3 rfl rfl rfl rfl rfl rfl rfl ⟨rfl, rfl, rfl, rfl, rfl⟩ rfl rfl rfl rfl rfl (by kernel_rfl) Try.func3 (by kernel_rfl)
    (of_decide_eq_true (by kernel_rfl)) (by unfold Func.isWrapper; first | (rw [if_pos (by decide +kernel)]; kernel_rfl) | (rw [if_neg (by decide +kernel)]; exact ⟨rfl, rfl⟩))
    (fun os started H enc _ => checkPairs_lifted os started H enc)

/-- the statement -/
theorem CheckPairs_holds : Rows.CheckPairsSaid := checkPairs_over
#print axioms CheckPairs_holds
end Go.Proofs.Ytkenkhefpemdmab
