/- CheckMoney: for every input the law returns true. No conditions. -/
import Derived.Test.YtkenkhefpemdmaaMw
namespace Go.Proofs.Ytkenkhefpemdmaa
open Go.RowKit Go.WideShapes Go.ChangeShapes Go.ChangeAt
open Go.ChangeMaps (open_string)

set_option maxRecDepth 20000 in
theorem checkMoney_lifted (os : Os) (started : os.Started) (H : Type) (enc : TypeId × Value → H) :
    ReturnsInHanded {} Try.checked os 7 .any (Rows.checkMoneySpec.pre6 enc Try.prog Try.f7 Rows.checkMoneyRow.domain false) (Rows.checkMoneySpec.post enc Try.prog Try.f7 false true false false) := by
  refine law_lift (C := Try.checked) own started (by kernel_rfl) Try.func7
    (ChangeSpec.witness6 (enc := enc) (C := Try.checked) false ⟨#[], #[.int .i64 0, .int .i64 0], []⟩ 8 (by kernel_rfl) (by kernel_rfl) (by kernel_rfl) (by kernel_rfl)) rfl Try.underlying4 laidOut ?hread rfl ?hs ?walk
  case hread =>
    intro t ht
    rw [Try.params7] at ht
    simp at ht
    subst ht
    exact ⟨by kernel_rfl, of_decide_eq_true (by kernel_rfl)⟩
  case hs =>
    intro ds hl
    match ds, hl with
    | [d0, d1], _ => exact ⟨rfl, rfl, rfl⟩
  case walk =>
    intro W base args ds p hval hA
    rw [Try.params7] at hA hval
    obtain ⟨v0, vs0, d0, ds0, p0, q0, hargs, rfl, rfl, h0, r0⟩ := trodAll_cons hA
    obtain ⟨v1, vs1, d1, ds1, p1, q1, rfl, rfl, rfl, h1, r1⟩ := trodAll_cons r0
    obtain ⟨rfl, rfl, rfl⟩ := trodAll_nil r1
    obtain rfl : args = #[v0, v1] := by cases args; simp_all
    obtain ⟨n0, rfl, rfl, rfl, w0⟩ := open_int Try.underlying2 (hval 0 2 v0 rfl rfl) h0
    have b0 := bounds_i64 w0
    obtain ⟨n1, rfl, rfl, rfl, w1⟩ := open_int Try.underlying2 (hval 1 2 v1 rfl rfl) h1
    have b1 := bounds_i64 w1
    exact checkMoney_any _ _ W w0 w1

theorem checkMoney_over : Rows.checkMoneyRow.holds Try.pinned (OpenSpec.ofChange Rows.checkMoneySpec) :=
  OpenClaim.holds_of_wide 7 Try.f7 rfl rfl rfl rfl rfl rfl rfl ⟨rfl, rfl, rfl, rfl, rfl⟩ rfl rfl rfl rfl rfl (by kernel_rfl) Try.func7 (by kernel_rfl)
    (of_decide_eq_true (by kernel_rfl)) (by unfold Func.isWrapper; first | (rw [if_pos (by decide +kernel)]; kernel_rfl) | (rw [if_neg (by decide +kernel)]; exact ⟨rfl, rfl⟩))
    (fun os started H enc _ => checkMoney_lifted os started H enc)

/-- the statement -/
theorem CheckMoney_holds : Rows.CheckMoneySaid := checkMoney_over
#print axioms CheckMoney_holds
end Go.Proofs.Ytkenkhefpemdmaa
