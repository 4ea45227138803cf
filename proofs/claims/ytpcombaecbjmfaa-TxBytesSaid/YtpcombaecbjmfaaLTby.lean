/- TxBytes: for every input the law returns true. No conditions. -/
import Derived.Test.YtpcombaecbjmfaaTby
import Derived.Test.YtpcombaecbjmfaaArg
namespace Go.Proofs.Ytpcombaecbjmfaa
open Go.RowKit Go.WideShapes Go.ChangeShapes Go.ChangeAt
open Go.ChangeMaps (open_string)
set_option maxRecDepth 20000 in
set_option maxHeartbeats 4000000 in
theorem txBytes_lifted (os : Os) (started : os.Started) (H : Type) (enc : TypeId × Value → H) :
    ReturnsInHanded {} Try.checked os 3 .any (Rows.txBytesSpec.pre6 enc Try.prog Try.f3 Rows.txBytesRow.domain false) (Rows.txBytesSpec.post enc Try.prog Try.f3 false true false false) := by
  refine law_lift (C := Try.checked) own started (by kernel_rfl) Try.func3
    (ChangeSpec.witness6 (enc := enc) (C := Try.checked) false ⟨#[], #[.agg #[.slice none 0 0, .slice none 0 0]], []⟩ 8 (by kernel_rfl) (by kernel_rfl) (by kernel_rfl) (by kernel_rfl)) rfl Try.underlying4 laidOut ?hread rfl ?hs ?walk
  case hread =>
    intro t ht
    rw [Try.params3] at ht
    simp at ht
    subst ht
    exact ⟨by kernel_rfl, of_decide_eq_true (by kernel_rfl)⟩
  case hs =>
    intro ds hl
    match ds, hl with
    | [d0], _ => exact ⟨rfl, rfl, rfl⟩
  case walk =>
    intro W base args ds p hval hA
    rw [Try.params3] at hA hval
    obtain ⟨v0, vs0, d0, ds0, p0, q0, hargs, rfl, rfl, h0, r0⟩ := trodAll_cons hA
    obtain ⟨rfl, rfl, rfl⟩ := trodAll_nil r0
    obtain rfl : args = #[v0] := by cases args; simp_all
    obtain ⟨cs0, a0, rfl, ha0⟩ := open_st Try.underlying25 opens_tx (hval 0 25 v0 rfl rfl) h0
    obtain ⟨ins, outs, A, A', c, c', rfl, hcs, hi, ho⟩ := tx_cells ha0
    obtain ⟨cs0⟩ := cs0
    simp only at hcs
    subst hcs
    exact txBytes_any W A A' _ _ c c' ins outs _ hi ho rfl rfl

theorem txBytes_over : Rows.txBytesRow.holds Try.pinned (OpenSpec.ofChange Rows.txBytesSpec) :=
  OpenClaim.holds_of_wide 3 Try.f3 rfl rfl rfl rfl rfl rfl rfl ⟨rfl, rfl, rfl, rfl, rfl⟩ rfl rfl rfl rfl rfl (by kernel_rfl) Try.func3 (by kernel_rfl)
    (of_decide_eq_true (by kernel_rfl)) (by unfold Func.isWrapper; first | (rw [if_pos (by decide +kernel)]; kernel_rfl) | (rw [if_neg (by decide +kernel)]; exact ⟨rfl, rfl⟩))
    (fun os started H enc _ => txBytes_lifted os started H enc)

/-- the statement -/
theorem TxBytes_holds : Rows.TxBytesSaid := txBytes_over
#print axioms TxBytes_holds
end Go.Proofs.Ytpcombaecbjmfaa
