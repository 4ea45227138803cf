/- TxRoots: for every input the law returns true. No conditions. -/
import Derived.Test.YtpcombaecbjmfaaRoo
import Derived.Test.YtpcombaecbjmfaaArg
namespace Go.Proofs.Ytpcombaecbjmfaa
open Go.RowKit Go.WideShapes Go.ChangeShapes Go.ChangeAt
open Go.ChangeMaps (open_string)
set_option maxRecDepth 20000 in
set_option maxHeartbeats 4000000 in
theorem txRoots_lifted (os : Os) (started : os.Started) (H : Type) (enc : TypeId × Value → H) :
    ReturnsInHanded {} Try.checked os 6 .any (Rows.txRootsSpec.pre6 enc Try.prog Try.f6 Rows.txRootsRow.domain false) (Rows.txRootsSpec.post enc Try.prog Try.f6 false true false false) := by
  refine law_lift (C := Try.checked) own started (by kernel_rfl) Try.func6
    (ChangeSpec.witness6 (enc := enc) (C := Try.checked) false ⟨#[], #[.slice none 0 0], []⟩ 8 (by kernel_rfl) (by kernel_rfl) (by kernel_rfl) (by kernel_rfl)) rfl Try.underlying4 laidOut ?hread rfl ?hs ?walk
  case hread =>
    intro t ht
    rw [Try.params6] at ht
    simp at ht
    subst ht
    exact ⟨by kernel_rfl, of_decide_eq_true (by kernel_rfl)⟩
  case hs =>
    intro ds hl
    match ds, hl with
    | [d0], _ => exact ⟨rfl, rfl, rfl⟩
  case walk =>
    intro W base args ds p hval hA
    rw [Try.params6] at hA hval
    obtain ⟨v0, vs0, d0, ds0, p0, q0, hargs, rfl, rfl, h0, r0⟩ := trodAll_cons hA
    obtain ⟨rfl, rfl, rfl⟩ := trodAll_nil r0
    obtain rfl : args = #[v0] := by cases args; simp_all
    obtain ⟨a0, ha0⟩ := open_sl Try.underlying44 opens_txs (hval 0 44 v0 rfl rfl) h0
    obtain ⟨A, c, rfl, _, _⟩ := shSlice_form ha0
    exact txRoots_any W A _ c a0 _ ha0 rfl

theorem txRoots_over : Rows.txRootsRow.holds Try.pinned (OpenSpec.ofChange Rows.txRootsSpec) :=
  OpenClaim.holds_of_wide 6 Try.f6 rfl rfl rfl rfl rfl rfl rfl ⟨rfl, rfl, rfl, rfl, rfl⟩ rfl rfl rfl rfl rfl (by kernel_rfl) Try.func6 (by kernel_rfl)
    (of_decide_eq_true (by kernel_rfl)) (by unfold Func.isWrapper; first | (rw [if_pos (by decide +kernel)]; kernel_rfl) | (rw [if_neg (by decide +kernel)]; exact ⟨rfl, rfl⟩))
    (fun os started H enc _ => txRoots_lifted os started H enc)

/-- the statement -/
theorem TxRoots_holds : Rows.TxRootsSaid := txRoots_over
#print axioms TxRoots_holds
end Go.Proofs.Ytpcombaecbjmfaa
