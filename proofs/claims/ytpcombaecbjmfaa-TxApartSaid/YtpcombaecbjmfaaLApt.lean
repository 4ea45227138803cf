/- TxApart: for every input the law returns true. No conditions. -/
import Derived.Test.YtpcombaecbjmfaaApt
import Derived.Test.YtpcombaecbjmfaaArg
namespace Go.Proofs.Ytpcombaecbjmfaa
open Go.RowKit Go.WideShapes Go.ChangeShapes Go.ChangeAt
open Go.ChangeMaps (open_string)
set_option maxRecDepth 20000 in
set_option maxHeartbeats 4000000 in
theorem txApart_lifted (os : Os) (started : os.Started) (H : Type) (enc : TypeId × Value → H) :
    ReturnsInHanded {} Try.checked os 7 .any (Rows.txApartSpec.pre6 enc Try.prog Try.f7 Rows.txApartRow.domain false) (Rows.txApartSpec.post enc Try.prog Try.f7 false true false false) := by
  refine law_lift (C := Try.checked) own started (by kernel_rfl) Try.func7
    (ChangeSpec.witness6 (enc := enc) (C := Try.checked) false ⟨#[], #[.agg #[.slice none 0 0, .slice none 0 0], .agg #[.slice none 0 0, .slice none 0 0]], []⟩ 8 (by kernel_rfl) (by kernel_rfl) (by kernel_rfl) (by kernel_rfl)) rfl Try.underlying4 laidOut ?hread rfl ?hs ?walk
  case hread =>
    intro t ht
    rw [Try.params7] at ht
    simp at ht
    subst ht
    exact ⟨by kernel_rfl, of_decide_eq_true (by kernel_rfl)⟩
  case hs =>
    intro ds hl
    match ds, hl with
    | [d0, d1], _ => exact ⟨rfl, rfl, rfl⟩
  case walk =>
    intro W base args ds p hval hA
    rw [Try.params7] at hA hval
    obtain ⟨v0, vs0, d0, ds0, p0, q0, hargs, rfl, rfl, h0, r0⟩ := trodAll_cons hA
    obtain ⟨v1, vs1, d1, ds1, p1, q1, rfl, rfl, rfl, h1, r1⟩ := trodAll_cons r0
    obtain ⟨rfl, rfl, rfl⟩ := trodAll_nil r1
    obtain rfl : args = #[v0, v1] := by cases args; simp_all
    obtain ⟨cs0, a0, rfl, ha0⟩ := open_st Try.underlying25 opens_tx (hval 0 25 v0 rfl rfl) h0
    obtain ⟨cs1, a1, rfl, ha1⟩ := open_st Try.underlying25 opens_tx (hval 1 25 v1 rfl rfl) h1
    obtain ⟨ins, outs, A, A', c, c', rfl, hcs, hi, ho⟩ := tx_cells ha0
    obtain ⟨cs0⟩ := cs0
    simp only at hcs
    subst hcs
    obtain ⟨ins2, outs2, B, B', d, d', rfl, hcs2, hi2, ho2⟩ := tx_cells ha1
    obtain ⟨cs1⟩ := cs1
    simp only at hcs2
    subst hcs2
    exact txApart_any W A A' B B' _ _ c c' _ _ d d' ins ins2 outs outs2 _ _ hi ho rfl rfl hi2 ho2 rfl rfl

theorem txApart_over : Rows.txApartRow.holds Try.pinned (OpenSpec.ofChange Rows.txApartSpec) :=
  OpenClaim.holds_of_wide 7 Try.f7 rfl rfl rfl rfl rfl rfl rfl ⟨rfl, rfl, rfl, rfl, rfl⟩ rfl rfl rfl rfl rfl (by kernel_rfl) Try.func7 (by kernel_rfl)
    (of_decide_eq_true (by kernel_rfl)) (by unfold Func.isWrapper; first | (rw [if_pos (by decide +kernel)]; kernel_rfl) | (rw [if_neg (by decide +kernel)]; exact ⟨rfl, rfl⟩))
    (fun os started H enc _ => txApart_lifted os started H enc)

/-- the statement -/
theorem TxApart_holds : Rows.TxApartSaid := txApart_over
#print axioms TxApart_holds
end Go.Proofs.Ytpcombaecbjmfaa
