/- WholeBlocks: for every input the law returns true. No conditions. -/
import Derived.Test.YtpcombaecbjmfaaBw
import Derived.Test.YtpcombaecbjmfaaArg
namespace Go.Proofs.Ytpcombaecbjmfaa
open Go.RowKit Go.WideShapes Go.ChangeShapes Go.ChangeAt
open Go.ChangeMaps (open_string)
set_option maxRecDepth 20000 in
set_option maxHeartbeats 4000000 in
theorem wholeBlocks_lifted (os : Os) (started : os.Started) (H : Type) (enc : TypeId × Value → H) :
    ReturnsInHanded {} Try.checked os 10 .any (Rows.wholeBlocksSpec.pre6 enc Try.prog Try.f10 Rows.wholeBlocksRow.domain false) (Rows.wholeBlocksSpec.post enc Try.prog Try.f10 false true false false) := by
  refine law_lift (C := Try.checked) own started (by kernel_rfl) Try.func10
    (ChangeSpec.witness6 (enc := enc) (C := Try.checked) false ⟨#[], #[.agg (blkC 0 z32 z32 0 0 0 (.slice none 0 0)).toArray, .int .i64 0], []⟩ 8 (by kernel_rfl) (by kernel_rfl) (by kernel_rfl) (by kernel_rfl)) rfl Try.underlying4 laidOut ?hread rfl ?hs ?walk
  case hread =>
    intro t ht
    rw [Try.params10] at ht
    simp at ht
    rcases ht with rfl | rfl <;> exact ⟨by kernel_rfl, of_decide_eq_true (by kernel_rfl)⟩
  case hs =>
    intro ds hl
    match ds, hl with
    | [d0, d1], _ => exact ⟨rfl, rfl, rfl⟩
  case walk =>
    intro W base args ds p hval hA
    rw [Try.params10] at hA hval
    obtain ⟨v0, vs0, d0, ds0, p0, q0, hargs, rfl, rfl, h0, r0⟩ := trodAll_cons hA
    obtain ⟨v1, vs1, d1, ds1, p1, q1, rfl, rfl, rfl, h1, r1⟩ := trodAll_cons r0
    obtain ⟨rfl, rfl, rfl⟩ := trodAll_nil r1
    obtain rfl : args = #[v0, v1] := by cases args; simp_all
    obtain ⟨cs0, a0, rfl, ha0⟩ := open_st Try.underlying46 opens_blk (hval 0 46 v0 rfl rfl) h0
    obtain ⟨n1, rfl, rfl, rfl, w1⟩ := open_int Try.underlying3 (hval 1 3 v1 rfl rfl) h1
    have b1 := bounds_i64 w1
    obtain ⟨v, t, b, n, prev, root, txs, A, c, rfl, hcs, k1, k2, z1, z2, z3, z4, ht⟩ := blk_cells ha0
    obtain ⟨cs0⟩ := cs0
    simp only at hcs
    subst hcs
    exact wholeBlocks_any W v t b n prev root A _ c txs _ k1 k2 z1 z2 z4 ht rfl n1 ⟨b1.1, by omega⟩

theorem wholeBlocks_over : Rows.wholeBlocksRow.holds Try.pinned (OpenSpec.ofChange Rows.wholeBlocksSpec) :=
  OpenClaim.holds_of_wide 10 Try.f10 rfl rfl rfl rfl rfl rfl rfl ⟨rfl, rfl, rfl, rfl, rfl⟩ rfl rfl rfl rfl rfl (by kernel_rfl) Try.func10 (by kernel_rfl)
    (of_decide_eq_true (by kernel_rfl)) (by unfold Func.isWrapper; first | (rw [if_pos (by decide +kernel)]; kernel_rfl) | (rw [if_neg (by decide +kernel)]; exact ⟨rfl, rfl⟩))
    (fun os started H enc _ => wholeBlocks_lifted os started H enc)

/-- the statement -/
theorem WholeBlocks_holds : Rows.WholeBlocksSaid := wholeBlocks_over
#print axioms WholeBlocks_holds
end Go.Proofs.Ytpcombaecbjmfaa
