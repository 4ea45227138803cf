/- CheckPairs, plainly: bytes that look like two names. -/
import Derived.Test.YtkenkhefpemdmabRf
import Derived.Test.YtkenkhefpemdmabRe
import Derived.Test.YtkenkhefpemdmabAp
import Derived.Test.YtkenkhefpemdmabMr
namespace Go.Proofs.Ytkenkhefpemdmab
open Go.RowKit
theorem pair_tx (a b : List UInt8) (ha : a.length = 32) (hb : b.length = 32) (h0 : a[0]? = some 1) (h5 : b[5]? = some 25) (h31 : b[31]? = some 0) :
    ∃ i : InT, a ++ b = txB ([i], [], ()) ∧ InOk i ∧ i.2.1.length ≤ 100 := by
  match a, ha with
  | [a0, a1, a2, a3, a4, a5, a6, a7, a8, a9, a10, a11, a12, a13, a14, a15, a16, a17, a18, a19, a20, a21, a22, a23, a24, a25, a26, a27, a28, a29, a30, a31], _ =>
    match b, hb with
    | [b0, b1, b2, b3, b4, b5, b6, b7, b8, b9, b10, b11, b12, b13, b14, b15, b16, b17, b18, b19, b20, b21, b22, b23, b24, b25, b26, b27, b28, b29, b30, b31], _ =>
      simp only [List.getElem?_cons_zero, List.getElem?_cons_succ, Option.some.injEq] at h0 h5 h31
      subst h0 h5 h31
      refine ⟨(([a1, a2, a3, a4, a5, a6, a7, a8, a9, a10, a11, a12, a13, a14, a15, a16, a17, a18, a19, a20, a21, a22, a23, a24, a25, a26, a27, a28, a29, a30, a31, b0], ((ofLE [b1, b2, b3, b4] : Nat) : Int), ()), [b6, b7, b8, b9, b10, b11, b12, b13, b14, b15, b16, b17, b18, b19, b20, b21, b22, b23, b24, b25, b26, b27, b28, b29, b30], ()), ?_, ⟨rfl, by simp, ?_⟩, by simp⟩
      · have hl := les_ofLE [b1, b2, b3, b4]
        rw [show [b1, b2, b3, b4].length = 4 from rfl] at hl
        simp only [txB, inB, List.flatMap_cons, List.flatMap_nil, Int.toNat_natCast, hl]
        show _ = _
        kernel_rfl
      · have := ofLE_lt [b1, b2, b3, b4]
        rw [show [b1, b2, b3, b4].length = 4 from rfl] at this
        show ((ofLE [b1, b2, b3, b4] : Nat) : Int) < 4294967296
        omega
theorem pairs_read (l : List UInt8) (i : InT) (h : l = txB ([i], [], ())) (hi : InOk i) (hk : i.2.1.length ≤ 100) : txE l = 0 ∧ txG l = ([i], [], ()) := by
  have hf := txE_fwd ([i], [], ()) ⟨fun x hx => by rw [List.mem_singleton.1 hx]; exact hi, fun o ho => by simp at ho⟩ (by simp) (by simp) (fun x hx => by rw [List.mem_singleton.1 hx]; exact hk)
  rw [← h] at hf
  exact ⟨hf.2, by rw [txG, if_pos hf.2, hf.1]⟩
theorem mroot_two (a b : Id32) : mroot [a, b] = (sha2 (a ++ b), a == b) := by
  show mrootN 2 [a, b] false = _
  simp [mrootN, mup, mtw]
end Go.Proofs.Ytkenkhefpemdmab
