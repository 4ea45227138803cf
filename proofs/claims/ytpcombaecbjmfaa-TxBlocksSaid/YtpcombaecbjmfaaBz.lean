/- Plainly: bytes that are a block are that block's bytes. No walk here. -/
import Derived.Test.YtpcombaecbjmfaaBk
import Derived.Test.YtpcombaecbjmfaaTrd
namespace Go.Proofs.Ytpcombaecbjmfaa
open Go.RowKit
theorem seg_app (x : List UInt8) (i k : Nat) : (x.drop i).take k ++ x.drop (i + k) = x.drop i := by
  rw [← List.drop_drop]
  exact List.take_append_drop k (x.drop i)
theorem les_n4 (x : List UInt8) (i : Nat) (h : i + 4 ≤ x.length) : les 4 (n4 x i) = (x.drop i).take 4 := by
  have hl : ((x.drop i).take 4).length = 4 := by simp; omega
  have := les_ofLE ((x.drop i).take 4)
  rw [hl] at this
  exact this
theorem hdr_back (x : List UInt8) (h : x.length = 80) : hdrB (n4 x 0) (id32 x 4) (id32 x 36) (n4 x 68) (n4 x 72) (n4 x 76) = x := by
  rw [hdrB, les_n4 x 0 (by omega), les_n4 x 68 (by omega), les_n4 x 72 (by omega), les_n4 x 76 (by omega), id32, id32]
  have e6 : (x.drop 76).take 4 = x.drop 76 := List.take_of_length_le (by simp; omega)
  rw [e6]
  have a5 := seg_app x 72 4
  have a4 := seg_app x 68 4
  have a3 := seg_app x 36 32
  have a2 := seg_app x 4 32
  have a1 := seg_app x 0 4
  simp only [List.append_assoc]
  rw [show (72 : Nat) + 4 = 76 from rfl] at a5
  rw [show (68 : Nat) + 4 = 72 from rfl] at a4
  rw [show (36 : Nat) + 32 = 68 from rfl] at a3
  rw [show (4 : Nat) + 32 = 36 from rfl] at a2
  rw [show (0 : Nat) + 4 = 4 from rfl] at a1
  rw [a5, a4, a3, a2, a1, List.drop_zero]
theorem many_small (n : Nat) (s : RS) : ∀ t ∈ (many txR n s).1, t.1.length ≤ 32 ∧ t.2.1.length ≤ 32 := by
  induction n with
  | zero => intro t h; cases h
  | succ n ih =>
    intro t h
    simp only [many] at h
    rcases List.mem_append.1 h with h | h
    · exact ih t h
    · rw [List.mem_singleton] at h
      rw [h]
      constructor
      · simp only [txR, txI, many_len]; exact cnt_le _ _
      · simp only [txR, txO, many_len]; exact cnt_le _ _
/-- what is read of bytes that are a block -/
theorem blkE_zero {l : List UInt8} (h : blkE l = 0) : ∃ (v t b n : Nat) (prev root : List UInt8), blkH l = hdrC v prev root t b n ∧ prev.length = 32 ∧ root.length = 32 ∧ blkB v prev root t b n (blkT l) = l ∧ (∀ t ∈ blkT l, TxFit t) ∧ l.length ≤ 8192 := by
  have hH : blkH l = hdrR (rawO l 80) := by rw [blkH, if_pos h]
  have hT : blkT l = (blkR (l, 0)).1 := by rw [blkT, if_pos h]
  have h8 : l.length ≤ 8192 := by
    refine Nat.le_of_not_lt fun hc => ?_
    rw [blkE, if_pos hc] at h
    exact absurd h (by decide)
  rw [blkE, if_neg (by omega)] at h
  obtain ⟨h1, h2⟩ := endS_zero h
  have hm : (many txR (cnt 32 (tk 80 (l, 0))).1 (cnt 32 (tk 80 (l, 0))).2).2.2 = 0 := h1
  obtain ⟨b1, b2⟩ := many_back (f := txR) (g := txB) (fun s hs => txR_back hs) _ hm
  obtain ⟨c1, c2, c3⟩ := cnt_back b1
  obtain ⟨d1, d2, d3⟩ := tk_back (n := 80) c1
  have hl2 : (many txR (cnt 32 (tk 80 (l, 0))).1 (cnt 32 (tk 80 (l, 0))).2).2.1 = [] := h2
  have hlen : (many txR (cnt 32 (tk 80 (l, 0))).1 (cnt 32 (tk 80 (l, 0))).2).1.length = (cnt 32 (tk 80 (l, 0))).1 := many_len _ _ _
  have hsm := many_small (cnt 32 (tk 80 (l, 0))).1 (cnt 32 (tk 80 (l, 0))).2
  have hR : (blkR (l, 0)).1 = (many txR (cnt 32 (tk 80 (l, 0))).1 (cnt 32 (tk 80 (l, 0))).2).1 := rfl
  rw [hl2, List.append_nil] at b2
  rw [hT, hR, hH]
  have d3' : (rawO l 80).length = 80 := d3
  have hB : blkB (n4 (rawO l 80) 0) (id32 (rawO l 80) 4) (id32 (rawO l 80) 36) (n4 (rawO l 80) 68) (n4 (rawO l 80) 72) (n4 (rawO l 80) 76) (many txR (cnt 32 (tk 80 (l, 0))).1 (cnt 32 (tk 80 (l, 0))).2).1 = l := by
    rw [blkB, hdr_back _ d3', hlen, ← b2, ← c2]
    exact d2.symm
  refine ⟨_, _, _, _, _, _, by rw [hdrR, if_pos d3'], by simp [id32, d3'], by simp [id32, d3'], hB, ?_, h8⟩
  intro t ht
  refine ⟨Nat.le_trans (hsm t ht).1 (by omega), Nat.le_trans (hsm t ht).2 (by omega), fun i hi => ?_⟩
  have k1 := key_le hi
  have k2 := mem_flat_le (f := txB) ht
  have k3 : ((many txR (cnt 32 (tk 80 (l, 0))).1 (cnt 32 (tk 80 (l, 0))).2).1.flatMap txB).length ≤ l.length := by
    have h9 := congrArg List.length hB
    rw [blkB, List.length_append, List.length_append] at h9
    omega
  omega
theorem blkE_not {l : List UInt8} (h : ¬ blkE l = 0) : blkH l = hdrC 0 z32 z32 0 0 0 ∧ blkT l = [] := by
  rw [blkH, blkT, if_neg h, if_neg h]; exact ⟨rfl, rfl⟩
theorem txs_n {w : World} {ok : Nat → Prop} {A : Option Addr} {n c : Nat} {l : List TxT} (h : txsSh.rel w ok [.slice A n c] l) : n = l.length := by
  obtain ⟨_, h1, _⟩ := shSlice_open h; exact h1.symm
/-- the header's zero compared with itself -/
theorem hdr_zero_eq (w : World) : (Op.equalIn 10000 43 (.agg (hdrC 0 z32 z32 0 0 0).toArray) (.agg (hdrC 0 z32 z32 0 0 0).toArray)).run Try.prog w = .ok true w := by show _ = _; kernel_rfl
end Go.Proofs.Ytpcombaecbjmfaa
