/- tx.Block. -/
import Derived.Test.YtlbpeihdedhjiaaTb
import Derived.Test.YtlbpeihdedhjiaaHe
namespace Go.Proofs.Ytlbpeihdedhjiaa
open Go.RowKit
/-- a block's bytes -/
def blkB (v : Nat) (prev root : List UInt8) (t b n : Nat) (txs : List TxT) : List UInt8 := hdrB v prev root t b n ++ (countB txs.length ++ txs.flatMap txB)
/-- a block's cells -/
def blkC (v : Nat) (prev root : List UInt8) (t b n : Nat) (sv : Value) : List Value := hdrC v prev root t b n ++ [sv]
theorem blkC_len (v : Nat) (prev root : List UInt8) (t b n : Nat) (sv : Value) (h1 : prev.length = 32) (h2 : root.length = 32) : (blkC v prev root t b n sv).length = 69 := by rw [blkC, List.length_append, hdrC_len _ _ _ _ _ _ h1 h2]; rfl
theorem blkC_one (v : Nat) (prev root : List UInt8) (t b n : Nat) (sv : Value) (h : sv.oneCell' = true) : ∀ u ∈ blkC v prev root t b n sv, u.oneCell' = true := by
  intro u hu
  rw [blkC, List.mem_append] at hu
  rcases hu with hu | hu
  · exact hdrC_one _ _ _ _ _ _ u hu
  · rw [List.mem_singleton] at hu; rw [hu]; exact h
theorem blk_cells {w : World} {ok : Nat → Prop} {cs : List Value} {b : BlkT} (hh : blkSh.rel w ok cs b) :
    ∃ (v t bi n : Nat) (prev root : List UInt8) (txs : List TxT) (A : Option Addr) (c : Nat), b = ((((v : Nat) : Int), prev, root, ((t : Nat) : Int), ((bi : Nat) : Int), ((n : Nat) : Int), ()), txs, ()) ∧ cs = blkC v prev root t bi n (.slice A txs.length c) ∧ prev.length = 32 ∧ root.length = 32 ∧
      v < 4294967296 ∧ t < 4294967296 ∧ bi < 4294967296 ∧ n < 4294967296 ∧ txsSh.rel w ok [.slice A txs.length c] txs := by
  obtain ⟨h, txs, _⟩ := b
  obtain ⟨c1, d1, rfl, h1, ⟨c2, d2, rfl, h2, h3⟩⟩ := hh
  obtain ⟨v, t, bi, n, prev, root, rfl, rfl, l1, l2, b1, b2, b3, b4⟩ := hdr_cells h1
  have h3' : d2 = [] := h3
  subst h3'
  obtain ⟨A, c, cl, rfl, k1⟩ := h2
  exact ⟨v, t, bi, n, prev, root, txs, A, c, rfl, by simp [blkC], l1, l2, b1, b2, b3, b4, ⟨A, c, cl, rfl, k1⟩⟩
theorem blk_hdr {w : World} {q : Nat} {T : TypeId} {v t b n : Nat} {prev root : List UInt8} {sv : Value} (h : Blk w q T (blkC v prev root t b n sv).toArray) : RowAt w q 0 (hdrC v prev root t b n) := by
  intro j u hj
  have hjl := (List.getElem?_eq_some_iff.1 hj).1
  rw [Nat.zero_add, h.cell j, List.getElem?_toArray, blkC, List.getElem?_append_left hjl]
  exact hj
theorem blk_cell68 {w : World} {q : Nat} {T : TypeId} {v t b n : Nat} {prev root : List UInt8} {sv : Value} (h : Blk w q T (blkC v prev root t b n sv).toArray) (h1 : prev.length = 32) (h2 : root.length = 32) : w.cell? ⟨q, 68, none⟩ = some sv := by
  rw [h.cell 68, List.getElem?_toArray, blkC, List.getElem?_append_right (by rw [hdrC_len _ _ _ _ _ _ h1 h2]; omega), hdrC_len _ _ _ _ _ _ h1 h2]; rfl
theorem txs_len {w : World} {ok : Nat → Prop} {A : Option Addr} {n c : Nat} {txs : List TxT} (ht : txsSh.rel w ok [.slice A n c] txs) (hf : ∀ t ∈ txs, TxFit t) : ∀ t ∈ txs, (txB t).length ≤ 10200000 := by
  intro t htm
  obtain ⟨j, hj, rfl⟩ := List.getElem_of_mem htm
  obtain ⟨b, o, cs, _, _, h3, _⟩ := txs_at ht hj
  obtain ⟨ins, outs, A1, A2, c1, c2, e, _, hi, ho⟩ := tx_cells h3
  rw [e]
  exact txB_len hi ho (by rw [← e]; exact hf _ htm)
theorem flat_le {α : Type} (f : α → List UInt8) (m : Nat) (l : List α) (h : ∀ t ∈ l, (f t).length ≤ m) : (l.flatMap f).length ≤ m * l.length := by
  induction l with
  | nil => simp
  | cons x l ih =>
    rw [List.flatMap_cons, List.length_append, List.length_cons, Nat.mul_succ]
    have := h x (by simp)
    have := ih (fun i hi => h i (by simp [hi]))
    omega
end Go.Proofs.Ytlbpeihdedhjiaa
