/- WholeBlocks, plainly: a block that is small is read as it was. No walk here. -/
import Derived.Test.YtpcombaecbjmfaaBq
import Derived.Test.YtpcombaecbjmfaaNc
import Derived.Test.YtpcombaecbjmfaaWy
import Derived.Test.YtpcombaecbjmfaaPt
namespace Go.Proofs.Ytpcombaecbjmfaa
open Go.RowKit
theorem mineM_first : mineM 0 z32 z32 0 0 50 = some 1 := by
  rw [mineM, if_neg (by rw [prov0]; decide)]
  show mineM 0 z32 z32 0 1 49 = some 1
  rw [mineM, if_pos prov1]
theorem mineM_lt (v t : Nat) (prev root : List UInt8) : ∀ (k n m : Nat), n < 4294967296 → mineM v prev root t n k = some m → m < 4294967296 := by
  intro k
  induction k with
  | zero => intro n m _ h; cases h
  | succ k ih =>
    intro n m hn h
    rw [mineM] at h
    split at h
    · cases h; exact hn
    · exact ih _ _ (Nat.mod_lt _ (by decide)) h
/-- a transaction of a size with which this is tried -/
def tinyB (t : TxT) : Bool := decide (t.1.length ≤ 4) && decide (t.2.1.length ≤ 4) && t.1.all fun i => decide (i.2.1.length ≤ 100)
theorem tiny_of {t : TxT} (h : tinyB t = true) : t.1.length ≤ 4 ∧ t.2.1.length ≤ 4 ∧ ∀ i ∈ t.1, i.2.1.length ≤ 100 := by
  simp only [tinyB, Bool.and_eq_true, decide_eq_true_eq, List.all_eq_true] at h
  exact ⟨h.1.1, h.1.2, h.2⟩
theorem tiny_fit {t : TxT} (h : tinyB t = true) : TxFit t := by
  obtain ⟨h1, h2, h3⟩ := tiny_of h
  exact ⟨by omega, by omega, fun i hi => by have := h3 i hi; omega⟩
theorem tiny_good {t : TxT} (h : tinyB t = true) : goodB t = true := by
  obtain ⟨h1, h2, h3⟩ := tiny_of h
  simp only [goodB, Bool.and_eq_true, decide_eq_true_eq, List.all_eq_true]
  exact ⟨⟨h3, by omega⟩, by omega⟩
theorem tiny_len {t : TxT} (ht : TxOk t) (h : tinyB t = true) : (txB t).length ≤ 1000 := by
  obtain ⟨h1, h2, h3⟩ := tiny_of h
  have a1 := flat_le inB 145 t.1 (fun i hi => by
    have := (ht.ins i hi).id
    have h4 := h3 i hi
    have h5 := countB_len i.2.1.length
    simp only [inB, List.length_append, les_length]
    omega)
  have a2 := flat_le outB 40 t.2.1 (fun o ho => by
    have := (ht.outs o ho).lock
    simp only [outB, List.length_append, les_length]
    omega)
  have b1 := countB_len t.1.length
  have b2 := countB_len t.2.1.length
  simp only [txB, List.length_append]
  omega
theorem n4_at (a l r : List UInt8) (i x : Nat) (ha : a.length = i) (hl : l = les 4 x) (hx : x < 4294967296) : n4 (a ++ (l ++ r)) i = x := by
  subst ha hl
  rw [n4, List.drop_left, List.take_append_of_le_length (by rw [les_length]; exact Nat.le_refl _), List.take_of_length_le (by rw [les_length]; exact Nat.le_refl _), ofLE_les]
  omega
theorem id32_at (a l r : List UInt8) (i : Nat) (ha : a.length = i) (hl : l.length = 32) : id32 (a ++ (l ++ r)) i = l := by
  subst ha
  rw [id32, List.drop_left, List.take_append_of_le_length (by omega), List.take_of_length_le (by omega)]
theorem hdrR_fwd (v t b n : Nat) (prev root : List UInt8) (h1 : prev.length = 32) (h2 : root.length = 32) (hv : v < 4294967296) (ht : t < 4294967296) (hb : b < 4294967296) (hn : n < 4294967296) :
    hdrR (hdrB v prev root t b n) = hdrC v prev root t b n := by
  rw [hdrR, if_pos (hdrB_len _ _ _ _ _ _ h1 h2)]
  have e0 : hdrB v prev root t b n = [] ++ (les 4 v ++ (prev ++ root ++ les 4 t ++ les 4 b ++ les 4 n)) := by simp [hdrB]
  have e1 : hdrB v prev root t b n = les 4 v ++ (prev ++ (root ++ les 4 t ++ les 4 b ++ les 4 n)) := by simp [hdrB]
  have e2 : hdrB v prev root t b n = (les 4 v ++ prev) ++ (root ++ (les 4 t ++ les 4 b ++ les 4 n)) := by simp [hdrB]
  have e3 : hdrB v prev root t b n = (les 4 v ++ prev ++ root) ++ (les 4 t ++ (les 4 b ++ les 4 n)) := by simp [hdrB]
  have e4 : hdrB v prev root t b n = (les 4 v ++ prev ++ root ++ les 4 t) ++ (les 4 b ++ les 4 n) := by simp [hdrB]
  have e5 : hdrB v prev root t b n = (les 4 v ++ prev ++ root ++ les 4 t ++ les 4 b) ++ (les 4 n ++ []) := by simp [hdrB]
  have q0 : n4 (hdrB v prev root t b n) 0 = v := by rw [e0]; exact n4_at _ _ _ 0 v rfl rfl hv
  have q1 : id32 (hdrB v prev root t b n) 4 = prev := by rw [e1]; exact id32_at _ _ _ 4 (by simp [les_length]) h1
  have q2 : id32 (hdrB v prev root t b n) 36 = root := by rw [e2]; exact id32_at _ _ _ 36 (by simp [les_length, h1]) h2
  have q3 : n4 (hdrB v prev root t b n) 68 = t := by rw [e3]; exact n4_at _ _ _ 68 t (by simp [les_length, h1, h2]) rfl ht
  have q4 : n4 (hdrB v prev root t b n) 72 = b := by rw [e4]; exact n4_at _ _ _ 72 b (by simp [les_length, h1, h2]) rfl hb
  have q5 : n4 (hdrB v prev root t b n) 76 = n := by rw [e5]; exact n4_at _ _ _ 76 n (by simp [les_length, h1, h2]) rfl hn
  rw [q0, q1, q2, q3, q4, q5]
/-- a small block's bytes are read as that block -/
theorem blk_fwd (v t b n : Nat) (prev root : List UInt8) (T : List TxT) (h1 : prev.length = 32) (h2 : root.length = 32) (hv : v < 4294967296) (ht : t < 4294967296) (hb : b < 4294967296) (hn : n < 4294967296)
    (hT : T.length ≤ 6) (hok : ∀ t ∈ T, TxOk t) (hg : ∀ t ∈ T, tinyB t = true) :
    blkE (blkB v prev root t b n T) = 0 ∧ blkH (blkB v prev root t b n T) = hdrC v prev root t b n ∧ blkT (blkB v prev root t b n T) = T ∧ (blkB v prev root t b n T).length ≤ 8192 ∧ 80 ≤ (blkB v prev root t b n T).length ∧ (blkB v prev root t b n T).take 80 = hdrB v prev root t b n := by
  have hR := blkR_fwd (hdrB v prev root t b n) T (hdrB_len _ _ _ _ _ _ h1 h2) (by omega) hok (fun t ht => tiny_good (hg t ht)) []
  rw [List.append_nil] at hR
  have hX : hdrB v prev root t b n ++ (countB T.length ++ T.flatMap txB) = blkB v prev root t b n T := rfl
  rw [hX] at hR
  have hl := flat_le txB 1000 T (fun t ht => tiny_len (hok t ht) (hg t ht))
  have hc := countB_len T.length
  have h80 := hdrB_len v prev root t b n h1 h2
  have h8 : (blkB v prev root t b n T).length = 80 + ((countB T.length).length + (T.flatMap txB).length) := by rw [blkB, List.length_append, List.length_append, h80]
  have hE : blkE (blkB v prev root t b n T) = 0 := by rw [blkE, if_neg (by omega), hR]; rfl
  refine ⟨hE, ?_, ?_, by omega, by omega, ?_⟩
  · rw [blkH, if_pos hE, blkB, rawO_app _ _ 80 (by rw [h80]; rfl), hdrR_fwd _ _ _ _ _ _ h1 h2 hv ht hb hn]
  · rw [blkT, if_pos hE, hR]
  · rw [blkB, List.take_append_of_le_length (by omega), List.take_of_length_le (by omega)]
theorem blkC_setb (v t b x n : Nat) (prev root : List UInt8) (sv : Value) (h1 : prev.length = 32) (h2 : root.length = 32) : (blkC v prev root t b n sv).set 66 (.int .u32 ((x : Nat) : Int)) = blkC v prev root t x n sv := by
  have e : ∀ y : Nat, blkC v prev root t y n sv = (.int .u32 ((v : Nat) : Int) :: (bts prev ++ (bts root ++ [.int .u32 ((t : Nat) : Int)]))) ++ (.int .u32 ((y : Nat) : Int) :: [.int .u32 ((n : Nat) : Int), sv]) := fun y => by simp [blkC, hdrC]
  have hl : (.int .u32 ((v : Nat) : Int) :: (bts prev ++ (bts root ++ [.int .u32 ((t : Nat) : Int)])) : List Value).length = 66 := by simp [h1, h2]
  rw [e, e, List.set_append_right _ _ (by omega), hl]
  rfl
theorem over_hdr (v t b n m : Nat) (prev root : List UInt8) (sv : Value) (h1 : prev.length = 32) (h2 : root.length = 32) : over (blkC v prev root t b n sv) 0 (hdrC v prev root t b m) = blkC v prev root t b m sv := by
  rw [over, blkC, blkC]
  simp [hdrC_len _ _ _ _ _ _ h1 h2]
theorem over_rootb (v t b n : Nat) (prev root r : List UInt8) (sv : Value) (h1 : prev.length = 32) (h2 : root.length = 32) (h3 : r.length = 32) : over (blkC v prev root t b n sv) 33 (bts r) = blkC v prev r t b n sv := by
  have e : blkC v prev root t b n sv = (.int .u32 ((v : Nat) : Int) :: bts prev) ++ (bts root ++ [.int .u32 ((t : Nat) : Int), .int .u32 ((b : Nat) : Int), .int .u32 ((n : Nat) : Int), sv]) := by simp [blkC, hdrC]
  have e' : blkC v prev r t b n sv = (.int .u32 ((v : Nat) : Int) :: bts prev) ++ (bts r ++ [.int .u32 ((t : Nat) : Int), .int .u32 ((b : Nat) : Int), .int .u32 ((n : Nat) : Int), sv]) := by simp [blkC, hdrC]
  have hl : (Value.int .u32 ((v : Nat) : Int) :: bts prev).length = 33 := by simp [h1]
  rw [e, e', over, List.take_append_of_le_length (by omega), List.take_of_length_le (by omega), List.drop_append, List.drop_of_length_le (by omega), hl]
  simp [h2, h3]
theorem keyLits_n32 (d x : Nat) (hx : x < 4294967296) : (Try.prog).keyLits (d + 1) 41 [.int .u32 ((x : Nat) : Int)] = some [Lit.int .u32 ((x : Nat) : Int)] := by
  unfold Program.keyLits
  rw [Try.underlying41]
  simp only [Lit.wf, true_and]
  rw [if_pos]
  simp [IntKind.min, IntKind.max, IntKind.signed, IntKind.bits]
  omega
theorem seg_at {a l r xs : List Value} {i k : Nat} (h : xs = a ++ (l ++ r)) (ha : a.length = i) (hl : l.length = k) : (xs.drop i).take k = l := by
  subst h ha hl
  rw [List.drop_left, List.take_left]
theorem keyLits_hdr (d v t b n : Nat) (prev root : List UInt8) (h1 : prev.length = 32) (h2 : root.length = 32) (hv : v < 4294967296) (ht : t < 4294967296) (hb : b < 4294967296) (hn : n < 4294967296) :
    ∃ L, (Try.prog).keyLits (d + 3) 43 (hdrC v prev root t b n) = some L := by
  unfold Program.keyLits
  rw [Try.underlying43]
  have hl : (hdrC v prev root t b n).length = (Try.prog).cellsOf 43 := by rw [hdrC_len _ _ _ _ _ _ h1 h2]; kernel_rfl
  have c32 : (Try.prog).cellsOf 32 = 32 := by kernel_rfl
  have c1 : (Try.prog).cellsOf 41 = 1 := by kernel_rfl
  have e0 : ((hdrC v prev root t b n).drop 0).take 1 = [.int .u32 ((v : Nat) : Int)] := seg_at (a := []) (r := bts prev ++ (bts root ++ [.int .u32 ((t : Nat) : Int), .int .u32 ((b : Nat) : Int), .int .u32 ((n : Nat) : Int)])) (by simp [hdrC]) rfl rfl
  have e1 : ((hdrC v prev root t b n).drop 1).take 32 = bts prev := seg_at (a := [.int .u32 ((v : Nat) : Int)]) (r := bts root ++ [.int .u32 ((t : Nat) : Int), .int .u32 ((b : Nat) : Int), .int .u32 ((n : Nat) : Int)]) (by simp [hdrC]) rfl (by simp [h1])
  have e2 : ((hdrC v prev root t b n).drop 33).take 32 = bts root := seg_at (a := .int .u32 ((v : Nat) : Int) :: bts prev) (r := [.int .u32 ((t : Nat) : Int), .int .u32 ((b : Nat) : Int), .int .u32 ((n : Nat) : Int)]) (by simp [hdrC]) (by simp [h1]) (by simp [h2])
  have e3 : ((hdrC v prev root t b n).drop 65).take 1 = [.int .u32 ((t : Nat) : Int)] := seg_at (a := .int .u32 ((v : Nat) : Int) :: (bts prev ++ bts root)) (r := [.int .u32 ((b : Nat) : Int), .int .u32 ((n : Nat) : Int)]) (by simp [hdrC]) (by simp [h1, h2]) rfl
  have e4 : ((hdrC v prev root t b n).drop 66).take 1 = [.int .u32 ((b : Nat) : Int)] := seg_at (a := .int .u32 ((v : Nat) : Int) :: (bts prev ++ (bts root ++ [.int .u32 ((t : Nat) : Int)]))) (r := [.int .u32 ((n : Nat) : Int)]) (by simp [hdrC]) (by simp [h1, h2]) rfl
  have e5 : ((hdrC v prev root t b n).drop 67).take 1 = [.int .u32 ((n : Nat) : Int)] := seg_at (a := .int .u32 ((v : Nat) : Int) :: (bts prev ++ (bts root ++ [.int .u32 ((t : Nat) : Int), .int .u32 ((b : Nat) : Int)]))) (r := []) (by simp [hdrC]) (by simp [h1, h2]) rfl
  have k1 := fun x (hx : List.length x = 32) => keyLits_arr_d (P := Try.prog) d (t := 32) Try.underlying32 Try.underlying5 (by kernel_rfl) (by kernel_rfl) x hx
  have k2 := fun x hx => keyLits_n32 (d + 1) x hx
  simp only [hl, true_and]
  rw [if_pos (by kernel_rfl)]
  simp only [List.mapM_cons, List.mapM_nil, c32, c1, e0, e1, e2, e3, e4, e5, k1 _ h1, k1 _ h2, k2 _ hv, k2 _ ht, k2 _ hb, k2 _ hn]
  exact ⟨_, rfl⟩
theorem hdr_keyT : (Try.prog).keyTypeAt 3 43 = true := by kernel_rfl
/-- a header is itself -/
theorem hdr_eq_self (v t b n : Nat) (prev root : List UInt8) (h1 : prev.length = 32) (h2 : root.length = 32) (hv : v < 4294967296) (ht : t < 4294967296) (hb : b < 4294967296) (hn : n < 4294967296) (w : World) :
    (Op.equalIn 10000 43 (.agg (hdrC v prev root t b n).toArray) (.agg (hdrC v prev root t b n).toArray)).run Try.prog w = .ok true w := by
  obtain ⟨L, hL⟩ := keyLits_hdr 0 v t b n prev root h1 h2 hv ht hb hn
  have hf : (Value.agg (hdrC v prev root t b n).toArray).formed Try.prog 43 = true := by
    simp [Value.formed, Try.underlying43, hdrC_len _ _ _ _ _ _ h1 h2, show (Try.prog).cellsOf 43 = 68 from by kernel_rfl]
  obtain ⟨r, g1, g2⟩ := run_equalIn_deep 9997 3 43 hdr_keyT w 3 3 (.agg (hdrC v prev root t b n).toArray) (.agg (hdrC v prev root t b n).toArray) L L hf hf (show (Try.prog).keyLits 3 _ (Value.agg (hdrC v prev root t b n).toArray).cells.toList = _ from hL) (show (Try.prog).keyLits 3 _ (Value.agg (hdrC v prev root t b n).toArray).cells.toList = _ from hL)
  rw [show (10000 : Nat) = 9997 + 3 from rfl, g1, g2.2 rfl]
theorem blk_cell66 {w : World} {q : Nat} {T : TypeId} {v t b n : Nat} {prev root : List UInt8} {sv : Value} (h : Blk w q T (blkC v prev root t b n sv).toArray) (h1 : prev.length = 32) (h2 : root.length = 32) : w.cell? ⟨q, 66, none⟩ = some (.int .u32 ((b : Nat) : Int)) := by
  have e : blkC v prev root t b n sv = (.int .u32 ((v : Nat) : Int) :: (bts prev ++ (bts root ++ [.int .u32 ((t : Nat) : Int)]))) ++ [.int .u32 ((b : Nat) : Int), .int .u32 ((n : Nat) : Int), sv] := by simp [blkC, hdrC]
  rw [h.cell 66, List.getElem?_toArray, e, List.getElem?_append_right (by simp [h1, h2])]
  simp [h1, h2]
theorem blk_rootb {w : World} {q : Nat} {T : TypeId} {v t b n : Nat} {prev root : List UInt8} {sv : Value} (h : Blk w q T (blkC v prev root t b n sv).toArray) (h1 : prev.length = 32) (h2 : root.length = 32) : RowAt w q 33 (bts root) := by
  intro j u hj
  have hjl := (List.getElem?_eq_some_iff.1 hj).1
  have hjl2 : j < 32 := by simpa [h2] using hjl
  rw [h.cell (33 + j), List.getElem?_toArray, blkC, List.getElem?_append_left (by rw [hdrC_len _ _ _ _ _ _ h1 h2]; omega), hdrC, show 33 + j = (32 + j) + 1 by omega, List.getElem?_cons_succ, List.getElem?_append_right (by simp [h1]), show 32 + j - (bts prev).length = j by simp [h1], List.getElem?_append_left hjl]
  exact hj
theorem zeroH_len : Try.zeroCells43.toList.length = 68 := by kernel_rfl
theorem mineC_len (v t : Nat) (prev root : List UInt8) (o : Option Nat) (h1 : prev.length = 32) (h2 : root.length = 32) : (mineC v prev root t o).length = 68 := by
  cases o <;> simp [mineC, hdrC_len _ _ _ _ _ _ h1 h2, hdrC_len 0 z32 z32 0 0 0 rfl rfl]
theorem mineC_one (v t : Nat) (prev root : List UInt8) (o : Option Nat) : ∀ u ∈ mineC v prev root t o, u.oneCell' = true := by
  cases o <;> exact hdrC_one _ _ _ _ _ _
theorem txs_nb {w : World} {ok : Nat → Prop} {A : Option Addr} {n c : Nat} {l : List TxT} (h : txsSh.rel w ok [.slice A n c] l) : n = l.length := by
  obtain ⟨_, h1, _⟩ := shSlice_open h; exact h1.symm
theorem zeroB_lenb : Try.zeroCells46.toList.length = 69 := by kernel_rfl
end Go.Proofs.Ytpcombaecbjmfaa
