/- tx.Block. -/
import Derived.Test.YtpcombaecbjmfaaTb
import Derived.Test.YtpcombaecbjmfaaHe
namespace Go.Proofs.Ytpcombaecbjmfaa
open Go.RowKit
/-- a block's bytes -/
def blkB (v : Nat) (prev root : List UInt8) (t b n : Nat) (txs : List TxT) : List UInt8 := hdrB v prev root t b n ++ (countB txs.length ++ txs.flatMap txB)
/-- a block's cells -/
def blkC (v : Nat) (prev root : List UInt8) (t b n : Nat) (sv : Value) : List Value := hdrC v prev root t b n ++ [sv]
theorem blkC_len (v : Nat) (prev root : List UInt8) (t b n : Nat) (sv : Value) (h1 : prev.length = 32) (h2 : root.length = 32) : (blkC v prev root t b n sv).length = 69 := by rw [blkC, List.length_append, hdrC_len _ _ _ _ _ _ h1 h2]; rfl
theorem blkC_one (v : Nat) (prev root : List UInt8) (t b n : Nat) (sv : Value) (h : sv.oneCell' = true) : ∀ u ∈ blkC v prev root t b n sv, u.oneCell' = true := by
  intro u hu
  rw [blkC, List.mem_append] at hu
  rcases hu with hu | hu
  · exact hdrC_one _ _ _ _ _ _ u hu
  · rw [List.mem_singleton] at hu; rw [hu]; exact h
theorem blk_cells {w : World} {ok : Nat → Prop} {cs : List Value} {b : BlkT} (hh : blkSh.rel w ok cs b) :
    ∃ (v t bi n : Nat) (prev root : List UInt8) (txs : List TxT) (A : Option Addr) (c : Nat), b = ((((v : Nat) : Int), prev, root, ((t : Nat) : Int), ((bi : Nat) : Int), ((n : Nat) : Int), ()), txs, ()) ∧ cs = blkC v prev root t bi n (.slice A txs.length c) ∧ prev.length = 32 ∧ root.length = 32 ∧
      v < 4294967296 ∧ t < 4294967296 ∧ bi < 4294967296 ∧ n < 4294967296 ∧ txsSh.rel w ok [.slice A txs.length c] txs := by
  obtain ⟨h, txs, _⟩ := b
  obtain ⟨c1, d1, rfl, h1, ⟨c2, d2, rfl, h2, h3⟩⟩ := hh
  obtain ⟨v, t, bi, n, prev, root, rfl, rfl, l1, l2, b1, b2, b3, b4⟩ := hdr_cells h1
  have h3' : d2 = [] := h3
  subst h3'
  obtain ⟨A, c, cl, rfl, k1⟩ := h2
  exact ⟨v, t, bi, n, prev, root, txs, A, c, rfl, by simp [blkC], l1, l2, b1, b2, b3, b4, ⟨A, c, cl, rfl, k1⟩⟩
theorem blk_hdr {w : World} {q : Nat} {T : TypeId} {v t b n : Nat} {prev root : List UInt8} {sv : Value} (h : Blk w q T (blkC v prev root t b n sv).toArray) : RowAt w q 0 (hdrC v prev root t b n) := by
  intro j u hj
  have hjl := (List.getElem?_eq_some_iff.1 hj).1
  rw [Nat.zero_add, h.cell j, List.getElem?_toArray, blkC, List.getElem?_append_left hjl]
  exact hj
theorem blk_cell68 {w : World} {q : Nat} {T : TypeId} {v t b n : Nat} {prev root : List UInt8} {sv : Value} (h : Blk w q T (blkC v prev root t b n sv).toArray) (h1 : prev.length = 32) (h2 : root.length = 32) : w.cell? ⟨q, 68, none⟩ = some sv := by
  rw [h.cell 68, List.getElem?_toArray, blkC, List.getElem?_append_right (by rw [hdrC_len _ _ _ _ _ _ h1 h2]; omega), hdrC_len _ _ _ _ _ _ h1 h2]; rfl
theorem txs_len {w : World} {ok : Nat → Prop} {A : Option Addr} {n c : Nat} {txs : List TxT} (ht : txsSh.rel w ok [.slice A n c] txs) (hf : ∀ t ∈ txs, TxFit t) : ∀ t ∈ txs, (txB t).length ≤ 10200000 := by
  intro t htm
  obtain ⟨j, hj, rfl⟩ := List.getElem_of_mem htm
  obtain ⟨b, o, cs, _, _, h3, _⟩ := txs_at ht hj
  obtain ⟨ins, outs, A1, A2, c1, c2, e, _, hi, ho⟩ := tx_cells h3
  rw [e]
  exact txB_len hi ho (by rw [← e]; exact hf _ htm)
theorem flat_le {α : Type} (f : α → List UInt8) (m : Nat) (l : List α) (h : ∀ t ∈ l, (f t).length ≤ m) : (l.flatMap f).length ≤ m * l.length := by
  induction l with
  | nil => simp
  | cons x l ih =>
    rw [List.flatMap_cons, List.length_append, List.length_cons, Nat.mul_succ]
    have := h x (by simp)
    have := ih (fun i hi => h i (by simp [hi]))
    omega
set_option maxRecDepth 20000 in
set_option maxHeartbeats 4000000 in
theorem tx_block_any (w : World) (v t b n : Nat) (prev root : List UInt8) (A : Option Addr) (m c : Nat) (txs : List TxT) (ok : Nat → Prop) (h1 : prev.length = 32) (h2 : root.length = 32)
    (ht : txsSh.rel w ok [.slice A m c] txs) (hm : txs.length = m) (hok : ∀ b, ok b → b < w.heap.size) (hf : ∀ t ∈ txs, TxFit t) (hm2 : m ≤ 90) :
    Calls Try.prog 21 #[.agg (blkC v prev root t b n (.slice A m c)).toArray] w fun e w' => ∃ A c n', e = .returned (.slice A n' c) ∧ n' = (blkB v prev root t b n txs).length ∧ Below w.heap.size w w' ∧ w'.ownsRow w.heap.size 5 1 (.slice A n' c) n' (bts (blkB v prev root t b n txs)) := by
  have HTL := Lib.hid (txs_len ht hf)
  have HT := Lib.hid ht
  have HM := Lib.hid hm
  have HOK := Lib.hid hok
  have HF := Lib.hid hf
  have hw64 : IntKind.u64.wrap ((m : Nat) : Int) = ((m : Nat) : Int) := by rw [IntKind.wrap_u64]; omega
  clear ht hm hok hf
  go_enter Try.func21, Try.ntmps21
  go_upto_region 2 with fail
  generalize hW : World.alloc (World.alloc w _) _ = W
  have hsz : W.heap.size = w.heap.size + 2 := by rw [← hW]; simp
  have hwr : IsWr W (w.heap.size + 1) (w.heap.size + 1) none [] := by
    have := IsWr.new2 (w.alloc (.cells (blkC v prev root t b n (.slice A m c)).toArray 46))
    rw [hW, show (w.alloc (.cells (blkC v prev root t b n (.slice A m c)).toArray 46)).heap.size = w.heap.size + 1 by simp] at this
    exact this
  have hb1 : Blk W w.heap.size 46 (blkC v prev root t b n (.slice A m c)).toArray := by rw [← hW]; exact (Blk.new _ _ _).alloc _
  have hoW : Only (fun _ => False) w W := by rw [← hW]; exact ((Only.refl _ w).alloc _).alloc _
  clear hW
  obtain ⟨q, hq⟩ : ∃ q, w.heap.size = q := ⟨_, rfl⟩
  rw [hq] at hsz hwr hb1 ⊢
  have HQ := Lib.hid hq
  have HB1 := Lib.hid hb1
  have HOW := Lib.hid hoW
  have HSZ := Lib.hid hsz
  have K0 := Lib.hid (Wst.refl hwr)
  clear hq hb1 hoW hsz hwr
  go_wp2_with (with_reducible refine wpList_ld rfl 43 (.tmp 6) rfl q 0 rfl (hdrC v prev root t b n) (blk_hdr HB1.out) _ Try.underlying43 rfl 68 infoHdr (hdrC_len _ _ _ _ _ _ h1 h2).symm ?_)
  refine (head_bytes_any W v t b n prev root h1 h2).mono ?_
  rintro e1 w1 ⟨A1, c1, rfl, a1, a2⟩
  have K1 := Lib.hid (K0.out.new a1)
  have B1 := Lib.hid (HB1.out.below a1 HB1.out.lt)
  have hil := hdrB_len v prev root t b n h1 h2
  have hib : IsB w1 (fun b => W.heap.size ≤ b ∧ b < w1.heap.size) (.slice A1 80 c1) (hdrB v prev root t b n) := IsB.of_own a2
  have HIL := Lib.hid hil
  have IB := Lib.hid hib
  clear hil hib a1 a2 K0
  go_wp2_with fail
  refine (wraw_new (q + 1) (q + 1) none [] w1 _ 28 [.slice A1 80 c1] [hdrB v prev root t b n] _ 1 1 _ rfl rfl rfl K1.out.iw (Each1.one IB.out) (fun b _ h e => e.elim (fun e => by have := h.1; have := HSZ.out; omega) (fun e => by cases e)) (by simp) (by simp [HIL.out]) (by simp)).mono ?_
  rintro e2 w2 ⟨rfl, r2, a1, a2, a3⟩
  have K2 := Lib.hid (K1.out.step a1 a2 a3)
  have B2 := Lib.hid (HB1.out.only K2.out.only (fun e => e.elim (fun e => by omega) (fun e => by cases e)))
  have c68 := blk_cell68 B2.out h1 h2
  clear a1 a2 a3 K1 B1 IB
  go_wp2_with fail
  refine (wcount_any (q + 1) (q + 1) r2 _ w2 m K2.out.iw (by simp [HIL.out])).mono ?_
  rintro e3 w3 ⟨rfl, r3, a1, a2, a3⟩
  have K3 := Lib.hid (K2.out.step a1 a2 a3)
  have B3 := Lib.hid (HB1.out.only K3.out.only (fun e => e.elim (fun e => by omega) (fun e => by cases e)))
  clear c68 a1 a2 a3 K2 B2
  have c68 := blk_cell68 B3.out h1 h2
  go_wp2_with fail
  go_loopg [19] m (fun k v19 wr => ∃ (j : Nat) (r' : Option Nat) (cur : List UInt8), j + k = m ∧ v19 = .int .i64 j ∧ Hid (cur = hdrB v prev root t b n ++ countB m ++ (txs.take j).flatMap txB) ∧ Hid (cur.length ≤ 89 + 10200000 * j) ∧ Hid (Wst W wr (q + 1) (q + 1) none r' cur))
  case atStart => exact ⟨0, r3, _, by omega, rfl, by simp [Hid], by rw [Hid]; simp [HIL.out]; have := countB_len m; omega, K3⟩
  case round =>
    clear K3 B3 c68
    obtain ⟨j, r', cur, hj, rfl, HC, HCL, K⟩ := hrel
    by_cases hlt : j < m
    · have HM3 := Lib.hid (show j ≤ 90 by omega)
      have ht' := txsSh.only HT.out (HOW.out.trans K.out.only (fun b hb e => e.elim (fun e => by have := HQ.out; omega) (fun e => by cases e))) (fun b hb h e => e)
      obtain ⟨b', o, cs, rfl, hb, hcs, hrow⟩ := txs_at ht' (by rw [HM.out]; exact hlt)
      obtain ⟨ins, outs, A3, A4, c3, c4, het, rfl, hi, ho⟩ := tx_cells hcs
      have hfit : TxFit (ins, outs, ()) := by rw [← het]; exact HF.out _ (List.getElem_mem _)
      have htl : (txB (ins, outs, ())).length ≤ 10200000 := by rw [← het]; exact HTL.out _ (List.getElem_mem _)
      have HET := Lib.hid het
      have HI := Lib.hid hi
      have HO := Lib.hid ho
      have HFT := Lib.hid hfit
      have HTX := Lib.hid htl
      have HROW := Lib.hid hrow
      clear ht' hcs het hi ho hfit htl hrow hb
      obtain ⟨n1, hn1⟩ : ∃ n1, ins.length = n1 := ⟨_, rfl⟩
      obtain ⟨n2, hn2⟩ : ∃ n2, outs.length = n2 := ⟨_, rfl⟩
      rw [hn1] at HI HROW
      rw [hn2] at HO HROW
      have HN1 := Lib.hid hn1
      have HN2 := Lib.hid hn2
      clear hn1 hn2
      go_wp2_with (first
        | (with_reducible refine wpList_ld rfl 25 (.tmp 21) rfl b' (o + j * 2) rfl [.slice A3 n1 c3, .slice A4 n2 c4] HROW.out _ Try.underlying25 rfl 2 infoTx rfl ?_)
        | (with_reducible refine wpList_stb rfl 25 (.tmp 5) (.tmp 22) rfl wr.heap.size 0 _ rfl rfl 25 _ (Blk.new wr _ _) ?h1 ?h2 ?h3 ?_))
      case h1 => simp
      case h2 => rw [infoTx]; rfl
      case h3 => exact ⟨rfl, rfl⟩
      intro w4 b4 o4
      rw [over_all _ _ (by simp)] at b4
      have hO4 : Below wr.heap.size wr w4 := (((Only.refl (fun b => wr.heap.size ≤ b) wr).alloc _).trans o4 (fun b _ e => by omega)).below (Nat.le_refl _) (fun b hb h => by omega)
      have hi4 := insSh.below HI.out hO4 (fun _ h _ => h)
      have ho4 := outsSh.below HO.out hO4 (fun _ h _ => h)
      have q0 := b4.cell 0
      have q1 := b4.cell 1
      simp only [List.getElem?_toArray, List.getElem?_cons_zero, List.getElem?_cons_succ] at q0 q1
      have K4 := Lib.hid (K.out.new hO4)
      have HSW : W.heap.size ≤ w4.heap.size := K4.out.only.size
      have HSW' := Lib.hid HSW
      have HI4 := Lib.hid hi4
      have HO4' := Lib.hid ho4
      clear b4 o4 hO4 hi4 ho4 K HROW HI HO HSW
      generalize wr.heap.size = p at q0 q1 ⊢
      have WA := Lib.hid (tx_write_any (q + 1) (q + 1) r' cur w4 A3 A4 n1 n2 c3 c4 ins outs _ K4.out.iw HI4.out HO4'.out HN1.out HN2.out (fun b hb => ⟨by have := HOK.out b hb; have := HQ.out; have := HSZ.out; have := HSW'.out; omega, fun e => e.elim (fun e => by have := HOK.out b hb; have := HQ.out; omega) (fun e => by
        rcases K4.out.rr with e2 | ⟨x, e2, hx⟩
        · rw [e2] at e; cases e
        · rw [e2] at e; cases e; have := HOK.out b hb; have := HQ.out; have := HSZ.out; omega)⟩) HFT.out (by have := HCL.out; have := HM3.out; omega))
      go_wp2_with fail
      refine WA.out.mono ?_
      rintro e5 w5 ⟨rfl, r5, a1, a2, a3⟩
      have K5 := Lib.hid (K4.out.step a1 a2 a3)
      clear a1 a2 a3 q0 q1 WA
      go_wp2
      go_roundg (m - 1 - j)
      case measure => omega
      case rel =>
        refine ⟨j + 1, r5, _, by omega, rfl, ?_, ?_, K5⟩
        · rw [Hid, take_snoc' txs j (by rw [HM.out]; exact hlt), HET.out, List.flatMap_append, HC.out]
          simp
        · have := HCL.out
          have := HTX.out
          rw [Hid, List.length_append]
          omega
    · obtain rfl : j = m := by omega
      have hcur : cur = blkB v prev root t b n txs := by
        have := HC.out
        rw [List.take_of_length_le (by rw [HM.out]; exact Nat.le_refl _), List.append_assoc] at this
        rw [this, blkB, HM.out]
      have hcl : cur.length ≤ 1000000000 := by have := HCL.out; omega
      have HCU := Lib.hid hcur
      have BY := Lib.hid (wbytes_any _ _ _ _ wr K.out.iw (by omega))
      have HBL := Lib.hid (show Below w.heap.size w wr from (HOW.out.below (Nat.le_refl _) (fun _ _ h => h)).trans (K.out.only.below HOW.out.size (fun b hb e => e.elim (fun e => by have := HQ.out; omega) (fun e => by cases e))))
      clear hcur hcl hlt hj
      go_wp2_with fail
      refine BY.out.mono ?_
      rintro e2 w2 ⟨A2, n2, c2, rfl, hn2, b1, b2⟩
      have N2 := Lib.hid hn2
      have Y1 := Lib.hid b1
      have Y2 := Lib.hid b2
      clear hn2 b1 b2 BY
      go_wp2
      go_ret
      refine ⟨A2, c2, n2, rfl, by rw [N2.out, HCU.out], HBL.out.trans (Y1.out.mono HBL.out.size), ?_⟩
      have := own_low Y2.out HBL.out.size
      rw [HCU.out] at this
      exact this
end Go.Proofs.Ytpcombaecbjmfaa
