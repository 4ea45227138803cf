/- The document's bytes of a block (layer 7). -/
import Derived.Test.YtnonabmbichfnaaFo
import Derived.Test.YtnonabmbichfnaaRk
namespace Go.Proofs.Ytnonabmbichfnaa
open Go.RowKit
theorem cap_step {a b k M j : Nat} (h : a ≤ k + M * j) (h' : b ≤ M) : a + b ≤ k + M * (j + 1) := by rw [Nat.mul_succ]; omega
set_option maxRecDepth 20000 in
set_option maxHeartbeats 4000000 in
set_option linter.unusedSimpArgs false in
theorem block07_any (w : World) (v t b n : Nat) (prev root : List UInt8) (A : Option Addr) (m c : Nat) (txs : List TxT) (ok : Nat → Prop) (h1 : prev.length = 32) (h2 : root.length = 32)
    (hv : v < 4294967296) (htt : t < 4294967296) (hbb : b < 4294967296) (hnn : n < 4294967296)
    (ht0 : txsSh.rel w ok [.slice A m c] txs) (hm : txs.length = m) (hf : ∀ t ∈ txs, TxFit t) (hm2 : m ≤ 90) :
    Calls Try.prog 30 #[.agg (blkC v prev root t b n (.slice A m c)).toArray] w fun e w' => e = .returned (.string (bstr (blkB v prev root t b n txs))) ∧ Below w.heap.size w w' := by
  have ht := weak_slice weak_tx3 _ _ (fun b => b < w.heap.size) _ _ ht0 (fun b hb _ => hb)
  have HTL := Lib.hid (txs_len ht hf)
  have HT := Lib.hid (fun W (a : Below w.heap.size w W) => txsSh.below ht a (fun _ h _ => h))
  have HM := Lib.hid hm
  have H1 := Lib.hid h1
  have H2 := Lib.hid h2
  have HV := Lib.hid hv
  have HTT := Lib.hid htt
  have HBB := Lib.hid hbb
  have HNN := Lib.hid hnn
  have HF := Lib.hid hf
  have HM2 := Lib.hid hm2
  have hw64 : IntKind.u64.wrap ((m : Nat) : Int) = ((m : Nat) : Int) := by rw [IntKind.wrap_u64]; omega
  clear ht ht0 hm hf hv htt hbb hnn hm2
  go_enter Try.func30, Try.ntmps30
  go_upto_region 1 with fail
  generalize hW : World.alloc w _ = W
  have hb : Blk W w.heap.size 42 (blkC v prev root t b n (.slice A m c)).toArray := by rw [← hW]; exact Blk.new _ _ _
  have hbl : Below w.heap.size w W := by rw [← hW]; exact (Below.refl _ _).alloc (Nat.le_refl _) _
  clear hW
  obtain ⟨g, hg⟩ : ∃ g, w.heap.size = g := ⟨_, rfl⟩
  rw [hg] at hb ⊢
  have HG := Lib.hid hg
  have HB := Lib.hid hb
  have HBL := Lib.hid hbl
  clear hg hb hbl
  have hhl := hdrB_len v prev root t b n h1 h2
  obtain ⟨X, hX⟩ : ∃ X, hdrB v prev root t b n = X := ⟨_, rfl⟩
  have HX := Lib.hid hX
  rw [hX] at hhl
  have HXL := Lib.hid hhl
  have s1 : (bstr X).size = 80 := by rw [bstr_size, hhl]
  have s2 : (bstr (countB m)).size = (countB m).length := bstr_size _
  have s3 : (bstr (X ++ countB m)).size = 80 + (countB m).length := by rw [bstr_size, List.length_append, hhl]
  have s4 : 80 + (countB m).length ≤ 9223372036854775807 := by have := countB_len m; omega
  have p1 := bstr_append X (countB m)
  clear hX
  go_wp2_with fail
  refine wp_region_held_drew (S := (fun w' => Blk w' g 42 (blkC v prev root t b n (.slice A m c)).toArray ∧ Below w.heap.size w w')) (by kernel_rfl) (⟨HB.out.drew, HBL.out.drew⟩) ?_
  intro hSw
  refine wpAnyH_take (i := 0) (oi := ⟨some 5, _, _, _, _, _⟩) (v := (.pointer (some ⟨g, 0, none⟩))) rfl (by kernel_rfl) (by kernel_rfl) (by kernel_rfl) (fun _ _ _ h => h) (Or.inl ⟨by rfl, ?_⟩) hSw ?_
  · intro w' hSw'
    have c68 := blk_cell68 hSw'.1 H1.out H2.out
    go_simp
  simp only [Act.put, List.setIfInBounds_toArray, List.set_cons_zero, List.set_cons_succ]
  refine wpAnyH_take (i := 1) (oi := ⟨some 6, _, _, _, _, _⟩) (v := .agg (hdrC v prev root t b n).toArray) rfl (by kernel_rfl) (by kernel_rfl) (by kernel_rfl) (fun _ _ _ h => h) (yieldsIf_load_mid (by rfl) _ _ rfl g (0) rfl (hdrC v prev root t b n) _ (fun _ h => blk_hdr h.1) Try.underlying39 rfl (by rw [hdrC_len _ _ _ _ _ _ H1.out H2.out]; exact infoHdr)) hSw ?_
  simp only [Act.put, List.setIfInBounds_toArray, List.set_cons_zero, List.set_cons_succ]
  refine wpAnyH_take (i := 3) (oi := ⟨some 8, _, _, _, _, _⟩) (v := (.pointer (some ⟨g, 68, none⟩))) rfl (by kernel_rfl) (by kernel_rfl) (by kernel_rfl) (fun _ _ _ h => h) (Or.inl ⟨by rfl, ?_⟩) hSw ?_
  · intro w' hSw'
    have c68 := blk_cell68 hSw'.1 H1.out H2.out
    go_simp
  simp only [Act.put, List.setIfInBounds_toArray, List.set_cons_zero, List.set_cons_succ]
  refine wpAnyH_take (i := 4) (oi := ⟨some 9, _, _, _, _, _⟩) (v := (.slice A m c)) rfl (by kernel_rfl) (by kernel_rfl) (by kernel_rfl) (fun _ _ _ h => h) (Or.inl ⟨by rfl, ?_⟩) hSw ?_
  · intro w' hSw'
    have c68 := blk_cell68 hSw'.1 H1.out H2.out
    go_simp
  simp only [Act.put, List.setIfInBounds_toArray, List.set_cons_zero, List.set_cons_succ]
  refine wpAnyH_take (i := 5) (oi := ⟨some 10, _, _, _, _, _⟩) (v := (.int .i64 ((m : Nat) : Int))) rfl (by kernel_rfl) (by kernel_rfl) (by kernel_rfl) (fun _ _ _ h => h) (Or.inl ⟨by rfl, ?_⟩) hSw ?_
  · intro w' hSw'
    have c68 := blk_cell68 hSw'.1 H1.out H2.out
    go_simp
  simp only [Act.put, List.setIfInBounds_toArray, List.set_cons_zero, List.set_cons_succ]
  refine wpAnyH_take (i := 6) (oi := ⟨some 11, _, _, _, _, _⟩) (v := (.int .u64 ((m : Nat) : Int))) rfl (by kernel_rfl) (by kernel_rfl) (by kernel_rfl) (fun _ _ _ h => h) (Or.inl ⟨by rfl, ?_⟩) hSw ?_
  · intro w' hSw'
    have c68 := blk_cell68 hSw'.1 H1.out H2.out
    go_simp
  simp only [Act.put, List.setIfInBounds_toArray, List.set_cons_zero, List.set_cons_succ]
  refine wpAnyH_ready (rs := [2]) (by kernel_rfl) (by simp) (AllReadyH.cons (o := ⟨some 7, _, _, _, _, _⟩) rfl (fun K hK => ?_) AllReadyH.nil)
  go_simp
  go_at_call 46
  refine (hdr05_any _ v t b n prev root H1.out H2.out HV.out HTT.out HBB.out HNN.out).mono ?_
  rintro e5 w5 ⟨rfl, a5⟩
  rw [HX.out]
  dsimp only
  refine hK.out _ _ (⟨hSw.1.below a5 hSw.1.lt, hSw.2.trans (a5.mono hSw.2.size)⟩) ?_
  intro hSw
  clear hK K
  try simp only [Act.put, List.setIfInBounds_toArray, List.set_cons_zero, List.set_cons_succ]
  refine wpAnyH_ready (rs := [7]) (by kernel_rfl) (by simp) (AllReadyH.cons (o := ⟨some 12, _, _, _, _, _⟩) rfl (fun K hK => ?_) AllReadyH.nil)
  go_simp
  go_at_call 47
  refine (count06_any m _ (by have := HM2.out; omega)).mono ?_
  rintro e5 w5 ⟨rfl, a5⟩
  dsimp only
  refine hK.out _ _ (⟨hSw.1.below a5 hSw.1.lt, hSw.2.trans (a5.mono hSw.2.size)⟩) ?_
  intro hSw
  clear hK K
  try simp only [Act.put, List.setIfInBounds_toArray, List.set_cons_zero, List.set_cons_succ]
  refine wpAnyH_take (i := 8) (oi := ⟨some 13, _, _, _, _, _⟩) (v := (.string (bstr (X ++ countB m)))) rfl (by kernel_rfl) (by kernel_rfl) (by kernel_rfl) (fun _ _ _ h => h) (Or.inl ⟨by rfl, ?_⟩) hSw ?_
  · intro w' hSw'
    have c68 := blk_cell68 hSw'.1 H1.out H2.out
    go_simp
  simp only [Act.put, List.setIfInBounds_toArray, List.set_cons_zero, List.set_cons_succ]
  refine wpAnyH_take (i := 9) (oi := ⟨some 3, _, _, _, _, _⟩) (v := (.string (bstr (X ++ countB m)))) rfl (by kernel_rfl) (by kernel_rfl) (by kernel_rfl) (fun _ _ _ h => h) (Or.inl ⟨by rfl, ?_⟩) hSw ?_
  · intro w' hSw'
    have c68 := blk_cell68 hSw'.1 H1.out H2.out
    go_simp
  simp only [Act.put, List.setIfInBounds_toArray, List.set_cons_zero, List.set_cons_succ]
  refine wpAnyH_done (by kernel_rfl) ?_ _
  clear p1 s1 s2 s3 s4 hw64
  rename_i wa wb
  go_wp2
  go_loopg [3, 4] m (fun q v3 v4 wr => ∃ (j : Nat) (cur : List UInt8), j + q = m ∧ v3 = .string (bstr cur) ∧ v4 = .int .i64 j ∧ Hid (cur = X ++ countB m ++ (txs.take j).flatMap txB) ∧ Hid (cur.length ≤ 89 + 10200000 * j) ∧ Hid (Blk wr g 42 (blkC v prev root t b n (.slice A m c)).toArray) ∧ Hid (Below w.heap.size w wr))
  case atStart => exact ⟨0, _, by omega, rfl, rfl, by simp [Hid], by rw [Hid]; have := countB_len m; have := HXL.out; simp; omega, hSw.1, hSw.2⟩
  case round =>
    clear HB HBL hSw
    obtain ⟨j, cur, hj, rfl, rfl, HC, HCL, HB, HBL⟩ := hrel
    have c68 := blk_cell68 HB.out H1.out H2.out
    by_cases hlt : j < m
    · have HM3 := Lib.hid (show j ≤ 90 by have := HM2.out; omega)
      obtain ⟨b', o, cs, rfl, hb, hcs, hrow⟩ := txs_at (HT.out _ HBL.out) (by rw [HM.out]; exact hlt)
      obtain ⟨ins, outs, A3, A4, c3, c4, het, rfl, hi, ho⟩ := tx_cells hcs
      have hfit : TxFit (ins, outs, ()) := by rw [← het]; exact HF.out _ (List.getElem_mem _)
      have htl : (txB (ins, outs, ())).length ≤ 10200000 := by rw [← het]; exact HTL.out _ (List.getElem_mem _)
      have HTB := Lib.hid (fun W' (a : Below wr.heap.size wr W') => bytes07_any W' A3 A4 _ _ c3 c4 ins outs _ (insSh.below hi a (fun _ h _ => h)) (outsSh.below ho a (fun _ h _ => h)) rfl rfl hfit)
      obtain ⟨n1, hn1⟩ : ∃ n1, ins.length = n1 := ⟨_, rfl⟩
      obtain ⟨n2, hn2⟩ : ∃ n2, outs.length = n2 := ⟨_, rfl⟩
      rw [hn1] at hrow HTB
      rw [hn2] at hrow HTB
      obtain ⟨Y, hY⟩ : ∃ Y, txB (ins, outs, ()) = Y := ⟨_, rfl⟩
      rw [hY] at htl HTB
      have HYE := Lib.hid (het.symm ▸ hY : txB (txs[j]'(by rw [HM.out]; exact hlt)) = Y)
      have HROW := Lib.hid hrow
      have HYL := Lib.hid htl
      have s1 : (bstr cur).size ≤ 930000000 := by have := HCL.out; have := HM3.out; rw [bstr_size]; omega
      have s2 : (bstr Y).size ≤ 10200000 := by rw [bstr_size]; exact htl
      have s3 : cur.length + Y.length ≤ 9223372036854775807 := by have := HCL.out; have := HM3.out; omega
      have p1 := bstr_append cur Y
      clear hcs het hi ho hrow hb hn1 hn2 hY htl hfit
      go_wp2_with (with_reducible refine wpList_ld rfl 25 (.tmp 25) rfl b' (o + j * 2) rfl ([.slice A3 n1 c3, .slice A4 n2 c4]) HROW.out _ Try.underlying25 rfl 2 infoTx rfl ?_)
      refine (HTB.out _ (Below.refl _ _)).mono ?_
      rintro e5 w5 ⟨rfl, a5⟩
      replace HB := Lib.hid (HB.out.below a5 HB.out.lt)
      replace HBL := Lib.hid (HBL.out.trans (a5.mono HBL.out.size))
      have hm2 := HM2.out
      clear a5 c68 HTB HROW
      go_wp2
      go_roundg (m - 1 - j)
      case measure => omega
      case rel =>
        refine ⟨j + 1, _, by omega, rfl, by first | rfl | (rw [IntWalk.wrap64_in _ (by omega)]; rfl), ?_, ?_, HB, HBL⟩
        · rw [Hid, HC.out, take_snoc' txs j (by rw [HM.out]; exact hlt), List.flatMap_append, List.flatMap_cons, List.flatMap_nil, List.append_nil, HYE.out, List.append_assoc _ _ Y]
        · rw [Hid, List.length_append]; exact cap_step HCL.out HYL.out
    · obtain rfl : j = m := by omega
      go_wp2
      go_ret
      refine ⟨?_, HG.out ▸ HBL.out⟩
      have he : cur = blkB v prev root t b n txs := by
        have := HC.out
        rw [List.take_of_length_le (by rw [HM.out]; exact Nat.le_refl _)] at this
        rw [this, blkB, ← HX.out, HM.out, List.append_assoc]
      rw [← he]
      rfl
end Go.Proofs.Ytnonabmbichfnaa
