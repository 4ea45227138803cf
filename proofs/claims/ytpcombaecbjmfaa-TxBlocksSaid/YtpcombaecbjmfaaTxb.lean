/- TxBlocks, walked. -/
import Derived.Test.YtpcombaecbjmfaaBz
import Derived.Test.YtpcombaecbjmfaaAw
namespace Go.Proofs.Ytpcombaecbjmfaa
open Go.RowKit
theorem IsB.ever {w : World} {ok : Nat → Prop} {v : Value} {l : List UInt8} {B : Nat} (h : IsB w ok v l) (hn : ∀ b, b < w.heap.size → ok b → b < B) : ∀ W, Below B w W → IsB W (fun _ => True) v l :=
  fun _ a => IsB.weak (h.below a hn) (fun _ _ _ => trivial)
set_option maxRecDepth 20000 in
set_option maxHeartbeats 4000000 in
set_option linter.unusedSimpArgs false in
theorem txBlocks_any (w : World) (v t b n : Nat) (prev root : List UInt8) (A : Option Addr) (m c : Nat) (txs : List TxT) (ok : Nat → Prop) (h1 : prev.length = 32) (h2 : root.length = 32)
    (hv : v < 4294967296) (htt : t < 4294967296) (hbb : b < 4294967296) (hnn : n < 4294967296)
    (ht0 : txsSh.rel w ok [.slice A m c] txs) (hm : txs.length = m) (rv : Value) (raw : List UInt8) (hraw : IsB w (fun b => b < w.heap.size) rv raw) :
    Calls Try.prog 5 #[.agg (blkC v prev root t b n (.slice A m c)).toArray, rv] w fun e w' => e = .returned (.bool true) ∧ Below w.heap.size w w' := by
  have ht := weak_slice weak_tx3 _ _ (fun b => b < w.heap.size) _ _ ht0 (fun b hb _ => hb)
  obtain ⟨Av, nv, cv, rfl, hn, hc, hs⟩ := hraw
  have HRAW := Lib.hid (IsB.ever (B := w.heap.size) (show IsB w (fun b => b < w.heap.size) (.slice Av nv cv) raw from ⟨Av, nv, cv, rfl, hn, hc, hs⟩) (fun _ h _ => h))
  have HNV := Lib.hid hn
  have HT := Lib.hid (fun W (a : Below w.heap.size w W) => txsSh.below ht a (fun _ h _ => h))
  have HM := Lib.hid hm
  have H1 := Lib.hid h1
  have H2 := Lib.hid h2
  have HV := Lib.hid hv
  have HTT := Lib.hid htt
  have HBB := Lib.hid hbb
  have HNN := Lib.hid hnn
  clear ht ht0 hm hv htt hbb hnn hn hc hs
  go_enter Try.func5, Try.ntmps5
  go_wp2_with fail
  generalize hW : World.alloc w _ = W
  have hb : Blk W w.heap.size 46 (blkC v prev root t b n (.slice A m c)).toArray := by rw [← hW]; exact Blk.new _ _ _
  have hbl : Below w.heap.size w W := by rw [← hW]; exact (Below.refl _ _).alloc (Nat.le_refl _) _
  clear hW
  obtain ⟨q, hq⟩ : ∃ q, w.heap.size = q := ⟨_, rfl⟩
  rw [hq] at hb ⊢
  have HQ := Lib.hid hq
  have HB := Lib.hid hb
  have HBL := Lib.hid hbl
  clear hq hb hbl
  refine (writes7_any W).mono ?_
  rintro e1 w1 ⟨rfl, a1⟩
  replace HB := Lib.hid (HB.out.below a1 HB.out.lt)
  replace HBL := Lib.hid (HBL.out.trans (a1.mono HBL.out.size))
  clear a1
  have c68 := blk_cell68 HB.out h1 h2
  by_cases hm4 : 40 < m
  · have d1 : decide ((40 : Int) < (m : Int)) = true := by simp; omega
    clear hm4
    go_wp2
    go_ret
    rw [← HQ.out]
    exact ⟨rfl, HBL.out⟩
  have d1 : decide ((40 : Int) < (m : Int)) = false := by simp; omega
  have HM4 := Lib.hid (show m ≤ 40 by omega)
  clear hm4
  by_cases hr4 : 10000 < nv
  · have d2 : decide ((10000 : Int) < (nv : Int)) = true := by simp; omega
    clear hr4
    go_wp2
    go_ret
    rw [← HQ.out]
    exact ⟨rfl, HBL.out⟩
  have d2 : decide ((10000 : Int) < (nv : Int)) = false := by simp; omega
  have HR4 := Lib.hid (show nv ≤ 10000 by omega)
  clear hr4
  go_wp2_with fail
  clear d1 d2 c68
  go_loopg [26] m (fun k v32 wr => ∃ (j : Nat), j + k = m ∧ v32 = .int .i64 j ∧ Hid (∀ t ∈ txs.take j, fitsB t = true) ∧ Hid (Below w.heap.size w wr) ∧ Hid (Blk wr q 46 (blkC v prev root t b n (.slice A m c)).toArray))
  case atStart => exact ⟨0, by omega, rfl, by simp [Hid], HBL, HB⟩
  case round =>
    clear HBL HB
    obtain ⟨j, hj, rfl, HC, HBL, HB⟩ := hrel
    by_cases hlt : j < m
    · obtain ⟨b', o, cs, rfl, hb, hcs, hrow⟩ := txs_at (HT.out _ HBL.out) (by rw [HM.out]; exact hlt)
      obtain ⟨ins, outs, A3, A4, c3, c4, het, rfl, hi, ho⟩ := tx_cells hcs
      have HET := Lib.hid het
      have HI := Lib.hid hi
      have HROW := Lib.hid hrow
      obtain ⟨n1, hn1⟩ : ∃ n1, ins.length = n1 := ⟨_, rfl⟩
      obtain ⟨n2, hn2⟩ : ∃ n2, outs.length = n2 := ⟨_, rfl⟩
      rw [hn1] at HI HROW
      rw [hn2] at HROW
      have HN1 := Lib.hid hn1
      have HN2 := Lib.hid hn2
      clear hcs het hi ho hrow hb hn1 hn2
      go_wp2_with (first
        | (with_reducible refine wpList_ld rfl 25 (.tmp 28) rfl b' (o + j * 2) rfl ([.slice A3 n1 c3, .slice A4 n2 c4]) HROW.out _ Try.underlying25 rfl 2 infoTx rfl ?_)
        | (with_reducible refine wpList_stb rfl 25 (.tmp 6) (.tmp 29) rfl wr.heap.size 0 _ rfl rfl 25 _ (Blk.new wr _ _) ?h1 ?h2 ?h3 ?_))
      case h1 => simp
      case h2 => rw [infoTx]; rfl
      case h3 => exact ⟨rfl, rfl⟩
      intro w4 b4 o4
      rw [over_all _ _ (by simp [])] at b4
      have hO4 : Below wr.heap.size wr w4 := (((Only.refl (fun b => wr.heap.size ≤ b) wr).alloc _).trans o4 (fun b _ e => by omega)).below (Nat.le_refl _) (fun b hb h => by omega)
      replace HB := Lib.hid (HB.out.below hO4 HB.out.lt)
      replace HBL := Lib.hid (HBL.out.trans (hO4.mono HBL.out.size))
      replace HI := Lib.hid (insSh.below HI.out hO4 (fun _ h _ => h))
      have HP := Lib.hid b4
      clear b4 o4 hO4 HROW
      generalize wr.heap.size = p at HP ⊢
      have q0 := HP.out.cell 0
      have q1 := HP.out.cell 1
      simp only [List.getElem?_toArray, List.getElem?_cons_zero, List.getElem?_cons_succ] at q0 q1
      obtain ⟨fb, hfb⟩ : ∃ fb, fitsB (ins, outs, ()) = fb := ⟨_, rfl⟩
      have HFB := Lib.hid hfb
      clear hfb
      go_wp2_with fail
      clear q0 q1
      refine (fits7_any w4 A3 A4 n1 n2 c3 c4 ins outs _ HI.out HN1.out HN2.out).mono ?_
      rintro e5 w5 ⟨rfl, a5⟩
      rw [HFB.out]
      replace HB := Lib.hid (HB.out.below a5 HB.out.lt)
      replace HBL := Lib.hid (HBL.out.trans (a5.mono HBL.out.size))
      clear a5
      cases fb with
      | false =>
        go_wp2
        go_ret
        rw [← HQ.out]
        exact ⟨rfl, HBL.out⟩
      | true =>
        have hall : ∀ t ∈ txs.take (j + 1), fitsB t = true := by
          rw [take_snoc' txs j (by rw [HM.out]; exact hlt)]
          intro t ht
          rcases List.mem_append.1 ht with h | h
          · exact HC.out t h
          · rw [List.mem_singleton.1 h, HET.out]; exact HFB.out
        have HA := Lib.hid hall
        clear hall
        have hm4 := HM4.out
        go_wp2
        go_roundg (m - 1 - j)
        case measure => omega
        case rel => exact ⟨j + 1, by omega, by first | rfl | (rw [IntWalk.wrap64_in _ (by omega)]; rfl), HA.out, HBL.out, HB.out⟩
    · obtain rfl : j = m := by omega
      have hall : ∀ t ∈ txs, TxFit t := by
        have := HC.out
        rw [List.take_of_length_le (by rw [HM.out]; exact Nat.le_refl _)] at this
        exact fun t ht => fits_fit (this t ht)
      replace HC := Lib.hid hall
      clear hall
      go_wp2_with (with_reducible refine wpList_ld rfl 46 (.tmp 2) rfl q 0 rfl (blkC v prev root t b n (.slice A j c)) HB.out.rowAll _ Try.underlying46 rfl 69 infoBlk (blkC_len _ _ _ _ _ _ _ h1 h2).symm ?_)
      have hXL : (blkB v prev root t b n txs).length ≤ 10200000 * 40 + 89 := by
        have h3 := flat_le txB 10200000 txs (txs_len (HT.out _ HBL.out) HC.out)
        have h4 := countB_len txs.length
        have h5 := Nat.mul_le_mul_left 10200000 (show txs.length ≤ 40 by have := HM4.out; have := HM.out; omega)
        rw [blkB, List.length_append, List.length_append, hdrB_len _ _ _ _ _ _ h1 h2]
        omega
      refine (tx_block_any wr v t b n prev root A j c txs (fun b => b < w.heap.size) h1 h2 (HT.out _ HBL.out) HM.out (fun b hb => by have := HBL.out.size; omega) (fun t ht => HC.out t ht) (by have := HM4.out; omega)).mono ?_
      rintro e7 w7 ⟨B7, c7, n7, rfl, hn7, a7, o7⟩
      replace HB := Lib.hid (HB.out.below a7 HB.out.lt)
      replace HBL := Lib.hid (HBL.out.trans (a7.mono HBL.out.size))
      have RB := Lib.hid (fun W' (a : Below w.heap.size w W') => block07_any W' v t b n prev root A j c txs (fun b => b < w.heap.size) h1 h2 HV.out HTT.out HBB.out HNN.out (HT.out _ a) HM.out HC.out (by have := HM4.out; omega))
      obtain ⟨X, hX⟩ : ∃ X, blkB v prev root t b n txs = X := ⟨_, rfl⟩
      rw [hX] at RB hn7 o7 hXL
      have HX := Lib.hid (IsB.ever (B := w7.heap.size) (IsB.of_own o7) (fun _ h _ => h))
      have HXL := Lib.hid hXL
      have HNX := Lib.hid hn7
      clear hX a7 o7 hn7 hXL
      go_wp2_with fail
      refine wp_region_held_drew (S := (fun w' => Blk w' q 46 (blkC v prev root t b n (.slice A j c)).toArray ∧ Below w7.heap.size w7 w' ∧ Below w.heap.size w w')) (by kernel_rfl) (⟨HB.out.drew, (Below.refl _ _).drew, HBL.out.drew⟩) ?_
      intro hSw
      refine wpAnyH_take (i := 0) (oi := ⟨some 36, _, _, _, _, _⟩) (v := (.slice B7 n7 c7)) rfl (by kernel_rfl) (by kernel_rfl) (by kernel_rfl) (fun _ _ _ h => h) (Or.inl ⟨by rfl, ?_⟩) hSw ?_
      · intro w' hSw'
        have k1 := IsB.str (HX.out _ hSw'.2.1) (P := Try.prog) (src := 28) (dst := 9) Try.underlying28 Try.underlying5 Try.underlying9
        go_simp
      simp only [Act.put, List.setIfInBounds_toArray, List.set_cons_zero, List.set_cons_succ]
      refine wpAnyH_take (i := 1) (oi := ⟨some 37, _, _, _, _, _⟩) (v := (.string (bstr X))) rfl (by kernel_rfl) (by kernel_rfl) (by kernel_rfl) (fun _ _ _ h => h) (Or.inl ⟨by rfl, ?_⟩) hSw ?_
      · intro w' hSw'
        have k1 := IsB.str (HX.out _ hSw'.2.1) (P := Try.prog) (src := 28) (dst := 9) Try.underlying28 Try.underlying5 Try.underlying9
        go_simp
      simp only [Act.put, List.setIfInBounds_toArray, List.set_cons_zero, List.set_cons_succ]
      refine wpAnyH_take (i := 2) (oi := ⟨some 38, _, _, _, _, _⟩) (v := .agg (blkC v prev root t b n (.slice A j c)).toArray) rfl (by kernel_rfl) (by kernel_rfl) (by kernel_rfl) (fun _ _ _ h => h) (yieldsIf_load_mid (by rfl) _ _ rfl q (0) rfl (blkC v prev root t b n (.slice A j c)) _ (fun _ h => h.1.rowAll) Try.underlying46 rfl (by rw [blkC_len _ _ _ _ _ _ _ H1.out H2.out]; exact infoBlk)) hSw ?_
      simp only [Act.put, List.setIfInBounds_toArray, List.set_cons_zero, List.set_cons_succ]
      refine wpAnyH_ready (rs := [3]) (by kernel_rfl) (by simp) (AllReadyH.cons (o := ⟨some 39, _, _, _, _, _⟩) rfl (fun K hK => ?_) AllReadyH.nil)
      go_simp
      go_at_call 22
      refine (RB.out _ hSw.2.2).mono ?_
      rintro e8 w8 ⟨rfl, a8⟩
      dsimp only
      refine hK.out _ _ (⟨hSw.1.below a8 hSw.1.lt, hSw.2.1.trans (a8.mono hSw.2.1.size), hSw.2.2.trans (a8.mono hSw.2.2.size)⟩) ?_
      intro hSw
      clear hK K
      try simp only [Act.put, List.setIfInBounds_toArray, List.set_cons_zero, List.set_cons_succ]
      refine wpAnyH_take (i := 4) (oi := ⟨some 40, _, _, _, _, _⟩) (v := (.bool false)) rfl (by kernel_rfl) (by kernel_rfl) (by kernel_rfl) (fun _ _ _ h => h) (Or.inl ⟨by rfl, ?_⟩) hSw ?_
      · intro w' hSw'
        have k1 := IsB.str (HX.out _ hSw'.2.1) (P := Try.prog) (src := 28) (dst := 9) Try.underlying28 Try.underlying5 Try.underlying9
        go_simp
      simp only [Act.put, List.setIfInBounds_toArray, List.set_cons_zero, List.set_cons_succ]
      refine wpAnyH_done (by kernel_rfl) ?_ _
      go_wp2_with fail
      clear HB HBL RB
      have K7 := Lib.hid hSw.2.1
      have K0 := Lib.hid hSw.2.2
      clear hSw
      go_loopg [44] 2 (fun k v44 wr => ∃ (i : Nat), i + k = 2 ∧ v44 = .int .i64 i ∧ Hid (Below w7.heap.size w7 wr) ∧ Hid (Below w.heap.size w wr))
      case atStart => exact ⟨0, by omega, rfl, K7, K0⟩
      case round =>
        clear K7 K0
        obtain ⟨i, hi, rfl, K7, K0⟩ := hrel
        by_cases hlt2 : i < 2
        · rcases (show i = 0 ∨ i = 1 by omega) with rfl | rfl
          · have hx : (Instr.index 49 (.agg #[.slice B7 n7 c7, .slice Av nv cv]) (.int .i64 0)).run Try.prog wr = .ok (.slice B7 n7 c7) wr := by show _ = _; kernel_rfl
            go_wp2_with fail
            clear hx
            have HVV := Lib.hid (IsB.ever (B := wr.heap.size) (HX.out _ K7.out) (fun _ h _ => h))
            have HLX := Lib.hid (show (X).length < 1000000000000 from (by have := HXL.out; omega))
            refine (tx_ReadBlock_any wr _ _ _ (HX.out _ K7.out) (Nat.le_of_lt HLX.out)).mono ?_
            rintro e8 w8 ⟨B8, n8, c8, rfl, ht8, _, a8⟩
            have A8 := Lib.hid a8
            have hn8 := txs_n ht8
            have ht9 := weak_slice weak_tx3 _ _ (fun b => b < w8.heap.size) _ _ ht8 (fun b hb _ => hb)
            have RB := Lib.hid (fun W' => readsBlock07_any X W' HLX.out)
            by_cases hE : blkE X = 0
            · obtain ⟨v9, t9, b9, n9, p9, r9, hH, hp9, hr9, hB9, hF9, hX8⟩ := blkE_zero hE
              rw [hE] at RB ⊢
              rw [hH]
              have HT8 := Lib.hid (fun W (a : Below w8.heap.size w8 W) => txsSh.below ht9 a (fun _ h _ => h))
              obtain ⟨T8, hT8⟩ : ∃ T8, blkT X = T8 := ⟨_, rfl⟩
              rw [hT8] at HT8 hB9 hF9 hn8
              have hT32 : T8.length ≤ 90 := by
                have h5 := countB_len T8.length
                omega
              have HB9 := Lib.hid hB9
              have HF9 := Lib.hid hF9
              have HN8 := Lib.hid hn8
              have HP9 := Lib.hid hp9
              have HR9 := Lib.hid hr9
              clear hE hH hB9 hF9 ht8 ht9 hT8 hn8 a8
              go_wp2_with (with_reducible refine wpList_stb rfl 46 (.tmp 10) (.tmp 50) rfl w8.heap.size 0 _ rfl rfl 46 _ (Blk.new w8 _ _) ?x1 ?x2 ?x3 ?_)
              case x1 => rw [zeroB_len]; simp [hdrC_len _ _ _ _ _ _ hp9 hr9]
              case x2 => rw [infoBlk]; simp [hdrC_len _ _ _ _ _ _ hp9 hr9]
              case x3 => intro v hv; rcases hv with h | h; exact hdrC_one _ _ _ _ _ _ v h; rw [h]; rfl
              intro w10 b10 o10
              rw [over_all _ _ (by rw [zeroB_len]; simp [hdrC_len _ _ _ _ _ _ hp9 hr9])] at b10
              have hO10 : Below w8.heap.size w8 w10 := (((Only.refl (fun b => w8.heap.size ≤ b) w8).alloc _).trans o10 (fun b _ e => by omega)).below (Nat.le_refl _) (fun b hb h => by omega)
              have HP := Lib.hid (show Blk w10 w8.heap.size 46 (blkC v9 p9 r9 t9 b9 n9 (.slice B8 n8 c8)).toArray from b10)
              have HO := Lib.hid hO10
              have HO2 := Lib.hid (A8.out.trans (hO10.mono A8.out.size))
              obtain ⟨p8, hp8⟩ : ∃ p8, w8.heap.size = p8 := ⟨_, rfl⟩
              rw [hp8] at HP ⊢
              clear b10 o10 hO10 hp8
              go_wp2_with fail
              refine wp_region_held_drew (S := (fun w' => Blk w' p8 46 (blkC v9 p9 r9 t9 b9 n9 (.slice B8 n8 c8)).toArray ∧ Below wr.heap.size wr w' ∧ Below w8.heap.size w8 w')) (by kernel_rfl) (⟨HP.out.drew, HO2.out.drew, HO.out.drew⟩) ?_
              intro hSw
              refine wpAnyH_take (i := 0) (oi := ⟨some 52, _, _, _, _, _⟩) (v := (.int .i64 0)) rfl (by kernel_rfl) (by kernel_rfl) (by kernel_rfl) (fun _ _ _ h => h) (Or.inl ⟨by rfl, ?_⟩) hSw ?_
              · intro w' hSw'
                have k1 := IsB.str (HVV.out _ hSw'.2.1) (P := Try.prog) (src := 28) (dst := 9) Try.underlying28 Try.underlying5 Try.underlying9
                go_simp
              simp only [Act.put, List.setIfInBounds_toArray, List.set_cons_zero, List.set_cons_succ]
              refine wpAnyH_take (i := 1) (oi := ⟨some 53, _, _, _, _, _⟩) (v := (.slice B7 n7 c7)) rfl (by kernel_rfl) (by kernel_rfl) (by kernel_rfl) (fun _ _ _ h => h) (Or.inl ⟨by rfl, ?_⟩) hSw ?_
              · intro w' hSw'
                have k1 := IsB.str (HVV.out _ hSw'.2.1) (P := Try.prog) (src := 28) (dst := 9) Try.underlying28 Try.underlying5 Try.underlying9
                go_simp
              simp only [Act.put, List.setIfInBounds_toArray, List.set_cons_zero, List.set_cons_succ]
              refine wpAnyH_take (i := 2) (oi := ⟨some 54, _, _, _, _, _⟩) (v := (.string (bstr X))) rfl (by kernel_rfl) (by kernel_rfl) (by kernel_rfl) (fun _ _ _ h => h) (Or.inl ⟨by rfl, ?_⟩) hSw ?_
              · intro w' hSw'
                have k1 := IsB.str (HVV.out _ hSw'.2.1) (P := Try.prog) (src := 28) (dst := 9) Try.underlying28 Try.underlying5 Try.underlying9
                go_simp
              simp only [Act.put, List.setIfInBounds_toArray, List.set_cons_zero, List.set_cons_succ]
              refine wpAnyH_ready (rs := [3]) (by kernel_rfl) (by simp) (AllReadyH.cons (o := ⟨some 55, _, _, _, _, _⟩) rfl (fun K hK => ?_) AllReadyH.nil)
              go_simp
              go_at_call 24
              refine (RB.out _).mono ?_
              rintro e11 w11 ⟨rfl, a11⟩
              dsimp only
              refine hK.out _ _ (⟨hSw.1.below a11 hSw.1.lt, hSw.2.1.trans (a11.mono hSw.2.1.size), hSw.2.2.trans (a11.mono hSw.2.2.size)⟩) ?_
              intro hSw
              clear hK K
              try simp only [Act.put, List.setIfInBounds_toArray, List.set_cons_zero, List.set_cons_succ]
              refine wpAnyH_take (i := 4) (oi := ⟨some 56, _, _, _, _, _⟩) (v := (.bool false)) rfl (by kernel_rfl) (by kernel_rfl) (by kernel_rfl) (fun _ _ _ h => h) (Or.inl ⟨by rfl, ?_⟩) hSw ?_
              · intro w' hSw'
                have k1 := IsB.str (HVV.out _ hSw'.2.1) (P := Try.prog) (src := 28) (dst := 9) Try.underlying28 Try.underlying5 Try.underlying9
                go_simp
              simp only [Act.put, List.setIfInBounds_toArray, List.set_cons_zero, List.set_cons_succ]
              refine wpAnyH_take (i := 5) (oi := ⟨some 57, _, _, _, _, _⟩) (v := (.bool false)) rfl (by kernel_rfl) (by kernel_rfl) (by kernel_rfl) (fun _ _ _ h => h) (Or.inl ⟨by rfl, ?_⟩) hSw ?_
              · intro w' hSw'
                have k1 := IsB.str (HVV.out _ hSw'.2.1) (P := Try.prog) (src := 28) (dst := 9) Try.underlying28 Try.underlying5 Try.underlying9
                go_simp
              simp only [Act.put, List.setIfInBounds_toArray, List.set_cons_zero, List.set_cons_succ]
              refine wpAnyH_take (i := 6) (oi := ⟨some 58, _, _, _, _, _⟩) (v := (.int .i64 0)) rfl (by kernel_rfl) (by kernel_rfl) (by kernel_rfl) (fun _ _ _ h => h) (Or.inl ⟨by rfl, ?_⟩) hSw ?_
              · intro w' hSw'
                have k1 := IsB.str (HVV.out _ hSw'.2.1) (P := Try.prog) (src := 28) (dst := 9) Try.underlying28 Try.underlying5 Try.underlying9
                go_simp
              simp only [Act.put, List.setIfInBounds_toArray, List.set_cons_zero, List.set_cons_succ]
              refine wpAnyH_take (i := 7) (oi := ⟨some 59, _, _, _, _, _⟩) (v := (.bool true)) rfl (by kernel_rfl) (by kernel_rfl) (by kernel_rfl) (fun _ _ _ h => h) (Or.inl ⟨by rfl, ?_⟩) hSw ?_
              · intro w' hSw'
                have k1 := IsB.str (HVV.out _ hSw'.2.1) (P := Try.prog) (src := 28) (dst := 9) Try.underlying28 Try.underlying5 Try.underlying9
                go_simp
              simp only [Act.put, List.setIfInBounds_toArray, List.set_cons_zero, List.set_cons_succ]
              refine wpAnyH_take (i := 8) (oi := ⟨some 60, _, _, _, _, _⟩) (v := (.bool true)) rfl (by kernel_rfl) (by kernel_rfl) (by kernel_rfl) (fun _ _ _ h => h) (Or.inl ⟨by rfl, ?_⟩) hSw ?_
              · intro w' hSw'
                have k1 := IsB.str (HVV.out _ hSw'.2.1) (P := Try.prog) (src := 28) (dst := 9) Try.underlying28 Try.underlying5 Try.underlying9
                go_simp
              simp only [Act.put, List.setIfInBounds_toArray, List.set_cons_zero, List.set_cons_succ]
              refine wpAnyH_take (i := 9) (oi := ⟨some 61, _, _, _, _, _⟩) (v := .agg (blkC v9 p9 r9 t9 b9 n9 (.slice B8 n8 c8)).toArray) rfl (by kernel_rfl) (by kernel_rfl) (by kernel_rfl) (fun _ _ _ h => h) (yieldsIf_load_mid (by rfl) _ _ rfl p8 (0) rfl (blkC v9 p9 r9 t9 b9 n9 (.slice B8 n8 c8)) _ (fun _ h => h.1.rowAll) Try.underlying46 rfl (by rw [blkC_len _ _ _ _ _ _ _ HP9.out HR9.out]; exact infoBlk)) hSw ?_
              simp only [Act.put, List.setIfInBounds_toArray, List.set_cons_zero, List.set_cons_succ]
              refine wpAnyH_take (i := 12) (oi := ⟨some 64, _, _, _, _, _⟩) (v := (.slice B7 n7 c7)) rfl (by kernel_rfl) (by kernel_rfl) (by kernel_rfl) (fun _ _ _ h => h) (Or.inl ⟨by rfl, ?_⟩) hSw ?_
              · intro w' hSw'
                have k1 := IsB.str (HVV.out _ hSw'.2.1) (P := Try.prog) (src := 28) (dst := 9) Try.underlying28 Try.underlying5 Try.underlying9
                go_simp
              simp only [Act.put, List.setIfInBounds_toArray, List.set_cons_zero, List.set_cons_succ]
              refine wpAnyH_take (i := 13) (oi := ⟨some 65, _, _, _, _, _⟩) (v := (.string (bstr X))) rfl (by kernel_rfl) (by kernel_rfl) (by kernel_rfl) (fun _ _ _ h => h) (Or.inl ⟨by rfl, ?_⟩) hSw ?_
              · intro w' hSw'
                have k1 := IsB.str (HVV.out _ hSw'.2.1) (P := Try.prog) (src := 28) (dst := 9) Try.underlying28 Try.underlying5 Try.underlying9
                go_simp
              simp only [Act.put, List.setIfInBounds_toArray, List.set_cons_zero, List.set_cons_succ]
              refine wpAnyH_ready (rs := [10]) (by kernel_rfl) (by simp) (AllReadyH.cons (o := ⟨some 62, _, _, _, _, _⟩) rfl (fun K hK => ?_) AllReadyH.nil)
              go_simp
              go_at_call 21
              refine (tx_block_any _ v9 t9 b9 n9 p9 r9 B8 n8 c8 T8 (fun b => b < w8.heap.size) HP9.out HR9.out (HT8.out _ hSw.2.2) HN8.out.symm (fun b hb => Nat.lt_of_lt_of_le hb hSw.2.2.size) HF9.out (by have := HN8.out; omega)).mono ?_
              rintro e12 w12 ⟨B12, c12, n12, rfl, hn12, a12, o12⟩
              rw [HB9.out] at hn12 o12
              have k12 := IsB.str (IsB.of_own o12) (P := Try.prog) (src := 28) (dst := 9) Try.underlying28 Try.underlying5 Try.underlying9
              clear o12 hn12
              dsimp only
              refine hK.out _ _ (⟨hSw.1.below a12 hSw.1.lt, hSw.2.1.trans (a12.mono hSw.2.1.size), hSw.2.2.trans (a12.mono hSw.2.2.size)⟩) ?_
              intro hSw
              clear hK K
              try simp only [Act.put, List.setIfInBounds_toArray, List.set_cons_zero, List.set_cons_succ]
              refine wpAnyH_ready (rs := [11]) (by kernel_rfl) (by simp) (AllReadyH.cons (o := ⟨some 63, _, _, _, _, _⟩) rfl (fun K hK => ?_) AllReadyH.nil)
              go_simp
              clear k12
              refine hK.out _ _ (hSw) ?_
              intro hSw
              clear hK K
              try simp only [Act.put, List.setIfInBounds_toArray, List.set_cons_zero, List.set_cons_succ]
              refine wpAnyH_take (i := 14) (oi := ⟨some 66, _, _, _, _, _⟩) (v := (.bool false)) rfl (by kernel_rfl) (by kernel_rfl) (by kernel_rfl) (fun _ _ _ h => h) (Or.inl ⟨by rfl, ?_⟩) hSw ?_
              · intro w' hSw'
                have k1 := IsB.str (HVV.out _ hSw'.2.1) (P := Try.prog) (src := 28) (dst := 9) Try.underlying28 Try.underlying5 Try.underlying9
                go_simp
              simp only [Act.put, List.setIfInBounds_toArray, List.set_cons_zero, List.set_cons_succ]
              refine wpAnyH_take (i := 15) (oi := ⟨some 67, _, _, _, _, _⟩) (v := (.bool false)) rfl (by kernel_rfl) (by kernel_rfl) (by kernel_rfl) (fun _ _ _ h => h) (Or.inl ⟨by rfl, ?_⟩) hSw ?_
              · intro w' hSw'
                have k1 := IsB.str (HVV.out _ hSw'.2.1) (P := Try.prog) (src := 28) (dst := 9) Try.underlying28 Try.underlying5 Try.underlying9
                go_simp
              simp only [Act.put, List.setIfInBounds_toArray, List.set_cons_zero, List.set_cons_succ]
              refine wpAnyH_take (i := 16) (oi := ⟨some 68, _, _, _, _, _⟩) (v := (.bool false)) rfl (by kernel_rfl) (by kernel_rfl) (by kernel_rfl) (fun _ _ _ h => h) (Or.inl ⟨by rfl, ?_⟩) hSw ?_
              · intro w' hSw'
                have k1 := IsB.str (HVV.out _ hSw'.2.1) (P := Try.prog) (src := 28) (dst := 9) Try.underlying28 Try.underlying5 Try.underlying9
                go_simp
              simp only [Act.put, List.setIfInBounds_toArray, List.set_cons_zero, List.set_cons_succ]
              refine wpAnyH_take (i := 17) (oi := ⟨some 69, _, _, _, _, _⟩) (v := (.bool false)) rfl (by kernel_rfl) (by kernel_rfl) (by kernel_rfl) (fun _ _ _ h => h) (Or.inl ⟨by rfl, ?_⟩) hSw ?_
              · intro w' hSw'
                have k1 := IsB.str (HVV.out _ hSw'.2.1) (P := Try.prog) (src := 28) (dst := 9) Try.underlying28 Try.underlying5 Try.underlying9
                go_simp
              simp only [Act.put, List.setIfInBounds_toArray, List.set_cons_zero, List.set_cons_succ]
              refine wpAnyH_take (i := 18) (oi := ⟨some 70, _, _, _, _, _⟩) (v := (.int .i64 0)) rfl (by kernel_rfl) (by kernel_rfl) (by kernel_rfl) (fun _ _ _ h => h) (Or.inl ⟨by rfl, ?_⟩) hSw ?_
              · intro w' hSw'
                have k1 := IsB.str (HVV.out _ hSw'.2.1) (P := Try.prog) (src := 28) (dst := 9) Try.underlying28 Try.underlying5 Try.underlying9
                go_simp
              simp only [Act.put, List.setIfInBounds_toArray, List.set_cons_zero, List.set_cons_succ]
              refine wpAnyH_take (i := 19) (oi := ⟨some 71, _, _, _, _, _⟩) (v := (.bool false)) rfl (by kernel_rfl) (by kernel_rfl) (by kernel_rfl) (fun _ _ _ h => h) (Or.inl ⟨by rfl, ?_⟩) hSw ?_
              · intro w' hSw'
                have k1 := IsB.str (HVV.out _ hSw'.2.1) (P := Try.prog) (src := 28) (dst := 9) Try.underlying28 Try.underlying5 Try.underlying9
                go_simp
              simp only [Act.put, List.setIfInBounds_toArray, List.set_cons_zero, List.set_cons_succ]
              refine wpAnyH_take (i := 20) (oi := ⟨some 72, _, _, _, _, _⟩) (v := (.bool false)) rfl (by kernel_rfl) (by kernel_rfl) (by kernel_rfl) (fun _ _ _ h => h) (Or.inl ⟨by rfl, ?_⟩) hSw ?_
              · intro w' hSw'
                have k1 := IsB.str (HVV.out _ hSw'.2.1) (P := Try.prog) (src := 28) (dst := 9) Try.underlying28 Try.underlying5 Try.underlying9
                go_simp
              simp only [Act.put, List.setIfInBounds_toArray, List.set_cons_zero, List.set_cons_succ]
              refine wpAnyH_take (i := 21) (oi := ⟨some 73, _, _, _, _, _⟩) (v := undef) rfl (by kernel_rfl) (by kernel_rfl) (by kernel_rfl) (fun _ _ _ h => h) (Or.inr ⟨by rfl, rfl⟩) hSw ?_
              simp only [Act.put, List.setIfInBounds_toArray, List.set_cons_zero, List.set_cons_succ]
              refine wpAnyH_take (i := 22) (oi := ⟨some 74, _, _, _, _, _⟩) (v := undef) rfl (by kernel_rfl) (by kernel_rfl) (by kernel_rfl) (fun _ _ _ h => h) (Or.inr ⟨by rfl, rfl⟩) hSw ?_
              simp only [Act.put, List.setIfInBounds_toArray, List.set_cons_zero, List.set_cons_succ]
              refine wpAnyH_take (i := 23) (oi := ⟨some 75, _, _, _, _, _⟩) (v := undef) rfl (by kernel_rfl) (by kernel_rfl) (by kernel_rfl) (fun _ _ _ h => h) (Or.inr ⟨by rfl, rfl⟩) hSw ?_
              simp only [Act.put, List.setIfInBounds_toArray, List.set_cons_zero, List.set_cons_succ]
              refine wpAnyH_take (i := 24) (oi := ⟨some 76, _, _, _, _, _⟩) (v := undef) rfl (by kernel_rfl) (by kernel_rfl) (by kernel_rfl) (fun _ _ _ h => h) (Or.inr ⟨by rfl, rfl⟩) hSw ?_
              simp only [Act.put, List.setIfInBounds_toArray, List.set_cons_zero, List.set_cons_succ]
              refine wpAnyH_take (i := 25) (oi := ⟨some 77, _, _, _, _, _⟩) (v := undef) rfl (by kernel_rfl) (by kernel_rfl) (by kernel_rfl) (fun _ _ _ h => h) (Or.inr ⟨by rfl, rfl⟩) hSw ?_
              simp only [Act.put, List.setIfInBounds_toArray, List.set_cons_zero, List.set_cons_succ]
              refine wpAnyH_take (i := 26) (oi := ⟨some 78, _, _, _, _, _⟩) (v := undef) rfl (by kernel_rfl) (by kernel_rfl) (by kernel_rfl) (fun _ _ _ h => h) (Or.inr ⟨by rfl, rfl⟩) hSw ?_
              simp only [Act.put, List.setIfInBounds_toArray, List.set_cons_zero, List.set_cons_succ]
              refine wpAnyH_take (i := 27) (oi := ⟨some 79, _, _, _, _, _⟩) (v := undef) rfl (by kernel_rfl) (by kernel_rfl) (by kernel_rfl) (fun _ _ _ h => h) (Or.inr ⟨by rfl, rfl⟩) hSw ?_
              simp only [Act.put, List.setIfInBounds_toArray, List.set_cons_zero, List.set_cons_succ]
              refine wpAnyH_take (i := 28) (oi := ⟨some 80, _, _, _, _, _⟩) (v := undef) rfl (by kernel_rfl) (by kernel_rfl) (by kernel_rfl) (fun _ _ _ h => h) (Or.inr ⟨by rfl, rfl⟩) hSw ?_
              simp only [Act.put, List.setIfInBounds_toArray, List.set_cons_zero, List.set_cons_succ]
              refine wpAnyH_take (i := 29) (oi := ⟨some 81, _, _, _, _, _⟩) (v := undef) rfl (by kernel_rfl) (by kernel_rfl) (by kernel_rfl) (fun _ _ _ h => h) (Or.inr ⟨by rfl, rfl⟩) hSw ?_
              simp only [Act.put, List.setIfInBounds_toArray, List.set_cons_zero, List.set_cons_succ]
              refine wpAnyH_take (i := 30) (oi := ⟨some 82, _, _, _, _, _⟩) (v := undef) rfl (by kernel_rfl) (by kernel_rfl) (by kernel_rfl) (fun _ _ _ h => h) (Or.inr ⟨by rfl, rfl⟩) hSw ?_
              simp only [Act.put, List.setIfInBounds_toArray, List.set_cons_zero, List.set_cons_succ]
              refine wpAnyH_take (i := 31) (oi := ⟨some 83, _, _, _, _, _⟩) (v := (.bool false)) rfl (by kernel_rfl) (by kernel_rfl) (by kernel_rfl) (fun _ _ _ h => h) (Or.inl ⟨by rfl, ?_⟩) hSw ?_
              · intro w' hSw'
                have k1 := IsB.str (HVV.out _ hSw'.2.1) (P := Try.prog) (src := 28) (dst := 9) Try.underlying28 Try.underlying5 Try.underlying9
                go_simp
              simp only [Act.put, List.setIfInBounds_toArray, List.set_cons_zero, List.set_cons_succ]
              refine wpAnyH_take (i := 32) (oi := ⟨some 84, _, _, _, _, _⟩) (v := (.bool false)) rfl (by kernel_rfl) (by kernel_rfl) (by kernel_rfl) (fun _ _ _ h => h) (Or.inl ⟨by rfl, ?_⟩) hSw ?_
              · intro w' hSw'
                have k1 := IsB.str (HVV.out _ hSw'.2.1) (P := Try.prog) (src := 28) (dst := 9) Try.underlying28 Try.underlying5 Try.underlying9
                go_simp
              simp only [Act.put, List.setIfInBounds_toArray, List.set_cons_zero, List.set_cons_succ]
              refine wpAnyH_done (by kernel_rfl) ?_ _
              go_wp2
              go_roundg (2 - 1 - 0)
              case measure => omega
              case rel => exact ⟨0 + 1, by omega, by rfl, K7.out.trans (hSw.2.1.mono K7.out.size), K0.out.trans (hSw.2.1.mono K0.out.size)⟩
            · obtain ⟨hH, hT8⟩ := blkE_not hE
              rw [hH]
              rw [hT8] at hn8
              simp only [List.length_nil] at hn8
              subst hn8
              obtain ⟨E8, hE8⟩ : ∃ E8, blkE X = E8 := ⟨_, rfl⟩
              rw [hE8] at RB hE ⊢
              have hzl : (hdrC 0 z32 z32 0 0 0).length = 68 := hdrC_len 0 z32 z32 0 0 0 rfl rfl
              go_wp2_with (with_reducible refine wpList_stb rfl 46 (.tmp 10) (.tmp 50) rfl w8.heap.size 0 _ rfl rfl 46 _ (Blk.new w8 _ _) ?y1 ?y2 ?y3 ?_)
              case y1 => rw [zeroB_len]; simp [hzl]
              case y2 => rw [infoBlk]; simp [hzl]
              case y3 => intro v hv; rcases hv with h | h; exact hdrC_one _ _ _ _ _ _ v h; rw [h]; rfl
              intro w10 b10 o10
              rw [over_all _ _ (by rw [zeroB_len]; simp [hzl])] at b10
              have hO10 : Below w8.heap.size w8 w10 := (((Only.refl (fun b => w8.heap.size ≤ b) w8).alloc _).trans o10 (fun b _ e => by omega)).below (Nat.le_refl _) (fun b hb h => by omega)
              have HP := Lib.hid (show Blk w10 w8.heap.size 46 (blkC 0 z32 z32 0 0 0 (.slice B8 0 c8)).toArray from b10)
              have HO2 := Lib.hid (A8.out.trans (hO10.mono A8.out.size))
              obtain ⟨p8, hp8⟩ : ∃ p8, w8.heap.size = p8 := ⟨_, rfl⟩
              rw [hp8] at HP ⊢
              obtain ⟨Z, hZ⟩ : ∃ Z, hdrC 0 z32 z32 0 0 0 = Z := ⟨_, rfl⟩
              have HZ := Lib.hid hZ
              have heqA : ∀ w', (Op.equalIn 10000 43 (.agg Z.toArray) (.agg Z.toArray)).run Try.prog w' = .ok true w' := fun w' => by rw [← hZ]; exact hdr_zero_eq w'
              clear hZ
              have g1 : (E8 == 0) = false := by simpa using hE
              have g2 : (E8 != 0) = true := by simpa using hE
              clear b10 o10 hO10 hp8 hzl hE8 hH hT8 ht8 ht9 a8 hE
              go_wp2_with fail
              refine wp_region_held_drew (S := (fun w' => Blk w' p8 46 (blkC 0 z32 z32 0 0 0 (.slice B8 0 c8)).toArray ∧ Below wr.heap.size wr w' ∧ True)) (by kernel_rfl) (⟨HP.out.drew, HO2.out.drew, trivial⟩) ?_
              intro hSw
              refine wpAnyH_take (i := 0) (oi := ⟨some 52, _, _, _, _, _⟩) (v := (.int .i64 E8)) rfl (by kernel_rfl) (by kernel_rfl) (by kernel_rfl) (fun _ _ _ h => h) (Or.inl ⟨by rfl, ?_⟩) hSw ?_
              · intro w' hSw'
                have k1 := IsB.str (HVV.out _ hSw'.2.1) (P := Try.prog) (src := 28) (dst := 9) Try.underlying28 Try.underlying5 Try.underlying9
                have c68 := blk_cell68 hSw'.1 (show z32.length = 32 from rfl) (show z32.length = 32 from rfl)
                go_simp
              simp only [Act.put, List.setIfInBounds_toArray, List.set_cons_zero, List.set_cons_succ]
              refine wpAnyH_take (i := 1) (oi := ⟨some 53, _, _, _, _, _⟩) (v := (.slice B7 n7 c7)) rfl (by kernel_rfl) (by kernel_rfl) (by kernel_rfl) (fun _ _ _ h => h) (Or.inl ⟨by rfl, ?_⟩) hSw ?_
              · intro w' hSw'
                have k1 := IsB.str (HVV.out _ hSw'.2.1) (P := Try.prog) (src := 28) (dst := 9) Try.underlying28 Try.underlying5 Try.underlying9
                have c68 := blk_cell68 hSw'.1 (show z32.length = 32 from rfl) (show z32.length = 32 from rfl)
                go_simp
              simp only [Act.put, List.setIfInBounds_toArray, List.set_cons_zero, List.set_cons_succ]
              refine wpAnyH_take (i := 2) (oi := ⟨some 54, _, _, _, _, _⟩) (v := (.string (bstr X))) rfl (by kernel_rfl) (by kernel_rfl) (by kernel_rfl) (fun _ _ _ h => h) (Or.inl ⟨by rfl, ?_⟩) hSw ?_
              · intro w' hSw'
                have k1 := IsB.str (HVV.out _ hSw'.2.1) (P := Try.prog) (src := 28) (dst := 9) Try.underlying28 Try.underlying5 Try.underlying9
                have c68 := blk_cell68 hSw'.1 (show z32.length = 32 from rfl) (show z32.length = 32 from rfl)
                go_simp
              simp only [Act.put, List.setIfInBounds_toArray, List.set_cons_zero, List.set_cons_succ]
              refine wpAnyH_ready (rs := [3]) (by kernel_rfl) (by simp) (AllReadyH.cons (o := ⟨some 55, _, _, _, _, _⟩) rfl (fun K hK => ?_) AllReadyH.nil)
              go_simp
              go_at_call 24
              refine (RB.out _).mono ?_
              rintro e11 w11 ⟨rfl, a11⟩
              dsimp only
              refine hK.out _ _ (⟨hSw.1.below a11 hSw.1.lt, hSw.2.1.trans (a11.mono hSw.2.1.size), trivial⟩) ?_
              intro hSw
              clear hK K
              try simp only [Act.put, List.setIfInBounds_toArray, List.set_cons_zero, List.set_cons_succ]
              refine wpAnyH_take (i := 4) (oi := ⟨some 56, _, _, _, _, _⟩) (v := (.bool false)) rfl (by kernel_rfl) (by kernel_rfl) (by kernel_rfl) (fun _ _ _ h => h) (Or.inl ⟨by rfl, ?_⟩) hSw ?_
              · intro w' hSw'
                have k1 := IsB.str (HVV.out _ hSw'.2.1) (P := Try.prog) (src := 28) (dst := 9) Try.underlying28 Try.underlying5 Try.underlying9
                have c68 := blk_cell68 hSw'.1 (show z32.length = 32 from rfl) (show z32.length = 32 from rfl)
                go_simp
              simp only [Act.put, List.setIfInBounds_toArray, List.set_cons_zero, List.set_cons_succ]
              refine wpAnyH_take (i := 5) (oi := ⟨some 57, _, _, _, _, _⟩) (v := (.bool false)) rfl (by kernel_rfl) (by kernel_rfl) (by kernel_rfl) (fun _ _ _ h => h) (Or.inl ⟨by rfl, ?_⟩) hSw ?_
              · intro w' hSw'
                have k1 := IsB.str (HVV.out _ hSw'.2.1) (P := Try.prog) (src := 28) (dst := 9) Try.underlying28 Try.underlying5 Try.underlying9
                have c68 := blk_cell68 hSw'.1 (show z32.length = 32 from rfl) (show z32.length = 32 from rfl)
                go_simp
              simp only [Act.put, List.setIfInBounds_toArray, List.set_cons_zero, List.set_cons_succ]
              refine wpAnyH_take (i := 6) (oi := ⟨some 58, _, _, _, _, _⟩) (v := (.int .i64 E8)) rfl (by kernel_rfl) (by kernel_rfl) (by kernel_rfl) (fun _ _ _ h => h) (Or.inl ⟨by rfl, ?_⟩) hSw ?_
              · intro w' hSw'
                have k1 := IsB.str (HVV.out _ hSw'.2.1) (P := Try.prog) (src := 28) (dst := 9) Try.underlying28 Try.underlying5 Try.underlying9
                have c68 := blk_cell68 hSw'.1 (show z32.length = 32 from rfl) (show z32.length = 32 from rfl)
                go_simp
              simp only [Act.put, List.setIfInBounds_toArray, List.set_cons_zero, List.set_cons_succ]
              refine wpAnyH_take (i := 7) (oi := ⟨some 59, _, _, _, _, _⟩) (v := (.bool false)) rfl (by kernel_rfl) (by kernel_rfl) (by kernel_rfl) (fun _ _ _ h => h) (Or.inl ⟨by rfl, ?_⟩) hSw ?_
              · intro w' hSw'
                have k1 := IsB.str (HVV.out _ hSw'.2.1) (P := Try.prog) (src := 28) (dst := 9) Try.underlying28 Try.underlying5 Try.underlying9
                have c68 := blk_cell68 hSw'.1 (show z32.length = 32 from rfl) (show z32.length = 32 from rfl)
                go_simp
              simp only [Act.put, List.setIfInBounds_toArray, List.set_cons_zero, List.set_cons_succ]
              refine wpAnyH_take (i := 8) (oi := ⟨some 60, _, _, _, _, _⟩) (v := (.bool false)) rfl (by kernel_rfl) (by kernel_rfl) (by kernel_rfl) (fun _ _ _ h => h) (Or.inl ⟨by rfl, ?_⟩) hSw ?_
              · intro w' hSw'
                have k1 := IsB.str (HVV.out _ hSw'.2.1) (P := Try.prog) (src := 28) (dst := 9) Try.underlying28 Try.underlying5 Try.underlying9
                have c68 := blk_cell68 hSw'.1 (show z32.length = 32 from rfl) (show z32.length = 32 from rfl)
                go_simp
              simp only [Act.put, List.setIfInBounds_toArray, List.set_cons_zero, List.set_cons_succ]
              refine wpAnyH_take (i := 9) (oi := ⟨some 61, _, _, _, _, _⟩) (v := undef) rfl (by kernel_rfl) (by kernel_rfl) (by kernel_rfl) (fun _ _ _ h => h) (Or.inr ⟨by rfl, rfl⟩) hSw ?_
              simp only [Act.put, List.setIfInBounds_toArray, List.set_cons_zero, List.set_cons_succ]
              refine wpAnyH_take (i := 10) (oi := ⟨some 62, _, _, _, _, _⟩) (v := undef) rfl (by kernel_rfl) (by kernel_rfl) (by kernel_rfl) (fun _ _ _ h => h) (Or.inr ⟨by rfl, rfl⟩) hSw ?_
              simp only [Act.put, List.setIfInBounds_toArray, List.set_cons_zero, List.set_cons_succ]
              refine wpAnyH_take (i := 11) (oi := ⟨some 63, _, _, _, _, _⟩) (v := undef) rfl (by kernel_rfl) (by kernel_rfl) (by kernel_rfl) (fun _ _ _ h => h) (Or.inr ⟨by rfl, rfl⟩) hSw ?_
              simp only [Act.put, List.setIfInBounds_toArray, List.set_cons_zero, List.set_cons_succ]
              refine wpAnyH_take (i := 12) (oi := ⟨some 64, _, _, _, _, _⟩) (v := undef) rfl (by kernel_rfl) (by kernel_rfl) (by kernel_rfl) (fun _ _ _ h => h) (Or.inr ⟨by rfl, rfl⟩) hSw ?_
              simp only [Act.put, List.setIfInBounds_toArray, List.set_cons_zero, List.set_cons_succ]
              refine wpAnyH_take (i := 13) (oi := ⟨some 65, _, _, _, _, _⟩) (v := undef) rfl (by kernel_rfl) (by kernel_rfl) (by kernel_rfl) (fun _ _ _ h => h) (Or.inr ⟨by rfl, rfl⟩) hSw ?_
              simp only [Act.put, List.setIfInBounds_toArray, List.set_cons_zero, List.set_cons_succ]
              refine wpAnyH_take (i := 14) (oi := ⟨some 66, _, _, _, _, _⟩) (v := undef) rfl (by kernel_rfl) (by kernel_rfl) (by kernel_rfl) (fun _ _ _ h => h) (Or.inr ⟨by rfl, rfl⟩) hSw ?_
              simp only [Act.put, List.setIfInBounds_toArray, List.set_cons_zero, List.set_cons_succ]
              refine wpAnyH_take (i := 15) (oi := ⟨some 67, _, _, _, _, _⟩) (v := (.bool false)) rfl (by kernel_rfl) (by kernel_rfl) (by kernel_rfl) (fun _ _ _ h => h) (Or.inl ⟨by rfl, ?_⟩) hSw ?_
              · intro w' hSw'
                have k1 := IsB.str (HVV.out _ hSw'.2.1) (P := Try.prog) (src := 28) (dst := 9) Try.underlying28 Try.underlying5 Try.underlying9
                have c68 := blk_cell68 hSw'.1 (show z32.length = 32 from rfl) (show z32.length = 32 from rfl)
                go_simp
              simp only [Act.put, List.setIfInBounds_toArray, List.set_cons_zero, List.set_cons_succ]
              refine wpAnyH_take (i := 16) (oi := ⟨some 68, _, _, _, _, _⟩) (v := (.bool false)) rfl (by kernel_rfl) (by kernel_rfl) (by kernel_rfl) (fun _ _ _ h => h) (Or.inl ⟨by rfl, ?_⟩) hSw ?_
              · intro w' hSw'
                have k1 := IsB.str (HVV.out _ hSw'.2.1) (P := Try.prog) (src := 28) (dst := 9) Try.underlying28 Try.underlying5 Try.underlying9
                have c68 := blk_cell68 hSw'.1 (show z32.length = 32 from rfl) (show z32.length = 32 from rfl)
                go_simp
              simp only [Act.put, List.setIfInBounds_toArray, List.set_cons_zero, List.set_cons_succ]
              refine wpAnyH_take (i := 17) (oi := ⟨some 69, _, _, _, _, _⟩) (v := (.bool false)) rfl (by kernel_rfl) (by kernel_rfl) (by kernel_rfl) (fun _ _ _ h => h) (Or.inl ⟨by rfl, ?_⟩) hSw ?_
              · intro w' hSw'
                have k1 := IsB.str (HVV.out _ hSw'.2.1) (P := Try.prog) (src := 28) (dst := 9) Try.underlying28 Try.underlying5 Try.underlying9
                have c68 := blk_cell68 hSw'.1 (show z32.length = 32 from rfl) (show z32.length = 32 from rfl)
                go_simp
              simp only [Act.put, List.setIfInBounds_toArray, List.set_cons_zero, List.set_cons_succ]
              refine wpAnyH_take (i := 18) (oi := ⟨some 70, _, _, _, _, _⟩) (v := (.int .i64 E8)) rfl (by kernel_rfl) (by kernel_rfl) (by kernel_rfl) (fun _ _ _ h => h) (Or.inl ⟨by rfl, ?_⟩) hSw ?_
              · intro w' hSw'
                have k1 := IsB.str (HVV.out _ hSw'.2.1) (P := Try.prog) (src := 28) (dst := 9) Try.underlying28 Try.underlying5 Try.underlying9
                have c68 := blk_cell68 hSw'.1 (show z32.length = 32 from rfl) (show z32.length = 32 from rfl)
                go_simp
              simp only [Act.put, List.setIfInBounds_toArray, List.set_cons_zero, List.set_cons_succ]
              refine wpAnyH_take (i := 19) (oi := ⟨some 71, _, _, _, _, _⟩) (v := (.bool true)) rfl (by kernel_rfl) (by kernel_rfl) (by kernel_rfl) (fun _ _ _ h => h) (Or.inl ⟨by rfl, ?_⟩) hSw ?_
              · intro w' hSw'
                have k1 := IsB.str (HVV.out _ hSw'.2.1) (P := Try.prog) (src := 28) (dst := 9) Try.underlying28 Try.underlying5 Try.underlying9
                have c68 := blk_cell68 hSw'.1 (show z32.length = 32 from rfl) (show z32.length = 32 from rfl)
                go_simp
              simp only [Act.put, List.setIfInBounds_toArray, List.set_cons_zero, List.set_cons_succ]
              refine wpAnyH_take (i := 20) (oi := ⟨some 72, _, _, _, _, _⟩) (v := (.bool true)) rfl (by kernel_rfl) (by kernel_rfl) (by kernel_rfl) (fun _ _ _ h => h) (Or.inl ⟨by rfl, ?_⟩) hSw ?_
              · intro w' hSw'
                have k1 := IsB.str (HVV.out _ hSw'.2.1) (P := Try.prog) (src := 28) (dst := 9) Try.underlying28 Try.underlying5 Try.underlying9
                have c68 := blk_cell68 hSw'.1 (show z32.length = 32 from rfl) (show z32.length = 32 from rfl)
                go_simp
              simp only [Act.put, List.setIfInBounds_toArray, List.set_cons_zero, List.set_cons_succ]
              refine wpAnyH_take (i := 21) (oi := ⟨some 73, _, _, _, _, _⟩) (v := (.pointer (some ⟨p8, 68, none⟩))) rfl (by kernel_rfl) (by kernel_rfl) (by kernel_rfl) (fun _ _ _ h => h) (Or.inl ⟨by rfl, ?_⟩) hSw ?_
              · intro w' hSw'
                have k1 := IsB.str (HVV.out _ hSw'.2.1) (P := Try.prog) (src := 28) (dst := 9) Try.underlying28 Try.underlying5 Try.underlying9
                have c68 := blk_cell68 hSw'.1 (show z32.length = 32 from rfl) (show z32.length = 32 from rfl)
                go_simp
              simp only [Act.put, List.setIfInBounds_toArray, List.set_cons_zero, List.set_cons_succ]
              refine wpAnyH_take (i := 22) (oi := ⟨some 74, _, _, _, _, _⟩) (v := (.slice B8 0 c8)) rfl (by kernel_rfl) (by kernel_rfl) (by kernel_rfl) (fun _ _ _ h => h) (Or.inl ⟨by rfl, ?_⟩) hSw ?_
              · intro w' hSw'
                have k1 := IsB.str (HVV.out _ hSw'.2.1) (P := Try.prog) (src := 28) (dst := 9) Try.underlying28 Try.underlying5 Try.underlying9
                have c68 := blk_cell68 hSw'.1 (show z32.length = 32 from rfl) (show z32.length = 32 from rfl)
                go_simp
              simp only [Act.put, List.setIfInBounds_toArray, List.set_cons_zero, List.set_cons_succ]
              refine wpAnyH_take (i := 23) (oi := ⟨some 75, _, _, _, _, _⟩) (v := (.int .i64 0)) rfl (by kernel_rfl) (by kernel_rfl) (by kernel_rfl) (fun _ _ _ h => h) (Or.inl ⟨by rfl, ?_⟩) hSw ?_
              · intro w' hSw'
                have k1 := IsB.str (HVV.out _ hSw'.2.1) (P := Try.prog) (src := 28) (dst := 9) Try.underlying28 Try.underlying5 Try.underlying9
                have c68 := blk_cell68 hSw'.1 (show z32.length = 32 from rfl) (show z32.length = 32 from rfl)
                go_simp
              simp only [Act.put, List.setIfInBounds_toArray, List.set_cons_zero, List.set_cons_succ]
              refine wpAnyH_take (i := 24) (oi := ⟨some 76, _, _, _, _, _⟩) (v := (.bool false)) rfl (by kernel_rfl) (by kernel_rfl) (by kernel_rfl) (fun _ _ _ h => h) (Or.inl ⟨by rfl, ?_⟩) hSw ?_
              · intro w' hSw'
                have k1 := IsB.str (HVV.out _ hSw'.2.1) (P := Try.prog) (src := 28) (dst := 9) Try.underlying28 Try.underlying5 Try.underlying9
                have c68 := blk_cell68 hSw'.1 (show z32.length = 32 from rfl) (show z32.length = 32 from rfl)
                go_simp
              simp only [Act.put, List.setIfInBounds_toArray, List.set_cons_zero, List.set_cons_succ]
              refine wpAnyH_take (i := 25) (oi := ⟨some 77, _, _, _, _, _⟩) (v := (.bool false)) rfl (by kernel_rfl) (by kernel_rfl) (by kernel_rfl) (fun _ _ _ h => h) (Or.inl ⟨by rfl, ?_⟩) hSw ?_
              · intro w' hSw'
                have k1 := IsB.str (HVV.out _ hSw'.2.1) (P := Try.prog) (src := 28) (dst := 9) Try.underlying28 Try.underlying5 Try.underlying9
                have c68 := blk_cell68 hSw'.1 (show z32.length = 32 from rfl) (show z32.length = 32 from rfl)
                go_simp
              simp only [Act.put, List.setIfInBounds_toArray, List.set_cons_zero, List.set_cons_succ]
              refine wpAnyH_take (i := 26) (oi := ⟨some 78, _, _, _, _, _⟩) (v := (.pointer (some ⟨p8, 0, none⟩))) rfl (by kernel_rfl) (by kernel_rfl) (by kernel_rfl) (fun _ _ _ h => h) (Or.inl ⟨by rfl, ?_⟩) hSw ?_
              · intro w' hSw'
                have k1 := IsB.str (HVV.out _ hSw'.2.1) (P := Try.prog) (src := 28) (dst := 9) Try.underlying28 Try.underlying5 Try.underlying9
                have c68 := blk_cell68 hSw'.1 (show z32.length = 32 from rfl) (show z32.length = 32 from rfl)
                go_simp
              simp only [Act.put, List.setIfInBounds_toArray, List.set_cons_zero, List.set_cons_succ]
              refine wpAnyH_take (i := 27) (oi := ⟨some 79, _, _, _, _, _⟩) (v := .agg (Z).toArray) rfl (by kernel_rfl) (by kernel_rfl) (by kernel_rfl) (fun _ _ _ h => h) (yieldsIf_load_mid (by rfl) _ _ rfl p8 (0) rfl (Z) _ (fun _ h => HZ.out ▸ blk_hdr h.1) Try.underlying43 rfl (by rw [← HZ.out, hdrC_len 0 z32 z32 0 0 0 rfl rfl]; exact infoHdr)) hSw ?_
              simp only [Act.put, List.setIfInBounds_toArray, List.set_cons_zero, List.set_cons_succ]
              refine wpAnyH_take (i := 28) (oi := ⟨some 80, _, _, _, _, _⟩) (v := (.agg Z.toArray)) rfl (by kernel_rfl) (by kernel_rfl) (by kernel_rfl) (fun _ _ _ h => h) (Or.inl ⟨by rfl, ?_⟩) hSw ?_
              · intro w' hSw'
                exact exec_build (l := []) rfl (by simp) (HZ.out ▸ built_hdr0)
              simp only [Act.put, List.setIfInBounds_toArray, List.set_cons_zero, List.set_cons_succ]
              refine wpAnyH_take (i := 29) (oi := ⟨some 81, _, _, _, _, _⟩) (v := (.bool false)) rfl (by kernel_rfl) (by kernel_rfl) (by kernel_rfl) (fun _ _ _ h => h) (Or.inl ⟨by rfl, ?_⟩) hSw ?_
              · intro w' hSw'
                have k1 := IsB.str (HVV.out _ hSw'.2.1) (P := Try.prog) (src := 28) (dst := 9) Try.underlying28 Try.underlying5 Try.underlying9
                have c68 := blk_cell68 hSw'.1 (show z32.length = 32 from rfl) (show z32.length = 32 from rfl)
                go_simp
              simp only [Act.put, List.setIfInBounds_toArray, List.set_cons_zero, List.set_cons_succ]
              refine wpAnyH_take (i := 30) (oi := ⟨some 82, _, _, _, _, _⟩) (v := (.bool false)) rfl (by kernel_rfl) (by kernel_rfl) (by kernel_rfl) (fun _ _ _ h => h) (Or.inl ⟨by rfl, ?_⟩) hSw ?_
              · intro w' hSw'
                have k1 := IsB.str (HVV.out _ hSw'.2.1) (P := Try.prog) (src := 28) (dst := 9) Try.underlying28 Try.underlying5 Try.underlying9
                have c68 := blk_cell68 hSw'.1 (show z32.length = 32 from rfl) (show z32.length = 32 from rfl)
                go_simp
              simp only [Act.put, List.setIfInBounds_toArray, List.set_cons_zero, List.set_cons_succ]
              refine wpAnyH_take (i := 31) (oi := ⟨some 83, _, _, _, _, _⟩) (v := (.bool false)) rfl (by kernel_rfl) (by kernel_rfl) (by kernel_rfl) (fun _ _ _ h => h) (Or.inl ⟨by rfl, ?_⟩) hSw ?_
              · intro w' hSw'
                have k1 := IsB.str (HVV.out _ hSw'.2.1) (P := Try.prog) (src := 28) (dst := 9) Try.underlying28 Try.underlying5 Try.underlying9
                have c68 := blk_cell68 hSw'.1 (show z32.length = 32 from rfl) (show z32.length = 32 from rfl)
                go_simp
              simp only [Act.put, List.setIfInBounds_toArray, List.set_cons_zero, List.set_cons_succ]
              refine wpAnyH_take (i := 32) (oi := ⟨some 84, _, _, _, _, _⟩) (v := (.bool false)) rfl (by kernel_rfl) (by kernel_rfl) (by kernel_rfl) (fun _ _ _ h => h) (Or.inl ⟨by rfl, ?_⟩) hSw ?_
              · intro w' hSw'
                have k1 := IsB.str (HVV.out _ hSw'.2.1) (P := Try.prog) (src := 28) (dst := 9) Try.underlying28 Try.underlying5 Try.underlying9
                have c68 := blk_cell68 hSw'.1 (show z32.length = 32 from rfl) (show z32.length = 32 from rfl)
                go_simp
              simp only [Act.put, List.setIfInBounds_toArray, List.set_cons_zero, List.set_cons_succ]
              refine wpAnyH_done (by kernel_rfl) ?_ _
              clear heqA
              go_wp2
              go_roundg (2 - 1 - 0)
              case measure => omega
              case rel => exact ⟨0 + 1, by omega, by rfl, K7.out.trans (hSw.2.1.mono K7.out.size), K0.out.trans (hSw.2.1.mono K0.out.size)⟩
          · have hx : (Instr.index 49 (.agg #[.slice B7 n7 c7, .slice Av nv cv]) (.int .i64 1)).run Try.prog wr = .ok (.slice Av nv cv) wr := by show _ = _; kernel_rfl
            go_wp2_with fail
            clear hx
            have HVV := Lib.hid (IsB.ever (B := wr.heap.size) (HRAW.out _ K0.out) (fun _ h _ => h))
            have HLX := Lib.hid (show (raw).length < 1000000000000 from (by have := HR4.out; have := HNV.out; omega))
            refine (tx_ReadBlock_any wr _ _ _ (HRAW.out _ K0.out) (Nat.le_of_lt HLX.out)).mono ?_
            rintro e8 w8 ⟨B8, n8, c8, rfl, ht8, _, a8⟩
            have A8 := Lib.hid a8
            have hn8 := txs_n ht8
            have ht9 := weak_slice weak_tx3 _ _ (fun b => b < w8.heap.size) _ _ ht8 (fun b hb _ => hb)
            have RB := Lib.hid (fun W' => readsBlock07_any raw W' HLX.out)
            by_cases hE : blkE raw = 0
            · obtain ⟨v9, t9, b9, n9, p9, r9, hH, hp9, hr9, hB9, hF9, hX8⟩ := blkE_zero hE
              rw [hE] at RB ⊢
              rw [hH]
              have HT8 := Lib.hid (fun W (a : Below w8.heap.size w8 W) => txsSh.below ht9 a (fun _ h _ => h))
              obtain ⟨T8, hT8⟩ : ∃ T8, blkT raw = T8 := ⟨_, rfl⟩
              rw [hT8] at HT8 hB9 hF9 hn8
              have hT32 : T8.length ≤ 90 := by
                have h5 := countB_len T8.length
                omega
              have HB9 := Lib.hid hB9
              have HF9 := Lib.hid hF9
              have HN8 := Lib.hid hn8
              have HP9 := Lib.hid hp9
              have HR9 := Lib.hid hr9
              clear hE hH hB9 hF9 ht8 ht9 hT8 hn8 a8
              go_wp2_with (with_reducible refine wpList_stb rfl 46 (.tmp 10) (.tmp 50) rfl w8.heap.size 0 _ rfl rfl 46 _ (Blk.new w8 _ _) ?x1 ?x2 ?x3 ?_)
              case x1 => rw [zeroB_len]; simp [hdrC_len _ _ _ _ _ _ hp9 hr9]
              case x2 => rw [infoBlk]; simp [hdrC_len _ _ _ _ _ _ hp9 hr9]
              case x3 => intro v hv; rcases hv with h | h; exact hdrC_one _ _ _ _ _ _ v h; rw [h]; rfl
              intro w10 b10 o10
              rw [over_all _ _ (by rw [zeroB_len]; simp [hdrC_len _ _ _ _ _ _ hp9 hr9])] at b10
              have hO10 : Below w8.heap.size w8 w10 := (((Only.refl (fun b => w8.heap.size ≤ b) w8).alloc _).trans o10 (fun b _ e => by omega)).below (Nat.le_refl _) (fun b hb h => by omega)
              have HP := Lib.hid (show Blk w10 w8.heap.size 46 (blkC v9 p9 r9 t9 b9 n9 (.slice B8 n8 c8)).toArray from b10)
              have HO := Lib.hid hO10
              have HO2 := Lib.hid (A8.out.trans (hO10.mono A8.out.size))
              obtain ⟨p8, hp8⟩ : ∃ p8, w8.heap.size = p8 := ⟨_, rfl⟩
              rw [hp8] at HP ⊢
              clear b10 o10 hO10 hp8
              go_wp2_with fail
              refine wp_region_held_drew (S := (fun w' => Blk w' p8 46 (blkC v9 p9 r9 t9 b9 n9 (.slice B8 n8 c8)).toArray ∧ Below wr.heap.size wr w' ∧ Below w8.heap.size w8 w')) (by kernel_rfl) (⟨HP.out.drew, HO2.out.drew, HO.out.drew⟩) ?_
              intro hSw
              refine wpAnyH_take (i := 0) (oi := ⟨some 52, _, _, _, _, _⟩) (v := (.int .i64 0)) rfl (by kernel_rfl) (by kernel_rfl) (by kernel_rfl) (fun _ _ _ h => h) (Or.inl ⟨by rfl, ?_⟩) hSw ?_
              · intro w' hSw'
                have k1 := IsB.str (HVV.out _ hSw'.2.1) (P := Try.prog) (src := 28) (dst := 9) Try.underlying28 Try.underlying5 Try.underlying9
                go_simp
              simp only [Act.put, List.setIfInBounds_toArray, List.set_cons_zero, List.set_cons_succ]
              refine wpAnyH_take (i := 1) (oi := ⟨some 53, _, _, _, _, _⟩) (v := (.slice Av nv cv)) rfl (by kernel_rfl) (by kernel_rfl) (by kernel_rfl) (fun _ _ _ h => h) (Or.inl ⟨by rfl, ?_⟩) hSw ?_
              · intro w' hSw'
                have k1 := IsB.str (HVV.out _ hSw'.2.1) (P := Try.prog) (src := 28) (dst := 9) Try.underlying28 Try.underlying5 Try.underlying9
                go_simp
              simp only [Act.put, List.setIfInBounds_toArray, List.set_cons_zero, List.set_cons_succ]
              refine wpAnyH_take (i := 2) (oi := ⟨some 54, _, _, _, _, _⟩) (v := (.string (bstr raw))) rfl (by kernel_rfl) (by kernel_rfl) (by kernel_rfl) (fun _ _ _ h => h) (Or.inl ⟨by rfl, ?_⟩) hSw ?_
              · intro w' hSw'
                have k1 := IsB.str (HVV.out _ hSw'.2.1) (P := Try.prog) (src := 28) (dst := 9) Try.underlying28 Try.underlying5 Try.underlying9
                go_simp
              simp only [Act.put, List.setIfInBounds_toArray, List.set_cons_zero, List.set_cons_succ]
              refine wpAnyH_ready (rs := [3]) (by kernel_rfl) (by simp) (AllReadyH.cons (o := ⟨some 55, _, _, _, _, _⟩) rfl (fun K hK => ?_) AllReadyH.nil)
              go_simp
              go_at_call 24
              refine (RB.out _).mono ?_
              rintro e11 w11 ⟨rfl, a11⟩
              dsimp only
              refine hK.out _ _ (⟨hSw.1.below a11 hSw.1.lt, hSw.2.1.trans (a11.mono hSw.2.1.size), hSw.2.2.trans (a11.mono hSw.2.2.size)⟩) ?_
              intro hSw
              clear hK K
              try simp only [Act.put, List.setIfInBounds_toArray, List.set_cons_zero, List.set_cons_succ]
              refine wpAnyH_take (i := 4) (oi := ⟨some 56, _, _, _, _, _⟩) (v := (.bool false)) rfl (by kernel_rfl) (by kernel_rfl) (by kernel_rfl) (fun _ _ _ h => h) (Or.inl ⟨by rfl, ?_⟩) hSw ?_
              · intro w' hSw'
                have k1 := IsB.str (HVV.out _ hSw'.2.1) (P := Try.prog) (src := 28) (dst := 9) Try.underlying28 Try.underlying5 Try.underlying9
                go_simp
              simp only [Act.put, List.setIfInBounds_toArray, List.set_cons_zero, List.set_cons_succ]
              refine wpAnyH_take (i := 5) (oi := ⟨some 57, _, _, _, _, _⟩) (v := (.bool false)) rfl (by kernel_rfl) (by kernel_rfl) (by kernel_rfl) (fun _ _ _ h => h) (Or.inl ⟨by rfl, ?_⟩) hSw ?_
              · intro w' hSw'
                have k1 := IsB.str (HVV.out _ hSw'.2.1) (P := Try.prog) (src := 28) (dst := 9) Try.underlying28 Try.underlying5 Try.underlying9
                go_simp
              simp only [Act.put, List.setIfInBounds_toArray, List.set_cons_zero, List.set_cons_succ]
              refine wpAnyH_take (i := 6) (oi := ⟨some 58, _, _, _, _, _⟩) (v := (.int .i64 0)) rfl (by kernel_rfl) (by kernel_rfl) (by kernel_rfl) (fun _ _ _ h => h) (Or.inl ⟨by rfl, ?_⟩) hSw ?_
              · intro w' hSw'
                have k1 := IsB.str (HVV.out _ hSw'.2.1) (P := Try.prog) (src := 28) (dst := 9) Try.underlying28 Try.underlying5 Try.underlying9
                go_simp
              simp only [Act.put, List.setIfInBounds_toArray, List.set_cons_zero, List.set_cons_succ]
              refine wpAnyH_take (i := 7) (oi := ⟨some 59, _, _, _, _, _⟩) (v := (.bool true)) rfl (by kernel_rfl) (by kernel_rfl) (by kernel_rfl) (fun _ _ _ h => h) (Or.inl ⟨by rfl, ?_⟩) hSw ?_
              · intro w' hSw'
                have k1 := IsB.str (HVV.out _ hSw'.2.1) (P := Try.prog) (src := 28) (dst := 9) Try.underlying28 Try.underlying5 Try.underlying9
                go_simp
              simp only [Act.put, List.setIfInBounds_toArray, List.set_cons_zero, List.set_cons_succ]
              refine wpAnyH_take (i := 8) (oi := ⟨some 60, _, _, _, _, _⟩) (v := (.bool true)) rfl (by kernel_rfl) (by kernel_rfl) (by kernel_rfl) (fun _ _ _ h => h) (Or.inl ⟨by rfl, ?_⟩) hSw ?_
              · intro w' hSw'
                have k1 := IsB.str (HVV.out _ hSw'.2.1) (P := Try.prog) (src := 28) (dst := 9) Try.underlying28 Try.underlying5 Try.underlying9
                go_simp
              simp only [Act.put, List.setIfInBounds_toArray, List.set_cons_zero, List.set_cons_succ]
              refine wpAnyH_take (i := 9) (oi := ⟨some 61, _, _, _, _, _⟩) (v := .agg (blkC v9 p9 r9 t9 b9 n9 (.slice B8 n8 c8)).toArray) rfl (by kernel_rfl) (by kernel_rfl) (by kernel_rfl) (fun _ _ _ h => h) (yieldsIf_load_mid (by rfl) _ _ rfl p8 (0) rfl (blkC v9 p9 r9 t9 b9 n9 (.slice B8 n8 c8)) _ (fun _ h => h.1.rowAll) Try.underlying46 rfl (by rw [blkC_len _ _ _ _ _ _ _ HP9.out HR9.out]; exact infoBlk)) hSw ?_
              simp only [Act.put, List.setIfInBounds_toArray, List.set_cons_zero, List.set_cons_succ]
              refine wpAnyH_take (i := 12) (oi := ⟨some 64, _, _, _, _, _⟩) (v := (.slice Av nv cv)) rfl (by kernel_rfl) (by kernel_rfl) (by kernel_rfl) (fun _ _ _ h => h) (Or.inl ⟨by rfl, ?_⟩) hSw ?_
              · intro w' hSw'
                have k1 := IsB.str (HVV.out _ hSw'.2.1) (P := Try.prog) (src := 28) (dst := 9) Try.underlying28 Try.underlying5 Try.underlying9
                go_simp
              simp only [Act.put, List.setIfInBounds_toArray, List.set_cons_zero, List.set_cons_succ]
              refine wpAnyH_take (i := 13) (oi := ⟨some 65, _, _, _, _, _⟩) (v := (.string (bstr raw))) rfl (by kernel_rfl) (by kernel_rfl) (by kernel_rfl) (fun _ _ _ h => h) (Or.inl ⟨by rfl, ?_⟩) hSw ?_
              · intro w' hSw'
                have k1 := IsB.str (HVV.out _ hSw'.2.1) (P := Try.prog) (src := 28) (dst := 9) Try.underlying28 Try.underlying5 Try.underlying9
                go_simp
              simp only [Act.put, List.setIfInBounds_toArray, List.set_cons_zero, List.set_cons_succ]
              refine wpAnyH_ready (rs := [10]) (by kernel_rfl) (by simp) (AllReadyH.cons (o := ⟨some 62, _, _, _, _, _⟩) rfl (fun K hK => ?_) AllReadyH.nil)
              go_simp
              go_at_call 21
              refine (tx_block_any _ v9 t9 b9 n9 p9 r9 B8 n8 c8 T8 (fun b => b < w8.heap.size) HP9.out HR9.out (HT8.out _ hSw.2.2) HN8.out.symm (fun b hb => Nat.lt_of_lt_of_le hb hSw.2.2.size) HF9.out (by have := HN8.out; omega)).mono ?_
              rintro e12 w12 ⟨B12, c12, n12, rfl, hn12, a12, o12⟩
              rw [HB9.out] at hn12 o12
              have k12 := IsB.str (IsB.of_own o12) (P := Try.prog) (src := 28) (dst := 9) Try.underlying28 Try.underlying5 Try.underlying9
              clear o12 hn12
              dsimp only
              refine hK.out _ _ (⟨hSw.1.below a12 hSw.1.lt, hSw.2.1.trans (a12.mono hSw.2.1.size), hSw.2.2.trans (a12.mono hSw.2.2.size)⟩) ?_
              intro hSw
              clear hK K
              try simp only [Act.put, List.setIfInBounds_toArray, List.set_cons_zero, List.set_cons_succ]
              refine wpAnyH_ready (rs := [11]) (by kernel_rfl) (by simp) (AllReadyH.cons (o := ⟨some 63, _, _, _, _, _⟩) rfl (fun K hK => ?_) AllReadyH.nil)
              go_simp
              clear k12
              refine hK.out _ _ (hSw) ?_
              intro hSw
              clear hK K
              try simp only [Act.put, List.setIfInBounds_toArray, List.set_cons_zero, List.set_cons_succ]
              refine wpAnyH_take (i := 14) (oi := ⟨some 66, _, _, _, _, _⟩) (v := (.bool false)) rfl (by kernel_rfl) (by kernel_rfl) (by kernel_rfl) (fun _ _ _ h => h) (Or.inl ⟨by rfl, ?_⟩) hSw ?_
              · intro w' hSw'
                have k1 := IsB.str (HVV.out _ hSw'.2.1) (P := Try.prog) (src := 28) (dst := 9) Try.underlying28 Try.underlying5 Try.underlying9
                go_simp
              simp only [Act.put, List.setIfInBounds_toArray, List.set_cons_zero, List.set_cons_succ]
              refine wpAnyH_take (i := 15) (oi := ⟨some 67, _, _, _, _, _⟩) (v := (.bool false)) rfl (by kernel_rfl) (by kernel_rfl) (by kernel_rfl) (fun _ _ _ h => h) (Or.inl ⟨by rfl, ?_⟩) hSw ?_
              · intro w' hSw'
                have k1 := IsB.str (HVV.out _ hSw'.2.1) (P := Try.prog) (src := 28) (dst := 9) Try.underlying28 Try.underlying5 Try.underlying9
                go_simp
              simp only [Act.put, List.setIfInBounds_toArray, List.set_cons_zero, List.set_cons_succ]
              refine wpAnyH_take (i := 16) (oi := ⟨some 68, _, _, _, _, _⟩) (v := (.bool false)) rfl (by kernel_rfl) (by kernel_rfl) (by kernel_rfl) (fun _ _ _ h => h) (Or.inl ⟨by rfl, ?_⟩) hSw ?_
              · intro w' hSw'
                have k1 := IsB.str (HVV.out _ hSw'.2.1) (P := Try.prog) (src := 28) (dst := 9) Try.underlying28 Try.underlying5 Try.underlying9
                go_simp
              simp only [Act.put, List.setIfInBounds_toArray, List.set_cons_zero, List.set_cons_succ]
              refine wpAnyH_take (i := 17) (oi := ⟨some 69, _, _, _, _, _⟩) (v := (.bool false)) rfl (by kernel_rfl) (by kernel_rfl) (by kernel_rfl) (fun _ _ _ h => h) (Or.inl ⟨by rfl, ?_⟩) hSw ?_
              · intro w' hSw'
                have k1 := IsB.str (HVV.out _ hSw'.2.1) (P := Try.prog) (src := 28) (dst := 9) Try.underlying28 Try.underlying5 Try.underlying9
                go_simp
              simp only [Act.put, List.setIfInBounds_toArray, List.set_cons_zero, List.set_cons_succ]
              refine wpAnyH_take (i := 18) (oi := ⟨some 70, _, _, _, _, _⟩) (v := (.int .i64 0)) rfl (by kernel_rfl) (by kernel_rfl) (by kernel_rfl) (fun _ _ _ h => h) (Or.inl ⟨by rfl, ?_⟩) hSw ?_
              · intro w' hSw'
                have k1 := IsB.str (HVV.out _ hSw'.2.1) (P := Try.prog) (src := 28) (dst := 9) Try.underlying28 Try.underlying5 Try.underlying9
                go_simp
              simp only [Act.put, List.setIfInBounds_toArray, List.set_cons_zero, List.set_cons_succ]
              refine wpAnyH_take (i := 19) (oi := ⟨some 71, _, _, _, _, _⟩) (v := (.bool false)) rfl (by kernel_rfl) (by kernel_rfl) (by kernel_rfl) (fun _ _ _ h => h) (Or.inl ⟨by rfl, ?_⟩) hSw ?_
              · intro w' hSw'
                have k1 := IsB.str (HVV.out _ hSw'.2.1) (P := Try.prog) (src := 28) (dst := 9) Try.underlying28 Try.underlying5 Try.underlying9
                go_simp
              simp only [Act.put, List.setIfInBounds_toArray, List.set_cons_zero, List.set_cons_succ]
              refine wpAnyH_take (i := 20) (oi := ⟨some 72, _, _, _, _, _⟩) (v := (.bool false)) rfl (by kernel_rfl) (by kernel_rfl) (by kernel_rfl) (fun _ _ _ h => h) (Or.inl ⟨by rfl, ?_⟩) hSw ?_
              · intro w' hSw'
                have k1 := IsB.str (HVV.out _ hSw'.2.1) (P := Try.prog) (src := 28) (dst := 9) Try.underlying28 Try.underlying5 Try.underlying9
                go_simp
              simp only [Act.put, List.setIfInBounds_toArray, List.set_cons_zero, List.set_cons_succ]
              refine wpAnyH_take (i := 21) (oi := ⟨some 73, _, _, _, _, _⟩) (v := undef) rfl (by kernel_rfl) (by kernel_rfl) (by kernel_rfl) (fun _ _ _ h => h) (Or.inr ⟨by rfl, rfl⟩) hSw ?_
              simp only [Act.put, List.setIfInBounds_toArray, List.set_cons_zero, List.set_cons_succ]
              refine wpAnyH_take (i := 22) (oi := ⟨some 74, _, _, _, _, _⟩) (v := undef) rfl (by kernel_rfl) (by kernel_rfl) (by kernel_rfl) (fun _ _ _ h => h) (Or.inr ⟨by rfl, rfl⟩) hSw ?_
              simp only [Act.put, List.setIfInBounds_toArray, List.set_cons_zero, List.set_cons_succ]
              refine wpAnyH_take (i := 23) (oi := ⟨some 75, _, _, _, _, _⟩) (v := undef) rfl (by kernel_rfl) (by kernel_rfl) (by kernel_rfl) (fun _ _ _ h => h) (Or.inr ⟨by rfl, rfl⟩) hSw ?_
              simp only [Act.put, List.setIfInBounds_toArray, List.set_cons_zero, List.set_cons_succ]
              refine wpAnyH_take (i := 24) (oi := ⟨some 76, _, _, _, _, _⟩) (v := undef) rfl (by kernel_rfl) (by kernel_rfl) (by kernel_rfl) (fun _ _ _ h => h) (Or.inr ⟨by rfl, rfl⟩) hSw ?_
              simp only [Act.put, List.setIfInBounds_toArray, List.set_cons_zero, List.set_cons_succ]
              refine wpAnyH_take (i := 25) (oi := ⟨some 77, _, _, _, _, _⟩) (v := undef) rfl (by kernel_rfl) (by kernel_rfl) (by kernel_rfl) (fun _ _ _ h => h) (Or.inr ⟨by rfl, rfl⟩) hSw ?_
              simp only [Act.put, List.setIfInBounds_toArray, List.set_cons_zero, List.set_cons_succ]
              refine wpAnyH_take (i := 26) (oi := ⟨some 78, _, _, _, _, _⟩) (v := undef) rfl (by kernel_rfl) (by kernel_rfl) (by kernel_rfl) (fun _ _ _ h => h) (Or.inr ⟨by rfl, rfl⟩) hSw ?_
              simp only [Act.put, List.setIfInBounds_toArray, List.set_cons_zero, List.set_cons_succ]
              refine wpAnyH_take (i := 27) (oi := ⟨some 79, _, _, _, _, _⟩) (v := undef) rfl (by kernel_rfl) (by kernel_rfl) (by kernel_rfl) (fun _ _ _ h => h) (Or.inr ⟨by rfl, rfl⟩) hSw ?_
              simp only [Act.put, List.setIfInBounds_toArray, List.set_cons_zero, List.set_cons_succ]
              refine wpAnyH_take (i := 28) (oi := ⟨some 80, _, _, _, _, _⟩) (v := undef) rfl (by kernel_rfl) (by kernel_rfl) (by kernel_rfl) (fun _ _ _ h => h) (Or.inr ⟨by rfl, rfl⟩) hSw ?_
              simp only [Act.put, List.setIfInBounds_toArray, List.set_cons_zero, List.set_cons_succ]
              refine wpAnyH_take (i := 29) (oi := ⟨some 81, _, _, _, _, _⟩) (v := undef) rfl (by kernel_rfl) (by kernel_rfl) (by kernel_rfl) (fun _ _ _ h => h) (Or.inr ⟨by rfl, rfl⟩) hSw ?_
              simp only [Act.put, List.setIfInBounds_toArray, List.set_cons_zero, List.set_cons_succ]
              refine wpAnyH_take (i := 30) (oi := ⟨some 82, _, _, _, _, _⟩) (v := undef) rfl (by kernel_rfl) (by kernel_rfl) (by kernel_rfl) (fun _ _ _ h => h) (Or.inr ⟨by rfl, rfl⟩) hSw ?_
              simp only [Act.put, List.setIfInBounds_toArray, List.set_cons_zero, List.set_cons_succ]
              refine wpAnyH_take (i := 31) (oi := ⟨some 83, _, _, _, _, _⟩) (v := (.bool false)) rfl (by kernel_rfl) (by kernel_rfl) (by kernel_rfl) (fun _ _ _ h => h) (Or.inl ⟨by rfl, ?_⟩) hSw ?_
              · intro w' hSw'
                have k1 := IsB.str (HVV.out _ hSw'.2.1) (P := Try.prog) (src := 28) (dst := 9) Try.underlying28 Try.underlying5 Try.underlying9
                go_simp
              simp only [Act.put, List.setIfInBounds_toArray, List.set_cons_zero, List.set_cons_succ]
              refine wpAnyH_take (i := 32) (oi := ⟨some 84, _, _, _, _, _⟩) (v := (.bool false)) rfl (by kernel_rfl) (by kernel_rfl) (by kernel_rfl) (fun _ _ _ h => h) (Or.inl ⟨by rfl, ?_⟩) hSw ?_
              · intro w' hSw'
                have k1 := IsB.str (HVV.out _ hSw'.2.1) (P := Try.prog) (src := 28) (dst := 9) Try.underlying28 Try.underlying5 Try.underlying9
                go_simp
              simp only [Act.put, List.setIfInBounds_toArray, List.set_cons_zero, List.set_cons_succ]
              refine wpAnyH_done (by kernel_rfl) ?_ _
              go_wp2
              go_roundg (2 - 1 - 1)
              case measure => omega
              case rel => exact ⟨1 + 1, by omega, by rfl, K7.out.trans (hSw.2.1.mono K7.out.size), K0.out.trans (hSw.2.1.mono K0.out.size)⟩
            · obtain ⟨hH, hT8⟩ := blkE_not hE
              rw [hH]
              rw [hT8] at hn8
              simp only [List.length_nil] at hn8
              subst hn8
              obtain ⟨E8, hE8⟩ : ∃ E8, blkE raw = E8 := ⟨_, rfl⟩
              rw [hE8] at RB hE ⊢
              have hzl : (hdrC 0 z32 z32 0 0 0).length = 68 := hdrC_len 0 z32 z32 0 0 0 rfl rfl
              go_wp2_with (with_reducible refine wpList_stb rfl 46 (.tmp 10) (.tmp 50) rfl w8.heap.size 0 _ rfl rfl 46 _ (Blk.new w8 _ _) ?y1 ?y2 ?y3 ?_)
              case y1 => rw [zeroB_len]; simp [hzl]
              case y2 => rw [infoBlk]; simp [hzl]
              case y3 => intro v hv; rcases hv with h | h; exact hdrC_one _ _ _ _ _ _ v h; rw [h]; rfl
              intro w10 b10 o10
              rw [over_all _ _ (by rw [zeroB_len]; simp [hzl])] at b10
              have hO10 : Below w8.heap.size w8 w10 := (((Only.refl (fun b => w8.heap.size ≤ b) w8).alloc _).trans o10 (fun b _ e => by omega)).below (Nat.le_refl _) (fun b hb h => by omega)
              have HP := Lib.hid (show Blk w10 w8.heap.size 46 (blkC 0 z32 z32 0 0 0 (.slice B8 0 c8)).toArray from b10)
              have HO2 := Lib.hid (A8.out.trans (hO10.mono A8.out.size))
              obtain ⟨p8, hp8⟩ : ∃ p8, w8.heap.size = p8 := ⟨_, rfl⟩
              rw [hp8] at HP ⊢
              obtain ⟨Z, hZ⟩ : ∃ Z, hdrC 0 z32 z32 0 0 0 = Z := ⟨_, rfl⟩
              have HZ := Lib.hid hZ
              have heqA : ∀ w', (Op.equalIn 10000 43 (.agg Z.toArray) (.agg Z.toArray)).run Try.prog w' = .ok true w' := fun w' => by rw [← hZ]; exact hdr_zero_eq w'
              clear hZ
              have g1 : (E8 == 0) = false := by simpa using hE
              have g2 : (E8 != 0) = true := by simpa using hE
              clear b10 o10 hO10 hp8 hzl hE8 hH hT8 ht8 ht9 a8 hE
              go_wp2_with fail
              refine wp_region_held_drew (S := (fun w' => Blk w' p8 46 (blkC 0 z32 z32 0 0 0 (.slice B8 0 c8)).toArray ∧ Below wr.heap.size wr w' ∧ True)) (by kernel_rfl) (⟨HP.out.drew, HO2.out.drew, trivial⟩) ?_
              intro hSw
              refine wpAnyH_take (i := 0) (oi := ⟨some 52, _, _, _, _, _⟩) (v := (.int .i64 E8)) rfl (by kernel_rfl) (by kernel_rfl) (by kernel_rfl) (fun _ _ _ h => h) (Or.inl ⟨by rfl, ?_⟩) hSw ?_
              · intro w' hSw'
                have k1 := IsB.str (HVV.out _ hSw'.2.1) (P := Try.prog) (src := 28) (dst := 9) Try.underlying28 Try.underlying5 Try.underlying9
                have c68 := blk_cell68 hSw'.1 (show z32.length = 32 from rfl) (show z32.length = 32 from rfl)
                go_simp
              simp only [Act.put, List.setIfInBounds_toArray, List.set_cons_zero, List.set_cons_succ]
              refine wpAnyH_take (i := 1) (oi := ⟨some 53, _, _, _, _, _⟩) (v := (.slice Av nv cv)) rfl (by kernel_rfl) (by kernel_rfl) (by kernel_rfl) (fun _ _ _ h => h) (Or.inl ⟨by rfl, ?_⟩) hSw ?_
              · intro w' hSw'
                have k1 := IsB.str (HVV.out _ hSw'.2.1) (P := Try.prog) (src := 28) (dst := 9) Try.underlying28 Try.underlying5 Try.underlying9
                have c68 := blk_cell68 hSw'.1 (show z32.length = 32 from rfl) (show z32.length = 32 from rfl)
                go_simp
              simp only [Act.put, List.setIfInBounds_toArray, List.set_cons_zero, List.set_cons_succ]
              refine wpAnyH_take (i := 2) (oi := ⟨some 54, _, _, _, _, _⟩) (v := (.string (bstr raw))) rfl (by kernel_rfl) (by kernel_rfl) (by kernel_rfl) (fun _ _ _ h => h) (Or.inl ⟨by rfl, ?_⟩) hSw ?_
              · intro w' hSw'
                have k1 := IsB.str (HVV.out _ hSw'.2.1) (P := Try.prog) (src := 28) (dst := 9) Try.underlying28 Try.underlying5 Try.underlying9
                have c68 := blk_cell68 hSw'.1 (show z32.length = 32 from rfl) (show z32.length = 32 from rfl)
                go_simp
              simp only [Act.put, List.setIfInBounds_toArray, List.set_cons_zero, List.set_cons_succ]
              refine wpAnyH_ready (rs := [3]) (by kernel_rfl) (by simp) (AllReadyH.cons (o := ⟨some 55, _, _, _, _, _⟩) rfl (fun K hK => ?_) AllReadyH.nil)
              go_simp
              go_at_call 24
              refine (RB.out _).mono ?_
              rintro e11 w11 ⟨rfl, a11⟩
              dsimp only
              refine hK.out _ _ (⟨hSw.1.below a11 hSw.1.lt, hSw.2.1.trans (a11.mono hSw.2.1.size), trivial⟩) ?_
              intro hSw
              clear hK K
              try simp only [Act.put, List.setIfInBounds_toArray, List.set_cons_zero, List.set_cons_succ]
              refine wpAnyH_take (i := 4) (oi := ⟨some 56, _, _, _, _, _⟩) (v := (.bool false)) rfl (by kernel_rfl) (by kernel_rfl) (by kernel_rfl) (fun _ _ _ h => h) (Or.inl ⟨by rfl, ?_⟩) hSw ?_
              · intro w' hSw'
                have k1 := IsB.str (HVV.out _ hSw'.2.1) (P := Try.prog) (src := 28) (dst := 9) Try.underlying28 Try.underlying5 Try.underlying9
                have c68 := blk_cell68 hSw'.1 (show z32.length = 32 from rfl) (show z32.length = 32 from rfl)
                go_simp
              simp only [Act.put, List.setIfInBounds_toArray, List.set_cons_zero, List.set_cons_succ]
              refine wpAnyH_take (i := 5) (oi := ⟨some 57, _, _, _, _, _⟩) (v := (.bool false)) rfl (by kernel_rfl) (by kernel_rfl) (by kernel_rfl) (fun _ _ _ h => h) (Or.inl ⟨by rfl, ?_⟩) hSw ?_
              · intro w' hSw'
                have k1 := IsB.str (HVV.out _ hSw'.2.1) (P := Try.prog) (src := 28) (dst := 9) Try.underlying28 Try.underlying5 Try.underlying9
                have c68 := blk_cell68 hSw'.1 (show z32.length = 32 from rfl) (show z32.length = 32 from rfl)
                go_simp
              simp only [Act.put, List.setIfInBounds_toArray, List.set_cons_zero, List.set_cons_succ]
              refine wpAnyH_take (i := 6) (oi := ⟨some 58, _, _, _, _, _⟩) (v := (.int .i64 E8)) rfl (by kernel_rfl) (by kernel_rfl) (by kernel_rfl) (fun _ _ _ h => h) (Or.inl ⟨by rfl, ?_⟩) hSw ?_
              · intro w' hSw'
                have k1 := IsB.str (HVV.out _ hSw'.2.1) (P := Try.prog) (src := 28) (dst := 9) Try.underlying28 Try.underlying5 Try.underlying9
                have c68 := blk_cell68 hSw'.1 (show z32.length = 32 from rfl) (show z32.length = 32 from rfl)
                go_simp
              simp only [Act.put, List.setIfInBounds_toArray, List.set_cons_zero, List.set_cons_succ]
              refine wpAnyH_take (i := 7) (oi := ⟨some 59, _, _, _, _, _⟩) (v := (.bool false)) rfl (by kernel_rfl) (by kernel_rfl) (by kernel_rfl) (fun _ _ _ h => h) (Or.inl ⟨by rfl, ?_⟩) hSw ?_
              · intro w' hSw'
                have k1 := IsB.str (HVV.out _ hSw'.2.1) (P := Try.prog) (src := 28) (dst := 9) Try.underlying28 Try.underlying5 Try.underlying9
                have c68 := blk_cell68 hSw'.1 (show z32.length = 32 from rfl) (show z32.length = 32 from rfl)
                go_simp
              simp only [Act.put, List.setIfInBounds_toArray, List.set_cons_zero, List.set_cons_succ]
              refine wpAnyH_take (i := 8) (oi := ⟨some 60, _, _, _, _, _⟩) (v := (.bool false)) rfl (by kernel_rfl) (by kernel_rfl) (by kernel_rfl) (fun _ _ _ h => h) (Or.inl ⟨by rfl, ?_⟩) hSw ?_
              · intro w' hSw'
                have k1 := IsB.str (HVV.out _ hSw'.2.1) (P := Try.prog) (src := 28) (dst := 9) Try.underlying28 Try.underlying5 Try.underlying9
                have c68 := blk_cell68 hSw'.1 (show z32.length = 32 from rfl) (show z32.length = 32 from rfl)
                go_simp
              simp only [Act.put, List.setIfInBounds_toArray, List.set_cons_zero, List.set_cons_succ]
              refine wpAnyH_take (i := 9) (oi := ⟨some 61, _, _, _, _, _⟩) (v := undef) rfl (by kernel_rfl) (by kernel_rfl) (by kernel_rfl) (fun _ _ _ h => h) (Or.inr ⟨by rfl, rfl⟩) hSw ?_
              simp only [Act.put, List.setIfInBounds_toArray, List.set_cons_zero, List.set_cons_succ]
              refine wpAnyH_take (i := 10) (oi := ⟨some 62, _, _, _, _, _⟩) (v := undef) rfl (by kernel_rfl) (by kernel_rfl) (by kernel_rfl) (fun _ _ _ h => h) (Or.inr ⟨by rfl, rfl⟩) hSw ?_
              simp only [Act.put, List.setIfInBounds_toArray, List.set_cons_zero, List.set_cons_succ]
              refine wpAnyH_take (i := 11) (oi := ⟨some 63, _, _, _, _, _⟩) (v := undef) rfl (by kernel_rfl) (by kernel_rfl) (by kernel_rfl) (fun _ _ _ h => h) (Or.inr ⟨by rfl, rfl⟩) hSw ?_
              simp only [Act.put, List.setIfInBounds_toArray, List.set_cons_zero, List.set_cons_succ]
              refine wpAnyH_take (i := 12) (oi := ⟨some 64, _, _, _, _, _⟩) (v := undef) rfl (by kernel_rfl) (by kernel_rfl) (by kernel_rfl) (fun _ _ _ h => h) (Or.inr ⟨by rfl, rfl⟩) hSw ?_
              simp only [Act.put, List.setIfInBounds_toArray, List.set_cons_zero, List.set_cons_succ]
              refine wpAnyH_take (i := 13) (oi := ⟨some 65, _, _, _, _, _⟩) (v := undef) rfl (by kernel_rfl) (by kernel_rfl) (by kernel_rfl) (fun _ _ _ h => h) (Or.inr ⟨by rfl, rfl⟩) hSw ?_
              simp only [Act.put, List.setIfInBounds_toArray, List.set_cons_zero, List.set_cons_succ]
              refine wpAnyH_take (i := 14) (oi := ⟨some 66, _, _, _, _, _⟩) (v := undef) rfl (by kernel_rfl) (by kernel_rfl) (by kernel_rfl) (fun _ _ _ h => h) (Or.inr ⟨by rfl, rfl⟩) hSw ?_
              simp only [Act.put, List.setIfInBounds_toArray, List.set_cons_zero, List.set_cons_succ]
              refine wpAnyH_take (i := 15) (oi := ⟨some 67, _, _, _, _, _⟩) (v := (.bool false)) rfl (by kernel_rfl) (by kernel_rfl) (by kernel_rfl) (fun _ _ _ h => h) (Or.inl ⟨by rfl, ?_⟩) hSw ?_
              · intro w' hSw'
                have k1 := IsB.str (HVV.out _ hSw'.2.1) (P := Try.prog) (src := 28) (dst := 9) Try.underlying28 Try.underlying5 Try.underlying9
                have c68 := blk_cell68 hSw'.1 (show z32.length = 32 from rfl) (show z32.length = 32 from rfl)
                go_simp
              simp only [Act.put, List.setIfInBounds_toArray, List.set_cons_zero, List.set_cons_succ]
              refine wpAnyH_take (i := 16) (oi := ⟨some 68, _, _, _, _, _⟩) (v := (.bool false)) rfl (by kernel_rfl) (by kernel_rfl) (by kernel_rfl) (fun _ _ _ h => h) (Or.inl ⟨by rfl, ?_⟩) hSw ?_
              · intro w' hSw'
                have k1 := IsB.str (HVV.out _ hSw'.2.1) (P := Try.prog) (src := 28) (dst := 9) Try.underlying28 Try.underlying5 Try.underlying9
                have c68 := blk_cell68 hSw'.1 (show z32.length = 32 from rfl) (show z32.length = 32 from rfl)
                go_simp
              simp only [Act.put, List.setIfInBounds_toArray, List.set_cons_zero, List.set_cons_succ]
              refine wpAnyH_take (i := 17) (oi := ⟨some 69, _, _, _, _, _⟩) (v := (.bool false)) rfl (by kernel_rfl) (by kernel_rfl) (by kernel_rfl) (fun _ _ _ h => h) (Or.inl ⟨by rfl, ?_⟩) hSw ?_
              · intro w' hSw'
                have k1 := IsB.str (HVV.out _ hSw'.2.1) (P := Try.prog) (src := 28) (dst := 9) Try.underlying28 Try.underlying5 Try.underlying9
                have c68 := blk_cell68 hSw'.1 (show z32.length = 32 from rfl) (show z32.length = 32 from rfl)
                go_simp
              simp only [Act.put, List.setIfInBounds_toArray, List.set_cons_zero, List.set_cons_succ]
              refine wpAnyH_take (i := 18) (oi := ⟨some 70, _, _, _, _, _⟩) (v := (.int .i64 E8)) rfl (by kernel_rfl) (by kernel_rfl) (by kernel_rfl) (fun _ _ _ h => h) (Or.inl ⟨by rfl, ?_⟩) hSw ?_
              · intro w' hSw'
                have k1 := IsB.str (HVV.out _ hSw'.2.1) (P := Try.prog) (src := 28) (dst := 9) Try.underlying28 Try.underlying5 Try.underlying9
                have c68 := blk_cell68 hSw'.1 (show z32.length = 32 from rfl) (show z32.length = 32 from rfl)
                go_simp
              simp only [Act.put, List.setIfInBounds_toArray, List.set_cons_zero, List.set_cons_succ]
              refine wpAnyH_take (i := 19) (oi := ⟨some 71, _, _, _, _, _⟩) (v := (.bool true)) rfl (by kernel_rfl) (by kernel_rfl) (by kernel_rfl) (fun _ _ _ h => h) (Or.inl ⟨by rfl, ?_⟩) hSw ?_
              · intro w' hSw'
                have k1 := IsB.str (HVV.out _ hSw'.2.1) (P := Try.prog) (src := 28) (dst := 9) Try.underlying28 Try.underlying5 Try.underlying9
                have c68 := blk_cell68 hSw'.1 (show z32.length = 32 from rfl) (show z32.length = 32 from rfl)
                go_simp
              simp only [Act.put, List.setIfInBounds_toArray, List.set_cons_zero, List.set_cons_succ]
              refine wpAnyH_take (i := 20) (oi := ⟨some 72, _, _, _, _, _⟩) (v := (.bool true)) rfl (by kernel_rfl) (by kernel_rfl) (by kernel_rfl) (fun _ _ _ h => h) (Or.inl ⟨by rfl, ?_⟩) hSw ?_
              · intro w' hSw'
                have k1 := IsB.str (HVV.out _ hSw'.2.1) (P := Try.prog) (src := 28) (dst := 9) Try.underlying28 Try.underlying5 Try.underlying9
                have c68 := blk_cell68 hSw'.1 (show z32.length = 32 from rfl) (show z32.length = 32 from rfl)
                go_simp
              simp only [Act.put, List.setIfInBounds_toArray, List.set_cons_zero, List.set_cons_succ]
              refine wpAnyH_take (i := 21) (oi := ⟨some 73, _, _, _, _, _⟩) (v := (.pointer (some ⟨p8, 68, none⟩))) rfl (by kernel_rfl) (by kernel_rfl) (by kernel_rfl) (fun _ _ _ h => h) (Or.inl ⟨by rfl, ?_⟩) hSw ?_
              · intro w' hSw'
                have k1 := IsB.str (HVV.out _ hSw'.2.1) (P := Try.prog) (src := 28) (dst := 9) Try.underlying28 Try.underlying5 Try.underlying9
                have c68 := blk_cell68 hSw'.1 (show z32.length = 32 from rfl) (show z32.length = 32 from rfl)
                go_simp
              simp only [Act.put, List.setIfInBounds_toArray, List.set_cons_zero, List.set_cons_succ]
              refine wpAnyH_take (i := 22) (oi := ⟨some 74, _, _, _, _, _⟩) (v := (.slice B8 0 c8)) rfl (by kernel_rfl) (by kernel_rfl) (by kernel_rfl) (fun _ _ _ h => h) (Or.inl ⟨by rfl, ?_⟩) hSw ?_
              · intro w' hSw'
                have k1 := IsB.str (HVV.out _ hSw'.2.1) (P := Try.prog) (src := 28) (dst := 9) Try.underlying28 Try.underlying5 Try.underlying9
                have c68 := blk_cell68 hSw'.1 (show z32.length = 32 from rfl) (show z32.length = 32 from rfl)
                go_simp
              simp only [Act.put, List.setIfInBounds_toArray, List.set_cons_zero, List.set_cons_succ]
              refine wpAnyH_take (i := 23) (oi := ⟨some 75, _, _, _, _, _⟩) (v := (.int .i64 0)) rfl (by kernel_rfl) (by kernel_rfl) (by kernel_rfl) (fun _ _ _ h => h) (Or.inl ⟨by rfl, ?_⟩) hSw ?_
              · intro w' hSw'
                have k1 := IsB.str (HVV.out _ hSw'.2.1) (P := Try.prog) (src := 28) (dst := 9) Try.underlying28 Try.underlying5 Try.underlying9
                have c68 := blk_cell68 hSw'.1 (show z32.length = 32 from rfl) (show z32.length = 32 from rfl)
                go_simp
              simp only [Act.put, List.setIfInBounds_toArray, List.set_cons_zero, List.set_cons_succ]
              refine wpAnyH_take (i := 24) (oi := ⟨some 76, _, _, _, _, _⟩) (v := (.bool false)) rfl (by kernel_rfl) (by kernel_rfl) (by kernel_rfl) (fun _ _ _ h => h) (Or.inl ⟨by rfl, ?_⟩) hSw ?_
              · intro w' hSw'
                have k1 := IsB.str (HVV.out _ hSw'.2.1) (P := Try.prog) (src := 28) (dst := 9) Try.underlying28 Try.underlying5 Try.underlying9
                have c68 := blk_cell68 hSw'.1 (show z32.length = 32 from rfl) (show z32.length = 32 from rfl)
                go_simp
              simp only [Act.put, List.setIfInBounds_toArray, List.set_cons_zero, List.set_cons_succ]
              refine wpAnyH_take (i := 25) (oi := ⟨some 77, _, _, _, _, _⟩) (v := (.bool false)) rfl (by kernel_rfl) (by kernel_rfl) (by kernel_rfl) (fun _ _ _ h => h) (Or.inl ⟨by rfl, ?_⟩) hSw ?_
              · intro w' hSw'
                have k1 := IsB.str (HVV.out _ hSw'.2.1) (P := Try.prog) (src := 28) (dst := 9) Try.underlying28 Try.underlying5 Try.underlying9
                have c68 := blk_cell68 hSw'.1 (show z32.length = 32 from rfl) (show z32.length = 32 from rfl)
                go_simp
              simp only [Act.put, List.setIfInBounds_toArray, List.set_cons_zero, List.set_cons_succ]
              refine wpAnyH_take (i := 26) (oi := ⟨some 78, _, _, _, _, _⟩) (v := (.pointer (some ⟨p8, 0, none⟩))) rfl (by kernel_rfl) (by kernel_rfl) (by kernel_rfl) (fun _ _ _ h => h) (Or.inl ⟨by rfl, ?_⟩) hSw ?_
              · intro w' hSw'
                have k1 := IsB.str (HVV.out _ hSw'.2.1) (P := Try.prog) (src := 28) (dst := 9) Try.underlying28 Try.underlying5 Try.underlying9
                have c68 := blk_cell68 hSw'.1 (show z32.length = 32 from rfl) (show z32.length = 32 from rfl)
                go_simp
              simp only [Act.put, List.setIfInBounds_toArray, List.set_cons_zero, List.set_cons_succ]
              refine wpAnyH_take (i := 27) (oi := ⟨some 79, _, _, _, _, _⟩) (v := .agg (Z).toArray) rfl (by kernel_rfl) (by kernel_rfl) (by kernel_rfl) (fun _ _ _ h => h) (yieldsIf_load_mid (by rfl) _ _ rfl p8 (0) rfl (Z) _ (fun _ h => HZ.out ▸ blk_hdr h.1) Try.underlying43 rfl (by rw [← HZ.out, hdrC_len 0 z32 z32 0 0 0 rfl rfl]; exact infoHdr)) hSw ?_
              simp only [Act.put, List.setIfInBounds_toArray, List.set_cons_zero, List.set_cons_succ]
              refine wpAnyH_take (i := 28) (oi := ⟨some 80, _, _, _, _, _⟩) (v := (.agg Z.toArray)) rfl (by kernel_rfl) (by kernel_rfl) (by kernel_rfl) (fun _ _ _ h => h) (Or.inl ⟨by rfl, ?_⟩) hSw ?_
              · intro w' hSw'
                exact exec_build (l := []) rfl (by simp) (HZ.out ▸ built_hdr0)
              simp only [Act.put, List.setIfInBounds_toArray, List.set_cons_zero, List.set_cons_succ]
              refine wpAnyH_take (i := 29) (oi := ⟨some 81, _, _, _, _, _⟩) (v := (.bool false)) rfl (by kernel_rfl) (by kernel_rfl) (by kernel_rfl) (fun _ _ _ h => h) (Or.inl ⟨by rfl, ?_⟩) hSw ?_
              · intro w' hSw'
                have k1 := IsB.str (HVV.out _ hSw'.2.1) (P := Try.prog) (src := 28) (dst := 9) Try.underlying28 Try.underlying5 Try.underlying9
                have c68 := blk_cell68 hSw'.1 (show z32.length = 32 from rfl) (show z32.length = 32 from rfl)
                go_simp
              simp only [Act.put, List.setIfInBounds_toArray, List.set_cons_zero, List.set_cons_succ]
              refine wpAnyH_take (i := 30) (oi := ⟨some 82, _, _, _, _, _⟩) (v := (.bool false)) rfl (by kernel_rfl) (by kernel_rfl) (by kernel_rfl) (fun _ _ _ h => h) (Or.inl ⟨by rfl, ?_⟩) hSw ?_
              · intro w' hSw'
                have k1 := IsB.str (HVV.out _ hSw'.2.1) (P := Try.prog) (src := 28) (dst := 9) Try.underlying28 Try.underlying5 Try.underlying9
                have c68 := blk_cell68 hSw'.1 (show z32.length = 32 from rfl) (show z32.length = 32 from rfl)
                go_simp
              simp only [Act.put, List.setIfInBounds_toArray, List.set_cons_zero, List.set_cons_succ]
              refine wpAnyH_take (i := 31) (oi := ⟨some 83, _, _, _, _, _⟩) (v := (.bool false)) rfl (by kernel_rfl) (by kernel_rfl) (by kernel_rfl) (fun _ _ _ h => h) (Or.inl ⟨by rfl, ?_⟩) hSw ?_
              · intro w' hSw'
                have k1 := IsB.str (HVV.out _ hSw'.2.1) (P := Try.prog) (src := 28) (dst := 9) Try.underlying28 Try.underlying5 Try.underlying9
                have c68 := blk_cell68 hSw'.1 (show z32.length = 32 from rfl) (show z32.length = 32 from rfl)
                go_simp
              simp only [Act.put, List.setIfInBounds_toArray, List.set_cons_zero, List.set_cons_succ]
              refine wpAnyH_take (i := 32) (oi := ⟨some 84, _, _, _, _, _⟩) (v := (.bool false)) rfl (by kernel_rfl) (by kernel_rfl) (by kernel_rfl) (fun _ _ _ h => h) (Or.inl ⟨by rfl, ?_⟩) hSw ?_
              · intro w' hSw'
                have k1 := IsB.str (HVV.out _ hSw'.2.1) (P := Try.prog) (src := 28) (dst := 9) Try.underlying28 Try.underlying5 Try.underlying9
                have c68 := blk_cell68 hSw'.1 (show z32.length = 32 from rfl) (show z32.length = 32 from rfl)
                go_simp
              simp only [Act.put, List.setIfInBounds_toArray, List.set_cons_zero, List.set_cons_succ]
              refine wpAnyH_done (by kernel_rfl) ?_ _
              clear heqA
              go_wp2
              go_roundg (2 - 1 - 1)
              case measure => omega
              case rel => exact ⟨1 + 1, by omega, by rfl, K7.out.trans (hSw.2.1.mono K7.out.size), K0.out.trans (hSw.2.1.mono K0.out.size)⟩
        · obtain rfl : i = 2 := by omega
          go_wp2
          go_ret
          rw [← HQ.out]
          exact ⟨rfl, K0.out⟩
end Go.Proofs.Ytpcombaecbjmfaa
