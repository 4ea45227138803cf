/- TxCuts, walked. -/
import Derived.Test.YtpcombaecbjmfaaTrd
import Derived.Test.YtpcombaecbjmfaaBq
namespace Go.Proofs.Ytpcombaecbjmfaa
open Go.RowKit
theorem weak_txs7 : txsSh.Weak := weak_slice weak_tx3
set_option maxRecDepth 20000 in
set_option maxHeartbeats 4000000 in
set_option linter.unusedSimpArgs false in
theorem txCuts_any (w : World) (v t b n : Nat) (prev root : List UInt8) (A : Option Addr) (m c : Nat) (txs : List TxT) (ok : Nat → Prop) (h1 : prev.length = 32) (h2 : root.length = 32)
    (ht0 : txsSh.rel w ok [.slice A m c] txs) (hm : txs.length = m) (cut : Int) (hcut : -9223372036854775808 ≤ cut ∧ cut < 9223372036854775808) (more : Nat) (hmore : more < 256) :
    Calls Try.prog 8 #[.agg (blkC v prev root t b n (.slice A m c)).toArray, .int .i64 cut, .int .u8 (more : Int)] w fun e w' => e = .returned (.bool true) ∧ Below w.heap.size w w' := by
  have ht := weak_txs7 _ _ (fun b => b < w.heap.size) _ _ ht0 (fun b hb _ => hb)
  have HT := Lib.hid (fun W (a : Below w.heap.size w W) => txsSh.below ht a (fun _ h _ => h))
  have HM := Lib.hid hm
  have H1 := Lib.hid h1
  have H2 := Lib.hid h2
  have HCUT := Lib.hid hcut
  have HMORE := Lib.hid hmore
  clear ht ht0 hm hcut hmore
  go_enter Try.func8, Try.ntmps8
  go_wp2_with fail
  generalize hW : World.alloc w _ = W
  have hb : Blk W w.heap.size 46 (blkC v prev root t b n (.slice A m c)).toArray := by rw [← hW]; exact Blk.new _ _ _
  have hbl : Below w.heap.size w W := by rw [← hW]; exact (Below.refl _ _).alloc (Nat.le_refl _) _
  clear hW
  obtain ⟨q, hq⟩ : ∃ q, w.heap.size = q := ⟨_, rfl⟩
  rw [hq] at hb ⊢
  have HQ := Lib.hid hq
  have HB := Lib.hid hb
  have HBL := Lib.hid hbl
  clear hq hb hbl
  refine (writes7_any W).mono ?_
  rintro e1 w1 ⟨rfl, a1⟩
  replace HB := Lib.hid (HB.out.below a1 HB.out.lt)
  replace HBL := Lib.hid (HBL.out.trans (a1.mono HBL.out.size))
  clear a1
  have c68 := blk_cell68 HB.out h1 h2
  by_cases hm4 : 4 < m
  · have d1 : decide ((4 : Int) < (m : Int)) = true := by simp; omega
    clear hm4
    go_wp2
    go_ret
    rw [← HQ.out]
    exact ⟨rfl, HBL.out⟩
  have d1 : decide ((4 : Int) < (m : Int)) = false := by simp; omega
  have HM4 := Lib.hid (show m ≤ 4 by omega)
  clear hm4
  by_cases hm0 : m = 0
  · subst hm0
    go_wp2
    go_ret
    rw [← HQ.out]
    exact ⟨rfl, HBL.out⟩
  have d2 : ((m : Int) == 0) = false := by simp; omega
  have HM0 := Lib.hid (show 0 < m by omega)
  clear hm0
  go_wp2_with fail
  clear d1 d2 c68
  go_loopg [32] m (fun k v32 wr => ∃ (j : Nat), j + k = m ∧ v32 = .int .i64 j ∧ Hid (∀ t ∈ txs.take j, fitsB t = true ∧ goodB t = true) ∧ Hid (Below w.heap.size w wr) ∧ Hid (Blk wr q 46 (blkC v prev root t b n (.slice A m c)).toArray))
  case atStart => exact ⟨0, by omega, rfl, by simp [Hid], HBL, HB⟩
  case round =>
    clear HBL HB
    obtain ⟨j, hj, rfl, HC, HBL, HB⟩ := hrel
    by_cases hlt : j < m
    · obtain ⟨b', o, cs, rfl, hb, hcs, hrow⟩ := txs_at (HT.out _ HBL.out) (by rw [HM.out]; exact hlt)
      obtain ⟨ins, outs, A3, A4, c3, c4, het, rfl, hi, ho⟩ := tx_cells hcs
      have HET := Lib.hid het
      have HI := Lib.hid hi
      have HROW := Lib.hid hrow
      obtain ⟨n1, hn1⟩ : ∃ n1, ins.length = n1 := ⟨_, rfl⟩
      obtain ⟨n2, hn2⟩ : ∃ n2, outs.length = n2 := ⟨_, rfl⟩
      rw [hn1] at HI HROW
      rw [hn2] at HROW
      have HN1 := Lib.hid hn1
      have HN2 := Lib.hid hn2
      clear hcs het hi ho hrow hb hn1 hn2
      go_wp2_with (first
        | (with_reducible refine wpList_ld rfl 25 (.tmp 34) rfl b' (o + j * 2) rfl ([.slice A3 n1 c3, .slice A4 n2 c4]) HROW.out _ Try.underlying25 rfl 2 infoTx rfl ?_)
        | (with_reducible refine wpList_stb rfl 25 (.tmp 8) (.tmp 35) rfl wr.heap.size 0 _ rfl rfl 25 _ (Blk.new wr _ _) ?h1 ?h2 ?h3 ?_))
      case h1 => simp
      case h2 => rw [infoTx]; rfl
      case h3 => exact ⟨rfl, rfl⟩
      intro w4 b4 o4
      rw [over_all _ _ (by simp [])] at b4
      have hO4 : Below wr.heap.size wr w4 := (((Only.refl (fun b => wr.heap.size ≤ b) wr).alloc _).trans o4 (fun b _ e => by omega)).below (Nat.le_refl _) (fun b hb h => by omega)
      replace HB := Lib.hid (HB.out.below hO4 HB.out.lt)
      replace HBL := Lib.hid (HBL.out.trans (hO4.mono HBL.out.size))
      replace HI := Lib.hid (insSh.below HI.out hO4 (fun _ h _ => h))
      have HP := Lib.hid b4
      clear b4 o4 hO4 HROW
      generalize wr.heap.size = p at HP ⊢
      have q0 := HP.out.cell 0
      have q1 := HP.out.cell 1
      simp only [List.getElem?_toArray, List.getElem?_cons_zero, List.getElem?_cons_succ] at q0 q1
      obtain ⟨fb, hfb⟩ : ∃ fb, fitsB (ins, outs, ()) = fb := ⟨_, rfl⟩
      obtain ⟨gb, hgb⟩ : ∃ gb, goodB (ins, outs, ()) = gb := ⟨_, rfl⟩
      have HFB := Lib.hid hfb
      have HGB := Lib.hid hgb
      clear hfb hgb
      go_wp2_with fail
      clear q0 q1
      refine (fits7_any w4 A3 A4 n1 n2 c3 c4 ins outs _ HI.out HN1.out HN2.out).mono ?_
      rintro e5 w5 ⟨rfl, a5⟩
      rw [HFB.out]
      replace HB := Lib.hid (HB.out.below a5 HB.out.lt)
      replace HP := Lib.hid (HP.out.below a5 HP.out.lt)
      replace HI := Lib.hid (insSh.below HI.out a5 (fun _ h _ => h))
      replace HBL := Lib.hid (HBL.out.trans (a5.mono HBL.out.size))
      clear a5
      cases fb with
      | false =>
        go_wp2
        go_ret
        rw [← HQ.out]
        exact ⟨rfl, HBL.out⟩
      | true =>
        have q0 := HP.out.cell 0
        have q1 := HP.out.cell 1
        simp only [List.getElem?_toArray, List.getElem?_cons_zero, List.getElem?_cons_succ] at q0 q1
        go_wp2_with fail
        clear q0 q1
        refine (good7_any w5 A3 A4 n1 n2 c3 c4 ins outs _ HI.out HN1.out HN2.out (by have := (fits_fit HFB.out).1; have := HN1.out; simp only at *; omega)).mono ?_
        rintro e6 w6 ⟨rfl, a6⟩
        rw [HGB.out]
        replace HB := Lib.hid (HB.out.below a6 HB.out.lt)
        replace HBL := Lib.hid (HBL.out.trans (a6.mono HBL.out.size))
        clear a6
        cases gb with
        | false =>
          go_wp2
          go_ret
          rw [← HQ.out]
          exact ⟨rfl, HBL.out⟩
        | true =>
          have hall : ∀ t ∈ txs.take (j + 1), fitsB t = true ∧ goodB t = true := by
            rw [take_snoc' txs j (by rw [HM.out]; exact hlt)]
            intro t ht
            rcases List.mem_append.1 ht with h | h
            · exact HC.out t h
            · rw [List.mem_singleton.1 h, HET.out]; exact ⟨HFB.out, HGB.out⟩
          have HA := Lib.hid hall
          clear hall
          have hm4 := HM4.out
          go_wp2
          go_roundg (m - 1 - j)
          case measure => omega
          case rel => exact ⟨j + 1, by omega, by first | rfl | (rw [IntWalk.wrap64_in _ (by omega)]; rfl), HA.out, HBL.out, HB.out⟩
    · obtain rfl : j = m := by omega
      have hall : ∀ t ∈ txs, fitsB t = true ∧ goodB t = true := by
        have := HC.out
        rwa [List.take_of_length_le (by rw [HM.out]; exact Nat.le_refl _)] at this
      replace HC := Lib.hid hall
      clear hall
      go_wp2_with (with_reducible refine wpList_ld rfl 46 (.tmp 3) rfl q 0 rfl (blkC v prev root t b n (.slice A j c)) HB.out.rowAll _ Try.underlying46 rfl 69 infoBlk (blkC_len _ _ _ _ _ _ _ h1 h2).symm ?_)
      refine (tx_block_any wr v t b n prev root A j c txs (fun b => b < w.heap.size) h1 h2 (HT.out _ HBL.out) HM.out (fun b hb => by have := HBL.out.size; omega) (fun t ht => fits_fit (HC.out t ht).1) (by have := HM4.out; omega)).mono ?_
      rintro e7 w7 ⟨B7, c7, n7, rfl, hn7, a7, o7⟩
      replace HB := Lib.hid (HB.out.below a7 HB.out.lt)
      replace HBL := Lib.hid (HBL.out.trans (a7.mono HBL.out.size))
      have HX := Lib.hid (blkR_fwd (hdrB v prev root t b n) txs (hdrB_len _ _ _ _ _ _ h1 h2) (by have := HM4.out; have := HM.out; omega) (fun t0 ht0 => by
        obtain ⟨i0, hi0, rfl⟩ := List.getElem_of_mem ht0
        obtain ⟨b', o, cs, _, _, hcs, _⟩ := txs_at (HT.out _ HBL.out) hi0
        obtain ⟨ins, outs, A3, A4, c3, c4, het, rfl, hi, ho⟩ := tx_cells hcs
        rw [het]
        exact tx_ok hi ho) (fun t0 ht0 => (HC.out t0 ht0).2))
      have hxe : hdrB v prev root t b n ++ (countB txs.length ++ txs.flatMap txB) = blkB v prev root t b n txs := rfl
      rw [hxe] at HX
      clear hxe
      obtain ⟨X, hX⟩ : ∃ X, blkB v prev root t b n txs = X := ⟨_, rfl⟩
      rw [hX] at HX hn7 o7
      clear hX
      have HOW := Lib.hid o7
      have HN7 := Lib.hid hn7
      clear a7 o7 hn7
      by_cases hbig : 8192 < n7
      · have d1 : decide ((8192 : Int) < (n7 : Int)) = true := by simp; omega
        clear hbig
        go_wp2
        go_ret
        rw [← HQ.out]
        exact ⟨rfl, HBL.out⟩
      have d1 : decide ((8192 : Int) < (n7 : Int)) = false := by simp; omega
      have HN8 := Lib.hid (show n7 ≤ 8192 by omega)
      clear hbig
      by_cases hneg : cut < 0
      · have d2 : decide (cut < (0 : Int)) = true := by simp; omega
        go_wp2
        go_ret
        rw [← HQ.out]
        exact ⟨rfl, HBL.out⟩
      have d2 : decide (cut < (0 : Int)) = false := by simp; omega
      by_cases hge : (n7 : Int) ≤ cut
      · have d3 : decide ((n7 : Int) ≤ cut) = true := by simp; omega
        go_wp2
        go_ret
        rw [← HQ.out]
        exact ⟨rfl, HBL.out⟩
      have d3 : decide ((n7 : Int) ≤ cut) = false := by simp; omega
      obtain ⟨k, rfl⟩ := Int.eq_ofNat_of_zero_le (show 0 ≤ cut by omega)
      have hk : k < n7 := by omega
      have hs7 := IsB.of_own HOW.out
      obtain ⟨g7, cap7, hv7, _, _⟩ := HOW.out.form (by omega)
      injection hv7 with e1 e2 e3
      subst e1 e3
      have hc7 : n7 ≤ c7 := by obtain ⟨_, _, _, e, _, hle, _⟩ := hs7; injection e with e4 e5 e6; subst e5 e6; exact hle
      have HSUB := Lib.hid (show IsB w7 (fun b => wr.heap.size ≤ b ∧ b < w7.heap.size) (.slice (some ⟨g7, 0, none⟩) k c7) (X.take k) by
        obtain ⟨A', n', c', e, e8, hle, hs⟩ := hs7
        injection e with e4 e5 e6
        subst e4 e5 e6
        refine ⟨_, _, _, rfl, by rw [List.length_take]; omega, by omega, ?_⟩
        have := hs.take (k := k) (by omega)
        rw [Nat.mul_one] at this
        rwa [show bts (X.take k) = (bts X).take k by simp [bts, List.map_take]])
      have HK := Lib.hid hk
      clear hs7 hneg hge
      go_wp2_with fail
      clear d1 d2 d3
      have ne1 := blkE_cut (cut := k) HX.out (by have := HN7.out; omega)
      refine (tx_ReadBlock_any w7 _ _ _ HSUB.out (by rw [List.length_take]; have := HN8.out; omega)).mono ?_
      rintro e8 w8 ⟨A8, n8, c8, rfl, _, _, a8⟩
      generalize hE1 : blkE (X.take k) = E1 at ne1 ⊢
      have HL1 := Lib.hid (blkH_len (X.take k))
      have HO1 := Lib.hid (blkH_one (X.take k))
      generalize blkH (X.take k) = H8 at HL1 HO1 ⊢
      have NE1 := Lib.hid ne1
      replace HB := Lib.hid (HB.out.below a8 HB.out.lt)
      replace HBL := Lib.hid (HBL.out.trans (a8.mono HBL.out.size))
      replace HOW := Lib.hid (own_only HOW.out (Only.of_new a8 (fun _ => False)) (fun _ _ h => h))
      clear hE1 ne1 a8 hk HSUB
      go_wp2_with (with_reducible refine wpList_stb rfl 46 (.tmp 10) (.tmp 65) rfl w8.heap.size 0 _ rfl rfl 46 _ (Blk.new w8 _ _) ?h4 ?h5 ?h6 ?_)
      case h4 => rw [zeroB_len]; simp [HL1.out]
      case h5 => rw [infoBlk]; simp [HL1.out]
      case h6 => intro v hv; rcases hv with h | h; exact HO1.out v h; rw [h]; rfl
      intro w9 b9 o9
      have hO9 : Below w8.heap.size w8 w9 := (((Only.refl (fun b => w8.heap.size ≤ b) w8).alloc _).trans o9 (fun b _ e => by omega)).below (Nat.le_refl _) (fun b hb h => by omega)
      replace HB := Lib.hid (HB.out.below hO9 HB.out.lt)
      replace HBL := Lib.hid (HBL.out.trans (hO9.mono HBL.out.size))
      replace HOW := Lib.hid (own_only HOW.out (Only.of_new hO9 (fun _ => False)) (fun _ _ h => h))
      clear b9 o9 hO9
      have hn8 := HN8.out
      have hsl := (IsB.of_own HOW.out)
      have hsl15 : Sl (w9.alloc (.cells #[] 5)) (fun b => b < w9.heap.size) 1 (some ⟨g7, 0, none⟩) n7 (bts X) := by
        obtain ⟨A', n', c', e1, _, _, e4⟩ := hsl
        injection e1 with e1 e2 e3
        subst e1 e2 e3
        exact (e4.lt (by omega)).weak (fun b _ h => h.2) (by omega) |>.new ((Below.refl _ _).alloc (Nat.le_refl _) _) (by omega)
      clear hsl
      go_wp2_with (at_builtin; refine wpList_app _ rfl (.tmp 68) (.tmp 69) 28 rfl w9.heap.size 5 _ 1 1 Try.underlying28 infoU8 rfl (by decide) (some ⟨w9.heap.size, 0, none⟩) 0 0 rfl (some ⟨g7, 0, none⟩) n7 c7 rfl [] (World.ownsRow_lit w9 #[] 0 (Nat.le_refl _) (by decide) rfl) _ _ hsl15 (bts_one _) (by unfold maxLen; omega) (by omega) ?hb15 ?next15)
      case hb15 => simp
      intro C15 d15 y15 hown15 hoo15 hat15
      have hy15 : Below w9.heap.size w9 y15 := (((Only.refl (fun b => w9.heap.size ≤ b) w9).alloc _).trans hoo15 (fun b hb e => by simp [Value.ownBlock] at e; omega)).below (Nat.le_refl _) (fun b hb h => by omega)
      try simp only [Nat.zero_add] at hown15
      try simp only [Nat.zero_add]
      have OA15 := Lib.hid (show y15.ownsRow w9.heap.size 5 1 (.slice C15 n7 d15) n7 (bts X) by simpa using hown15)
      have HY15 := Lib.hid hy15
      clear hown15 hoo15 hat15 hy15 hsl15
      have hn15 : Blk (y15.alloc (.cells #[.int .u8 (more : Int)] 5)) y15.heap.size 5 [.int .u8 (more : Int)].toArray := Blk.new _ _ _
      have hz15 : Sl (y15.alloc (.cells #[.int .u8 (more : Int)] 5)) (fun b => b = y15.heap.size) 1 (some ⟨y15.heap.size, 0, none⟩) 1 (bts [UInt8.ofNat more]) := by
        have : bts [UInt8.ofNat more] = [.int .u8 (more : Int)] := by
          have := HMORE.out
          simp [bts, Bt, Nat.mod_eq_of_lt this]
        rw [this]
        exact Sl.one_new _ _ _
      have hal15 : Below y15.heap.size y15 (y15.alloc (.cells #[.int .u8 (more : Int)] 5)) := (Below.refl _ _).alloc (Nat.le_refl _) _
      have hol15 := own_only OA15.out (Only.of_new hal15 (fun _ => False)) (fun _ _ h => h)
      have hszl : w9.heap.size ≤ (y15.alloc (.cells #[.int .u8 (more : Int)] 5)).heap.size := by rw [World.size_alloc]; exact Nat.le_succ_of_le HY15.out.size
      go_wp2_with (at_builtin; refine wpList_app _ rfl (.tmp 70) (.tmp 72) 28 rfl w9.heap.size 5 _ 1 1 Try.underlying28 infoU8 rfl (by decide) C15 n7 d15 rfl (some ⟨y15.heap.size, 0, none⟩) 1 1 rfl _ hol15 _ _ hz15 (bts_one _) (by unfold maxLen; omega) (by omega) hszl ?nexu15)
      intro D15 f15 z15 hown2 hoo2 hat2
      have ht15 : Below w9.heap.size w9 z15 := (HY15.out.trans (hal15.mono HY15.out.size)).trans (hoo2.below hszl (fun b hb e => by have := own_ge hol15 e; omega))
      replace HB := Lib.hid (HB.out.below ht15 HB.out.lt)
      replace HBL := Lib.hid (HBL.out.trans (ht15.mono HBL.out.size))
      rw [← bts_append] at hown2
      have HR15 := Lib.hid (IsB.of_own hown2)
      clear hown2 hoo2 hat2 ht15 hszl hol15 hal15 hz15 hn15 OA15 HY15
      have ne2 := blkE_more HX.out (UInt8.ofNat more)
      clear HOW
      go_wp2_with fail
      refine (tx_ReadBlock_any z15 _ _ _ HR15.out (by have := HN8.out; have := HN7.out; simp only [List.length_append, List.length_singleton]; omega)).mono ?_
      rintro e16 w16 ⟨A16, n16, c16, rfl, _, _, a16⟩
      generalize hE2 : blkE (X ++ [UInt8.ofNat more]) = E2 at ne2 ⊢
      have HL2 := Lib.hid (blkH_len (X ++ [UInt8.ofNat more]))
      have HO2 := Lib.hid (blkH_one (X ++ [UInt8.ofNat more]))
      generalize blkH (X ++ [UInt8.ofNat more]) = H16 at HL2 HO2 ⊢
      have NE2 := Lib.hid ne2
      replace HB := Lib.hid (HB.out.below a16 HB.out.lt)
      replace HBL := Lib.hid (HBL.out.trans (a16.mono HBL.out.size))
      clear hE2 ne2 a16 HR15
      go_wp2_with (with_reducible refine wpList_stb rfl 46 (.tmp 12) (.tmp 75) rfl w16.heap.size 0 _ rfl rfl 46 _ (Blk.new w16 _ _) ?g4 ?g5 ?g6 ?_)
      case g4 => rw [zeroB_len]; simp [HL2.out]
      case g5 => rw [infoBlk]; simp [HL2.out]
      case g6 => intro v hv; rcases hv with h | h; exact HO2.out v h; rw [h]; rfl
      intro w17 b17 o17
      have hO17 : Below w16.heap.size w16 w17 := (((Only.refl (fun b => w16.heap.size ≤ b) w16).alloc _).trans o17 (fun b _ e => by omega)).below (Nat.le_refl _) (fun b hb h => by omega)
      replace HB := Lib.hid (HB.out.below hO17 HB.out.lt)
      replace HBL := Lib.hid (HBL.out.trans (hO17.mono HBL.out.size))
      clear b17 o17 hO17
      -- the first transaction
      obtain ⟨b', o, cs, rfl, hb, hcs, hrow⟩ := txs_at (HT.out _ HBL.out) (show 0 < txs.length by rw [HM.out]; exact HM0.out)
      obtain ⟨ins, outs, A3, A4, c3, c4, het, rfl, hi, ho⟩ := tx_cells hcs
      have hft := fits_fit (HC.out _ (List.getElem_mem (show 0 < txs.length by rw [HM.out]; exact HM0.out))).1
      have hgt := (HC.out _ (List.getElem_mem (show 0 < txs.length by rw [HM.out]; exact HM0.out))).2
      rw [het] at hft hgt
      have HXT := Lib.hid (txE_more (tx_ok hi ho) hgt (UInt8.ofNat more))
      have HLX := Lib.hid (txB_len hi ho hft)
      have BY := Lib.hid (tx_bytes_any w17 A3 A4 _ _ c3 c4 ins outs _ hi ho rfl rfl (fun b hb => by have := HBL.out.size; omega) hft)
      obtain ⟨n1, hn1⟩ : ∃ n1, ins.length = n1 := ⟨_, rfl⟩
      obtain ⟨n2, hn2⟩ : ∃ n2, outs.length = n2 := ⟨_, rfl⟩
      rw [hn1] at hrow BY
      rw [hn2] at hrow BY
      have HROW := Lib.hid hrow
      obtain ⟨Y, hY⟩ : ∃ Y, txB (ins, outs, ()) = Y := ⟨_, rfl⟩
      rw [hY] at HXT HLX BY
      clear hi ho hft hgt hcs het hrow hb hn1 hn2 hY
      have c68 := blk_cell68 HB.out h1 h2
      have hm0 := HM0.out
      go_wp2_with (with_reducible refine wpList_ld rfl 25 (.tmp 79) rfl b' o rfl ([.slice A3 n1 c3, .slice A4 n2 c4]) (by simpa using HROW.out) _ Try.underlying25 rfl 2 infoTx rfl ?_)
      refine BY.out.mono ?_
      rintro e18 w18 ⟨B18, n18, c18, rfl, hn18, a18, o18⟩
      have HOY := Lib.hid o18
      have HN18 := Lib.hid hn18
      replace HB := Lib.hid (HB.out.below a18 HB.out.lt)
      replace HBL := Lib.hid (HBL.out.trans (a18.mono HBL.out.size))
      have hn18' : n18 ≤ 10200000 := by have := HLX.out; omega
      clear a18 o18 hn18 c68 HROW BY
      have hsl := (IsB.of_own HOY.out)
      have hsl20 : Sl (w18.alloc (.cells #[] 5)) (fun b => b < w18.heap.size) 1 B18 n18 (bts Y) := by
        obtain ⟨A', n', c', e1, _, _, e4⟩ := hsl
        injection e1 with e1 e2 e3
        subst e1 e2 e3
        exact (e4.lt (by omega)).weak (fun b _ h => h.2) (by omega) |>.new ((Below.refl _ _).alloc (Nat.le_refl _) _) (by omega)
      clear hsl
      go_wp2_with (at_builtin; refine wpList_app _ rfl (.tmp 83) (.tmp 84) 28 rfl w18.heap.size 5 _ 1 1 Try.underlying28 infoU8 rfl (by decide) (some ⟨w18.heap.size, 0, none⟩) 0 0 rfl B18 n18 c18 rfl [] (World.ownsRow_lit w18 #[] 0 (Nat.le_refl _) (by decide) rfl) _ _ hsl20 (bts_one _) (by unfold maxLen; omega) (by omega) ?hb20 ?next20)
      case hb20 => simp
      intro C20 d20 y20 hown20 hoo20 hat20
      have hy20 : Below w18.heap.size w18 y20 := (((Only.refl (fun b => w18.heap.size ≤ b) w18).alloc _).trans hoo20 (fun b hb e => by simp [Value.ownBlock] at e; omega)).below (Nat.le_refl _) (fun b hb h => by omega)
      try simp only [Nat.zero_add] at hown20
      try simp only [Nat.zero_add]
      have OA20 := Lib.hid (show y20.ownsRow w18.heap.size 5 1 (.slice C20 n18 d20) n18 (bts Y) by simpa using hown20)
      have HY20 := Lib.hid hy20
      clear hown20 hoo20 hat20 hy20 hsl20
      have hn20 : Blk (y20.alloc (.cells #[.int .u8 (more : Int)] 5)) y20.heap.size 5 [.int .u8 (more : Int)].toArray := Blk.new _ _ _
      have hz20 : Sl (y20.alloc (.cells #[.int .u8 (more : Int)] 5)) (fun b => b = y20.heap.size) 1 (some ⟨y20.heap.size, 0, none⟩) 1 (bts [UInt8.ofNat more]) := by
        have : bts [UInt8.ofNat more] = [.int .u8 (more : Int)] := by
          have := HMORE.out
          simp [bts, Bt, Nat.mod_eq_of_lt this]
        rw [this]
        exact Sl.one_new _ _ _
      have hal20 : Below y20.heap.size y20 (y20.alloc (.cells #[.int .u8 (more : Int)] 5)) := (Below.refl _ _).alloc (Nat.le_refl _) _
      have hol20 := own_only OA20.out (Only.of_new hal20 (fun _ => False)) (fun _ _ h => h)
      have hszl : w18.heap.size ≤ (y20.alloc (.cells #[.int .u8 (more : Int)] 5)).heap.size := by rw [World.size_alloc]; exact Nat.le_succ_of_le HY20.out.size
      go_wp2_with (at_builtin; refine wpList_app _ rfl (.tmp 85) (.tmp 87) 28 rfl w18.heap.size 5 _ 1 1 Try.underlying28 infoU8 rfl (by decide) C20 n18 d20 rfl (some ⟨y20.heap.size, 0, none⟩) 1 1 rfl _ hol20 _ _ hz20 (bts_one _) (by unfold maxLen; omega) (by omega) hszl ?nexu20)
      intro D20 f20 z20 hown2 hoo2 hat2
      have ht20 : Below w18.heap.size w18 z20 := (HY20.out.trans (hal20.mono HY20.out.size)).trans (hoo2.below hszl (fun b hb e => by have := own_ge hol20 e; omega))
      replace HB := Lib.hid (HB.out.below ht20 HB.out.lt)
      replace HBL := Lib.hid (HBL.out.trans (ht20.mono HBL.out.size))
      rw [← bts_append] at hown2
      have HR20 := Lib.hid (IsB.of_own hown2)
      clear hown2 hoo2 hat2 ht20 hszl hol20 hal20 hz20 hn20 OA20 HY20
      go_wp2_with fail
      refine (tx_Read_any z20 _ _ _ HR20.out (by have := HN18.out; have := HLX.out; simp only [List.length_append, List.length_singleton]; omega)).mono ?_
      rintro e21 w21 ⟨A21, n21, c21, A22, n22, c22, rfl, _, _, _, _, a21⟩
      rw [HXT.out]
      replace HBL := Lib.hid (HBL.out.trans (a21.mono HBL.out.size))
      clear a21
      go_wp2_with (with_reducible refine wpList_stb rfl 25 (.tmp 15) (.tmp 90) rfl w21.heap.size 0 _ rfl rfl 25 _ (Blk.new w21 _ _) ?f1 ?f2 ?f3 ?_)
      case f1 => simp
      case f2 => rw [infoTx7]; rfl
      case f3 => exact ⟨rfl, rfl⟩
      intro w22 b22 o22
      have hO22 : Below w21.heap.size w21 w22 := (((Only.refl (fun b => w21.heap.size ≤ b) w21).alloc _).trans o22 (fun b _ e => by omega)).below (Nat.le_refl _) (fun b hb h => by omega)
      replace HBL := Lib.hid (HBL.out.trans (hO22.mono HBL.out.size))
      clear b22 o22 hO22
      have k1 : (E1 != 0) = true := by have := NE1.out; simpa using this
      have k2 : (E2 != 0) = true := by have := NE2.out; simpa using this
      go_wp2
      go_ret
      rw [← HQ.out]
      exact ⟨rfl, HBL.out⟩
end Go.Proofs.Ytpcombaecbjmfaa
