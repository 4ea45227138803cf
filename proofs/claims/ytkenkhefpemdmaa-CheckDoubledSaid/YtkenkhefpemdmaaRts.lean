/- the walk of law12.CheckRoots. -/
import Derived.Test.YtkenkhefpemdmaaMr
import Derived.Test.YtkenkhefpemdmaaFt
namespace Go.Proofs.Ytkenkhefpemdmaa
open Go.RowKit
theorem fits_fit {t : TxT} (h : fitsB t = true) : TxFit t := by
  simp only [fitsB, Bool.and_eq_true, decide_eq_true_eq, List.all_eq_true] at h
  exact ⟨by omega, by omega, fun i hi => by have := h.2 i hi; omega⟩
theorem croot_other (other : List UInt8) (txs : List TxT) (h : ((mroot (txIds txs)).1 == other) = false) : croot other txs = 40 := by
  rw [croot, h]; simp
theorem cblk_ne (v t b n : Nat) (prev root : List UInt8) (txs : List TxT) (h : croot root txs = 40) : cblk v prev root t b n txs ≠ 0 := by
  rw [cblk]
  split
  · decide
  · split
    · split
      · decide
      · rw [h]; decide
    · assumption
theorem mroot_tx_len (txs : List TxT) : (mroot (txIds txs)).1.length = 32 := mroot_len _ (by
  intro x hx
  rw [txIds, List.mem_map] at hx
  obtain ⟨t, _, rfl⟩ := hx
  exact sha2_len _)
set_option maxRecDepth 20000 in
set_option maxHeartbeats 4000000 in
theorem checkRoots_any (w : World) (v t b n : Nat) (prev root other : List UInt8) (A : Option Addr) (m c : Nat) (txs : List TxT) (ok : Nat → Prop) (h1 : prev.length = 32) (h2 : root.length = 32) (h3 : other.length = 32)
    (ht : txsSh.rel w ok [.slice A m c] txs) (hm : txs.length = m) (hok : ∀ b, ok b → b < w.heap.size) :
    Calls Try.prog 8 #[.agg (blkC v prev root t b n (.slice A m c)).toArray, .agg (bts other).toArray] w fun e w' => e = .returned (.bool true) ∧ Below w.heap.size w w' := by
  have HT := Lib.hid ht
  have HM := Lib.hid hm
  have HOK := Lib.hid hok
  clear ht hm hok
  go_enter Try.func8, Try.ntmps8
  go_wp2_with fail
  generalize hW : World.alloc (World.alloc w _) _ = W
  have hb : Blk W w.heap.size 42 (blkC v prev root t b n (.slice A m c)).toArray := by rw [← hW]; exact (Blk.new _ _ _).alloc _
  have ho : Blk W (w.heap.size + 1) 37 (bts other).toArray := by rw [← hW]; exact Blk.new2 w _ _ _
  have hbl : Below w.heap.size w W := by rw [← hW]; exact ((Below.refl _ _).alloc (Nat.le_refl _) _).alloc (by simp) _
  clear hW
  obtain ⟨q, hq⟩ : ∃ q, w.heap.size = q := ⟨_, rfl⟩
  rw [hq] at hb ho ⊢
  have HQ := Lib.hid hq
  have HB := Lib.hid hb
  have HO := Lib.hid ho
  have HBL := Lib.hid hbl
  clear hq hb ho hbl
  refine (asks_any W).mono ?_
  rintro e1 w1 ⟨rfl, a1⟩
  replace HB := Lib.hid (HB.out.below a1 HB.out.lt)
  replace HO := Lib.hid (HO.out.below a1 HO.out.lt)
  replace HBL := Lib.hid (HBL.out.trans (a1.mono HBL.out.size))
  clear a1
  have c68 := blk_cell68 HB.out h1 h2
  by_cases hm6 : 6 < m
  · have d1 : decide ((6 : Int) < (m : Int)) = true := by simp; omega
    go_wp2
    go_ret
    rw [← HQ.out]
    exact ⟨rfl, HBL.out⟩
  · have d1 : decide ((6 : Int) < (m : Int)) = false := by simp; omega
    have hm6' : m ≤ 6 := by omega
    clear hm6
    go_wp2_with fail
    clear d1 c68
    go_loopg [21] m (fun k v21 wr => ∃ (j : Nat), j + k = m ∧ v21 = .int .i64 j ∧ Hid (∀ t ∈ txs.take j, fitsB t = true) ∧ Hid (Below w.heap.size w wr) ∧ Hid (Blk wr q 42 (blkC v prev root t b n (.slice A m c)).toArray) ∧ Hid (Blk wr (q + 1) 37 (bts other).toArray))
    case atStart => exact ⟨0, by omega, rfl, by simp [Hid], HBL, HB, HO⟩
    case round =>
      clear HBL HB HO
      obtain ⟨j, hj, rfl, HC, HBL, HB, HO⟩ := hrel
      by_cases hlt : j < m
      · obtain ⟨b', o, cs, rfl, hb, hcs, hrow⟩ := txs_at (txsSh.below HT.out HBL.out (fun _ h _ => h)) (by rw [HM.out]; exact hlt)
        obtain ⟨ins, outs, A3, A4, c3, c4, het, rfl, hi, ho⟩ := tx_cells hcs
        have HET := Lib.hid het
        have HI := Lib.hid hi
        have HROW := Lib.hid hrow
        obtain ⟨n1, hn1⟩ : ∃ n1, ins.length = n1 := ⟨_, rfl⟩
        obtain ⟨n2, hn2⟩ : ∃ n2, outs.length = n2 := ⟨_, rfl⟩
        rw [hn1] at HI HROW
        rw [hn2] at HROW
        have HN1 := Lib.hid hn1
        have HN2 := Lib.hid hn2
        clear hcs het hi ho hrow hb hn1 hn2
        go_wp2_with (first
          | (with_reducible refine wpList_ld rfl 25 (.tmp 23) rfl b' (o + j * 2) rfl ([.slice A3 n1 c3, .slice A4 n2 c4]) HROW.out _ Try.underlying25 rfl 2 infoTx rfl ?_)
          | (with_reducible refine wpList_stb rfl 25 (.tmp 6) (.tmp 24) rfl wr.heap.size 0 _ rfl rfl 25 _ (Blk.new wr _ _) ?h1 ?h2 ?h3 ?_))
        case h1 => simp
        case h2 => rw [infoTx]; rfl
        case h3 => exact ⟨rfl, rfl⟩
        intro w4 b4 o4
        rw [over_all _ _ (by simp [])] at b4
        have hO4 : Below wr.heap.size wr w4 := (((Only.refl (fun b => wr.heap.size ≤ b) wr).alloc _).trans o4 (fun b _ e => by omega)).below (Nat.le_refl _) (fun b hb h => by omega)
        have q0 := b4.cell 0
        have q1 := b4.cell 1
        simp only [List.getElem?_toArray, List.getElem?_cons_zero, List.getElem?_cons_succ] at q0 q1
        replace HB := Lib.hid (HB.out.below hO4 HB.out.lt)
        replace HO := Lib.hid (HO.out.below hO4 HO.out.lt)
        replace HBL := Lib.hid (HBL.out.trans (hO4.mono HBL.out.size))
        replace HI := Lib.hid (insSh.below HI.out hO4 (fun _ h _ => h))
        clear b4 o4 hO4 HROW
        generalize wr.heap.size = p at q0 q1 ⊢
        have FT := fits_any w4 A3 A4 n1 n2 c3 c4 ins outs _ HI.out HN1.out HN2.out
        obtain ⟨fb, hfb⟩ : ∃ fb, fitsB (ins, outs, ()) = fb := ⟨_, rfl⟩
        rw [hfb] at FT
        replace FT := Lib.hid FT
        have HFB := Lib.hid hfb
        clear hfb
        go_wp2_with fail
        refine FT.out.mono ?_
        rintro e5 w5 ⟨rfl, a5⟩
        replace HB := Lib.hid (HB.out.below a5 HB.out.lt)
        replace HO := Lib.hid (HO.out.below a5 HO.out.lt)
        replace HBL := Lib.hid (HBL.out.trans (a5.mono HBL.out.size))
        clear a5 FT q0 q1
        cases fb with
        | false =>
          go_wp2
          go_ret
          rw [← HQ.out]
          exact ⟨rfl, HBL.out⟩
        | true =>
          have hall : ∀ t ∈ txs.take (j + 1), fitsB t = true := by
            rw [take_snoc' txs j (by rw [HM.out]; exact hlt)]
            intro t ht
            rcases List.mem_append.1 ht with h | h
            · exact HC.out t h
            · rw [List.mem_singleton.1 h, HET.out]; exact HFB.out
          have HA := Lib.hid hall
          clear hall
          go_wp2
          go_roundg (m - 1 - j)
          case measure => omega
          case rel => exact ⟨j + 1, by omega, by first | rfl | (rw [IntWalk.wrap64_in _ (by omega)]; rfl), HA.out, HBL.out, HB.out, HO.out⟩
      · obtain rfl : j = m := by omega
        have hall : ∀ t ∈ txs, TxFit t := by
          have := HC.out
          rw [List.take_of_length_le (by rw [HM.out]; exact Nat.le_refl _)] at this
          exact fun t ht => fits_fit (this t ht)
        have HF := Lib.hid hall
        have d2 : decide (j < j) = false := by simp
        have c68 := blk_cell68 HB.out h1 h2
        have TR := tx_root_any j (merkle_any j (by omega)) wr A c txs ok (txsSh.below HT.out HBL.out (fun _ h _ => h)) HM.out (fun b hb => Nat.lt_of_lt_of_le (HOK.out b hb) HBL.out.size) HF.out (by omega)
        have hm32 := mroot_tx_len txs
        obtain ⟨R, hR⟩ : ∃ R, mroot (txIds txs) = R := ⟨_, rfl⟩
        have hR' := hR
        unfold txIds at hR'
        rw [hR'] at TR
        rw [hR] at hm32
        obtain ⟨r, tw⟩ := R
        unfold idV at TR
        dsimp only at TR hm32
        replace TR := Lib.hid TR
        have HR := Lib.hid hR
        clear hall hlt hj HC hR hR'
        go_wp2_with fail
        refine TR.out.mono ?_
        rintro e3 w3 ⟨rfl, a3⟩
        replace HB := Lib.hid (HB.out.below a3 HB.out.lt)
        replace HO := Lib.hid (HO.out.below a3 HO.out.lt)
        replace HBL := Lib.hid (HBL.out.trans (a3.mono HBL.out.size))
        clear a3 TR c68
        go_wp2_with (with_reducible refine wpList_stb rfl 37 (.tmp 7) (.tmp 33) rfl w3.heap.size 0 _ rfl rfl 37 _ (Blk.new w3 _ _) ?h1 ?h2 ?h3 ?_)
        case h1 => simp [hm32]
        case h2 => rw [infoID]; simp [hm32]
        case h3 => exact bts_one _
        intro w5 b5 o5
        rw [over_all _ _ (by simp [hm32])] at b5
        have hO5 : Below w3.heap.size w3 w5 := (((Only.refl (fun b => w3.heap.size ≤ b) w3).alloc _).trans o5 (fun b _ e => by omega)).below (Nat.le_refl _) (fun b hb h => by omega)
        have hlt7 : q + 1 < w3.heap.size := HO.out.lt
        replace HB := Lib.hid (HB.out.below hO5 HB.out.lt)
        replace HO := Lib.hid (HO.out.below hO5 HO.out.lt)
        replace HBL := Lib.hid (HBL.out.trans (hO5.mono HBL.out.size))
        have H7 := Lib.hid b5
        clear b5 o5 hO5
        obtain ⟨p, hp⟩ : ∃ p, w3.heap.size = p := ⟨_, rfl⟩
        rw [hp] at H7 hlt7 ⊢
        have HP := Lib.hid hlt7
        clear hp hlt7
        have c68 := blk_cell68 HB.out h1 h2
        go_wp2_with fail
        clear c68 d2
        go_loopg [9, 38] j (fun k v9 v38 wr => ∃ (i : Nat) (pj : Bool), i + k = j ∧ v9 = .bool pj ∧ v38 = .int .i64 i ∧ Hid (pairT (txs.take i) = pj) ∧ Hid (Below w.heap.size w wr) ∧ Hid (Blk wr q 42 (blkC v prev root t b n (.slice A j c)).toArray) ∧ Hid (Blk wr (q + 1) 37 (bts other).toArray) ∧ Hid (Blk wr p 37 (bts r).toArray))
        case atStart => exact ⟨0, false, by omega, rfl, rfl, by simp [Hid, pairT], HBL, HB, HO, H7⟩
        case round =>
          clear HBL HB HO H7
          obtain ⟨i, pj, hi, rfl, rfl, HC, HBL, HB, HO, H7⟩ := hrel
          by_cases hlt : i < j
          · have d2 : decide (i < j) = true := by simpa using hlt
            obtain ⟨b', o, cs, rfl, hb, hcs, hrow⟩ := txs_at (txsSh.below HT.out HBL.out (fun _ h _ => h)) (by rw [HM.out]; exact hlt)
            obtain ⟨ins, outs, A3, A4, c3, c4, het, rfl, hi', ho⟩ := tx_cells hcs
            have hfit : TxFit (ins, outs, ()) := by rw [← het]; exact HF.out _ (List.getElem_mem _)
            have hpn : pairT (txs.take (i + 1)) = (pj || ((txB (ins, outs, ())).length == 64)) := by
              rw [take_snoc' txs i (by rw [HM.out]; exact hlt), het, pairT, List.any_append, ← HC.out]
              simp [pairT]
            have HPN := Lib.hid hpn
            have HFT := Lib.hid hfit
            have HI := Lib.hid hi'
            have HOU := Lib.hid ho
            have HROW := Lib.hid hrow
            obtain ⟨n1, hn1⟩ : ∃ n1, ins.length = n1 := ⟨_, rfl⟩
            obtain ⟨n2, hn2⟩ : ∃ n2, outs.length = n2 := ⟨_, rfl⟩
            rw [hn1] at HI HROW
            rw [hn2] at HROW HOU
            have HN1 := Lib.hid hn1
            have HN2 := Lib.hid hn2
            clear hcs het hi' ho hrow hb hn1 hn2 hfit hpn
            go_wp2_with (first
              | (with_reducible refine wpList_ld rfl 25 (.tmp 40) rfl b' (o + i * 2) rfl ([.slice A3 n1 c3, .slice A4 n2 c4]) HROW.out _ Try.underlying25 rfl 2 infoTx rfl ?_)
              | (with_reducible refine wpList_stb rfl 25 (.tmp 11) (.tmp 41) rfl wr.heap.size 0 _ rfl rfl 25 _ (Blk.new wr _ _) ?h1 ?h2 ?h3 ?_))
            case h1 => simp
            case h2 => rw [infoTx]; rfl
            case h3 => exact ⟨rfl, rfl⟩
            intro w4 b4 o4
            rw [over_all _ _ (by simp [])] at b4
            have hO4 : Below wr.heap.size wr w4 := (((Only.refl (fun b => wr.heap.size ≤ b) wr).alloc _).trans o4 (fun b _ e => by omega)).below (Nat.le_refl _) (fun b hb h => by omega)
            have q0 := b4.cell 0
            have q1 := b4.cell 1
            simp only [List.getElem?_toArray, List.getElem?_cons_zero, List.getElem?_cons_succ] at q0 q1
            replace HB := Lib.hid (HB.out.below hO4 HB.out.lt)
            replace HO := Lib.hid (HO.out.below hO4 HO.out.lt)
            replace H7 := Lib.hid (H7.out.below hO4 H7.out.lt)
            replace HBL := Lib.hid (HBL.out.trans (hO4.mono HBL.out.size))
            replace HI := Lib.hid (insSh.below HI.out hO4 (fun _ h _ => h))
            replace HOU := Lib.hid (outsSh.below HOU.out hO4 (fun _ h _ => h))
            clear b4 o4 hO4 HROW
            generalize wr.heap.size = p4 at q0 q1 ⊢
            cases pj with
            | true =>
              go_wp2
              go_roundg (j - 1 - i)
              case measure => omega
              case rel => exact ⟨i + 1, true, by omega, rfl, by first | rfl | (rw [IntWalk.wrap64_in _ (by omega)]; rfl), by rw [Hid, HPN.out]; rfl, HBL.out, HB.out, HO.out, H7.out⟩
            | false =>
              have BY := Lib.hid (tx_bytes_any w4 A3 A4 n1 n2 c3 c4 ins outs _ HI.out HOU.out HN1.out HN2.out (fun b hb => Nat.lt_of_lt_of_le (HOK.out b hb) HBL.out.size) HFT.out)
              go_wp2_with fail
              refine BY.out.mono ?_
              rintro e5 w5 ⟨A5, n5, c5, rfl, hn5, a5, _⟩
              replace HB := Lib.hid (HB.out.below a5 HB.out.lt)
              replace HO := Lib.hid (HO.out.below a5 HO.out.lt)
              replace H7 := Lib.hid (H7.out.below a5 H7.out.lt)
              replace HBL := Lib.hid (HBL.out.trans (a5.mono HBL.out.size))
              obtain ⟨pb, hpb⟩ : ∃ pb, (n5 == 64) = pb := ⟨_, rfl⟩
              have hpi : ((n5 : Int) == 64) = pb := by rw [← hpb, Bool.eq_iff_iff]; simp; omega
              have hpp : pairT (txs.take (i + 1)) = pb := by rw [HPN.out, ← hpb, hn5]; rfl
              have HPP := Lib.hid hpp
              clear a5 BY q0 q1 hn5 hpp
              go_wp2
              go_roundg (j - 1 - i)
              case measure => omega
              case rel => exact ⟨i + 1, pb, by omega, by first | rfl | rw [hpb] | simp [hpb], by first | rfl | (rw [IntWalk.wrap64_in _ (by omega)]; rfl), HPP.out, HBL.out, HB.out, HO.out, H7.out⟩
          · have d2 : decide (i < j) = false := by simpa using hlt
            obtain rfl : i = j := by omega
            have hp : pairT txs = pj := by
              have := HC.out
              rwa [List.take_of_length_le (by rw [HM.out]; exact Nat.le_refl _)] at this
            have hcr : croot r txs = if (pj || tw) = true then 40 else 0 := by
              rw [croot, hp, HR.out]; cases pj <;> cases tw <;> simp
            have HCR := Lib.hid hcr
            clear hp hcr hlt HC
            go_wp2_with (first
              | (with_reducible refine wpList_ld rfl 37 (.tmp 7) rfl p 0 rfl (bts r) H7.out.rowAll _ Try.underlying37 rfl 32 infoID (by rw [bts_length, hm32]) ?_)
              | (with_reducible refine wpList_stb rfl 37 (.tmp 52) (.tmp 50) rfl q 33 _ rfl rfl 42 _ HB.out ?h1 ?h2 ?h3 ?_))
            case h1 => simp [blkC_len _ _ _ _ _ _ _ h1 h2, hm32]
            case h2 => rw [infoID]; simp [hm32]
            case h3 => exact bts_one _
            intro w6 b6 o6
            rw [over_root v t b n prev root r _ h1 h2 hm32] at b6
            replace HB := Lib.hid b6
            replace HO := Lib.hid (HO.out.only o6 (by omega))
            replace H7 := Lib.hid (H7.out.only o6 (by have := HP.out; omega))
            replace HBL := Lib.hid (HBL.out.trans (o6.below HBL.out.size (fun b hb e => by have := HQ.out; omega)))
            clear b6 o6
            have CR := check_root_any w6 v t b n prev r A i c txs ok h1 hm32 (merkle_any i (by omega)) (txsSh.below HT.out HBL.out (fun _ h _ => h)) HM.out (fun b hb => Nat.lt_of_lt_of_le (HOK.out b hb) HBL.out.size) HF.out (by omega)
            rw [HCR.out] at CR
            replace CR := Lib.hid CR
            have hl69 := blkC_len v prev r t b n (.slice A i c) h1 hm32
            go_wp2_with (with_reducible refine wpList_ld rfl 42 (.tmp 2) rfl q 0 rfl (blkC v prev r t b n (.slice A i c)) HB.out.rowAll _ Try.underlying42 rfl 69 infoBlk hl69.symm ?_)
            refine CR.out.mono ?_
            rintro e7 w7 ⟨rfl, a7⟩
            replace HB := Lib.hid (HB.out.below a7 HB.out.lt)
            replace HO := Lib.hid (HO.out.below a7 HO.out.lt)
            replace H7 := Lib.hid (H7.out.below a7 H7.out.lt)
            replace HBL := Lib.hid (HBL.out.trans (a7.mono HBL.out.size))
            clear a7 CR hl69
            obtain ⟨eo, heo⟩ : ∃ eo, (other == r) = eo := ⟨_, rfl⟩
            have heqA : ∀ w', (Op.equalIn 10000 37 (.agg (bts other).toArray) (.agg (bts r).toArray)).run Try.prog w' = .ok eo w' := fun w' => by rw [← heo]; exact run_eq_id other r h3 hm32 w'
            have HEO := Lib.hid heo
            clear heo
            cases pj <;> cases tw
            all_goals
              simp only [Bool.or_self, Bool.or_true, Bool.or_false, Bool.false_eq_true, if_true, if_false]
              go_wp2_with (first
                | (with_reducible refine wpList_ld rfl 37 (.tmp 3) rfl (q + 1) 0 rfl (bts other) HO.out.rowAll _ Try.underlying37 rfl 32 infoID (by rw [bts_length, h3]) ?_)
                | (with_reducible refine wpList_stb rfl 37 (.tmp 63) (.tmp 61) rfl q 33 _ rfl rfl 42 _ HB.out ?h1 ?h2 ?h3 ?_))
              case h1 => simp [blkC_len _ _ _ _ _ _ _ h1 hm32, h3]
              case h2 => rw [infoID]; simp [h3]
              case h3 => exact bts_one _
              intro w8 b8 o8
              rw [over_root v t b n prev r other _ h1 hm32 h3] at b8
              replace HB := Lib.hid b8
              replace HO := Lib.hid (HO.out.only o8 (by omega))
              replace H7 := Lib.hid (H7.out.only o8 (by have := HP.out; omega))
              replace HBL := Lib.hid (HBL.out.trans (o8.below HBL.out.size (fun b hb e => by have := HQ.out; omega)))
              clear b8 o8
              have hl69 := blkC_len v prev other t b n (.slice A i c) h1 h3
              cases eo with
              | true =>
                go_wp2_with (first
                  | (with_reducible refine wpList_ld rfl 37 (.tmp 3) rfl (q + 1) 0 rfl (bts other) HO.out.rowAll _ Try.underlying37 rfl 32 infoID (by rw [bts_length, h3]) ?_)
                  | (with_reducible refine wpList_ld rfl 37 (.tmp 7) rfl p 0 rfl (bts r) H7.out.rowAll _ Try.underlying37 rfl 32 infoID (by rw [bts_length, hm32]) ?_))
                go_ret
                rw [← HQ.out]
                exact ⟨rfl, HBL.out⟩
              | false =>
                have hco : croot other txs = 40 := croot_other other txs (by
                  rw [HR.out]
                  have := HEO.out
                  simp only [beq_eq_false_iff_ne, ne_eq] at this ⊢
                  exact fun e => this e.symm)
                have hne := cblk_ne v t b n prev other txs hco
                have CR := check_root_any w8 v t b n prev other A i c txs ok h1 h3 (merkle_any i (by omega)) (txsSh.below HT.out HBL.out (fun _ h _ => h)) HM.out (fun b hb => Nat.lt_of_lt_of_le (HOK.out b hb) HBL.out.size) HF.out (by omega)
                rw [hco] at CR
                replace CR := Lib.hid CR
                have HNE := Lib.hid hne
                clear hco hne
                go_wp2_with (first
                  | (with_reducible refine wpList_ld rfl 37 (.tmp 3) rfl (q + 1) 0 rfl (bts other) HO.out.rowAll _ Try.underlying37 rfl 32 infoID (by rw [bts_length, h3]) ?_)
                  | (with_reducible refine wpList_ld rfl 37 (.tmp 7) rfl p 0 rfl (bts r) H7.out.rowAll _ Try.underlying37 rfl 32 infoID (by rw [bts_length, hm32]) ?_)
                  | (refine wpList_ldg2 (by rfl) 42 (.tmp 2) rfl q 0 rfl (blkC v prev other t b n (.slice A i c)) HB.out.rowAll _ Try.underlying42 rfl 69 infoBlk hl69.symm ?_))
                refine CR.out.mono ?_
                rintro e9 w9 ⟨rfl, a9⟩
                replace HB := Lib.hid (HB.out.below a9 HB.out.lt)
                replace HBL := Lib.hid (HBL.out.trans (a9.mono HBL.out.size))
                clear a9 CR
                have CB := check_block_any w9 v t b n prev other A i c txs ok h1 h3 (merkle_any i (by omega)) (txsSh.below HT.out HBL.out (fun _ h _ => h)) HM.out (fun b hb => Nat.lt_of_lt_of_le (HOK.out b hb) HBL.out.size) HF.out
                obtain ⟨E, hE⟩ : ∃ E, cblk v prev other t b n txs = E := ⟨_, rfl⟩
                have hne := HNE.out
                rw [hE] at CB hne
                have ez : (E == 0) = false := by simpa using hne
                have ez2 : (E != 0) = true := by simpa using hne
                replace CB := Lib.hid CB
                clear hE hne
                go_wp2_with (refine wpList_ldg2 (by rfl) 42 (.tmp 2) rfl q 0 rfl (blkC v prev other t b n (.slice A i c)) HB.out.rowAll _ Try.underlying42 rfl 69 infoBlk hl69.symm ?_)
                refine CB.out.mono ?_
                rintro e10 w10 ⟨rfl, a10⟩
                replace HBL := Lib.hid (HBL.out.trans (a10.mono HBL.out.size))
                clear a10 CB
                go_wp2
                go_ret
                rw [← HQ.out]
                exact ⟨rfl, HBL.out⟩
end Go.Proofs.Ytkenkhefpemdmaa
