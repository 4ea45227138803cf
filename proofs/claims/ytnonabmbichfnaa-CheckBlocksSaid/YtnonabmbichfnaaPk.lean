/- The document's Pairs and Block of layer 12; CheckBlocks, walked. -/
import Derived.Test.YtnonabmbichfnaaFx
import Derived.Test.YtnonabmbichfnaaCb
import Derived.Test.YtnonabmbichfnaaBk
import Derived.Test.YtnonabmbichfnaaMs
namespace Go.Proofs.Ytnonabmbichfnaa
open Go.RowKit
theorem fit_of {t : TxT} (h : fitsB t = true) : TxFit t := by
  simp only [fitsB, Bool.and_eq_true, decide_eq_true_eq, List.all_eq_true] at h
  exact ⟨by omega, by omega, fun i hi => by have := h.2 i hi; omega⟩
theorem fit_small {t : TxT} (h : fitsB t = true) : t.1.length ≤ 40 ∧ t.2.1.length ≤ 40 := by
  simp only [fitsB, Bool.and_eq_true, decide_eq_true_eq] at h
  exact h.1
set_option maxRecDepth 20000 in
set_option maxHeartbeats 4000000 in
set_option linter.unusedSimpArgs false in
theorem pairs12_any (w : World) (v t b n : Nat) (prev root : List UInt8) (A : Option Addr) (m c : Nat) (txs : List TxT) (ok : Nat → Prop) (h1 : prev.length = 32) (h2 : root.length = 32)
    (ht0 : txsSh.rel w ok [.slice A m c] txs) (hm : txs.length = m) (hf : ∀ t ∈ txs, TxFit t) (hm2 : m ≤ 90) :
    Calls Try.prog 31 #[.agg (blkC v prev root t b n (.slice A m c)).toArray] w fun e w' => e = .returned (.bool (pairT txs)) ∧ Below w.heap.size w w' := by
  have ht := weak_slice weak_tx3 _ _ (fun b => b < w.heap.size) _ _ ht0 (fun b hb _ => hb)
  have HTL := Lib.hid (txs_len ht hf)
  have HT := Lib.hid (fun W (a : Below w.heap.size w W) => txsSh.below ht a (fun _ h _ => h))
  have HM := Lib.hid hm
  have HF := Lib.hid hf
  clear ht ht0 hm hf
  go_enter Try.func31, Try.ntmps31
  go_wp2_with fail
  generalize hW : World.alloc w _ = W
  have hb : Blk W w.heap.size 42 (blkC v prev root t b n (.slice A m c)).toArray := by rw [← hW]; exact Blk.new _ _ _
  have hbl : Below w.heap.size w W := by rw [← hW]; exact (Below.refl _ _).alloc (Nat.le_refl _) _
  clear hW
  obtain ⟨g, hg⟩ : ∃ g, w.heap.size = g := ⟨_, rfl⟩
  rw [hg] at hb ⊢
  have HG := Lib.hid hg
  have HB := Lib.hid hb
  have HBL := Lib.hid hbl
  clear hg hb hbl
  go_loopg [3] m (fun q v3 wr => ∃ (j : Nat), j + q = m ∧ v3 = .int .i64 j ∧ Hid (∀ t ∈ txs.take j, ((txB t).length == 64) = false) ∧ Hid (Blk wr g 42 (blkC v prev root t b n (.slice A m c)).toArray) ∧ Hid (Below w.heap.size w wr))
  case atStart => exact ⟨0, by omega, rfl, by simp [Hid], HB, HBL⟩
  case round =>
    clear HB HBL
    obtain ⟨j, hj, rfl, HC, HB, HBL⟩ := hrel
    have c68 := blk_cell68 HB.out h1 h2
    by_cases hlt : j < m
    · obtain ⟨b', o, cs, rfl, hb, hcs, hrow⟩ := txs_at (HT.out _ HBL.out) (by rw [HM.out]; exact hlt)
      obtain ⟨ins, outs, A3, A4, c3, c4, het, rfl, hi, ho⟩ := tx_cells hcs
      have hfit : TxFit (ins, outs, ()) := by rw [← het]; exact HF.out _ (List.getElem_mem _)
      have HYL := Lib.hid (show (txB (ins, outs, ())).length ≤ 10200000 by rw [← het]; exact HTL.out _ (List.getElem_mem _))
      have HTB := Lib.hid (bytes07_any wr A3 A4 _ _ c3 c4 ins outs _ hi ho rfl rfl hfit)
      have HET := Lib.hid het
      obtain ⟨n1, hn1⟩ : ∃ n1, ins.length = n1 := ⟨_, rfl⟩
      obtain ⟨n2, hn2⟩ : ∃ n2, outs.length = n2 := ⟨_, rfl⟩
      rw [hn1] at hrow HTB
      rw [hn2] at hrow HTB
      obtain ⟨Y, hY⟩ : ∃ Y, txB (ins, outs, ()) = Y := ⟨_, rfl⟩
      rw [hY] at HYL HTB
      have HYE := Lib.hid (show txB (txs[j]'(by rw [HM.out]; exact hlt)) = Y by rw [het]; exact hY)
      have HROW := Lib.hid hrow
      obtain ⟨ly, hly⟩ : ∃ ly, Y.length = ly := ⟨_, rfl⟩
      have HLY := Lib.hid hly
      have s1 : (bstr Y).size = ly := by rw [bstr_size, hly]
      have s2 : ly ≤ 10200000 := by rw [← hly]; exact HYL.out
      clear hcs het hi ho hrow hb hn1 hn2 hY hfit hly
      by_cases h64 : ly = 64
      · have d : ((ly : Int) == 64) = true := by simp; omega
        have HP := Lib.hid (show pairT txs = true by
          rw [pairT, List.any_eq_true]
          exact ⟨_, List.getElem_mem (by rw [HM.out]; exact hlt : j < txs.length), by rw [HYE.out, HLY.out, h64]; rfl⟩)
        subst h64
        go_wp2_with (with_reducible refine wpList_ld rfl 25 (.tmp 14) rfl b' (o + j * 2) rfl ([.slice A3 n1 c3, .slice A4 n2 c4]) HROW.out _ Try.underlying25 rfl 2 infoTx rfl ?_)
        refine HTB.out.mono ?_
        rintro e5 w5 ⟨rfl, a5⟩
        replace HBL := Lib.hid (HBL.out.trans (a5.mono HBL.out.size))
        clear a5
        go_wp2
        go_ret
        rw [HP.out, ← HG.out]
        exact ⟨rfl, HBL.out⟩
      · have d : ((ly : Int) == 64) = false := by simp; omega
        have HN := Lib.hid (show (Y.length == 64) = false by rw [HLY.out]; simpa using h64)
        clear h64
        go_wp2_with (with_reducible refine wpList_ld rfl 25 (.tmp 14) rfl b' (o + j * 2) rfl ([.slice A3 n1 c3, .slice A4 n2 c4]) HROW.out _ Try.underlying25 rfl 2 infoTx rfl ?_)
        refine HTB.out.mono ?_
        rintro e5 w5 ⟨rfl, a5⟩
        replace HB := Lib.hid (HB.out.below a5 HB.out.lt)
        replace HBL := Lib.hid (HBL.out.trans (a5.mono HBL.out.size))
        have HA := Lib.hid (show ∀ t ∈ txs.take (j + 1), ((txB t).length == 64) = false by
          rw [take_snoc' txs j (by rw [HM.out]; exact hlt)]
          intro t ht
          rcases List.mem_append.1 ht with h | h
          · exact HC.out t h
          · rw [List.mem_singleton.1 h, HYE.out]; exact HN.out)
        clear a5 c68 HTB HROW
        go_wp2
        go_roundg (m - 1 - j)
        case measure => omega
        case rel => exact ⟨j + 1, by omega, by first | rfl | (rw [IntWalk.wrap64_in _ (by omega)]; rfl), HA, HB, HBL⟩
    · obtain rfl : j = m := by omega
      have HP := Lib.hid (show pairT txs = false by
        have := HC.out
        rw [List.take_of_length_le (by rw [HM.out]; exact Nat.le_refl _)] at this
        rw [pairT, List.any_eq_false]
        intro x hx
        rw [this x hx]
        decide)
      go_wp2
      go_ret
      rw [HP.out, ← HG.out]
      exact ⟨rfl, HBL.out⟩
set_option maxRecDepth 20000 in
set_option maxHeartbeats 4000000 in
set_option linter.unusedSimpArgs false in
theorem block12_any (w : World) (v t b n : Nat) (prev root : List UInt8) (A : Option Addr) (m c : Nat) (txs : List TxT) (ok : Nat → Prop) (h1 : prev.length = 32) (h2 : root.length = 32)
    (hv : v < 4294967296) (htt : t < 4294967296) (hbb : b < 4294967296) (hnn : n < 4294967296)
    (ht0 : txsSh.rel w ok [.slice A m c] txs) (hm : txs.length = m) (hf : ∀ t ∈ txs, TxFit t) (hm2 : m ≤ 90) :
    Calls Try.prog 18 #[.agg (blkC v prev root t b n (.slice A m c)).toArray] w fun e w' => e = .returned (.int .i64 (cblk v prev root t b n txs)) ∧ Below w.heap.size w w' := by
  have ht := weak_slice weak_tx3 _ _ (fun b => b < w.heap.size) _ _ ht0 (fun b hb _ => hb)
  have HTL := Lib.hid (txs_len ht hf)
  have HT := Lib.hid (fun W (a : Below w.heap.size w W) => txsSh.below ht a (fun _ h _ => h))
  have HM := Lib.hid hm
  have HF := Lib.hid hf
  have HM2 := Lib.hid hm2
  have HBB := Lib.hid (fun W (a : Below w.heap.size w W) => block07_any W v t b n prev root A m c txs _ h1 h2 hv htt hbb hnn (txsSh.below ht a (fun _ h _ => h)) hm hf hm2)
  have HPP := Lib.hid (fun W (a : Below w.heap.size w W) => pairs12_any W v t b n prev root A m c txs _ h1 h2 (txsSh.below ht a (fun _ h _ => h)) hm hf hm2)
  have HRR := Lib.hid (fun W (a : Below w.heap.size w W) => rtxroot_any m W A c txs _ (txsSh.below ht a (fun _ h _ => h)) hm hf (by omega))
  obtain ⟨res, hres⟩ : ∃ res, cblk v prev root t b n txs = res := ⟨_, rfl⟩
  have HRES := Lib.hid hres
  rw [hres]
  clear ht ht0 hm hf hv htt hbb hnn hres
  go_enter Try.func18, Try.ntmps18
  go_upto_region 1 with fail
  generalize hW : World.alloc w _ = W
  have hb : Blk W w.heap.size 42 (blkC v prev root t b n (.slice A m c)).toArray := by rw [← hW]; exact Blk.new _ _ _
  have hbl : Below w.heap.size w W := by rw [← hW]; exact (Below.refl _ _).alloc (Nat.le_refl _) _
  clear hW
  obtain ⟨g, hg⟩ : ∃ g, w.heap.size = g := ⟨_, rfl⟩
  rw [hg] at hb ⊢
  have HG := Lib.hid hg
  have HB := Lib.hid hb
  have HBL := Lib.hid hbl
  clear hg hb hbl
  have c68 := blk_cell68 HB.out h1 h2
  by_cases hm0 : m < 1
  · have d : decide ((m : Int) < 1) = true := by simp; omega
    have HR := Lib.hid (show res = 120 by rw [← HRES.out, cblk, if_pos (by rw [HM.out]; omega)])
    clear hm0
    go_wp2
    go_ret
    rw [HR.out, ← HG.out]
    exact ⟨rfl, HBL.out⟩
  have d : decide ((m : Int) < 1) = false := by simp; omega
  by_cases hm3 : 32 < m
  · have d2 : decide ((32 : Int) < (m : Int)) = true := by simp; omega
    have HR := Lib.hid (show res = 120 by rw [← HRES.out, cblk, if_pos (by rw [HM.out]; omega)])
    clear hm0 hm3
    go_wp2
    go_ret
    rw [HR.out, ← HG.out]
    exact ⟨rfl, HBL.out⟩
  have d2 : decide ((32 : Int) < (m : Int)) = false := by simp; omega
  have HR1 := Lib.hid (show res = if ctxs true txs = 0 then (if 8192 < (blkB v prev root t b n txs).length then 2 else croot root txs) else ctxs true txs by rw [← HRES.out, cblk, if_neg (by rw [HM.out]; omega)])
  clear hm0 hm3
  go_wp2_with fail
  clear d d2 c68
  go_loopg [3] m (fun q v3 wr => ∃ (j : Nat), j + q = m ∧ v3 = .int .i64 j ∧ Hid (ctxs true txs = ctxs (decide (j = 0)) (txs.drop j)) ∧ Hid (Blk wr g 42 (blkC v prev root t b n (.slice A m c)).toArray) ∧ Hid (Below w.heap.size w wr))
  case atStart => exact ⟨0, by omega, rfl, by simp [Hid], HB, HBL⟩
  case round =>
    clear HB HBL
    obtain ⟨j, hj, rfl, HC, HB, HBL⟩ := hrel
    have c68 := blk_cell68 HB.out h1 h2
    by_cases hlt : j < m
    · obtain ⟨b', o, cs, rfl, hb, hcs, hrow⟩ := txs_at (HT.out _ HBL.out) (by rw [HM.out]; exact hlt)
      obtain ⟨ins, outs, A3, A4, c3, c4, het, rfl, hi, ho⟩ := tx_cells hcs
      have TX := Lib.hid (fun fb => tx12_any wr A3 A4 _ _ c3 c4 ins outs _ fb hi ho rfl rfl)
      obtain ⟨n1, hn1⟩ : ∃ n1, ins.length = n1 := ⟨_, rfl⟩
      obtain ⟨n2, hn2⟩ : ∃ n2, outs.length = n2 := ⟨_, rfl⟩
      rw [hn1] at hrow TX
      rw [hn2] at hrow TX
      obtain ⟨fb, hfb⟩ : ∃ fb, decide (j = 0) = fb := ⟨_, rfl⟩
      have hfb2 : ((j : Int) == 0) = fb := by rw [← hfb]; by_cases h : j = 0 <;> simp [h]
      obtain ⟨E, hE⟩ : ∃ E, ctx (ins, outs, ()) fb = E := ⟨_, rfl⟩
      have HCE := Lib.hid (show ctxs true txs = if E = 0 then ctxs false (txs.drop (j + 1)) else E by
        rw [HC.out, hfb, List.drop_eq_getElem_cons (by rw [HM.out]; exact hlt : j < txs.length), ctxs, het, hE])
      replace TX := Lib.hid (TX.out fb)
      rw [hE] at TX
      have HROW := Lib.hid hrow
      clear hcs het hi ho hrow hb hn1 hn2 hfb hE
      by_cases h0 : E = 0
      · subst h0
        go_wp2_with (with_reducible refine wpList_ld rfl 25 (.tmp 27) rfl b' (o + j * 2) rfl ([.slice A3 n1 c3, .slice A4 n2 c4]) HROW.out _ Try.underlying25 rfl 2 infoTx rfl ?_)
        refine TX.out.mono ?_
        rintro e5 w5 ⟨rfl, a5⟩
        replace HB := Lib.hid (HB.out.below a5 HB.out.lt)
        replace HBL := Lib.hid (HBL.out.trans (a5.mono HBL.out.size))
        have HC2 := Lib.hid (show ctxs true txs = ctxs (decide (j + 1 = 0)) (txs.drop (j + 1)) by rw [HCE.out]; simp)
        clear a5 c68 TX HROW hfb2
        have hm2' := HM2.out
        go_wp2
        go_roundg (m - 1 - j)
        case measure => omega
        case rel => exact ⟨j + 1, by omega, by first | rfl | (rw [IntWalk.wrap64_in _ (by omega)]; rfl), HC2, HB, HBL⟩
      · have d : (E != 0) = true := by simpa using h0
        have HR := Lib.hid (show res = E by rw [HR1.out, HCE.out, if_neg h0, if_neg h0])
        clear h0
        go_wp2_with (with_reducible refine wpList_ld rfl 25 (.tmp 27) rfl b' (o + j * 2) rfl ([.slice A3 n1 c3, .slice A4 n2 c4]) HROW.out _ Try.underlying25 rfl 2 infoTx rfl ?_)
        refine TX.out.mono ?_
        rintro e5 w5 ⟨rfl, a5⟩
        replace HBL := Lib.hid (HBL.out.trans (a5.mono HBL.out.size))
        clear a5
        go_wp2
        go_ret
        rw [HR.out, ← HG.out]
        exact ⟨rfl, HBL.out⟩
    · obtain rfl : j = m := by omega
      have HR2 := Lib.hid (show res = if 8192 < (blkB v prev root t b n txs).length then 2 else croot root txs by
        have h0 : ctxs true txs = 0 := by rw [HC.out, List.drop_of_length_le (by rw [HM.out]; exact Nat.le_refl _)]; rfl
        rw [HR1.out, if_pos h0])
      have hXL : (blkB v prev root t b n txs).length ≤ 10200000 * 90 + 89 := by
        have h3 := flat_le txB 10200000 txs HTL.out
        have h4 := countB_len txs.length
        have h5 := Nat.mul_le_mul_left 10200000 (show txs.length ≤ 90 by have := HM2.out; have := HM.out; omega)
        rw [blkB, List.length_append, List.length_append, hdrB_len _ _ _ _ _ _ h1 h2]
        omega
      obtain ⟨X, hX⟩ : ∃ X, blkB v prev root t b n txs = X := ⟨_, rfl⟩
      rw [hX] at HBB HR2 hXL
      obtain ⟨lx, hlx⟩ : ∃ lx, X.length = lx := ⟨_, rfl⟩
      rw [hlx] at HR2 hXL
      have s1 : (bstr X).size = lx := by rw [bstr_size, hlx]
      clear hX hlx HC HR1 HRES hlt hj
      go_wp2_with (with_reducible refine wpList_ld rfl 42 (.tmp 1) rfl g 0 rfl (blkC v prev root t b n (.slice A j c)) HB.out.rowAll _ Try.underlying42 rfl 69 infoBlk (blkC_len _ _ _ _ _ _ _ h1 h2).symm ?_)
      refine (HBB.out _ HBL.out).mono ?_
      rintro e5 w5 ⟨rfl, a5⟩
      replace HB := Lib.hid (HB.out.below a5 HB.out.lt)
      replace HBL := Lib.hid (HBL.out.trans (a5.mono HBL.out.size))
      clear a5 HBB c68
      by_cases h8 : 8192 < lx
      · have d : decide ((8192 : Int) < (lx : Int)) = true := by simp; omega
        have HR := Lib.hid (show res = 2 by rw [HR2.out, if_pos h8])
        clear h8
        go_wp2
        go_ret
        rw [HR.out, ← HG.out]
        exact ⟨rfl, HBL.out⟩
      have d : decide ((8192 : Int) < (lx : Int)) = false := by simp; omega
      have HR3 := Lib.hid (show res = croot root txs by rw [HR2.out, if_neg h8])
      clear h8 HR2
      go_wp2_with (with_reducible refine wpList_ld rfl 42 (.tmp 1) rfl g 0 rfl (blkC v prev root t b n (.slice A j c)) HB.out.rowAll _ Try.underlying42 rfl 69 infoBlk (blkC_len _ _ _ _ _ _ _ h1 h2).symm ?_)
      refine (HPP.out _ HBL.out).mono ?_
      rintro e6 w6 ⟨rfl, a6⟩
      replace HB := Lib.hid (HB.out.below a6 HB.out.lt)
      replace HBL := Lib.hid (HBL.out.trans (a6.mono HBL.out.size))
      clear a6 HPP d s1 hXL
      obtain ⟨pt, hpt⟩ : ∃ pt, pairT txs = pt := ⟨_, rfl⟩
      rw [hpt]
      have HPT := Lib.hid hpt
      clear hpt
      cases pt with
      | true =>
        have HR := Lib.hid (show res = 40 by rw [HR3.out, croot, if_pos HPT.out])
        go_wp2
        go_ret
        rw [HR.out, ← HG.out]
        exact ⟨rfl, HBL.out⟩
      | false =>
        have HR4 := Lib.hid (show res = if ((mroot (txIds txs)).2 || !((mroot (txIds txs)).1 == root)) = true then 40 else 0 by rw [HR3.out, croot, if_neg (by rw [HPT.out]; decide)])
        have hx32 : (mroot (txs.map fun t => sha2 (txB t))).1.length = 32 := mroot_len _ (fun x hx => by obtain ⟨t, _, rfl⟩ := List.mem_map.1 hx; exact sha_len _)
        unfold txIds at HR4
        obtain ⟨R, hR⟩ : ∃ R, mroot (txs.map fun t => sha2 (txB t)) = R := ⟨_, rfl⟩
        rw [hR] at HR4 HRR hx32
        obtain ⟨x, tw⟩ := R
        simp only at HR4 HRR hx32
        have HX := Lib.hid hx32
        clear hR hx32 HR3
        have c68 := blk_cell68 HB.out h1 h2
        go_wp2_with fail
        refine (HRR.out _ HBL.out).mono ?_
        rintro e7 w7 ⟨rfl, a7⟩
        replace HB := Lib.hid (HB.out.below a7 HB.out.lt)
        replace HBL := Lib.hid (HBL.out.trans (a7.mono HBL.out.size))
        clear a7 HRR c68
        go_wp2_with (with_reducible refine wpList_stb rfl 36 (.tmp 5) (.tmp 45) rfl w7.heap.size 0 _ rfl rfl 36 zeros32 (Blk.new w7 _ _) ?g4 ?g5 ?g6 ?_)
        case g4 => simp [HX.out, zeros32]
        case g5 => rw [infoA32]; simp [HX.out]
        case g6 => exact bts_one _
        intro w8 b8 o8
        rw [over_all _ _ (by simp [HX.out, zeros32])] at b8
        have hO8 : Below w7.heap.size w7 w8 := (((Only.refl (fun b => w7.heap.size ≤ b) w7).alloc _).trans o8 (fun b _ e => by omega)).below (Nat.le_refl _) (fun b hb h => by omega)
        replace HB := Lib.hid (HB.out.below hO8 HB.out.lt)
        replace HBL := Lib.hid (HBL.out.trans (hO8.mono HBL.out.size))
        obtain ⟨p7, hp7⟩ : ∃ p7, w7.heap.size = p7 := ⟨_, rfl⟩
        rw [hp7] at b8 ⊢
        have HB7 := Lib.hid b8
        clear b8 o8 hO8 hp7
        cases tw with
        | true =>
          have HR := Lib.hid (show res = 40 by rw [HR4.out]; simp)
          go_wp2
          go_ret
          rw [HR.out, ← HG.out]
          exact ⟨rfl, HBL.out⟩
        | false =>
          obtain ⟨ee, hee⟩ : ∃ ee, (x == root) = ee := ⟨_, rfl⟩
          have heqA : ∀ w', (Op.equalIn 10000 36 (.agg (bts x).toArray) (.agg (bts root).toArray)).run Try.prog w' = .ok ee w' := fun w' => by rw [← hee]; exact run_eq_32 x root HX.out h2 w'
          rw [hee] at HR4
          clear hee
          cases ee with
          | true =>
            have HR := Lib.hid (show res = 0 by rw [HR4.out]; simp)
            go_wp2_with (first
              | (refine wpList_ldg2 (by rfl) 36 (.tmp 5) rfl p7 0 rfl (bts x) HB7.out.rowAll _ Try.underlying36 rfl 32 infoA32 (by rw [bts_length, HX.out]) ?_)
              | (refine wpList_ldg2 (by rfl) 37 (.tmp 51) rfl g 33 rfl (bts root) (blk_root HB.out h1 h2) _ Try.underlying37 rfl 32 infoID (by rw [bts_length, h2]) ?_))
            try go_wp2
            go_ret
            rw [HR.out, ← HG.out]
            exact ⟨rfl, HBL.out⟩
          | false =>
            have HR := Lib.hid (show res = 40 by rw [HR4.out]; simp)
            go_wp2_with (first
              | (refine wpList_ldg2 (by rfl) 36 (.tmp 5) rfl p7 0 rfl (bts x) HB7.out.rowAll _ Try.underlying36 rfl 32 infoA32 (by rw [bts_length, HX.out]) ?_)
              | (refine wpList_ldg2 (by rfl) 37 (.tmp 51) rfl g 33 rfl (bts root) (blk_root HB.out h1 h2) _ Try.underlying37 rfl 32 infoID (by rw [bts_length, h2]) ?_))
            try go_wp2
            go_ret
            rw [HR.out, ← HG.out]
            exact ⟨rfl, HBL.out⟩
set_option maxRecDepth 20000 in
set_option maxHeartbeats 4000000 in
set_option linter.unusedSimpArgs false in
theorem checkBlocks_any (w : World) (v t b n : Nat) (prev root : List UInt8) (A : Option Addr) (m c : Nat) (txs : List TxT) (ok : Nat → Prop) (h1 : prev.length = 32) (h2 : root.length = 32)
    (hv : v < 4294967296) (htt : t < 4294967296) (hbb : b < 4294967296) (hnn : n < 4294967296)
    (ht0 : txsSh.rel w ok [.slice A m c] txs) (hm : txs.length = m) (rooted : Bool) :
    Calls Try.prog 4 #[.agg (blkC v prev root t b n (.slice A m c)).toArray, .bool rooted] w fun e w' => e = .returned (.bool true) ∧ Below w.heap.size w w' := by
  have ht := weak_slice weak_tx3 _ _ (fun b => b < w.heap.size) _ _ ht0 (fun b hb _ => hb)
  have HT := Lib.hid (fun W (a : Below w.heap.size w W) => txsSh.below ht a (fun _ h _ => h))
  have HM := Lib.hid hm
  have HV := Lib.hid (And.intro hv (And.intro htt (And.intro hbb hnn)))
  clear ht ht0 hm hv htt hbb hnn
  go_enter Try.func4, Try.ntmps4
  go_wp2_with fail
  generalize hW : World.alloc w _ = W
  have hb : Blk W w.heap.size 42 (blkC v prev root t b n (.slice A m c)).toArray := by rw [← hW]; exact Blk.new _ _ _
  have hbl : Below w.heap.size w W := by rw [← hW]; exact (Below.refl _ _).alloc (Nat.le_refl _) _
  clear hW
  obtain ⟨q, hq⟩ : ∃ q, w.heap.size = q := ⟨_, rfl⟩
  rw [hq] at hb ⊢
  have HQ := Lib.hid hq
  have HB := Lib.hid hb
  have HBL := Lib.hid hbl
  clear hq hb hbl
  refine (asks_any W).mono ?_
  rintro e1 w1 ⟨rfl, a1⟩
  replace HB := Lib.hid (HB.out.below a1 HB.out.lt)
  replace HBL := Lib.hid (HBL.out.trans (a1.mono HBL.out.size))
  clear a1
  have c68 := blk_cell68 HB.out h1 h2
  by_cases hm4 : 34 < m
  · have d1 : decide ((34 : Int) < (m : Int)) = true := by simp; omega
    clear hm4
    go_wp2
    go_ret
    rw [← HQ.out]
    exact ⟨rfl, HBL.out⟩
  have d1 : decide ((34 : Int) < (m : Int)) = false := by simp; omega
  have HM4 := Lib.hid (show m ≤ 34 by omega)
  clear hm4
  go_wp2_with fail
  clear d1 c68
  go_loopg [5, 19] m (fun k v5 v19 wr => ∃ (j s : Nat), j + k = m ∧ v5 = .int .i64 (s : Int) ∧ v19 = .int .i64 j ∧ Hid (s ≤ 200) ∧ Hid (∀ t ∈ txs.take j, TxFit t) ∧ Hid (Below w.heap.size w wr) ∧ Hid (Blk wr q 42 (blkC v prev root t b n (.slice A m c)).toArray))
  case atStart => exact ⟨0, 0, by omega, rfl, rfl, by simp [Hid], by simp [Hid], HBL, HB⟩
  case round =>
    clear HBL HB
    obtain ⟨j, s, hj, rfl, rfl, HS, HC, HBL, HB⟩ := hrel
    by_cases hlt : j < m
    · obtain ⟨b', o, cs, rfl, hb, hcs, hrow⟩ := txs_at (HT.out _ HBL.out) (by rw [HM.out]; exact hlt)
      obtain ⟨ins, outs, A3, A4, c3, c4, het, rfl, hi, ho⟩ := tx_cells hcs
      have HET := Lib.hid het
      have HI := Lib.hid hi
      have HROW := Lib.hid hrow
      obtain ⟨n1, hn1⟩ : ∃ n1, ins.length = n1 := ⟨_, rfl⟩
      obtain ⟨n2, hn2⟩ : ∃ n2, outs.length = n2 := ⟨_, rfl⟩
      rw [hn1] at HI HROW
      rw [hn2] at HROW
      have HN1 := Lib.hid hn1
      have HN2 := Lib.hid hn2
      clear hcs het hi ho hrow hb hn1 hn2
      go_wp2_with (first
        | (with_reducible refine wpList_ld rfl 25 (.tmp 21) rfl b' (o + j * 2) rfl ([.slice A3 n1 c3, .slice A4 n2 c4]) HROW.out _ Try.underlying25 rfl 2 infoTx rfl ?_)
        | (with_reducible refine wpList_stb rfl 25 (.tmp 7) (.tmp 22) rfl wr.heap.size 0 _ rfl rfl 25 _ (Blk.new wr _ _) ?h1 ?h2 ?h3 ?_))
      case h1 => simp
      case h2 => rw [infoTx]; rfl
      case h3 => exact ⟨rfl, rfl⟩
      intro w4 b4 o4
      rw [over_all _ _ (by simp [])] at b4
      have hO4 : Below wr.heap.size wr w4 := (((Only.refl (fun b => wr.heap.size ≤ b) wr).alloc _).trans o4 (fun b _ e => by omega)).below (Nat.le_refl _) (fun b hb h => by omega)
      have q0 := b4.cell 0
      have q1 := b4.cell 1
      simp only [List.getElem?_toArray, List.getElem?_cons_zero, List.getElem?_cons_succ] at q0 q1
      replace HB := Lib.hid (HB.out.below hO4 HB.out.lt)
      replace HBL := Lib.hid (HBL.out.trans (hO4.mono HBL.out.size))
      replace HI := Lib.hid (insSh.below HI.out hO4 (fun _ h _ => h))
      clear b4 o4 hO4 HROW
      generalize wr.heap.size = p at q0 q1 ⊢
      have FT := fits_any w4 A3 A4 n1 n2 c3 c4 ins outs _ HI.out HN1.out HN2.out
      obtain ⟨fb, hfb⟩ : ∃ fb, fitsB (ins, outs, ()) = fb := ⟨_, rfl⟩
      rw [hfb] at FT
      replace FT := Lib.hid FT
      have HFB := Lib.hid hfb
      clear hfb
      cases fb with
      | false =>
        go_wp2_with fail
        refine FT.out.mono ?_
        rintro e5 w5 ⟨rfl, a5⟩
        replace HBL := Lib.hid (HBL.out.trans (a5.mono HBL.out.size))
        clear a5 FT q0 q1
        go_wp2
        go_ret
        rw [← HQ.out]
        exact ⟨rfl, HBL.out⟩
      | true =>
        have hf40 := fit_small HFB.out
        have hn40 : n1 ≤ 40 := by have := HN1.out; have := hf40.1; simp only at this; omega
        have hn41 : n2 ≤ 40 := by have := HN2.out; have := hf40.2; simp only at this; omega
        have hs2 := HS.out
        obtain ⟨a1, ha1⟩ : ∃ a, n1 + n2 = a := ⟨_, rfl⟩
        obtain ⟨a2, ha2⟩ : ∃ a, s + a1 = a := ⟨_, rfl⟩
        have e30 : IntKind.i64.wrap ((n1 : Int) + (n2 : Int)) = (a1 : Int) := by rw [w64 _ (by omega)]; omega
        have e31 : IntKind.i64.wrap ((s : Int) + (a1 : Int)) = (a2 : Int) := by rw [w64 _ (by omega)]; omega
        have ha2b : a2 ≤ 280 := by omega
        have hA := Lib.hid (show ∀ t ∈ txs.take (j + 1), TxFit t by
          rw [take_snoc' txs j (by rw [HM.out]; exact hlt)]
          intro t ht
          rcases List.mem_append.1 ht with h | h
          · exact HC.out t h
          · rw [List.mem_singleton.1 h, HET.out]; exact fit_of HFB.out)
        clear hf40 hn40 hn41 hs2 ha1 ha2
        by_cases h200 : 200 < a2
        · have d : decide ((200 : Int) < (a2 : Int)) = true := by simp; omega
          clear h200 ha2b
          go_wp2_with fail
          refine FT.out.mono ?_
          rintro e5 w5 ⟨rfl, a5⟩
          replace HBL := Lib.hid (HBL.out.trans (a5.mono HBL.out.size))
          clear a5 FT q0 q1
          go_wp2
          go_ret
          rw [← HQ.out]
          exact ⟨rfl, HBL.out⟩
        · have d : decide ((200 : Int) < (a2 : Int)) = false := by simp; omega
          have HA2 := Lib.hid (show a2 ≤ 200 by omega)
          clear h200 ha2b
          go_wp2_with fail
          refine FT.out.mono ?_
          rintro e5 w5 ⟨rfl, a5⟩
          replace HB := Lib.hid (HB.out.below a5 HB.out.lt)
          replace HBL := Lib.hid (HBL.out.trans (a5.mono HBL.out.size))
          clear a5 FT q0 q1
          have hm4 := HM4.out
          go_wp2
          go_roundg (m - 1 - j)
          case measure => omega
          case rel => exact ⟨j + 1, a2, by omega, by first | rfl | go_num, by first | rfl | (rw [IntWalk.wrap64_in _ (by omega)]; rfl), HA2, hA, HBL, HB⟩
    · obtain rfl : j = m := by omega
      have hall : ∀ t ∈ txs, TxFit t := by
        have := HC.out
        rwa [List.take_of_length_le (by rw [HM.out]; exact Nat.le_refl _)] at this
      have HF := Lib.hid hall
      clear hall hlt hj HC
      cases rooted with
      | false =>
        have CB := Lib.hid (fun W (a : Below w.heap.size w W) => check_block_any W v t b n prev root A j c txs _ h1 h2 (merkle_any j (by have := HM4.out; omega)) (HT.out _ a) HM.out (fun b hb => by have := a.size; omega) HF.out)
        have RB := Lib.hid (fun W (a : Below w.heap.size w W) => block12_any W v t b n prev root A j c txs _ h1 h2 HV.out.1 HV.out.2.1 HV.out.2.2.1 HV.out.2.2.2 (HT.out _ a) HM.out HF.out (by have := HM4.out; omega))
        obtain ⟨E, hE⟩ : ∃ E, cblk v prev root t b n txs = E := ⟨_, rfl⟩
        rw [hE] at CB RB
        clear hE
        go_upto_region 16 with fail
        refine wp_region_held_drew (S := (fun w' => Blk w' q 42 (blkC v prev root t b n (.slice A j c)).toArray ∧ Below w.heap.size w w')) (by kernel_rfl) (⟨HB.out.drew, HBL.out.drew⟩) ?_
        intro hSw
        refine wpAnyH_take (i := 0) (oi := ⟨some 50, _, _, _, _, _⟩) (v := .agg (blkC v prev root t b n (.slice A j c)).toArray) rfl (by kernel_rfl) (by kernel_rfl) (by kernel_rfl) (fun _ _ _ h => h) (yieldsIf_load_mid (by rfl) _ _ rfl q (0) rfl (blkC v prev root t b n (.slice A j c)) _ (fun _ h => h.1.rowAll) Try.underlying42 rfl (by rw [blkC_len _ _ _ _ _ _ _ h1 h2]; exact infoBlk)) hSw ?_
        simp only [Act.put, List.setIfInBounds_toArray, List.set_cons_zero, List.set_cons_succ]
        refine wpAnyH_take (i := 2) (oi := ⟨some 52, _, _, _, _, _⟩) (v := .agg (blkC v prev root t b n (.slice A j c)).toArray) rfl (by kernel_rfl) (by kernel_rfl) (by kernel_rfl) (fun _ _ _ h => h) (yieldsIf_load_mid (by rfl) _ _ rfl q (0) rfl (blkC v prev root t b n (.slice A j c)) _ (fun _ h => h.1.rowAll) Try.underlying42 rfl (by rw [blkC_len _ _ _ _ _ _ _ h1 h2]; exact infoBlk)) hSw ?_
        simp only [Act.put, List.setIfInBounds_toArray, List.set_cons_zero, List.set_cons_succ]
        refine wpAnyH_ready (rs := [1]) (by kernel_rfl) (by simp) (AllReadyH.cons (o := ⟨some 51, _, _, _, _, _⟩) rfl (fun K hK => ?_) AllReadyH.nil)
        go_simp
        go_at_call 17
        refine (CB.out _ hSw.2).mono ?_
        rintro e11 w11 ⟨rfl, a11⟩
        dsimp only
        refine hK.out _ _ (⟨hSw.1.below a11 hSw.1.lt, hSw.2.trans (a11.mono hSw.2.size)⟩) ?_
        intro hSw
        clear hK K
        try simp only [Act.put, List.setIfInBounds_toArray, List.set_cons_zero, List.set_cons_succ]
        refine wpAnyH_ready (rs := [3]) (by kernel_rfl) (by simp) (AllReadyH.cons (o := ⟨some 53, _, _, _, _, _⟩) rfl (fun K hK => ?_) AllReadyH.nil)
        go_simp
        go_at_call 18
        refine (RB.out _ hSw.2).mono ?_
        rintro e12 w12 ⟨rfl, a12⟩
        dsimp only
        refine hK.out _ _ (⟨hSw.1.below a12 hSw.1.lt, hSw.2.trans (a12.mono hSw.2.size)⟩) ?_
        intro hSw
        clear hK K
        try simp only [Act.put, List.setIfInBounds_toArray, List.set_cons_zero, List.set_cons_succ]
        refine wpAnyH_take (i := 4) (oi := ⟨some 54, _, _, _, _, _⟩) (v := (.bool true)) rfl (by kernel_rfl) (by kernel_rfl) (by kernel_rfl) (fun _ _ _ h => h) (Or.inl ⟨by rfl, ?_⟩) hSw ?_
        · intro w' hSw'
          go_simp
        simp only [Act.put, List.setIfInBounds_toArray, List.set_cons_zero, List.set_cons_succ]
        refine wpAnyH_take (i := 5) (oi := ⟨some 4, _, _, _, _, _⟩) (v := (.bool true)) rfl (by kernel_rfl) (by kernel_rfl) (by kernel_rfl) (fun _ _ _ h => h) (Or.inl ⟨by rfl, ?_⟩) hSw ?_
        · intro w' hSw'
          go_simp
        simp only [Act.put, List.setIfInBounds_toArray, List.set_cons_zero, List.set_cons_succ]
        refine wpAnyH_done (by kernel_rfl) ?_ _
        go_wp2
        go_ret
        rw [← HQ.out]
        exact ⟨rfl, hSw.2⟩
      | true =>
        have RR := Lib.hid (fun W (a : Below w.heap.size w W) => rtxroot_any j W A c txs _ (HT.out _ a) HM.out HF.out (by have := HM4.out; omega))
        have hx32 : (mroot (txs.map fun t => sha2 (txB t))).1.length = 32 := mroot_len _ (fun x hx => by obtain ⟨t, _, rfl⟩ := List.mem_map.1 hx; exact sha_len _)
        obtain ⟨R, hR⟩ : ∃ R, mroot (txs.map fun t => sha2 (txB t)) = R := ⟨_, rfl⟩
        rw [hR] at RR hx32
        obtain ⟨x, tw⟩ := R
        simp only at RR hx32
        clear hR
        have c68 := blk_cell68 HB.out h1 h2
        go_wp2_with fail
        refine (RR.out _ HBL.out).mono ?_
        rintro e7 w7 ⟨rfl, a7⟩
        replace HB := Lib.hid (HB.out.below a7 HB.out.lt)
        replace HBL := Lib.hid (HBL.out.trans (a7.mono HBL.out.size))
        clear a7 RR c68
        go_wp2_with (with_reducible refine wpList_stb rfl 36 (.tmp 8) (.tmp 45) rfl w7.heap.size 0 _ rfl rfl 36 zeros32 (Blk.new w7 _ _) ?g4 ?g5 ?g6 ?_)
        case g4 => simp [hx32, zeros32]
        case g5 => rw [infoA32]; simp [hx32]
        case g6 => exact bts_one _
        intro w8 b8 o8
        rw [over_all _ _ (by simp [hx32, zeros32])] at b8
        have hO8 : Below w7.heap.size w7 w8 := (((Only.refl (fun b => w7.heap.size ≤ b) w7).alloc _).trans o8 (fun b _ e => by omega)).below (Nat.le_refl _) (fun b hb h => by omega)
        replace HB := Lib.hid (HB.out.below hO8 HB.out.lt)
        replace HBL := Lib.hid (HBL.out.trans (hO8.mono HBL.out.size))
        obtain ⟨p7, hp7⟩ : ∃ p7, w7.heap.size = p7 := ⟨_, rfl⟩
        rw [hp7] at b8 ⊢
        have HB7 := Lib.hid b8
        clear b8 o8 hO8 hp7
        go_wp2_with (first
          | (with_reducible refine wpList_ld rfl 36 (.tmp 8) rfl p7 0 rfl (bts x) HB7.out.rowAll _ Try.underlying36 rfl 32 infoA32 (by simp [hx32]) ?_)
          | (with_reducible refine wpList_stb rfl 37 (.tmp 49) (.tmp 47) rfl q 33 _ rfl rfl 42 _ HB.out ?k1 ?k2 ?k3 ?_))
        case k1 => simp [blkC_len _ _ _ _ _ _ _ h1 h2, hx32]
        case k2 => rw [infoID]; simp [hx32]
        case k3 => exact bts_one _
        intro w9 b9 o9
        rw [over_root v t b n prev root x _ h1 h2 hx32] at b9
        have HB9 := Lib.hid b9
        replace HBL := Lib.hid (HBL.out.trans (o9.below HBL.out.size (fun b hb e => by have := HQ.out; omega)))
        clear b9 o9 HB HB7
        have CB := Lib.hid (fun W (a : Below w.heap.size w W) => check_block_any W v t b n prev x A j c txs _ h1 hx32 (merkle_any j (by have := HM4.out; omega)) (HT.out _ a) HM.out (fun b hb => by have := a.size; omega) HF.out)
        have RB := Lib.hid (fun W (a : Below w.heap.size w W) => block12_any W v t b n prev x A j c txs _ h1 hx32 HV.out.1 HV.out.2.1 HV.out.2.2.1 HV.out.2.2.2 (HT.out _ a) HM.out HF.out (by have := HM4.out; omega))
        obtain ⟨E, hE⟩ : ∃ E, cblk v prev x t b n txs = E := ⟨_, rfl⟩
        rw [hE] at CB RB
        clear hE
        go_upto_region 16 with fail
        refine wp_region_held_drew (S := (fun w' => Blk w' q 42 (blkC v prev x t b n (.slice A j c)).toArray ∧ Below w.heap.size w w')) (by kernel_rfl) (⟨HB9.out.drew, HBL.out.drew⟩) ?_
        intro hSw
        refine wpAnyH_take (i := 0) (oi := ⟨some 50, _, _, _, _, _⟩) (v := .agg (blkC v prev x t b n (.slice A j c)).toArray) rfl (by kernel_rfl) (by kernel_rfl) (by kernel_rfl) (fun _ _ _ h => h) (yieldsIf_load_mid (by rfl) _ _ rfl q (0) rfl (blkC v prev x t b n (.slice A j c)) _ (fun _ h => h.1.rowAll) Try.underlying42 rfl (by rw [blkC_len _ _ _ _ _ _ _ h1 hx32]; exact infoBlk)) hSw ?_
        simp only [Act.put, List.setIfInBounds_toArray, List.set_cons_zero, List.set_cons_succ]
        refine wpAnyH_take (i := 2) (oi := ⟨some 52, _, _, _, _, _⟩) (v := .agg (blkC v prev x t b n (.slice A j c)).toArray) rfl (by kernel_rfl) (by kernel_rfl) (by kernel_rfl) (fun _ _ _ h => h) (yieldsIf_load_mid (by rfl) _ _ rfl q (0) rfl (blkC v prev x t b n (.slice A j c)) _ (fun _ h => h.1.rowAll) Try.underlying42 rfl (by rw [blkC_len _ _ _ _ _ _ _ h1 hx32]; exact infoBlk)) hSw ?_
        simp only [Act.put, List.setIfInBounds_toArray, List.set_cons_zero, List.set_cons_succ]
        refine wpAnyH_ready (rs := [1]) (by kernel_rfl) (by simp) (AllReadyH.cons (o := ⟨some 51, _, _, _, _, _⟩) rfl (fun K hK => ?_) AllReadyH.nil)
        go_simp
        go_at_call 17
        refine (CB.out _ hSw.2).mono ?_
        rintro e11 w11 ⟨rfl, a11⟩
        dsimp only
        refine hK.out _ _ (⟨hSw.1.below a11 hSw.1.lt, hSw.2.trans (a11.mono hSw.2.size)⟩) ?_
        intro hSw
        clear hK K
        try simp only [Act.put, List.setIfInBounds_toArray, List.set_cons_zero, List.set_cons_succ]
        refine wpAnyH_ready (rs := [3]) (by kernel_rfl) (by simp) (AllReadyH.cons (o := ⟨some 53, _, _, _, _, _⟩) rfl (fun K hK => ?_) AllReadyH.nil)
        go_simp
        go_at_call 18
        refine (RB.out _ hSw.2).mono ?_
        rintro e12 w12 ⟨rfl, a12⟩
        dsimp only
        refine hK.out _ _ (⟨hSw.1.below a12 hSw.1.lt, hSw.2.trans (a12.mono hSw.2.size)⟩) ?_
        intro hSw
        clear hK K
        try simp only [Act.put, List.setIfInBounds_toArray, List.set_cons_zero, List.set_cons_succ]
        refine wpAnyH_take (i := 4) (oi := ⟨some 54, _, _, _, _, _⟩) (v := (.bool true)) rfl (by kernel_rfl) (by kernel_rfl) (by kernel_rfl) (fun _ _ _ h => h) (Or.inl ⟨by rfl, ?_⟩) hSw ?_
        · intro w' hSw'
          go_simp
        simp only [Act.put, List.setIfInBounds_toArray, List.set_cons_zero, List.set_cons_succ]
        refine wpAnyH_take (i := 5) (oi := ⟨some 4, _, _, _, _, _⟩) (v := (.bool true)) rfl (by kernel_rfl) (by kernel_rfl) (by kernel_rfl) (fun _ _ _ h => h) (Or.inl ⟨by rfl, ?_⟩) hSw ?_
        · intro w' hSw'
          go_simp
        simp only [Act.put, List.setIfInBounds_toArray, List.set_cons_zero, List.set_cons_succ]
        refine wpAnyH_done (by kernel_rfl) ?_ _
        go_wp2
        go_ret
        rw [← HQ.out]
        exact ⟨rfl, hSw.2⟩
end Go.Proofs.Ytnonabmbichfnaa
