/- WholeBlocks, walked. -/
import Derived.Test.YtpcombaecbjmfaaBp
import Derived.Test.YtpcombaecbjmfaaTr
import Derived.Test.YtpcombaecbjmfaaMr
import Derived.Test.YtpcombaecbjmfaaGd
namespace Go.Proofs.Ytpcombaecbjmfaa
open Go.RowKit
theorem IsB.everb {w : World} {ok : Nat → Prop} {v : Value} {l : List UInt8} {B : Nat} (h : IsB w ok v l) (hn : ∀ b, b < w.heap.size → ok b → b < B) : ∀ W, Below B w W → IsB W (fun _ => True) v l :=
  fun _ a => IsB.weak (h.below a hn) (fun _ _ _ => trivial)
theorem built_hdrB : Try.prog.built 43 [(4, .int .u32 545259519)] = some (hdrC 0 z32 z32 0 545259519 0).toArray := by show _ = _; kernel_rfl
set_option maxRecDepth 20000 in
set_option maxHeartbeats 8000000 in
set_option linter.unusedSimpArgs false in
theorem wholeBlocks_any (w : World) (v t b n : Nat) (prev root : List UInt8) (A : Option Addr) (m c : Nat) (txs : List TxT) (ok : Nat → Prop) (h1 : prev.length = 32) (h2 : root.length = 32)
    (hv : v < 4294967296) (htt : t < 4294967296) (hnn : n < 4294967296)
    (ht0 : txsSh.rel w ok [.slice A m c] txs) (hm : txs.length = m) (tries : Int) (hti : -9223372036854775808 ≤ tries ∧ tries < 9223372036854775808) :
    Calls Try.prog 10 #[.agg (blkC v prev root t b n (.slice A m c)).toArray, .int .i64 tries] w fun e w' => e = .returned (.bool true) ∧ Below w.heap.size w w' := by
  have ht := weak_slice weak_tx3 _ _ (fun b => b < w.heap.size) _ _ ht0 (fun b hb _ => hb)
  have HT := Lib.hid (fun W (a : Below w.heap.size w W) => txsSh.below ht a (fun _ h _ => h))
  have HM := Lib.hid hm
  have H1 := Lib.hid h1
  have H2 := Lib.hid h2
  have HV := Lib.hid hv
  have HTT := Lib.hid htt
  have HNN := Lib.hid hnn
  have HTI := Lib.hid hti
  clear ht ht0 hm hv htt hnn hti
  have hz32 : z32.length = 32 := rfl
  have HZ := Lib.hid hz32
  have HZL := Lib.hid (show (hdrC 0 z32 z32 0 0 0).length = 68 from hdrC_len 0 z32 z32 0 0 0 rfl rfl)
  clear hz32
  go_enter Try.func10, Try.ntmps10
  go_upto_region 1 with fail
  generalize hW : World.alloc w _ = W
  have hb : Blk W w.heap.size 46 (blkC v prev root t b n (.slice A m c)).toArray := by rw [← hW]; exact Blk.new _ _ _
  have hbl : Below w.heap.size w W := by rw [← hW]; exact (Below.refl _ _).alloc (Nat.le_refl _) _
  clear hW
  obtain ⟨q, hq⟩ : ∃ q, w.heap.size = q := ⟨_, rfl⟩
  rw [hq] at hb ⊢
  have HQ := Lib.hid hq
  have HB := Lib.hid hb
  have HBL := Lib.hid hbl
  clear hq hb hbl
  go_wp2_with (refine wpList_bld rfl 43 _ rfl [(4, .int .u32 545259519)] (hdrC 0 z32 z32 0 545259519 0).toArray built_hdrB (by simp [Act.eval, Act.put]) ?_)
  have MN := mine_any W 0 0 0 50 z32 z32 HZ.out HZ.out (by decide) (by decide)
  rw [mineM_first, show mineC 0 z32 z32 0 (some 1) = hdrC 0 z32 z32 0 545259519 1 from rfl, show (some 1 : Option Nat).isSome = true from rfl] at MN
  refine MN.mono ?_
  clear MN
  rintro e1 w1 ⟨rfl, a1⟩
  replace HB := Lib.hid (HB.out.below a1 HB.out.lt)
  replace HBL := Lib.hid (HBL.out.trans (a1.mono HBL.out.size))
  clear a1
  go_wp2_with (with_reducible refine wpList_stb rfl 43 (.tmp 5) (.tmp 28) rfl w1.heap.size 0 _ rfl rfl 43 _ (Blk.new w1 _ _) ?s1 ?s2 ?s3 ?_)
  case s1 => rw [zeroH_len]; simp [hdrC_len _ _ _ _ _ _ HZ.out HZ.out]
  case s2 => rw [infoHdr]; simp [hdrC_len _ _ _ _ _ _ HZ.out HZ.out]
  case s3 => exact hdrC_one _ _ _ _ _ _
  intro w2 b2 o2
  rw [over_all _ _ (by rw [zeroH_len]; simp [hdrC_len _ _ _ _ _ _ HZ.out HZ.out])] at b2
  have hO2 : Below w1.heap.size w1 w2 := (((Only.refl (fun b => w1.heap.size ≤ b) w1).alloc _).trans o2 (fun b _ e => by omega)).below (Nat.le_refl _) (fun b hb h => by omega)
  replace HB := Lib.hid (HB.out.below hO2 HB.out.lt)
  replace HBL := Lib.hid (HBL.out.trans (hO2.mono HBL.out.size))
  have HP := Lib.hid b2
  clear b2 o2 hO2
  obtain ⟨p5, hp5⟩ : ∃ p5, w1.heap.size = p5 := ⟨_, rfl⟩
  rw [hp5] at HP ⊢
  clear hp5
  go_wp2_with (refine wpList_ldg3 (by rfl) 43 (.tmp 5) rfl p5 0 rfl (hdrC 0 z32 z32 0 545259519 1) HP.out.rowAll _ Try.underlying43 rfl 68 infoHdr (hdrC_len _ _ _ _ _ _ HZ.out HZ.out).symm ?_)
  have PV := proved_any w2 0 0 1 z32 z32 HZ.out HZ.out
  rw [prov1] at PV
  refine PV.mono ?_
  clear PV HP
  rintro e3 w3 ⟨rfl, a3⟩
  replace HB := Lib.hid (HB.out.below a3 HB.out.lt)
  replace HBL := Lib.hid (HBL.out.trans (a3.mono HBL.out.size))
  clear a3
  have c68 := blk_cell68 HB.out h1 h2
  by_cases hm6 : 6 < m
  · have d1 : decide ((6 : Int) < (m : Int)) = true := by simp; omega
    clear hm6
    go_wp2
    go_ret
    rw [← HQ.out]
    exact ⟨rfl, HBL.out⟩
  have d1 : decide ((6 : Int) < (m : Int)) = false := by simp; omega
  have HM6 := Lib.hid (show m ≤ 6 by omega)
  clear hm6
  by_cases ht0 : tries < 0
  · have d2 : decide (tries < (0 : Int)) = true := by simp; omega
    clear ht0
    go_wp2
    go_ret
    rw [← HQ.out]
    exact ⟨rfl, HBL.out⟩
  have d2 : decide (tries < (0 : Int)) = false := by simp; omega
  by_cases ht3 : 30 < tries
  · have d3 : decide ((30 : Int) < tries) = true := by simp; omega
    clear ht0 ht3
    go_wp2
    go_ret
    rw [← HQ.out]
    exact ⟨rfl, HBL.out⟩
  have d3 : decide ((30 : Int) < tries) = false := by simp; omega
  obtain ⟨tr, htr⟩ := Int.eq_ofNat_of_zero_le (show 0 ≤ tries by omega)
  have HTR := Lib.hid htr
  have HT30 := Lib.hid (show tr ≤ 30 by omega)
  clear ht0 ht3 htr HTI
  go_wp2_with fail
  clear d1 d2 d3 c68
  go_loopg [52] m (fun k v52 wr => ∃ (j : Nat), j + k = m ∧ v52 = .int .i64 j ∧ Hid (∀ t ∈ txs.take j, tinyB t = true) ∧ Hid (Below w.heap.size w wr) ∧ Hid (Blk wr q 46 (blkC v prev root t b n (.slice A m c)).toArray))
  case atStart => exact ⟨0, by omega, rfl, by simp [Hid], HBL, HB⟩
  case round =>
    clear HBL HB
    obtain ⟨j, hj, rfl, HC, HBL, HB⟩ := hrel
    by_cases hlt : j < m
    · obtain ⟨b', o, cs, rfl, hb, hcs, hrow⟩ := txs_at (HT.out _ HBL.out) (by rw [HM.out]; exact hlt)
      obtain ⟨ins, outs, A3, A4, c3, c4, het, rfl, hi, ho⟩ := tx_cells hcs
      have HET := Lib.hid het
      have HI := Lib.hid hi
      have HROW := Lib.hid hrow
      obtain ⟨n1, hn1⟩ : ∃ n1, ins.length = n1 := ⟨_, rfl⟩
      obtain ⟨n2, hn2⟩ : ∃ n2, outs.length = n2 := ⟨_, rfl⟩
      rw [hn1] at HI HROW
      rw [hn2] at HROW
      have HN1 := Lib.hid hn1
      have HN2 := Lib.hid hn2
      clear hcs het hi ho hrow hb hn1 hn2
      go_wp2_with (first
        | (with_reducible refine wpList_ld rfl 25 (.tmp 54) rfl b' (o + j * 2) rfl ([.slice A3 n1 c3, .slice A4 n2 c4]) HROW.out _ Try.underlying25 rfl 2 infoTx rfl ?_)
        | (with_reducible refine wpList_stb rfl 25 (.tmp 8) (.tmp 55) rfl wr.heap.size 0 _ rfl rfl 25 _ (Blk.new wr _ _) ?e4a ?e4b ?e4c ?_))
      case e4a => simp
      case e4b => rw [infoTx]; rfl
      case e4c => exact ⟨rfl, rfl⟩
      intro w4 b4 o4
      rw [over_all _ _ (by simp [])] at b4
      have hO4 : Below wr.heap.size wr w4 := (((Only.refl (fun b => wr.heap.size ≤ b) wr).alloc _).trans o4 (fun b _ e => by omega)).below (Nat.le_refl _) (fun b hb h => by omega)
      replace HB := Lib.hid (HB.out.below hO4 HB.out.lt)
      replace HBL := Lib.hid (HBL.out.trans (hO4.mono HBL.out.size))
      replace HI := Lib.hid (insSh.below HI.out hO4 (fun _ h _ => h))
      have HP := Lib.hid b4
      clear b4 o4 hO4 HROW
      generalize wr.heap.size = p at HP ⊢
      have q0 := HP.out.cell 0
      have q1 := HP.out.cell 1
      simp only [List.getElem?_toArray, List.getElem?_cons_zero, List.getElem?_cons_succ] at q0 q1
      by_cases h4 : 4 < n1
      · have d1 : decide ((4 : Int) < (n1 : Int)) = true := by simp; omega
        clear h4
        go_wp2
        go_ret
        rw [← HQ.out]
        exact ⟨rfl, HBL.out⟩
      have d1 : decide ((4 : Int) < (n1 : Int)) = false := by simp; omega
      by_cases h5 : 4 < n2
      · have d2 : decide ((4 : Int) < (n2 : Int)) = true := by simp; omega
        clear h4 h5
        go_wp2
        go_ret
        rw [← HQ.out]
        exact ⟨rfl, HBL.out⟩
      have d2 : decide ((4 : Int) < (n2 : Int)) = false := by simp; omega
      have HN4 := Lib.hid (And.intro (show n1 ≤ 4 by omega) (show n2 ≤ 4 by omega))
      clear h4 h5
      go_wp2_with fail
      clear d1 d2 q0 q1
      go_loopg [69] n1 (fun k2 v69 wr => ∃ (i : Nat), i + k2 = n1 ∧ v69 = .int .i64 i ∧ Hid ((ins.take i).all (fun x => decide (x.2.1.length ≤ 100)) = true) ∧ Hid (Below w4.heap.size w4 wr) ∧ Hid (Below w.heap.size w wr) ∧ Hid (Blk wr q 46 (blkC v prev root t b n (.slice (some ⟨b', o, none⟩) m c)).toArray))
      case atStart => exact ⟨0, by omega, rfl, by simp [Hid], Below.refl _ _, HBL, HB⟩
      case round =>
        clear HBL HB
        obtain ⟨i, hi, rfl, HCI, HW4, HBL, HB⟩ := hrel
        by_cases hlt2 : i < n1
        · have hi' := insSh.below HI.out HW4.out (fun b h _ => h)
          obtain ⟨bi, oi, id, ix, key, vk, rfl, hb, hij, hrow, hkb, hid, hix⟩ := ins_at hi' (by rw [HN1.out]; exact hlt2)
          obtain ⟨Ak, nk, ck, rfl, hnk, hkc, hks⟩ := hkb
          have HIJ := Lib.hid hij
          have HROW := Lib.hid hrow
          have HID := Lib.hid hid
          have HNK := Lib.hid hnk
          clear hi' hij hrow hid hb hks hkc hix hnk
          go_wp2_with (first
            | (with_reducible refine wpList_ld rfl 61 (.tmp 71) rfl bi (oi + i * 34) rfl (inC id ix (.slice Ak nk ck)) HROW.out _ Try.underlying61 rfl 34 infoIn (by simp [inC_len _ _ _ HID.out]) ?_)
            | (with_reducible refine wpList_stb rfl 61 (.tmp 10) (.tmp 72) rfl wr.heap.size 0 _ rfl rfl 61 _ (Blk.new wr _ _) ?e6a ?e6b ?e6c ?_))
          case e6a => simp [inC_len _ _ _ HID.out]
          case e6b => rw [infoIn]; simp [inC_len _ _ _ HID.out]
          case e6c => exact inC_one _ _ _ rfl
          intro w6 b6 o6
          rw [over_all _ _ (by simp [inC_len _ _ _ HID.out])] at b6
          have hO6 : Below wr.heap.size wr w6 := (((Only.refl (fun b => wr.heap.size ≤ b) wr).alloc _).trans o6 (fun b _ e => by omega)).below (Nat.le_refl _) (fun b hb h => by omega)
          replace HB := Lib.hid (HB.out.below hO6 HB.out.lt)
          replace HBL := Lib.hid (HBL.out.trans (hO6.mono HBL.out.size))
          replace HW4 := Lib.hid (HW4.out.trans (hO6.mono HW4.out.size))
          have q33 := in_cell33g b6 HID.out
          clear b6 o6 hO6 HROW
          generalize wr.heap.size = pi at q33 ⊢
          by_cases hk : 100 < nk
          · have dk : decide ((100 : Int) < (nk : Int)) = true := by simp; omega
            clear hk
            go_wp2
            go_ret
            rw [← HQ.out]
            exact ⟨rfl, HBL.out⟩
          · have dk : decide ((100 : Int) < (nk : Int)) = false := by simp; omega
            have hf : (ins.take (i + 1)).all (fun x => decide (x.2.1.length ≤ 100)) = true := by
              rw [take_snoc' ins i (by rw [HN1.out]; exact hlt2), List.all_append, HCI.out, HIJ.out]
              simp [← HNK.out]; omega
            have HF := Lib.hid hf
            clear hf hk
            go_wp2
            go_roundg (n1 - 1 - i)
            case measure => omega
            case rel => exact ⟨i + 1, by omega, by have := HN4.out.1; first | rfl | (rw [IntWalk.wrap64_in _ (by omega)]; rfl), HF.out, HW4.out, HBL.out, HB.out⟩
        · obtain rfl : i = n1 := by omega
          have hf : tinyB (ins, outs, ()) = true := by
            have := HCI.out
            rw [List.take_of_length_le (by rw [HN1.out]; exact Nat.le_refl _)] at this
            simp only [tinyB, Bool.and_eq_true, decide_eq_true_eq]
            exact ⟨⟨by rw [HN1.out]; exact HN4.out.1, by rw [HN2.out]; exact HN4.out.2⟩, this⟩
          have hall : ∀ t ∈ txs.take (j + 1), tinyB t = true := by
            rw [take_snoc' txs j (by rw [HM.out]; exact hlt)]
            intro t ht
            rcases List.mem_append.1 ht with h | h
            · exact HC.out t h
            · rw [List.mem_singleton.1 h, HET.out]; exact hf
          have HA := Lib.hid hall
          clear hall hf
          have hm6 := HM6.out
          go_wp2
          go_roundg (m - 1 - j)
          case measure => omega
          case rel => exact ⟨j + 1, by omega, by first | rfl | (rw [IntWalk.wrap64_in _ (by omega)]; rfl), HA.out, HBL.out, HB.out⟩
    · obtain rfl : j = m := by omega
      have hall : ∀ t ∈ txs, tinyB t = true := by
        have := HC.out
        rwa [List.take_of_length_le (by rw [HM.out]; exact Nat.le_refl _)] at this
      replace HC := Lib.hid hall
      clear hall
      have c68 := blk_cell68 HB.out h1 h2
      go_wp2_with fail
      clear c68
      obtain ⟨ids, hids⟩ : ∃ ids, (txs.map fun t => sha2 (txB t)) = ids := ⟨_, rfl⟩
      have hil : ids.length = j := by rw [← hids, List.length_map]; exact HM.out
      have hi32 : ∀ x ∈ ids, x.length = 32 := fun x hx => by
        rw [← hids] at hx
        obtain ⟨t, _, rfl⟩ := List.mem_map.1 hx
        exact sha_len _
      have HIDS := Lib.hid hids
      have HIL := Lib.hid hil
      have HI32 := Lib.hid hi32
      have HOW := Lib.hid (show OwnI wr (q + 1) none 0 0 [] from ⟨World.ownsRow_nil _ _ _ _, rfl, fun x hx => by cases hx⟩)
      clear hids hil hi32
      go_loopg [11, 82] j (fun k v11 v82 wr => ∃ (i : Nat) (A11 : Option Addr) (c11 : Nat), i + k = j ∧ v11 = .slice A11 i c11 ∧ v82 = .int .i64 i ∧ Hid (OwnI wr (q + 1) A11 i c11 (ids.take i)) ∧ Hid (Below w.heap.size w wr) ∧ Hid (Blk wr q 46 (blkC v prev root t b n (.slice A j c)).toArray))
      case atStart => exact ⟨0, none, 0, by omega, rfl, rfl, by simpa [Hid] using HOW.out, HBL, HB⟩
      case round =>
        clear HBL HB HOW
        obtain ⟨i, A11, c11, hi, rfl, rfl, HOW, HBL, HB⟩ := hrel
        by_cases hlt2 : i < j
        · obtain ⟨b', o, cs, rfl, hb, hcs, hrow⟩ := txs_at (HT.out _ HBL.out) (by rw [HM.out]; exact hlt2)
          obtain ⟨ins, outs, A3, A4, c3, c4, het, rfl, hi', ho⟩ := tx_cells hcs
          have HET := Lib.hid het
          have HI := Lib.hid hi'
          have HO := Lib.hid ho
          have HROW := Lib.hid hrow
          obtain ⟨n1, hn1⟩ : ∃ n1, ins.length = n1 := ⟨_, rfl⟩
          obtain ⟨n2, hn2⟩ : ∃ n2, outs.length = n2 := ⟨_, rfl⟩
          rw [hn1] at HI HROW
          rw [hn2] at HO HROW
          have HN1 := Lib.hid hn1
          have HN2 := Lib.hid hn2
          clear hcs het hi' ho hrow hb hn1 hn2
          go_wp2_with (first
            | (with_reducible refine wpList_ld rfl 25 (.tmp 84) rfl b' (o + i * 2) rfl ([.slice A3 n1 c3, .slice A4 n2 c4]) HROW.out _ Try.underlying25 rfl 2 infoTx rfl ?_)
            | (with_reducible refine wpList_stb rfl 25 (.tmp 13) (.tmp 85) rfl wr.heap.size 0 _ rfl rfl 25 _ (Blk.new wr _ _) ?e8a ?e8b ?e8c ?_))
          case e8a => simp
          case e8b => rw [infoTx]; rfl
          case e8c => exact ⟨rfl, rfl⟩
          intro w8 b8 o8
          rw [over_all _ _ (by simp [])] at b8
          have hO8 : Below wr.heap.size wr w8 := (((Only.refl (fun b => wr.heap.size ≤ b) wr).alloc _).trans o8 (fun b _ e => by omega)).below (Nat.le_refl _) (fun b hb h => by omega)
          replace HB := Lib.hid (HB.out.below hO8 HB.out.lt)
          replace HBL := Lib.hid (HBL.out.trans (hO8.mono HBL.out.size))
          replace HOW := Lib.hid (HOW.out.new hO8)
          replace HI := Lib.hid (insSh.below HI.out hO8 (fun _ h _ => h))
          replace HO := Lib.hid (outsSh.below HO.out hO8 (fun _ h _ => h))
          have HP := Lib.hid b8
          clear b8 o8 hO8 HROW
          obtain ⟨p, hp⟩ : ∃ p, wr.heap.size = p := ⟨_, rfl⟩
          rw [hp] at HP ⊢
          clear hp
          go_wp2_with (with_reducible refine wpList_ld rfl 25 (.tmp 13) rfl p 0 rfl [.slice A3 n1 c3, .slice A4 n2 c4] HP.out.rowAll _ Try.underlying25 rfl 2 infoTx rfl ?_)
          have hfit : TxFit (ins, outs, ()) := by
            have := tiny_fit (HC.out _ (List.getElem_mem (by rw [HM.out]; exact hlt2 : i < txs.length)))
            rwa [HET.out] at this
          refine (tx_id_any w8 A3 A4 n1 n2 c3 c4 ins outs _ HI.out HO.out HN1.out HN2.out (fun b h => Nat.lt_of_lt_of_le h HBL.out.size) hfit).mono ?_
          clear hfit HP
          rintro e5 w5 ⟨rfl, a5⟩
          replace HB := Lib.hid (HB.out.below a5 HB.out.lt)
          replace HBL := Lib.hid (HBL.out.trans (a5.mono HBL.out.size))
          replace HOW := Lib.hid (HOW.out.new a5)
          have hx : ids[i]'(by rw [HIL.out]; exact hlt2) = sha2 (txB (ins, outs, ())) := by
            have := HIDS.out
            subst this
            rw [List.getElem_map, HET.out]
          obtain ⟨x, hxe⟩ : ∃ x, sha2 (txB (ins, outs, ())) = x := ⟨_, rfl⟩
          have hx32 : x.length = 32 := by rw [← hxe]; exact sha_len _
          rw [hxe] at hx ⊢
          have HX := Lib.hid hx
          have HX32 := Lib.hid hx32
          have hfold := fold_id x hx32
          have hm6 := HM6.out
          clear a5 hx hxe
          unfold idV
          go_wp2_with (at_builtin; refine wpList_app _ rfl (.tmp 86) (.tmp 89) 68 rfl (q + 1) 32 _ 32 32 Try.underlying68 infoIDz (by rfl) (by decide) A11 i c11 rfl _ 1 1 rfl _ (HOW.out.1.alloc _) _ _ (Sl.one_row w5 32 (bts x) 32 (by rw [bts_length, HX32.out])) (bts_one _) (by unfold maxLen; omega) (by omega) (by rw [World.size_alloc]; have := HB.out.lt; omega) ?nexta)
          case nexta =>
            intro A7 c7 w7 hown7 ho7 hat7
            have hal : Below w5.heap.size w5 (w5.alloc (.cells (bts x).toArray 32)) := (Below.refl _ _).alloc (Nat.le_refl _) _
            have HOW7 := Lib.hid (show OwnI w7 (q + 1) A7 (i + 1) c7 (ids.take (i + 1)) by
              rw [take_snoc' ids i (by rw [HIL.out]; exact hlt2), HX.out]
              exact OwnI.snoc hown7 HOW.out.2.1 HOW.out.2.2 HX32.out)
            replace HB := Lib.hid ((HB.out.below hal HB.out.lt).only ho7 (fun e => by have := (HOW.out.1.lt q e).1; omega))
            replace HBL := Lib.hid ((HBL.out.trans (hal.mono HBL.out.size)).trans (ho7.below (HBL.out.trans (hal.mono HBL.out.size)).size (fun b hb e => by have := (HOW.out.1.lt b e).1; have := HQ.out; omega)))
            clear hown7 ho7 hat7 hal hfold hx32 HOW
            go_wp2
            go_roundg (j - 1 - i)
            case measure => omega
            case rel => exact ⟨i + 1, A7, c7, by omega, rfl, by first | rfl | (rw [IntWalk.wrap64_in _ (by omega)]; rfl), HOW7.out, HBL.out, HB.out⟩
        · obtain rfl : i = j := by omega
          replace HOW := Lib.hid (show OwnI wr (q + 1) A11 i c11 ids by have := HOW.out; rwa [List.take_of_length_le (by rw [HIL.out]; exact Nat.le_refl _)] at this)
          have c68 := blk_cell68 HB.out h1 h2
          go_wp2_with fail
          clear c68
          have hR32 : (mroot ids).1.length = 32 := mroot_len _ HI32.out
          have RT := tx_root_any i (merkle_any i (by have := HM6.out; omega)) wr A c txs (fun b => b < w.heap.size) (HT.out _ HBL.out) HM.out (fun b h => Nat.lt_of_lt_of_le h HBL.out.size) (fun t ht => tiny_fit (HC.out t ht)) (by have := HM6.out; omega)
          rw [HIDS.out] at RT
          obtain ⟨R, hR⟩ : ∃ R, (mroot ids).1 = R := ⟨_, rfl⟩
          obtain ⟨R2, hR2⟩ : ∃ R2, (mroot ids).2 = R2 := ⟨_, rfl⟩
          rw [hR, hR2] at RT
          rw [hR] at hR32
          have HR := Lib.hid hR
          have HR32 := Lib.hid hR32
          clear hR hR2
          refine RT.mono ?_
          clear RT
          rintro e5 w5 ⟨rfl, a5⟩
          replace HB := Lib.hid (HB.out.below a5 HB.out.lt)
          replace HBL := Lib.hid (HBL.out.trans (a5.mono HBL.out.size))
          replace HOW := Lib.hid (HOW.out.new a5)
          clear a5
          unfold idV
          go_wp2_with (with_reducible refine wpList_stb rfl 32 (.tmp 99) (.tmp 96) rfl q 33 _ rfl rfl 46 _ HB.out ?r1 ?r2 ?r3 ?_)
          case r1 => simp [blkC_len _ _ _ _ _ _ _ h1 h2, HR32.out]
          case r2 => rw [infoID]; simp [HR32.out]
          case r3 => exact bts_one _
          intro w6 b6 o6
          rw [over_rootb _ _ _ _ _ _ _ _ h1 h2 HR32.out] at b6
          replace HBL := Lib.hid (HBL.out.trans (o6.below HBL.out.size (fun b hb e => by have := HQ.out; omega)))
          replace HOW := Lib.hid (HOW.out.only o6 (fun k hk e => by have := (HOW.out.1.lt k hk).1; omega))
          replace HB := Lib.hid b6
          clear b6 o6
          have cT := blk_cell66 HB.out h1 HR32.out
          have fT := HB.out.frozen 66
          have hst := HB.out.set_ 66 (.int .u32 545259519)
          rw [List.setIfInBounds_toArray, show (Value.int .u32 545259519) = Value.int .u32 ((545259519 : Nat) : Int) from rfl, blkC_setb _ _ _ _ _ _ _ _ h1 HR32.out] at hst
          have HO7 : Only (fun b => b = q) w6 (w6.setCell ⟨q, 66, none⟩ (.int .u32 ((545259519 : Nat) : Int))) := (Only.refl (fun b => b = q) w6).setCell (p := ⟨q, 66, none⟩) (fun _ => rfl) _
          have HST := Lib.hid hst
          have HBL7 := Lib.hid (HBL.out.trans (HO7.below HBL.out.size (fun b hb e => by have := HQ.out; omega)))
          have HOW7 := Lib.hid (HOW.out.only HO7 (fun k hk e => by have := (HOW.out.1.lt k hk).1; omega))
          clear hst HO7
          go_wp2_with (with_reducible refine wpList_ld rfl 43 (.tmp 103) rfl q 0 rfl (hdrC v prev R t 545259519 n) (blk_hdr HST.out) _ Try.underlying43 rfl 68 infoHdr (hdrC_len _ _ _ _ _ _ h1 HR32.out).symm ?_)
          have MN := mine_any (w6.setCell ⟨q, 66, none⟩ (.int .u32 545259519)) v t n tr prev R h1 HR32.out (by have := HT30.out; omega) HNN.out
          rw [show ((tr : Nat) : Int) = tries from HTR.out.symm] at MN
          obtain ⟨M, hM⟩ : ∃ M, mineM v prev R t n tr = M := ⟨_, rfl⟩
          rw [hM] at MN
          have HMN := Lib.hid (fun m' (h : M = some m') => mineM_lt v t prev R tr n m' HNN.out (hM.trans h))
          clear hM
          refine MN.mono ?_
          clear MN
          rintro e8 w8 ⟨rfl, a8⟩
          replace HB := Lib.hid (HST.out.below a8 HST.out.lt)
          replace HBL := Lib.hid (HBL7.out.trans (a8.mono HBL7.out.size))
          replace HOW := Lib.hid (HOW7.out.new a8)
          clear a8 HST HBL7 HOW7 cT fT
          go_wp2_with (with_reducible refine wpList_stb rfl 43 (.tmp 14) (.tmp 107) rfl w8.heap.size 0 _ rfl rfl 43 _ (Blk.new w8 _ _) ?m1 ?m2 ?m3 ?_)
          case m1 => rw [zeroH_len]; simp [mineC_len _ _ _ _ _ h1 HR32.out]
          case m2 => rw [infoHdr]; simp [mineC_len _ _ _ _ _ h1 HR32.out]
          case m3 => exact mineC_one _ _ _ _ _
          intro w9 b9 o9
          rw [over_all _ _ (by rw [zeroH_len]; simp [mineC_len _ _ _ _ _ h1 HR32.out])] at b9
          have hO9 : Below w8.heap.size w8 w9 := (((Only.refl (fun b => w8.heap.size ≤ b) w8).alloc _).trans o9 (fun b _ e => by omega)).below (Nat.le_refl _) (fun b hb h => by omega)
          replace HB := Lib.hid (HB.out.below hO9 HB.out.lt)
          replace HBL := Lib.hid (HBL.out.trans (hO9.mono HBL.out.size))
          replace HOW := Lib.hid (HOW.out.new hO9)
          have HP := Lib.hid b9
          clear b9 o9 hO9
          obtain ⟨p14, hp14⟩ : ∃ p14, w8.heap.size = p14 := ⟨_, rfl⟩
          rw [hp14] at HP ⊢
          clear hp14
          go_upto_if 109 with fail
          go_cut [] (fun wc => ∃ n' : Nat, Hid (n' < 4294967296) ∧ Hid (OwnI wc (q + 1) A11 i c11 ids) ∧ Hid (Below w.heap.size w wc) ∧ Hid (Blk wc q 46 (blkC v prev R t 545259519 n' (.slice A i c)).toArray))
          · cases M with
            | none =>
              go_wp2
              go_meet
              exact ⟨n, HNN, HOW, HBL, HB⟩
            | some m' =>
              have hm' := HMN.out m' rfl
              have HP2 := Lib.hid (show Blk w9 p14 43 (hdrC v prev R t 545259519 m').toArray from HP.out)
              go_wp2_with (first
                | (with_reducible refine wpList_ld rfl 43 (.tmp 14) rfl p14 0 rfl (hdrC v prev R t 545259519 m') HP2.out.rowAll _ Try.underlying43 rfl 68 infoHdr (hdrC_len _ _ _ _ _ _ h1 HR32.out).symm ?_)
                | (with_reducible refine wpList_stb rfl 43 (.tmp 111) (.tmp 110) rfl q 0 _ rfl rfl 46 _ HB.out ?n1 ?n2 ?n3 ?_))
              case n1 => simp [blkC_len _ _ _ _ _ _ _ h1 HR32.out, hdrC_len _ _ _ _ _ _ h1 HR32.out]
              case n2 => rw [infoHdr]; simp [hdrC_len _ _ _ _ _ _ h1 HR32.out]
              case n3 => exact hdrC_one _ _ _ _ _ _
              intro w10 b10 o10
              rw [over_hdr _ _ _ _ _ _ _ _ h1 HR32.out] at b10
              have HBL10 := Lib.hid (HBL.out.trans (o10.below HBL.out.size (fun b hb e => by have := HQ.out; omega)))
              have HOW10 := Lib.hid (HOW.out.only o10 (fun k hk e => by have := (HOW.out.1.lt k hk).1; omega))
              have HB10 := Lib.hid b10
              clear b10 o10
              go_wp2_with fail
              go_meet
              exact ⟨m', hm', HOW10, HBL10, HB10⟩
          case rest =>
            clear HB HBL HOW HP HMN
            obtain ⟨n', HN', HOW, HBL, HB⟩ := hcut
            go_wp2_with (with_reducible refine wpList_ld rfl 46 (.tmp 2) rfl q 0 rfl (blkC v prev R t 545259519 n' (.slice A i c)) HB.out.rowAll _ Try.underlying46 rfl 69 infoBlk (blkC_len _ _ _ _ _ _ _ h1 HR32.out).symm ?_)
            refine (tx_block_any wc v t 545259519 n' prev R A i c txs (fun b => b < w.heap.size) h1 HR32.out (HT.out _ HBL.out) HM.out (fun b hb => Nat.lt_of_lt_of_le hb HBL.out.size) (fun t ht => tiny_fit (HC.out t ht)) (by have := HM6.out; omega)).mono ?_
            rintro e7 w7 ⟨B7, c7, n7, rfl, hn7, a7, o7⟩
            replace HB := Lib.hid (HB.out.below a7 HB.out.lt)
            replace HBL := Lib.hid (HBL.out.trans (a7.mono HBL.out.size))
            replace HOW := Lib.hid (HOW.out.new a7)
            have hok : ∀ t ∈ txs, TxOk t := fun t0 ht0 => by
              obtain ⟨i0, hi0, rfl⟩ := List.getElem_of_mem ht0
              obtain ⟨b', o, cs, _, _, hcs, _⟩ := txs_at (HT.out _ HBL.out) hi0
              obtain ⟨ins, outs, A3, A4, c3, c4, het, rfl, hi, ho⟩ := tx_cells hcs
              rw [het]
              exact tx_ok hi ho
            obtain ⟨x1, x2, x3, x4, x5, x6⟩ := blk_fwd v t 545259519 n' prev R txs h1 HR32.out HV.out HTT.out (by decide) HN'.out (by have := HM6.out; have := HM.out; omega) hok HC.out
            obtain ⟨X, hX⟩ : ∃ X, blkB v prev R t 545259519 n' txs = X := ⟨_, rfl⟩
            rw [hX] at x1 x2 x3 x4 x5 x6 hn7 o7
            have HX := Lib.hid (IsB.everb (B := w7.heap.size) (IsB.of_own o7) (fun _ h _ => h))
            have HX2 := Lib.hid x2
            have HX3 := Lib.hid x3
            have HX5 := Lib.hid (And.intro x4 (And.intro x5 hn7))
            have HX6 := Lib.hid x6
            have HX1 := Lib.hid x1
            obtain ⟨g7, cap7, hv7, _, _⟩ := o7.form (by omega)
            injection hv7 with e1 e2 e3
            subst e1 e3
            have hc7 : n7 ≤ c7 := by obtain ⟨_, _, _, e, _, hle, _⟩ := IsB.of_own o7; injection e with e4 e5 e6; subst e5 e6; exact hle
            have HX80 := Lib.hid (fun W (a : Below w7.heap.size w7 W) => show IsB W (fun _ => True) (.slice (some ⟨g7, 0, none⟩) 80 c7) (X.take 80) from by
              obtain ⟨A', n', c', e, e8, hle, hs⟩ := HX.out W a
              injection e with e4 e5 e6
              subst e4 e5 e6
              refine ⟨_, _, _, rfl, by rw [List.length_take]; omega, by omega, ?_⟩
              have := hs.take (k := 80) (by omega)
              rw [Nat.mul_one] at this
              rwa [show bts (X.take 80) = (bts X).take 80 by simp [bts, List.map_take]])
            rw [HX6.out] at HX80
            have HC7 := Lib.hid (show 80 ≤ c7 by omega)
            clear hX a7 o7 hn7 hok x1 x2 x3 x4 x5 x6 e2 hc7
            go_wp2_with fail
            have RB := tx_ReadBlock_any w7 _ X _ (HX.out _ (Below.refl _ _)) (by have := HX5.out.1; omega)
            rw [HX1.out, HX2.out, HX3.out] at RB
            refine RB.mono ?_
            clear RB
            rintro e8 w8 ⟨A8, n8, c8, rfl, ht8, hn8, a8⟩
            have hn8' := txs_nb ht8
            rw [HM.out] at hn8'
            subst hn8'
            have ht9 := weak_slice weak_tx3 _ _ (fun b => b < w8.heap.size) _ _ ht8 (fun b hb _ => hb)
            have HT8 := Lib.hid (fun W (a : Below w8.heap.size w8 W) => txsSh.below ht9 a (fun _ h _ => h))
            replace HB := Lib.hid (HB.out.below a8 HB.out.lt)
            replace HBL := Lib.hid (HBL.out.trans (a8.mono HBL.out.size))
            replace HOW := Lib.hid (HOW.out.new a8)
            replace HX80 := Lib.hid (fun W (a : Below w8.heap.size w8 W) => HX80.out W (a8.trans (a.mono a8.size)))
            obtain ⟨Z, hZ⟩ : ∃ Z, hdrC v prev R t 545259519 n' = Z := ⟨_, rfl⟩
            have heqA : ∀ w', (Op.equalIn 10000 43 (.agg Z.toArray) (.agg Z.toArray)).run Try.prog w' = .ok true w' := fun w' => by
              rw [← hZ]; exact hdr_eq_self v t 545259519 n' prev R h1 HR32.out HV.out HTT.out (by decide) HN'.out w'
            have HZE := Lib.hid hZ
            have HZ68 := Lib.hid (show Z.length = 68 by rw [← hZ]; exact hdrC_len _ _ _ _ _ _ h1 HR32.out)
            have HZ1 := Lib.hid (show ∀ u ∈ Z, u.oneCell' = true by rw [← hZ]; exact hdrC_one _ _ _ _ _ _)
            have HQROW := Lib.hid (fun W (b : Blk W q 46 (blkC v prev R t 545259519 n' (.slice A n8 c)).toArray) => show RowAt W q 0 Z by rw [← hZ]; exact blk_hdr b)
            rw [hZ]
            clear hZ ht8 ht9 hn8 a8
            go_wp2_with (with_reducible refine wpList_stb rfl 46 (.tmp 17) (.tmp 117) rfl w8.heap.size 0 _ rfl rfl 46 _ (Blk.new w8 _ _) ?x1 ?x2 ?x3 ?_)
            case x1 => rw [zeroB_lenb]; simp [HZ68.out]
            case x2 => rw [infoBlk]; simp [HZ68.out]
            case x3 => intro v hv; rcases hv with h | h; exact HZ1.out v h; rw [h]; rfl
            intro w9 b9 o9
            rw [over_all _ _ (by rw [zeroB_lenb]; simp [HZ68.out])] at b9
            have hO9 : Below w8.heap.size w8 w9 := (((Only.refl (fun b => w8.heap.size ≤ b) w8).alloc _).trans o9 (fun b _ e => by omega)).below (Nat.le_refl _) (fun b hb h => by omega)
            replace HB := Lib.hid (HB.out.below hO9 HB.out.lt)
            replace HBL := Lib.hid (HBL.out.trans (hO9.mono HBL.out.size))
            replace HOW := Lib.hid (HOW.out.new hO9)
            replace HX80 := Lib.hid (fun W (a : Below w9.heap.size w9 W) => HX80.out W (hO9.trans (a.mono hO9.size)))
            replace HT8 := Lib.hid (fun W (a : Below w9.heap.size w9 W) => HT8.out W (hO9.trans (a.mono hO9.size)))
            have HS9 := Lib.hid hO9.size
            obtain ⟨p17, hp17⟩ : ∃ p, w8.heap.size = p := ⟨_, rfl⟩
            have HP : Hid (Blk w9 p17 46 (Z ++ [Value.slice A8 n8 c8]).toArray) := Lib.hid (by rw [← hp17]; exact b9)
            rw [hp17]
            clear b9 o9 hO9 hp17
            have c68 := blk_cell68 HB.out h1 HR32.out
            have c68b : w9.cell? ⟨p17, 68, none⟩ = some (.slice A8 n8 c8) := by
              rw [HP.out.cell 68, List.getElem?_toArray, List.getElem?_append_right (by rw [HZ68.out]; omega), HZ68.out]; rfl
            have hrZ : RowAt w9 p17 0 Z := by
              intro j u hj
              have hjl := (List.getElem?_eq_some_iff.1 hj).1
              rw [Nat.zero_add, HP.out.cell j, List.getElem?_toArray, List.getElem?_append_left hjl]
              exact hj
            have HRZ := Lib.hid hrZ
            clear hrZ
            go_wp2_with (first
              | (refine wpList_ldg3 (by rfl) 43 (.tmp 122) rfl p17 0 rfl Z HRZ.out _ Try.underlying43 rfl 68 infoHdr HZ68.out.symm ?_)
              | (refine wpList_ldg3 (by rfl) 43 (.tmp 124) rfl q 0 rfl Z (HQROW.out _ HB.out) _ Try.underlying43 rfl 68 infoHdr HZ68.out.symm ?_))
            clear c68 c68b heqA HP HRZ
            have HBR := Lib.hid (Below.refl w9.heap.size w9)
            go_loopg [140] n8 (fun k v140 wr => ∃ (a : Nat), a + k = n8 ∧ v140 = .int .i64 a ∧ Hid (Below w9.heap.size w9 wr))
            case atStart => exact ⟨0, by omega, rfl, HBR⟩
            case round =>
              clear HBR
              obtain ⟨a, ha, rfl, HBR⟩ := hrel
              by_cases hlt3 : a < n8
              · obtain ⟨b', o, cs, rfl, hb, hcs, hrow⟩ := txs_at (HT8.out _ HBR.out) (by rw [HM.out]; exact hlt3)
                obtain ⟨ins, outs, A3, A4, c3, c4, het, rfl, hi', ho⟩ := tx_cells hcs
                have HI := Lib.hid hi'
                have HO := Lib.hid ho
                have HROW := Lib.hid hrow
                have hxe : ids[a]'(by rw [HIL.out]; exact hlt3) = sha2 (txB (ins, outs, ())) := by
                  have := HIDS.out
                  subst this
                  rw [List.getElem_map, het]
                have hfit : TxFit (ins, outs, ()) := by
                  have := tiny_fit (HC.out _ (List.getElem_mem (by rw [HM.out]; exact hlt3 : a < txs.length)))
                  rwa [het] at this
                have HFIT := Lib.hid hfit
                obtain ⟨n1, hn1⟩ : ∃ n1, ins.length = n1 := ⟨_, rfl⟩
                obtain ⟨n2, hn2⟩ : ∃ n2, outs.length = n2 := ⟨_, rfl⟩
                rw [hn1] at HI HROW
                rw [hn2] at HO HROW
                have HN1 := Lib.hid hn1
                have HN2 := Lib.hid hn2
                have HXE := Lib.hid hxe
                clear hcs het hi' ho hrow hb hn1 hn2 hfit hxe
                go_wp2_with (first
                  | (with_reducible refine wpList_ld rfl 25 (.tmp 143) rfl b' (o + a * 2) rfl ([.slice A3 n1 c3, .slice A4 n2 c4]) HROW.out _ Try.underlying25 rfl 2 infoTx rfl ?_)
                  | (with_reducible refine wpList_stb rfl 25 (.tmp 20) (.tmp 144) rfl wr.heap.size 0 _ rfl rfl 25 _ (Blk.new wr _ _) ?e20a ?e20b ?e20c ?_))
                case e20a => simp
                case e20b => rw [infoTx]; rfl
                case e20c => exact ⟨rfl, rfl⟩
                intro w20 b20 o20
                rw [over_all _ _ (by simp [])] at b20
                have hO20 : Below wr.heap.size wr w20 := (((Only.refl (fun b => wr.heap.size ≤ b) wr).alloc _).trans o20 (fun b _ e => by omega)).below (Nat.le_refl _) (fun b hb h => by omega)
                have HB20 := Lib.hid (HBR.out.trans (hO20.mono HBR.out.size))
                have HO20 := Lib.hid hO20
                have HP := Lib.hid b20
                clear b20 o20 hO20 HROW
                obtain ⟨p20, hp20⟩ : ∃ p20, wr.heap.size = p20 := ⟨_, rfl⟩
                rw [hp20] at HP ⊢
                clear hp20
                go_wp2_with fail
                refine (way_any w20 a n8 A11 c11 ids _ HIL.out HI32.out hlt3 (by have := HM6.out; omega) (OwnI.sl (HOW.out.only (Only.of_below HB20.out) (fun k hk e => by have := HOW.out.1.lt k hk; omega)))).mono ?_
                rintro e21 w21 ⟨B21, n21, c21, rfl, hown, a21⟩
                have HO21 := Lib.hid (HO20.out.trans (a21.mono HO20.out.size))
                have HB21 := Lib.hid (HBR.out.trans (HO21.out.mono HBR.out.size))
                have HBB := Lib.hid (fun W (h : Below w21.heap.size w21 W) => HB.out.below (HB21.out.trans (h.mono HB21.out.size)) HB.out.lt)
                have HPP := Lib.hid (fun W (h : Below w21.heap.size w21 W) => (HP.out.below a21 HP.out.lt).below h (HP.out.below a21 HP.out.lt).lt)
                have HIW := Lib.hid (fun W (h : Below w21.heap.size w21 W) => insSh.below HI.out (HO21.out.trans (h.mono HO21.out.size)) (fun b hb _ => hb))
                have HOO := Lib.hid (fun W (h : Below w21.heap.size w21 W) => outsSh.below HO.out (HO21.out.trans (h.mono HO21.out.size)) (fun b hb _ => hb))
                obtain ⟨WW, hWW⟩ : ∃ WW, wayN n8 ids a = WW := ⟨_, rfl⟩
                have hwl := wayN_len n8 ids a
                have hld := way_leads n8 ids a (by rw [HIL.out]; exact Nat.le_refl _) (by rw [HIL.out]; exact hlt3)
                have hgd : ids.getD a [] = ids[a]'(by rw [HIL.out]; exact hlt3) := by rw [List.getD_eq_getElem?_getD, List.getElem?_eq_getElem (by rw [HIL.out]; exact hlt3)]; rfl
                have hR' : (mrootF ids false).1 = R := HR.out
                rw [hgd, hWW, hR'] at hld
                rw [hWW] at hown hwl
                have HWN := Lib.hid hown
                have HSLW := Lib.hid (fun W (h : Below w21.heap.size w21 W) => (OwnI.new hown h).sl)
                obtain ⟨bI, oI, hAI, _, hrowI⟩ := ids_at (OwnI.sl (HOW.out.only (Only.of_below HB21.out) (fun k hk e => by have := HOW.out.1.lt k hk; omega))) HI32.out HIL.out hlt3
                subst hAI
                have HXE2 := HXE.out
                obtain ⟨x, hx⟩ : ∃ x, ids[a]'(by rw [HIL.out]; exact hlt3) = x := ⟨_, rfl⟩
                have hx32 : x.length = 32 := by rw [← hx]; exact HI32.out _ (List.getElem_mem _)
                rw [hx] at hld hrowI HXE2
                have HX32 := Lib.hid hx32
                have HLD := Lib.hid hld
                have HXS := Lib.hid HXE2.symm
                have HRI := Lib.hid (fun W (h : Below w21.heap.size w21 W) => RowAt.below hrowI (by rw [bts_length, hx32]; decide) h)
                have HNL := Lib.hid (show n21 ≤ 1000 by have := HM6.out; have := hown.2.1; omega)
                have hW0 : ∀ (y : List UInt8), y.length = 32 → ∀ w', (Op.equalIn 10000 32 (.agg (bts y).toArray) (.agg (bts y).toArray)).run Try.prog w' = .ok true w' := fun y hy w' => by
                  rw [show (10000 : Nat) = 9998 + 2 from rfl, run_eq_arr Try.underlying32 Try.underlying5 (by kernel_rfl) (by kernel_rfl) (by kernel_rfl) y y hy hy w' 9998, beq_self_eq_true]
                have heqX := hW0 x hx32
                have heqR := hW0 R HR32.out
                have i0 : (0 : Int) ≤ (a : Int) := by omega
                have i1 : (a : Int) < (n8 : Int) := by omega
                clear hW0 hwl hgd hR' hld hrowI HXE HXE2 hx hown hWW HP HI HO a21 hx32
                go_wp2_with fail
                refine wp_region_held_drew (S := (fun w' => Below w21.heap.size w21 w' ∧ True)) (by kernel_rfl) (⟨(Below.refl _ _).drew, trivial⟩) ?_
                intro hSw
                refine wpAnyH_take (i := 0) (oi := ⟨some 151, _, _, _, _, _⟩) (v := (.int .i64 0)) rfl (by kernel_rfl) (by kernel_rfl) (by kernel_rfl) (fun _ _ _ h => h) (Or.inl ⟨by rfl, ?_⟩) hSw ?_
                · intro w' hSw'
                  go_simp
                simp only [Act.put, List.setIfInBounds_toArray, List.set_cons_zero, List.set_cons_succ]
                refine wpAnyH_take (i := 1) (oi := ⟨some 152, _, _, _, _, _⟩) (v := (.bool false)) rfl (by kernel_rfl) (by kernel_rfl) (by kernel_rfl) (fun _ _ _ h => h) (Or.inl ⟨by rfl, ?_⟩) hSw ?_
                · intro w' hSw'
                  go_simp
                simp only [Act.put, List.setIfInBounds_toArray, List.set_cons_zero, List.set_cons_succ]
                refine wpAnyH_take (i := 2) (oi := ⟨some 153, _, _, _, _, _⟩) (v := (.bool false)) rfl (by kernel_rfl) (by kernel_rfl) (by kernel_rfl) (fun _ _ _ h => h) (Or.inl ⟨by rfl, ?_⟩) hSw ?_
                · intro w' hSw'
                  go_simp
                simp only [Act.put, List.setIfInBounds_toArray, List.set_cons_zero, List.set_cons_succ]
                refine wpAnyH_take (i := 3) (oi := ⟨some 154, _, _, _, _, _⟩) (v := .agg ([.slice A3 n1 c3, .slice A4 n2 c4]).toArray) rfl (by kernel_rfl) (by kernel_rfl) (by kernel_rfl) (fun _ _ _ h => h) (yieldsIf_load_mid (by rfl) _ _ rfl p20 (0) rfl ([.slice A3 n1 c3, .slice A4 n2 c4]) _ (fun _ h => (HPP.out _ h.1).rowAll) Try.underlying25 rfl infoTx) hSw ?_
                simp only [Act.put, List.setIfInBounds_toArray, List.set_cons_zero, List.set_cons_succ]
                refine wpAnyH_take (i := 5) (oi := ⟨some 156, _, _, _, _, _⟩) (v := (.slice (some ⟨bI, oI, none⟩) n8 c11)) rfl (by kernel_rfl) (by kernel_rfl) (by kernel_rfl) (fun _ _ _ h => h) (Or.inl ⟨by rfl, ?_⟩) hSw ?_
                · intro w' hSw'
                  go_simp
                simp only [Act.put, List.setIfInBounds_toArray, List.set_cons_zero, List.set_cons_succ]
                refine wpAnyH_take (i := 6) (oi := ⟨some 157, _, _, _, _, _⟩) (v := (.int .i64 (a : Int))) rfl (by kernel_rfl) (by kernel_rfl) (by kernel_rfl) (fun _ _ _ h => h) (Or.inl ⟨by rfl, ?_⟩) hSw ?_
                · intro w' hSw'
                  go_simp
                simp only [Act.put, List.setIfInBounds_toArray, List.set_cons_zero, List.set_cons_succ]
                refine wpAnyH_take (i := 7) (oi := ⟨some 158, _, _, _, _, _⟩) (v := (.pointer (some ⟨bI, oI + a * 32, none⟩))) rfl (by kernel_rfl) (by kernel_rfl) (by kernel_rfl) (fun _ _ _ h => h) (Or.inl ⟨by rfl, ?_⟩) hSw ?_
                · intro w' hSw'
                  go_simp
                simp only [Act.put, List.setIfInBounds_toArray, List.set_cons_zero, List.set_cons_succ]
                refine wpAnyH_take (i := 8) (oi := ⟨some 159, _, _, _, _, _⟩) (v := .agg (bts x).toArray) rfl (by kernel_rfl) (by kernel_rfl) (by kernel_rfl) (fun _ _ _ h => h) (yieldsIf_load_mid (by rfl) _ _ rfl bI (oI + a * 32) rfl (bts x) _ (fun _ h => HRI.out _ h.1) Try.underlying32 rfl (by rw [bts_length, HX32.out]; exact infoID)) hSw ?_
                simp only [Act.put, List.setIfInBounds_toArray, List.set_cons_zero, List.set_cons_succ]
                refine wpAnyH_ready (rs := [4]) (by kernel_rfl) (by simp) (AllReadyH.cons (o := ⟨some 155, _, _, _, _, _⟩) rfl (fun K hK => ?_) AllReadyH.nil)
                go_simp
                go_at_call 15
                refine (tx_id_any _ A3 A4 n1 n2 c3 c4 ins outs (fun b => b < w8.heap.size) (HIW.out _ hSw.1) (HOO.out _ hSw.1) HN1.out HN2.out (fun b h => Nat.lt_of_lt_of_le h (Nat.le_trans HS9.out (Nat.le_trans HB21.out.size hSw.1.size))) HFIT.out).mono ?_
                rintro e22 w22 ⟨rfl, a22⟩
                rw [HXS.out]
                unfold idV
                dsimp only
                refine hK.out _ _ (⟨hSw.1.trans (a22.mono hSw.1.size), trivial⟩) ?_
                intro hSw
                clear hK K
                try simp only [Act.put, List.setIfInBounds_toArray, List.set_cons_zero, List.set_cons_succ]
                refine wpAnyH_take (i := 9) (oi := ⟨some 160, _, _, _, _, _⟩) (v := (.bool false)) rfl (by kernel_rfl) (by kernel_rfl) (by kernel_rfl) (fun _ _ _ h => h) (Or.inl ⟨by rfl, ?_⟩) hSw ?_
                · intro w' hSw'
                  go_simp
                simp only [Act.put, List.setIfInBounds_toArray, List.set_cons_zero, List.set_cons_succ]
                refine wpAnyH_take (i := 10) (oi := ⟨some 161, _, _, _, _, _⟩) (v := (.bool false)) rfl (by kernel_rfl) (by kernel_rfl) (by kernel_rfl) (fun _ _ _ h => h) (Or.inl ⟨by rfl, ?_⟩) hSw ?_
                · intro w' hSw'
                  go_simp
                simp only [Act.put, List.setIfInBounds_toArray, List.set_cons_zero, List.set_cons_succ]
                refine wpAnyH_take (i := 11) (oi := ⟨some 162, _, _, _, _, _⟩) (v := (.bool false)) rfl (by kernel_rfl) (by kernel_rfl) (by kernel_rfl) (fun _ _ _ h => h) (Or.inl ⟨by rfl, ?_⟩) hSw ?_
                · intro w' hSw'
                  go_simp
                simp only [Act.put, List.setIfInBounds_toArray, List.set_cons_zero, List.set_cons_succ]
                refine wpAnyH_take (i := 12) (oi := ⟨some 163, _, _, _, _, _⟩) (v := (.slice (some ⟨bI, oI, none⟩) n8 c11)) rfl (by kernel_rfl) (by kernel_rfl) (by kernel_rfl) (fun _ _ _ h => h) (Or.inl ⟨by rfl, ?_⟩) hSw ?_
                · intro w' hSw'
                  go_simp
                simp only [Act.put, List.setIfInBounds_toArray, List.set_cons_zero, List.set_cons_succ]
                refine wpAnyH_take (i := 13) (oi := ⟨some 164, _, _, _, _, _⟩) (v := (.int .i64 (a : Int))) rfl (by kernel_rfl) (by kernel_rfl) (by kernel_rfl) (fun _ _ _ h => h) (Or.inl ⟨by rfl, ?_⟩) hSw ?_
                · intro w' hSw'
                  go_simp
                simp only [Act.put, List.setIfInBounds_toArray, List.set_cons_zero, List.set_cons_succ]
                refine wpAnyH_take (i := 14) (oi := ⟨some 165, _, _, _, _, _⟩) (v := (.pointer (some ⟨bI, oI + a * 32, none⟩))) rfl (by kernel_rfl) (by kernel_rfl) (by kernel_rfl) (fun _ _ _ h => h) (Or.inl ⟨by rfl, ?_⟩) hSw ?_
                · intro w' hSw'
                  go_simp
                simp only [Act.put, List.setIfInBounds_toArray, List.set_cons_zero, List.set_cons_succ]
                refine wpAnyH_take (i := 15) (oi := ⟨some 166, _, _, _, _, _⟩) (v := .agg (bts x).toArray) rfl (by kernel_rfl) (by kernel_rfl) (by kernel_rfl) (fun _ _ _ h => h) (yieldsIf_load_mid (by rfl) _ _ rfl bI (oI + a * 32) rfl (bts x) _ (fun _ h => HRI.out _ h.1) Try.underlying32 rfl (by rw [bts_length, HX32.out]; exact infoID)) hSw ?_
                simp only [Act.put, List.setIfInBounds_toArray, List.set_cons_zero, List.set_cons_succ]
                refine wpAnyH_take (i := 16) (oi := ⟨some 167, _, _, _, _, _⟩) (v := (.int .i64 (a : Int))) rfl (by kernel_rfl) (by kernel_rfl) (by kernel_rfl) (fun _ _ _ h => h) (Or.inl ⟨by rfl, ?_⟩) hSw ?_
                · intro w' hSw'
                  go_simp
                simp only [Act.put, List.setIfInBounds_toArray, List.set_cons_zero, List.set_cons_succ]
                refine wpAnyH_take (i := 17) (oi := ⟨some 168, _, _, _, _, _⟩) (v := (.slice B21 n21 c21)) rfl (by kernel_rfl) (by kernel_rfl) (by kernel_rfl) (fun _ _ _ h => h) (Or.inl ⟨by rfl, ?_⟩) hSw ?_
                · intro w' hSw'
                  go_simp
                simp only [Act.put, List.setIfInBounds_toArray, List.set_cons_zero, List.set_cons_succ]
                refine wpAnyH_take (i := 19) (oi := ⟨some 170, _, _, _, _, _⟩) (v := (.pointer (some ⟨q, 0, none⟩))) rfl (by kernel_rfl) (by kernel_rfl) (by kernel_rfl) (fun _ _ _ h => h) (Or.inl ⟨by rfl, ?_⟩) hSw ?_
                · intro w' hSw'
                  go_simp
                simp only [Act.put, List.setIfInBounds_toArray, List.set_cons_zero, List.set_cons_succ]
                refine wpAnyH_take (i := 20) (oi := ⟨some 171, _, _, _, _, _⟩) (v := (.pointer (some ⟨q, 33, none⟩))) rfl (by kernel_rfl) (by kernel_rfl) (by kernel_rfl) (fun _ _ _ h => h) (Or.inl ⟨by rfl, ?_⟩) hSw ?_
                · intro w' hSw'
                  go_simp
                simp only [Act.put, List.setIfInBounds_toArray, List.set_cons_zero, List.set_cons_succ]
                refine wpAnyH_take (i := 21) (oi := ⟨some 172, _, _, _, _, _⟩) (v := .agg (bts R).toArray) rfl (by kernel_rfl) (by kernel_rfl) (by kernel_rfl) (fun _ _ _ h => h) (yieldsIf_load_mid (by rfl) _ _ rfl q (33) rfl (bts R) _ (fun _ h => blk_rootb (HBB.out _ h.1) h1 HR32.out) Try.underlying32 rfl (by rw [bts_length, HR32.out]; exact infoID)) hSw ?_
                simp only [Act.put, List.setIfInBounds_toArray, List.set_cons_zero, List.set_cons_succ]
                refine wpAnyH_ready (rs := [18]) (by kernel_rfl) (by simp) (AllReadyH.cons (o := ⟨some 169, _, _, _, _, _⟩) rfl (fun K hK => ?_) AllReadyH.nil)
                go_simp
                go_at_call 30
                refine (leads_any _ x a B21 n21 c21 WW _ HX32.out HWN.out.2.1 HWN.out.2.2 (by have := HM6.out; omega) HNL.out (HSLW.out _ hSw.1)).mono ?_
                rintro e23 w23 ⟨rfl, a23⟩
                rw [HLD.out]
                dsimp only
                refine hK.out _ _ (⟨hSw.1.trans (a23.mono hSw.1.size), trivial⟩) ?_
                intro hSw
                clear hK K
                try simp only [Act.put, List.setIfInBounds_toArray, List.set_cons_zero, List.set_cons_succ]
                refine wpAnyH_take (i := 22) (oi := ⟨some 173, _, _, _, _, _⟩) (v := (.bool false)) rfl (by kernel_rfl) (by kernel_rfl) (by kernel_rfl) (fun _ _ _ h => h) (Or.inl ⟨by rfl, ?_⟩) hSw ?_
                · intro w' hSw'
                  go_simp
                simp only [Act.put, List.setIfInBounds_toArray, List.set_cons_zero, List.set_cons_succ]
                refine wpAnyH_take (i := 23) (oi := ⟨some 174, _, _, _, _, _⟩) (v := (.bool false)) rfl (by kernel_rfl) (by kernel_rfl) (by kernel_rfl) (fun _ _ _ h => h) (Or.inl ⟨by rfl, ?_⟩) hSw ?_
                · intro w' hSw'
                  go_simp
                simp only [Act.put, List.setIfInBounds_toArray, List.set_cons_zero, List.set_cons_succ]
                refine wpAnyH_done (by kernel_rfl) ?_ _
                have HFIN := Lib.hid (HB21.out.trans (hSw.1.mono HB21.out.size))
                have hm6 := HM6.out
                clear hSw heqX heqR i0 i1
                go_wp2
                go_roundg (n8 - 1 - a)
                case measure => omega
                case rel => exact ⟨a + 1, by omega, by first | rfl | (rw [IntWalk.wrap64_in _ (by omega)]; rfl), HFIN.out⟩
              · obtain rfl : a = n8 := by omega
                have h80 : 80 ≤ c7 := HC7.out
                go_wp2_with fail
                clear h80
                have HRD := head_Read_any wr _ _ _ (HX80.out _ HBR.out)
                have hR1 := hdrR_fwd v t 545259519 n' prev R h1 HR32.out HV.out HTT.out (by decide) HN'.out
                have hR2 : hdrE (hdrB v prev R t 545259519 n') = 0 := by rw [hdrE, if_pos (hdrB_len _ _ _ _ _ _ h1 HR32.out)]
                rw [hR1, hR2] at HRD
                refine HRD.mono ?_
                clear HRD hR1 hR2
                rintro e24 w24 ⟨rfl, a24⟩
                rw [HZE.out]
                go_wp2_with (with_reducible refine wpList_stb rfl 43 (.tmp 23) (.tmp 180) rfl w24.heap.size 0 _ rfl rfl 43 _ (Blk.new w24 _ _) ?u1 ?u2 ?u3 ?_)
                case u1 => rw [zeroH_len]; simp [HZ68.out]
                case u2 => rw [infoHdr]; simp [HZ68.out]
                case u3 => exact HZ1.out
                intro w25 b25 o25
                rw [over_all _ _ (by rw [zeroH_len]; simp [HZ68.out])] at b25
                have hO25 : Below w24.heap.size w24 w25 := (((Only.refl (fun b => w24.heap.size ≤ b) w24).alloc _).trans o25 (fun b _ e => by omega)).below (Nat.le_refl _) (fun b hb h => by omega)
                have HF := Lib.hid (a24.trans (hO25.mono a24.size))
                have HG := Lib.hid (HBR.out.trans (HF.out.mono HBR.out.size))
                have HBB := Lib.hid (fun W (h : Below w25.heap.size w25 W) => HQROW.out _ (HB.out.below (HG.out.trans (h.mono HG.out.size)) HB.out.lt))
                obtain ⟨p23, hp23⟩ : ∃ p23, w24.heap.size = p23 := ⟨_, rfl⟩
                rw [hp23] at b25 ⊢
                have HPP := Lib.hid (fun W (h : Below w25.heap.size w25 W) => b25.below h b25.lt)
                clear a24 b25 o25 hO25 hp23
                have HIDX := headID_any
                have ID := Lib.hid (fun W => headID_any W v t 545259519 n' prev R h1 HR32.out)
                rw [HZE.out] at ID
                have hX32 : (sha2 (hdrB v prev R t 545259519 n')).length = 32 := sha_len _
                obtain ⟨x, hx⟩ : ∃ x, sha2 (hdrB v prev R t 545259519 n') = x := ⟨_, rfl⟩
                rw [hx] at hX32 ID
                have heqX : ∀ w', (Op.equalIn 10000 32 (.agg (bts x).toArray) (.agg (bts x).toArray)).run Try.prog w' = .ok true w' := fun w' => by
                  rw [show (10000 : Nat) = 9998 + 2 from rfl, run_eq_arr Try.underlying32 Try.underlying5 (by kernel_rfl) (by kernel_rfl) (by kernel_rfl) x x hX32 hX32 w' 9998, beq_self_eq_true]
                clear hx hX32 HIDX
                go_wp2_with fail
                refine wp_region_held_drew (S := (fun w' => Below w25.heap.size w25 w' ∧ True)) (by kernel_rfl) (⟨(Below.refl _ _).drew, trivial⟩) ?_
                intro hSw
                refine wpAnyH_take (i := 0) (oi := ⟨some 182, _, _, _, _, _⟩) (v := (.int .i64 0)) rfl (by kernel_rfl) (by kernel_rfl) (by kernel_rfl) (fun _ _ _ h => h) (Or.inl ⟨by rfl, ?_⟩) hSw ?_
                · intro w' hSw'
                  go_simp
                simp only [Act.put, List.setIfInBounds_toArray, List.set_cons_zero, List.set_cons_succ]
                refine wpAnyH_take (i := 1) (oi := ⟨some 183, _, _, _, _, _⟩) (v := (.bool true)) rfl (by kernel_rfl) (by kernel_rfl) (by kernel_rfl) (fun _ _ _ h => h) (Or.inl ⟨by rfl, ?_⟩) hSw ?_
                · intro w' hSw'
                  go_simp
                simp only [Act.put, List.setIfInBounds_toArray, List.set_cons_zero, List.set_cons_succ]
                refine wpAnyH_take (i := 2) (oi := ⟨some 184, _, _, _, _, _⟩) (v := (.bool true)) rfl (by kernel_rfl) (by kernel_rfl) (by kernel_rfl) (fun _ _ _ h => h) (Or.inl ⟨by rfl, ?_⟩) hSw ?_
                · intro w' hSw'
                  go_simp
                simp only [Act.put, List.setIfInBounds_toArray, List.set_cons_zero, List.set_cons_succ]
                refine wpAnyH_take (i := 3) (oi := ⟨some 185, _, _, _, _, _⟩) (v := .agg (Z).toArray) rfl (by kernel_rfl) (by kernel_rfl) (by kernel_rfl) (fun _ _ _ h => h) (yieldsIf_load_mid (by rfl) _ _ rfl p23 (0) rfl (Z) _ (fun _ h => (HPP.out _ h.1).rowAll) Try.underlying43 rfl (by rw [HZ68.out]; exact infoHdr)) hSw ?_
                simp only [Act.put, List.setIfInBounds_toArray, List.set_cons_zero, List.set_cons_succ]
                refine wpAnyH_take (i := 5) (oi := ⟨some 187, _, _, _, _, _⟩) (v := (.pointer (some ⟨q, 0, none⟩))) rfl (by kernel_rfl) (by kernel_rfl) (by kernel_rfl) (fun _ _ _ h => h) (Or.inl ⟨by rfl, ?_⟩) hSw ?_
                · intro w' hSw'
                  go_simp
                simp only [Act.put, List.setIfInBounds_toArray, List.set_cons_zero, List.set_cons_succ]
                refine wpAnyH_take (i := 6) (oi := ⟨some 188, _, _, _, _, _⟩) (v := .agg (Z).toArray) rfl (by kernel_rfl) (by kernel_rfl) (by kernel_rfl) (fun _ _ _ h => h) (yieldsIf_load_mid (by rfl) _ _ rfl q (0) rfl (Z) _ (fun _ h => HBB.out _ h.1) Try.underlying43 rfl (by rw [HZ68.out]; exact infoHdr)) hSw ?_
                simp only [Act.put, List.setIfInBounds_toArray, List.set_cons_zero, List.set_cons_succ]
                refine wpAnyH_ready (rs := [4]) (by kernel_rfl) (by simp) (AllReadyH.cons (o := ⟨some 186, _, _, _, _, _⟩) rfl (fun K hK => ?_) AllReadyH.nil)
                go_simp
                go_at_call 32
                refine (ID.out _).mono ?_
                rintro e26 w26 ⟨rfl, a26⟩
                unfold idV
                dsimp only
                refine hK.out _ _ (⟨hSw.1.trans (a26.mono hSw.1.size), trivial⟩) ?_
                intro hSw
                clear hK K
                try simp only [Act.put, List.setIfInBounds_toArray, List.set_cons_zero, List.set_cons_succ]
                refine wpAnyH_ready (rs := [7]) (by kernel_rfl) (by simp) (AllReadyH.cons (o := ⟨some 189, _, _, _, _, _⟩) rfl (fun K hK => ?_) AllReadyH.nil)
                go_simp
                go_at_call 32
                refine (ID.out _).mono ?_
                rintro e27 w27 ⟨rfl, a27⟩
                unfold idV
                dsimp only
                refine hK.out _ _ (⟨hSw.1.trans (a27.mono hSw.1.size), trivial⟩) ?_
                intro hSw
                clear hK K
                try simp only [Act.put, List.setIfInBounds_toArray, List.set_cons_zero, List.set_cons_succ]
                refine wpAnyH_take (i := 8) (oi := ⟨some 190, _, _, _, _, _⟩) (v := (.bool true)) rfl (by kernel_rfl) (by kernel_rfl) (by kernel_rfl) (fun _ _ _ h => h) (Or.inl ⟨by rfl, ?_⟩) hSw ?_
                · intro w' hSw'
                  go_simp
                simp only [Act.put, List.setIfInBounds_toArray, List.set_cons_zero, List.set_cons_succ]
                refine wpAnyH_take (i := 9) (oi := ⟨some 191, _, _, _, _, _⟩) (v := (.bool true)) rfl (by kernel_rfl) (by kernel_rfl) (by kernel_rfl) (fun _ _ _ h => h) (Or.inl ⟨by rfl, ?_⟩) hSw ?_
                · intro w' hSw'
                  go_simp
                simp only [Act.put, List.setIfInBounds_toArray, List.set_cons_zero, List.set_cons_succ]
                refine wpAnyH_take (i := 10) (oi := ⟨some 4, _, _, _, _, _⟩) (v := (.bool true)) rfl (by kernel_rfl) (by kernel_rfl) (by kernel_rfl) (fun _ _ _ h => h) (Or.inl ⟨by rfl, ?_⟩) hSw ?_
                · intro w' hSw'
                  go_simp
                simp only [Act.put, List.setIfInBounds_toArray, List.set_cons_zero, List.set_cons_succ]
                refine wpAnyH_done (by kernel_rfl) ?_ _
                clear heqX
                go_wp2
                go_ret
                rw [← HQ.out]
                exact ⟨rfl, HBL.out.trans ((HG.out.trans (hSw.1.mono HG.out.size)).mono HBL.out.size)⟩
end Go.Proofs.Ytpcombaecbjmfaa
