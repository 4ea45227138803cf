/- TxRoots, walked. -/
import Derived.Test.YtpcombaecbjmfaaMs
import Derived.Test.YtpcombaecbjmfaaTrd
import Derived.Test.YtpcombaecbjmfaaAw
import Derived.Test.YtpcombaecbjmfaaGd
namespace Go.Proofs.Ytpcombaecbjmfaa
open Go.RowKit
set_option maxRecDepth 20000 in
set_option maxHeartbeats 4000000 in
set_option linter.unusedSimpArgs false in
theorem txRoots_any (w : World) (A : Option Addr) (m c : Nat) (txs : List TxT) (ok : Nat → Prop)
    (ht0 : txsSh.rel w ok [.slice A m c] txs) (hm : txs.length = m) :
    Calls Try.prog 6 #[.slice A m c] w fun e w' => e = .returned (.bool true) ∧ Below w.heap.size w w' := by
  have ht := weak_slice weak_tx3 _ _ (fun b => b < w.heap.size) _ _ ht0 (fun b hb _ => hb)
  have HT := Lib.hid (fun W (a : Below w.heap.size w W) => txsSh.below ht a (fun _ h _ => h))
  have HM := Lib.hid hm
  clear ht ht0 hm
  go_enter Try.func6, Try.ntmps6
  go_wp2_with fail
  refine (writes7_any w).mono ?_
  rintro e1 w1 ⟨rfl, a1⟩
  have HBL := Lib.hid a1
  clear a1
  by_cases hm6 : 6 < m
  · have d1 : decide ((6 : Int) < (m : Int)) = true := by simp; omega
    clear hm6
    go_wp2
    go_ret
    exact ⟨rfl, HBL.out⟩
  have d1 : decide ((6 : Int) < (m : Int)) = false := by simp; omega
  have HM6 := Lib.hid (show m ≤ 6 by omega)
  clear hm6
  go_wp2_with fail
  clear d1
  go_loopg [16] m (fun k v16 wr => ∃ (j : Nat), j + k = m ∧ v16 = .int .i64 j ∧ Hid (∀ t ∈ txs.take j, TxFit t) ∧ Hid (Below w.heap.size w wr))
  case atStart => exact ⟨0, by omega, rfl, by simp [Hid], HBL⟩
  case round =>
    clear HBL
    obtain ⟨j, hj, rfl, HC, HBL⟩ := hrel
    by_cases hlt : j < m
    · obtain ⟨b', o, cs, rfl, hb, hcs, hrow⟩ := txs_at (HT.out _ HBL.out) (by rw [HM.out]; exact hlt)
      obtain ⟨ins, outs, A3, A4, c3, c4, het, rfl, hi, ho⟩ := tx_cells hcs
      have HET := Lib.hid het
      have HI := Lib.hid hi
      have HROW := Lib.hid hrow
      obtain ⟨n1, hn1⟩ : ∃ n1, ins.length = n1 := ⟨_, rfl⟩
      obtain ⟨n2, hn2⟩ : ∃ n2, outs.length = n2 := ⟨_, rfl⟩
      rw [hn1] at HI HROW
      rw [hn2] at HROW
      have HN1 := Lib.hid hn1
      have HN2 := Lib.hid hn2
      clear hcs het hi ho hrow hb hn1 hn2
      go_wp2_with (first
        | (with_reducible refine wpList_ld rfl 25 (.tmp 18) rfl b' (o + j * 2) rfl ([.slice A3 n1 c3, .slice A4 n2 c4]) HROW.out _ Try.underlying25 rfl 2 infoTx rfl ?_)
        | (with_reducible refine wpList_stb rfl 25 (.tmp 4) (.tmp 19) rfl wr.heap.size 0 _ rfl rfl 25 _ (Blk.new wr _ _) ?h1 ?h2 ?h3 ?_))
      case h1 => simp
      case h2 => rw [infoTx]; rfl
      case h3 => exact ⟨rfl, rfl⟩
      intro w4 b4 o4
      rw [over_all _ _ (by simp [])] at b4
      have hO4 : Below wr.heap.size wr w4 := (((Only.refl (fun b => wr.heap.size ≤ b) wr).alloc _).trans o4 (fun b _ e => by omega)).below (Nat.le_refl _) (fun b hb h => by omega)
      replace HBL := Lib.hid (HBL.out.trans (hO4.mono HBL.out.size))
      replace HI := Lib.hid (insSh.below HI.out hO4 (fun _ h _ => h))
      have HP := Lib.hid b4
      clear b4 o4 hO4 HROW
      generalize wr.heap.size = p at HP ⊢
      have q0 := HP.out.cell 0
      have q1 := HP.out.cell 1
      simp only [List.getElem?_toArray, List.getElem?_cons_zero, List.getElem?_cons_succ] at q0 q1
      by_cases h4 : 4 < n1
      · have d1 : decide ((4 : Int) < (n1 : Int)) = true := by simp; omega
        clear h4
        go_wp2
        go_ret
        exact ⟨rfl, HBL.out⟩
      have d1 : decide ((4 : Int) < (n1 : Int)) = false := by simp; omega
      by_cases h5 : 4 < n2
      · have d2 : decide ((4 : Int) < (n2 : Int)) = true := by simp; omega
        clear h4 h5
        go_wp2
        go_ret
        exact ⟨rfl, HBL.out⟩
      have d2 : decide ((4 : Int) < (n2 : Int)) = false := by simp; omega
      obtain ⟨fb, hfb⟩ : ∃ fb, fitsB (ins, outs, ()) = fb := ⟨_, rfl⟩
      have HFB := Lib.hid hfb
      clear hfb h4 h5
      go_wp2_with fail
      clear q0 q1 d1 d2
      refine (fits7_any w4 A3 A4 n1 n2 c3 c4 ins outs _ HI.out HN1.out HN2.out).mono ?_
      rintro e5 w5 ⟨rfl, a5⟩
      rw [HFB.out]
      replace HBL := Lib.hid (HBL.out.trans (a5.mono HBL.out.size))
      clear a5
      cases fb with
      | false =>
        go_wp2
        go_ret
        exact ⟨rfl, HBL.out⟩
      | true =>
        have hall : ∀ t ∈ txs.take (j + 1), TxFit t := by
          rw [take_snoc' txs j (by rw [HM.out]; exact hlt)]
          intro t ht
          rcases List.mem_append.1 ht with h | h
          · exact HC.out t h
          · rw [List.mem_singleton.1 h, HET.out]; exact fits_fit HFB.out
        have HA := Lib.hid hall
        clear hall
        have hm6 := HM6.out
        go_wp2
        go_roundg (m - 1 - j)
        case measure => omega
        case rel => exact ⟨j + 1, by omega, by first | rfl | (rw [IntWalk.wrap64_in _ (by omega)]; rfl), HA.out, HBL.out⟩
    · obtain rfl : j = m := by omega
      have hall : ∀ t ∈ txs, TxFit t := by
        have := HC.out
        rwa [List.take_of_length_le (by rw [HM.out]; exact Nat.le_refl _)] at this
      have TR := Lib.hid (tx_root_any j (merkle_any j (by have := HM6.out; omega)) wr A c txs _ (HT.out _ HBL.out) HM.out (fun b hb => by have := HBL.out.size; omega) hall (by have := HM6.out; omega))
      have RR := Lib.hid (fun W (a : Below w.heap.size w W) => rtxroot_any j W A c txs _ (HT.out _ a) HM.out hall (by have := HM6.out; omega))
      have HX := Lib.hid (mroot_len (txs.map fun t => sha2 (txB t)) (fun x hx => by obtain ⟨t, _, rfl⟩ := List.mem_map.1 hx; exact sha_len _))
      obtain ⟨R, hR⟩ : ∃ R, mroot (txs.map fun t => sha2 (txB t)) = R := ⟨_, rfl⟩
      rw [hR] at RR TR HX
      obtain ⟨x, tw⟩ := R
      simp only at RR TR HX
      unfold idV at TR
      clear hall hR hlt hj HC HM
      go_wp2_with fail
      refine TR.out.mono ?_
      rintro e5 w5 ⟨rfl, a5⟩
      replace HBL := Lib.hid (HBL.out.trans (a5.mono HBL.out.size))
      clear a5 TR
      go_wp2_with (with_reducible refine wpList_stb rfl 32 (.tmp 5) (.tmp 39) rfl w5.heap.size 0 _ rfl rfl 32 zeros32 (Blk.new w5 _ _) ?h4 ?h5 ?h6 ?_)
      case h4 => simp [HX.out, zeros32]
      case h5 => rw [infoID]; simp [HX.out]
      case h6 => exact bts_one _
      intro w6 b6 o6
      rw [over_all _ _ (by simp [HX.out, zeros32])] at b6
      have hO6 : Below w5.heap.size w5 w6 := (((Only.refl (fun b => w5.heap.size ≤ b) w5).alloc _).trans o6 (fun b _ e => by omega)).below (Nat.le_refl _) (fun b hb h => by omega)
      replace HBL := Lib.hid (HBL.out.trans (hO6.mono HBL.out.size))
      obtain ⟨p5, hp5⟩ : ∃ p5, w5.heap.size = p5 := ⟨_, rfl⟩
      rw [hp5] at b6 ⊢
      have HB5 := Lib.hid b6
      clear b6 o6 hO6 hp5
      go_wp2_with fail
      refine (RR.out _ HBL.out).mono ?_
      rintro e7 w7 ⟨rfl, a7⟩
      replace HB5 := Lib.hid (HB5.out.below a7 HB5.out.lt)
      replace HBL := Lib.hid (HBL.out.trans (a7.mono HBL.out.size))
      clear a7 RR
      go_wp2_with (with_reducible refine wpList_stb rfl 31 (.tmp 7) (.tmp 44) rfl w7.heap.size 0 _ rfl rfl 31 zeros32 (Blk.new w7 _ _) ?g4 ?g5 ?g6 ?_)
      case g4 => simp [HX.out, zeros32]
      case g5 => rw [infoA32]; simp [HX.out]
      case g6 => exact bts_one _
      intro w8 b8 o8
      rw [over_all _ _ (by simp [HX.out, zeros32])] at b8
      have hO8 : Below w7.heap.size w7 w8 := (((Only.refl (fun b => w7.heap.size ≤ b) w7).alloc _).trans o8 (fun b _ e => by omega)).below (Nat.le_refl _) (fun b hb h => by omega)
      replace HB5 := Lib.hid (HB5.out.below hO8 HB5.out.lt)
      replace HBL := Lib.hid (HBL.out.trans (hO8.mono HBL.out.size))
      obtain ⟨p7, hp7⟩ : ∃ p7, w7.heap.size = p7 := ⟨_, rfl⟩
      rw [hp7] at b8 ⊢
      have HB7 := Lib.hid b8
      clear b8 o8 hO8 hp7
      have heqA : ∀ w', (Op.equalIn 10000 32 (.agg (bts x).toArray) (.agg (bts x).toArray)).run Try.prog w' = .ok true w' := fun w' => by rw [run_eq_id x x HX.out HX.out w']; simp
      have htw : (tw == tw) = true := by simp
      go_wp2_with (first
        | (with_reducible refine wpList_ld rfl 32 (.tmp 5) rfl p5 0 rfl (bts x) HB5.out.rowAll _ Try.underlying32 rfl 32 infoID (by simp [HX.out]) ?_)
        | (with_reducible refine wpList_ld rfl 31 (.tmp 7) rfl p7 0 rfl (bts x) HB7.out.rowAll _ Try.underlying31 rfl 32 infoA32 (by simp [HX.out]) ?_))
      go_wp2
      go_ret
      exact ⟨rfl, HBL.out⟩
end Go.Proofs.Ytpcombaecbjmfaa
