/- law13.keeps. -/
import Derived.Test.YtlngjojibmnmeaaTp
namespace Go.Proofs.Ytlngjojibmnmeaa
open Go.RowKit
def blkV (A : Option Addr) (n c : Nat) : List Value := blkC 0 zid zid 0 0 0 (.slice A n c)
theorem zero_blk (w : World) : (zeroValue 53).run Try.prog w = .ok (.agg (blkC 0 zid zid 0 0 0 (.slice none 0 0)).toArray) w := by show _ = _; kernel_rfl
theorem zid32 : zid.length = 32 := rfl
set_option maxRecDepth 20000 in
set_option maxHeartbeats 16000000 in
set_option linter.unusedSimpArgs false in
theorem keeps_any (w : World) : Calls Try.prog 10 #[] w fun e w' => e = .returned (.bool true) ∧ Below w.heap.size w w' := by
  go_enter Try.func10, Try.ntmps10
  go_upto_region 2 with fail
  generalize hW : World.alloc w _ = W
  have hb1 : Blk W w.heap.size 26 [Value.map none].toArray := by rw [← hW]; exact Blk.new _ _ _
  have hbl : Below w.heap.size w W := by rw [← hW]; exact (Below.refl _ _).alloc (Nat.le_refl _) _
  clear hW
  obtain ⟨gs, hg⟩ : ∃ gs, w.heap.size = gs := ⟨_, rfl⟩
  rw [hg] at hb1 ⊢
  have HG := Lib.hid hg
  have HS := Lib.hid hb1
  have HBL := Lib.hid hbl
  clear hg hb1 hbl
  go_wp2_with fail
  have hgW := HS.out.lt
  refine (mkr_any W 50 [107] [97] (by decide) (by decide)).mono ?_
  rintro e1 w1 ⟨p1, q1, rfl, a1, ri1, ro1⟩
  replace HS := Lib.hid (HS.out.below a1 HS.out.lt)
  replace HBL := Lib.hid (HBL.out.trans (a1.mono HBL.out.size))
  have RI := Lib.hid (weak_slice weak_in13 _ _ (fun b => b ≠ gs ∧ b < w1.heap.size) _ _ ri1 (fun b hb h => ⟨by omega, hb⟩))
  have RO := Lib.hid (weak_slice weak_out13 _ _ (fun b => b ≠ gs ∧ b < w1.heap.size) _ _ ro1 (fun b hb h => ⟨by omega, hb⟩))
  have HGW := Lib.hid (show gs < w1.heap.size from HS.out.lt)
  clear a1 ri1 ro1 hgW
  have hzv := zero_blk
  go_wp2_with (first
    | (refine wpList_bsl rfl 49 1 _ rfl #[(0, .agg #[.slice (some ⟨p1, 0, none⟩) 1 1, .slice (some ⟨q1, 0, none⟩) 1 1])] _ (run_one_tx _ _ w1) (by simp [Act.eval, Act.put]) ?_)
    | (refine wpList_bld rfl 53 _ rfl [(1, .slice (some ⟨w1.heap.size, 0, none⟩) 1 1)] _ (built_blkt _ _ _) (by simp [Act.eval, Act.put]) ?_)
    | (with_reducible refine wpList_stb rfl 53 (.tmp 2) (.tmp 17) rfl (w1.heap.size + 1) 0 _ rfl rfl 53 (blkC 0 zid zid 0 0 0 (.slice none 0 0)) (Blk.newS w1 _ _ _) ?a1 ?a2 ?a3 ?_))
  case a1 => simp [blkC_len _ _ _ _ _ _ _ zid32 zid32]
  case a2 => rw [infoBlk]; simp [blkC_len _ _ _ _ _ _ _ zid32 zid32]
  case a3 => exact blkC_one _ _ _ _ _ _ _ rfl
  intro w2 b2 o2
  rw [over_all _ _ (by simp [blkC_len _ _ _ _ _ _ _ zid32 zid32])] at b2
  have k1 : Blk (w1.alloc (.cells #[.slice (some ⟨p1, 0, none⟩) 1 1, .slice (some ⟨q1, 0, none⟩) 1 1] 41)) w1.heap.size 41 #[.slice (some ⟨p1, 0, none⟩) 1 1, .slice (some ⟨q1, 0, none⟩) 1 1] := Blk.new _ _ _
  have hal : Below w1.heap.size w1 w2 := ((((Only.refl (fun b => w1.heap.size ≤ b) w1).alloc _).alloc _).trans o2 (fun b _ e => by omega)).below (Nat.le_refl _) (fun b hb h => by omega)
  have k2 : Blk w2 w1.heap.size 41 #[.slice (some ⟨p1, 0, none⟩) 1 1, .slice (some ⟨q1, 0, none⟩) 1 1] := (k1.alloc _).only o2 (by omega)
  replace HS := Lib.hid (HS.out.below hal HS.out.lt)
  replace HBL := Lib.hid (HBL.out.trans (hal.mono HBL.out.size))
  have HTX := Lib.hid (show txsSh.rel w2 (fun b => b < w2.heap.size) [.slice (some ⟨w1.heap.size, 0, none⟩) 1 1] [([mkIn [97]], [(50, sha [107], ())], ())] from one_slk k2.rowAll (show w1.heap.size < w2.heap.size from k2.lt) (weak_tx13 _ _ (fun b => b < w2.heap.size) _ _ (tx_rel (insSh.below RI.out hal (fun b hb _ => hb)) (outsSh.below RO.out hal (fun b hb _ => hb))) (fun b hb _ => hb)))
  have HRI2 := Lib.hid (insSh.below RI.out hal (fun b hb _ => hb))
  have HRO2 := Lib.hid (outsSh.below RO.out hal (fun b hb _ => hb))
  have HZ1 := Lib.hid hal.size
  obtain ⟨tb, htb⟩ : ∃ tb, w1.heap.size = tb := ⟨_, rfl⟩
  rw [htb] at b2 k2 HTX ⊢
  have HB := Lib.hid b2
  have HTR := Lib.hid k2
  have HTB := Lib.hid (show w1.heap.size = tb ∧ gs < tb by have := HBL.out.size; have := HG.out; exact ⟨htb, by have := HGW.out; omega⟩)
  have hgs1 := HS.out.lt
  clear b2 k1 k2 o2 hal htb hgs1
  go_wp2_with (with_reducible refine wpList_ld rfl 53 (.tmp 2) rfl (tb + 1) 0 rfl (blkC 0 zid zid 0 0 0 (.slice (some ⟨tb, 0, none⟩) 1 1)) HB.out.rowAll _ Try.underlying53 rfl 69 infoBlk (blkC_len _ _ _ _ _ _ _ zid32 zid32).symm ?_)
  have CC := cconnect_any w2 gs gs none [] 0 0 0 0 zid zid (some ⟨tb, 0, none⟩) 1 1 [([mkIn [97]], [(50, sha [107], ())], ())] 1 50 rfl rfl (Nat.le_of_lt HS.out.lt) HS.out rfl HTX.out rfl (fun t ht => by rw [List.mem_singleton] at ht; rw [ht]; exact kfit1) (by decide)
  have hk1 : connM 1 50 [([mkIn [97]], [(50, sha [107], ())], ())] [] = (kL1, [], 0) := keep1
  rw [hk1] at CC
  refine CC.mono ?_
  clear CC hk1
  rintro e3 w3 ⟨u1, v1, u2, v2, rfl, o3, _, _, pm, hs3, hm3⟩
  replace HB := Lib.hid (HB.out.only o3 (by have := HTB.out; omega))
  replace HTR := Lib.hid (HTR.out.only o3 (by have := HTB.out; omega))
  have HRI3 := Lib.hid (insSh.only HRI2.out o3 (fun b hb h e => h.1 e))
  have HRO3 := Lib.hid (outsSh.only HRO2.out o3 (fun b hb h e => h.1 e))
  replace HBL := Lib.hid (HBL.out.trans (o3.below HBL.out.size (fun b hb e => by have := HG.out; omega)))
  have HGZ := Lib.hid (show gs < w3.heap.size ∧ tb + 1 < w3.heap.size from ⟨hs3.lt, HB.out.lt⟩)
  replace HS := Lib.hid hs3
  have HM := Lib.hid (show MapAt w3 gs pm kL1 from hm3)
  clear o3 hs3 hm3 HTX HRI2 HRO2 RI RO
  rw [show cU (kL1, [], 0) = [] from rfl, show ((kL1, ([] : CoL), (0 : Int)) : CoL × CoL × Int).2.2 = 0 from rfl, List.length_nil]
  go_wp2_with (with_reducible refine wpList_stb rfl 45 (.tmp 3) (.tmp 21) rfl w3.heap.size 0 _ rfl rfl 45 [.slice none 0 0, .slice none 0 0] (Blk.new w3 _ _) ?b1 ?b2 ?b3 ?_)
  case b1 => simp
  case b2 => rw [infoUndo]; rfl
  case b3 => simp [Value.oneCell']
  intro w4 b4 o4
  have hO4 : Below w3.heap.size w3 w4 := (((Only.refl (fun b => w3.heap.size ≤ b) w3).alloc _).trans o4 (fun b _ e => by omega)).below (Nat.le_refl _) (fun b hb h => by omega)
  clear b4 o4
  replace HS := Lib.hid (HS.out.below hO4 HS.out.lt)
  replace HM := Lib.hid (HM.out.new hO4)
  replace HB := Lib.hid (HB.out.below hO4 HB.out.lt)
  replace HTR := Lib.hid (HTR.out.below hO4 HTR.out.lt)
  replace HBL := Lib.hid (HBL.out.trans (hO4.mono HBL.out.size))
  replace HRI3 := Lib.hid (insSh.below HRI3.out hO4 (fun b hb _ => hb))
  replace HRO3 := Lib.hid (outsSh.below HRO3.out hO4 (fun b hb _ => hb))
  clear hO4
  have c68 := blk_cell68 HB.out zid32 zid32
  go_wp2_with (with_reducible refine wpList_ld rfl 41 (.tmp 25) rfl tb 0 rfl [.slice (some ⟨p1, 0, none⟩) 1 1, .slice (some ⟨q1, 0, none⟩) 1 1] HTR.out.rowAll _ Try.underlying41 rfl 2 infoTx rfl ?_)
  clear c68
  refine (tx_id_any w4 _ _ 1 1 1 1 [mkIn [97]] [(50, sha [107], ())] (fun b => b ≠ gs ∧ b < w1.heap.size) HRI3.out HRO3.out rfl rfl (fun b h => by have := HTB.out; have := HTR.out.lt; omega) kfit1).mono ?_
  rintro e5 w5 ⟨rfl, a5⟩
  have hx32 : (txX kT1).length = 32 := sha_len _
  rw [show sha2 (txB ([mkIn [97]], [(50, sha [107], ())], ())) = txX kT1 from rfl]
  have HX32 := Lib.hid hx32
  replace HS := Lib.hid (HS.out.below a5 HS.out.lt)
  replace HM := Lib.hid (HM.out.new a5)
  replace HBL := Lib.hid (HBL.out.trans (a5.mono HBL.out.size))
  clear a5 hx32 HB HTR HRI3 HRO3
  unfold idV
  go_wp2_with (first
    | (refine wpList_bld rfl 31 _ rfl [(0, .agg (bts (txX kT1)).toArray)] _ (built_pt0 _ HX32.out) (by simp [Act.eval, Act.put]) ?_)
    | (with_reducible refine wpList_stb rfl 31 (.tmp 5) (.tmp 28) rfl w5.heap.size 0 _ rfl rfl 31 (ptC zid 0) (Blk.new w5 _ _) ?c1 ?c2 ?c3 ?_))
  case c1 => simp [ptC_len _ _ HX32.out, ptC_len _ _ zid32]
  case c2 => rw [infoPt]; simp [ptC_len _ _ HX32.out]
  case c3 => exact ptC_one _ _
  intro w6 b6 o6
  rw [over_all _ _ (by simp [ptC_len _ _ HX32.out, ptC_len _ _ zid32])] at b6
  have hO6 : Below w5.heap.size w5 w6 := (((Only.refl (fun b => w5.heap.size ≤ b) w5).alloc _).trans o6 (fun b _ e => by omega)).below (Nat.le_refl _) (fun b hb h => by omega)
  replace HS := Lib.hid (HS.out.below hO6 HS.out.lt)
  replace HM := Lib.hid (HM.out.new hO6)
  replace HBL := Lib.hid (HBL.out.trans (hO6.mono HBL.out.size))
  have HP5 := Lib.hid b6
  obtain ⟨p5, hp5⟩ : ∃ p5, w5.heap.size = p5 := ⟨_, rfl⟩
  rw [hp5] at HP5 ⊢
  clear b6 o6 hO6 hp5 hzv
  obtain ⟨x1, hx1⟩ : ∃ x1, txX kT1 = x1 := ⟨_, rfl⟩
  rw [hx1] at HX32 HP5 ⊢
  have HX1 := Lib.hid hx1
  clear hx1
  go_upto_region 5 with fail
  obtain ⟨B, hB⟩ : ∃ B, w6.heap.size = B := ⟨_, rfl⟩
  have HBZ := Lib.hid hB
  refine wp_region_sets 12 (by kernel_rfl) (by decide) (by kernel_rfl) (by kernel_rfl) (by kernel_rfl) (Fz B) (Fz.refl _ _) (fun _ _ h k => h.trans k) (fun i v w' => match i with
    | 0 => ∃ p q : Nat, v = .agg #[.slice (some ⟨p, 0, none⟩) 1 1, .slice (some ⟨q, 0, none⟩) 1 1] ∧ TxP B w' p q zid 4294967295 [98] 52 (sha [107])
    | 1 => v = .agg (ptC x1 0).toArray
    | 2 => ∃ N fr, v = .slice (some ⟨N, 0, none⟩) 1 1 ∧ B ≤ N ∧ w'.heap[N]? = some (Obj.cells #[.int .u8 107] 5 fr)
    | 3 => ∃ N : Nat, v = .slice (some ⟨N, 0, none⟩) 1 1 ∧ KyP B w' N 1 1 [107]
    | 4 => ∃ N : Nat, v = .agg (inC x1 0 (.slice (some ⟨N, 0, none⟩) 1 1)).toArray ∧ KyP B w' N 1 1 [107]
    | 5 => ∃ N K : Nat, v = .slice (some ⟨N, 0, none⟩) 1 1 ∧ KyP B w' K 1 1 [107] ∧ B ≤ N ∧ Blk w' N 34 (inC x1 0 (.slice (some ⟨K, 0, none⟩) 1 1)).toArray
    | 6 => v = .agg (outC 48 zid).toArray
    | 7 => ∃ N : Nat, v = .slice (some ⟨N, 0, none⟩) 1 1 ∧ B ≤ N ∧ Blk w' N 38 (outC 48 zid).toArray
    | 8 => ∃ p q : Nat, v = .agg #[.slice (some ⟨p, 0, none⟩) 1 1, .slice (some ⟨q, 0, none⟩) 1 1] ∧ TxP B w' p q x1 0 [107] 48 zid
    | 9 => ∃ N p q p' q' : Nat, v = .slice (some ⟨N, 0, none⟩) 2 2 ∧ B ≤ N ∧ Blk w' N 41 #[.slice (some ⟨p, 0, none⟩) 1 1, .slice (some ⟨q, 0, none⟩) 1 1, .slice (some ⟨p', 0, none⟩) 1 1, .slice (some ⟨q', 0, none⟩) 1 1] ∧ TxP B w' p q zid 4294967295 [98] 52 (sha [107]) ∧ TxP B w' p' q' x1 0 [107] 48 zid
    | 10 => ∃ N p q p' q' : Nat, v = .agg (blkC 0 zid zid 0 0 0 (.slice (some ⟨N, 0, none⟩) 2 2)).toArray ∧ B ≤ N ∧ Blk w' N 41 #[.slice (some ⟨p, 0, none⟩) 1 1, .slice (some ⟨q, 0, none⟩) 1 1, .slice (some ⟨p', 0, none⟩) 1 1, .slice (some ⟨q', 0, none⟩) 1 1] ∧ TxP B w' p q zid 4294967295 [98] 52 (sha [107]) ∧ TxP B w' p' q' x1 0 [107] 48 zid
    | 11 => ∃ N : Nat, v = .pointer (some ⟨N, 0, none⟩) ∧ B ≤ N ∧ Blk w' N 53 (blkC 0 zid zid 0 0 0 (.slice none 0 0)).toArray
    | _ => True) ?hV ?hs ?hf
  case hV =>
    intro i v wa wb h f
    match i, h with
    | 0, ⟨p, q, h1, h2⟩ => exact ⟨p, q, h1, h2.fz f⟩
    | 1, h => exact h
    | 2, ⟨N, fr, h1, h2, h3⟩ =>
      obtain ⟨fr', h4⟩ := f.u8 N _ fr h3
      exact ⟨N, fr', h1, h2, h4⟩
    | 3, ⟨N, h1, h2⟩ => exact ⟨N, h1, h2.fz f⟩
    | 4, ⟨N, h1, h2⟩ => exact ⟨N, h1, h2.fz f⟩
    | 5, ⟨N, K, h1, h2, h3, h4⟩ => exact ⟨N, K, h1, h2.fz f, h3, f.blk _ _ _ (by decide) h4⟩
    | 6, h => exact h
    | 7, ⟨N, h1, h2, h3⟩ => exact ⟨N, h1, h2, f.blk _ _ _ (by decide) h3⟩
    | 8, ⟨p, q, h1, h2⟩ => exact ⟨p, q, h1, h2.fz f⟩
    | 9, ⟨N, p, q, p', q', h1, h2, h3, h4, h5⟩ => exact ⟨N, p, q, p', q', h1, h2, f.blk _ _ _ (by decide) h3, h4.fz f, h5.fz f⟩
    | 10, ⟨N, p, q, p', q', h1, h2, h3, h4, h5⟩ => exact ⟨N, p, q, p', q', h1, h2, f.blk _ _ _ (by decide) h3, h4.fz f, h5.fz f⟩
    | 11, ⟨N, h1, h2, h3⟩ => exact ⟨N, h1, h2, f.blk N _ _ (by decide) h3⟩
    | _ + 12, _ => trivial
  case hs =>
    intro i o ho x w' hw hd K hK
    have hBw : B ≤ w'.heap.size := by have h1 := hw.size; have h2 := HBZ.out; have h3 : w6.drew.heap.size = w6.heap.size := rfl; omega
    rcases i with _ | i
    · obtain rfl := Option.some.inj (show some _ = some o from ho)
      clear ho
      generalize hfr : frameOf _ _ _ _ = fr at hK ⊢
      clear hfr
      go_simp
      go_at_call 14
      refine (mkr_any2 w' 52 [107] [98] (by decide) (by decide)).mono ?_
      rintro e ww ⟨p, q, rfl, a, hex⟩
      exact hK _ _ (Fz.of_below hBw a) ⟨p, q, rfl, TxP.of_mkr hBw hex⟩
    rcases i with _ | i
    · obtain rfl := Option.some.inj (show some _ = some o from ho)
      clear ho
      generalize hfr : frameOf _ _ _ _ = fr at hK ⊢
      have e5 : fr.eval (.tmp 5) = .pointer (some ⟨p5, 0, none⟩) := by rw [← hfr]; kernel_rfl
      exact wp_load_mid 31 (.tmp 5) rfl p5 0 e5 (ptC x1 0) _ ((HP5.out.drew.below hw.below (by have := HBZ.out; have := HP5.out.lt; omega)).rowAll) Try.underlying31 rfl (by rw [infoPt, ptC_len _ _ HX32.out]) (hK _ _ (Fz.refl _ _) rfl)
    rcases i with _ | i
    · obtain rfl := Option.some.inj (show some _ = some o from ho)
      clear ho
      generalize hfr : frameOf _ _ _ _ = fr at hK ⊢
      refine step_val (exec_bslc rfl (run_one_u8 107 w') (by simp [Act.eval])) (hK _ _ (Fz.of_below hBw ((Below.refl _ _).alloc (Nat.le_refl _) _)) ⟨w'.heap.size, (0, 0), rfl, hBw, heap_alloc_new _ _⟩)
    rcases i with _ | i
    · obtain rfl := Option.some.inj (show some _ = some o from ho)
      clear ho
      generalize hfr : frameOf _ _ _ _ = fr at hK ⊢
      have e31 : fr.eval (.tmp 31) = x 2 := by rw [← hfr]; kernel_rfl
      obtain ⟨N, fr0, hx2, hN, hb⟩ := hd 2 (by kernel_rfl)
      obtain ⟨w2', hrun, hfz⟩ := mark_any w' B N 1 1 _ fr0 hb hN
      obtain ⟨fr1, hb1⟩ := hfz.u8 N _ fr0 hb
      refine step_val (exec_conv rfl (e31.trans hx2) hrun) (hK _ _ hfz ⟨N, rfl, _, fr1, hN, ⟨_, _, _, rfl, rfl, Nat.le_refl _, rfl, fun _ => ⟨N, 0, rfl, rfl, ?_⟩⟩, hb1⟩)
      intro j u hj
      refine hfz.cel _ _ ?_
      match j, hj with
      | 0, hj => rw [← hj]; exact cell_of_row _ _ _ _ _ _ hb
    rcases i with _ | i
    · obtain rfl := Option.some.inj (show some _ = some o from ho)
      clear ho
      generalize hfr : frameOf _ _ _ _ = fr at hK ⊢
      have e30 : fr.eval (.tmp 30) = x 1 := by rw [← hfr]; kernel_rfl
      have e32 : fr.eval (.tmp 32) = x 3 := by rw [← hfr]; kernel_rfl
      have hx1' : x 1 = .agg (ptC x1 0).toArray := hd 1 (by kernel_rfl)
      obtain ⟨N, hx3, hb⟩ := hd 3 (by kernel_rfl)
      exact step_val (exec_buildc rfl (l := [(0, .agg (ptC x1 0).toArray), (1, .slice (some ⟨N, 0, none⟩) 1 1)]) (by simp [e30, e32, hx1', hx3]) (built_inp x1 0 _ _ _ HX32.out)) (hK _ _ (Fz.refl _ _) ⟨N, rfl, hb⟩)
    rcases i with _ | i
    · obtain rfl := Option.some.inj (show some _ = some o from ho)
      clear ho
      generalize hfr : frameOf _ _ _ _ = fr at hK ⊢
      have e33 : fr.eval (.tmp 33) = x 4 := by rw [← hfr]; kernel_rfl
      obtain ⟨N, hx4, hb⟩ := hd 4 (by kernel_rfl)
      have ha : Below w'.heap.size w' (w'.alloc (.cells (inC x1 0 (.slice (some ⟨N, 0, none⟩) 1 1)).toArray 34)) := (Below.refl _ _).alloc (Nat.le_refl _) _
      exact step_val (exec_bslc rfl (run_one_in x1 0 _ _ _ HX32.out w') (by simp [e33, hx4])) (hK _ _ (Fz.of_below hBw ha) ⟨w'.heap.size, N, rfl, hb.fz (Fz.of_below hBw ha), hBw, Blk.new _ _ _⟩)
    rcases i with _ | i
    · obtain rfl := Option.some.inj (show some _ = some o from ho)
      clear ho
      generalize hfr : frameOf _ _ _ _ = fr at hK ⊢
      exact step_val (exec_buildc rfl (l := [(0, .int .i64 48)]) (by simp [Act.eval]) (built_outa 48)) (hK _ _ (Fz.refl _ _) rfl)
    rcases i with _ | i
    · obtain rfl := Option.some.inj (show some _ = some o from ho)
      clear ho
      generalize hfr : frameOf _ _ _ _ = fr at hK ⊢
      have e35 : fr.eval (.tmp 35) = x 6 := by rw [← hfr]; kernel_rfl
      have hx6 : x 6 = .agg (outC 48 zid).toArray := hd 6 (by kernel_rfl)
      have ha : Below w'.heap.size w' (w'.alloc (.cells (outC 48 zid).toArray 38)) := (Below.refl _ _).alloc (Nat.le_refl _) _
      exact step_val (exec_bslc rfl (run_one_out 48 zid rfl w') (by simp [e35, hx6])) (hK _ _ (Fz.of_below hBw ha) ⟨w'.heap.size, rfl, hBw, Blk.new _ _ _⟩)
    rcases i with _ | i
    · obtain rfl := Option.some.inj (show some _ = some o from ho)
      clear ho
      generalize hfr : frameOf _ _ _ _ = fr at hK ⊢
      have e34 : fr.eval (.tmp 34) = x 5 := by rw [← hfr]; kernel_rfl
      have e36 : fr.eval (.tmp 36) = x 7 := by rw [← hfr]; kernel_rfl
      obtain ⟨N, K0, hx5, hky, hN, hi⟩ := hd 5 (by kernel_rfl)
      obtain ⟨M, hx7, hM, hoo⟩ := hd 7 (by kernel_rfl)
      exact step_val (exec_buildc rfl (l := [(0, .slice (some ⟨N, 0, none⟩) 1 1), (1, .slice (some ⟨M, 0, none⟩) 1 1)]) (by simp [e34, e36, hx5, hx7]) (built_txk _ _ _ _ _ _)) (hK _ _ (Fz.refl _ _) ⟨N, M, rfl, K0, 1, 1, hky, hN, hM, hi, hoo⟩)
    rcases i with _ | i
    · obtain rfl := Option.some.inj (show some _ = some o from ho)
      clear ho
      generalize hfr : frameOf _ _ _ _ = fr at hK ⊢
      have e29 : fr.eval (.tmp 29) = x 0 := by rw [← hfr]; kernel_rfl
      have e37 : fr.eval (.tmp 37) = x 8 := by rw [← hfr]; kernel_rfl
      obtain ⟨p, q, hx0, hi⟩ := hd 0 (by kernel_rfl)
      obtain ⟨N, M, hx8, hi2⟩ := hd 8 (by kernel_rfl)
      have ha : Below w'.heap.size w' (w'.alloc (.cells #[.slice (some ⟨p, 0, none⟩) 1 1, .slice (some ⟨q, 0, none⟩) 1 1, .slice (some ⟨N, 0, none⟩) 1 1, .slice (some ⟨M, 0, none⟩) 1 1] 41)) := (Below.refl _ _).alloc (Nat.le_refl _) _
      have hb4 : Blk (w'.alloc (.cells #[.slice (some ⟨p, 0, none⟩) 1 1, .slice (some ⟨q, 0, none⟩) 1 1, .slice (some ⟨N, 0, none⟩) 1 1, .slice (some ⟨M, 0, none⟩) 1 1] 41)) w'.heap.size 41 #[.slice (some ⟨p, 0, none⟩) 1 1, .slice (some ⟨q, 0, none⟩) 1 1, .slice (some ⟨N, 0, none⟩) 1 1, .slice (some ⟨M, 0, none⟩) 1 1] := Blk.new _ _ _
      exact step_val (exec_bslc rfl (run_two_tx _ _ _ _ w') (by simp [e29, e37, hx0, hx8])) (hK _ _ (Fz.of_below hBw ha) ⟨w'.heap.size, p, q, N, M, rfl, hBw, hb4, hi.fz (Fz.of_below hBw ha), hi2.fz (Fz.of_below hBw ha)⟩)
    rcases i with _ | i
    · obtain rfl := Option.some.inj (show some _ = some o from ho)
      clear ho
      generalize hfr : frameOf _ _ _ _ = fr at hK ⊢
      have e38 : fr.eval (.tmp 38) = x 9 := by rw [← hfr]; kernel_rfl
      obtain ⟨N, p, q, p', q', hx9, h1, h2, h3, h4⟩ := hd 9 (by kernel_rfl)
      exact step_val (exec_buildc rfl (l := [(1, .slice (some ⟨N, 0, none⟩) 2 2)]) (by simp [e38, hx9]) (built_blkt _ _ _)) (hK _ _ (Fz.refl _ _) ⟨N, p, q, p', q', rfl, h1, h2, h3, h4⟩)
    rcases i with _ | i
    · obtain rfl := Option.some.inj (show some _ = some o from ho)
      clear ho
      generalize hfr : frameOf _ _ _ _ = fr at hK ⊢
      exact step_val (v := .pointer (some ⟨w'.heap.size, 0, none⟩)) (w' := w'.alloc (.cells (blkC 0 zid zid 0 0 0 (.slice none 0 0)).toArray 53)) (by show _ = _; kernel_rfl) (hK _ _ (Fz.of_below hBw ((Below.refl _ _).alloc (Nat.le_refl _) _)) ⟨w'.heap.size, rfl, hBw, Blk.new _ _ _⟩)
    exfalso
    have : i + 12 < 12 := by
      have h1 := (List.getElem?_eq_some_iff.1 ho).1
      simpa using h1
    omega
  case hf =>
    intro x w7 hw hall
    obtain ⟨N, p, q, p', q', hx10, hN, hbN, ht1, ht2⟩ := hall 10 (by decide)
    obtain ⟨M, hx11, hM, hbM⟩ := hall 11 (by decide)
    have hB7 := hw.below
    have hBB := HBZ.out
    have HS7 := Lib.hid (HS.out.drew.below hB7 (by have := HS.out.lt; omega))
    have HM7 := Lib.hid (show MapAt w7 gs pm kL1 from MapAt.only (show MapAt w6.drew gs pm kL1 from HM.out) (Only.of_below hB7) (fun b hb => by
      have h7 := HM.out
      subst hb
      have := h7.2.lt
      omega))
    have HP7 := Lib.hid (HP5.out.drew.below hB7 (by have := HP5.out.lt; omega))
    have HF7 := Lib.hid (HBL.out.trans (show Below w.heap.size w6 w7 from ⟨hB7.os, hB7.tape, hB7.output, hB7.size, fun k hk => hB7.block k (by have := HBL.out.size; omega)⟩))
    have HMB := Lib.hid (show gs < B ∧ p5 < B ∧ B ≤ M ∧ gs ≠ p5 by have h7 := Blk.ne_ HS.out HP5.out (by decide); have := HS.out.lt; have := HP5.out.lt; omega)
    have HBM := Lib.hid hbM
    have HBN := Lib.hid hbN
    have HNB := Lib.hid hN
    have HT1 := Lib.hid ht1
    have HT2 := Lib.hid ht2
    clear hall ht1 ht2 hN hbN hbM hM hB7 hBB HS HP5 HBL hw
    simp only [List.take_succ_cons, List.take_zero, List.drop_succ_cons, List.drop_zero, frameOf, Act.put, List.setIfInBounds_toArray, List.set_cons_zero, List.set_cons_succ, Nat.zero_add, Nat.reduceAdd, hx10, hx11]
    clear hx10 hx11
    go_wp2_with (with_reducible refine wpList_stb rfl 53 (.tmp 6) (.tmp 39) rfl M 0 _ rfl rfl 53 (blkC 0 zid zid 0 0 0 (.slice none 0 0)) HBM.out ?d1 ?d2 ?d3 ?_)
    case d1 => simp [blkC_len _ _ _ _ _ _ _ zid32 zid32]
    case d2 => rw [infoBlk]; simp [blkC_len _ _ _ _ _ _ _ zid32 zid32]
    case d3 => exact blkC_one _ _ _ _ _ _ _ rfl
    intro w8 b8 o8
    rw [over_all _ _ (by simp [blkC_len _ _ _ _ _ _ _ zid32 zid32])] at b8
    have hMl := HBM.out.lt
    have HT18 := Lib.hid (HT1.out.only HBM.out o8)
    have HT28 := Lib.hid (HT2.out.only HBM.out o8)
    have HN8 := Lib.hid (HBN.out.only o8 (fun e => Blk.ne_ HBN.out HBM.out (by decide) e))
    have HS8 := Lib.hid (HS7.out.only o8 (by have := HMB.out; omega))
    have HP8 := Lib.hid (HP7.out.only o8 (by have := HMB.out; omega))
    have HM8 := Lib.hid (MapAt.only HM7.out o8 (fun b hb => by
      have h7 := HM.out
      subst hb
      have := h7.2.lt
      have := HMB.out
      have := HBZ.out
      omega))
    have HF8 := Lib.hid (HF7.out.trans (o8.below HF7.out.size (fun b hb e => by have := HMB.out; have := HG.out; omega)))
    have HB8 := Lib.hid b8
    have HTX := Lib.hid (show txsSh.rel w8 (fun b => B ≤ b ∧ b < w8.heap.size) [.slice (some ⟨N, 0, none⟩) 2 2] [([mkIn [98]], [(52, sha [107], ())], ()), ([((x1, ((0 : Nat) : Int), ()), [107], ())], [(48, zid, ())], ())] from
      two_slk (cs := [.slice (some ⟨p, 0, none⟩) 1 1, .slice (some ⟨q, 0, none⟩) 1 1]) (ds := [.slice (some ⟨p', 0, none⟩) 1 1, .slice (some ⟨q', 0, none⟩) 1 1]) HN8.out.rowAll ⟨HNB.out, HN8.out.lt⟩ (HT18.out.rel rfl (by decide) (sha_len _) (by decide)) (HT28.out.rel HX32.out (by decide) rfl (by decide)))
    clear b8 o8 hMl HS7 HM7 HP7 HF7 HBM HBN HNB HT1 HT2 HT18 HT28 HN8 HM
    go_wp2_with (with_reducible refine wpList_ld rfl 53 (.tmp 6) rfl M 0 rfl (blkC 0 zid zid 0 0 0 (.slice (some ⟨N, 0, none⟩) 2 2)) HB8.out.rowAll _ Try.underlying53 rfl 69 infoBlk (blkC_len _ _ _ _ _ _ _ zid32 zid32).symm ?_)
    have hfit : ∀ t ∈ [([mkIn [98]], [((52 : Int), sha [107], ())], ()), ([((x1, ((0 : Nat) : Int), ()), [107], ())], [((48 : Int), zid, ())], ())], TxFit t := fun t ht => by
      rcases List.mem_cons.1 ht with h | h
      · rw [h]; exact kfit2
      · rw [List.mem_singleton.1 h, ← HX1.out]; exact kfit3
    have CC := cconnect_any w8 gs gs pm kL1 0 0 0 0 zid zid (some ⟨N, 0, none⟩) 2 2 _ 2 50 rfl rfl (Nat.le_of_lt HS8.out.lt) HS8.out HM8.out (weak_slice weak_tx13 _ _ (fun b => b < w8.heap.size) _ _ HTX.out (fun b _ h => h.2)) rfl hfit (by decide)
    have hk2 : connM 2 50 [([mkIn [98]], [((52 : Int), sha [107], ())], ()), ([((x1, ((0 : Nat) : Int), ()), [107], ())], [((48 : Int), zid, ())], ())] kL1 = (kL2, kU2, 0) := by rw [← HX1.out]; exact keep2
    rw [hk2] at CC
    refine CC.mono ?_
    clear CC hk2
    rintro e9 w9 ⟨A1, c1, A2, c2, rfl, o9, hr1, hr2, pm2, hs9, hm9⟩
    rw [show cU (kL2, kU2, 0) = kU2 from rfl] at hr1 hr2 ⊢
    rw [show ((kL2, kU2, (0 : Int)) : CoL × CoL × Int).2.2 = 0 from rfl, show kU2.length = 1 from rfl]
    have HR1 := Lib.hid (show w9.ownsRow w8.heap.size 31 33 (.slice A1 1 c1) 1 (ptsC kU2) from hr1)
    have HR2 := Lib.hid (show w9.ownsRow w8.heap.size 73 34 (.slice A2 1 c2) 1 (cosC kU2) from hr2)
    have HS9 := Lib.hid hs9
    have HM9 := Lib.hid (show MapAt w9 gs pm2 kL2 from hm9)
    have HP9 := Lib.hid (HP8.out.only o9 (by have := HMB.out; omega))
    have HB9 := Lib.hid (HB8.out.only o9 (by have := HMB.out; omega))
    have HTX9 := Lib.hid (txsSh.only HTX.out o9 (fun b _ h e => by have := h.1; have := HMB.out; omega))
    have HF9 := Lib.hid (HF8.out.trans (o9.below HF8.out.size (fun b hb e => by have := HG.out; omega)))
    have HZ9 := Lib.hid o9.size
    clear hr1 hr2 hs9 hm9 o9 HS8 HM8 HP8 HB8 HTX HF8
    go_wp2_with (with_reducible refine wpList_stb rfl 45 (.tmp 7) (.tmp 43) rfl w9.heap.size 0 _ rfl rfl 45 [.slice none 0 0, .slice none 0 0] (Blk.new w9 _ _) ?f1 ?f2 ?f3 ?_)
    case f1 => simp
    case f2 => rw [infoUndo]; rfl
    case f3 => simp [Value.oneCell']
    intro wa ba oa
    rw [over_all _ _ (by simp)] at ba
    have hOa : Below w9.heap.size w9 wa := (((Only.refl (fun b => w9.heap.size ≤ b) w9).alloc _).trans oa (fun b _ e => by omega)).below (Nat.le_refl _) (fun b hb h => by omega)
    replace HR1 := Lib.hid (own_only HR1.out (Only.of_new hOa (fun _ => False)) (fun _ _ h => h))
    replace HR2 := Lib.hid (own_only HR2.out (Only.of_new hOa (fun _ => False)) (fun _ _ h => h))
    replace HS9 := Lib.hid (HS9.out.below hOa HS9.out.lt)
    replace HM9 := Lib.hid (HM9.out.new hOa)
    replace HP9 := Lib.hid (HP9.out.below hOa HP9.out.lt)
    replace HB9 := Lib.hid (HB9.out.below hOa HB9.out.lt)
    replace HTX9 := Lib.hid (txsSh.below HTX9.out hOa (fun b hb _ => hb))
    replace HF9 := Lib.hid (HF9.out.trans (hOa.mono HF9.out.size))
    have HUN := Lib.hid (show Blk wa w9.heap.size 45 [Value.slice A1 1 c1, Value.slice A2 1 c2].toArray from ba)
    obtain ⟨p7, hp7⟩ : ∃ p7, w9.heap.size = p7 := ⟨_, rfl⟩
    rw [hp7] at HUN ⊢
    clear ba oa hOa
    go_wp2_with (with_reducible refine wpList_ld rfl 31 (.tmp 5) rfl p5 0 rfl (ptC x1 0) HP9.out.rowAll _ Try.underlying31 rfl 33 infoPt (ptC_len _ _ HX32.out).symm ?_)
    have hok5 : PtOk (x1, 0) := ⟨HX32.out, show 0 < 4294967296 by decide⟩
    have G1 := cget_any wa gs gs pm2 kL2 x1 0 hok5 HS9.out HM9.out
    have hk3 : getC kL2 (x1, 0) = none := by rw [← HX1.out]; exact keep3
    rw [hk3] at G1
    refine G1.mono ?_
    clear G1 hk3
    rintro ea wb ⟨rfl, ab⟩
    replace HR1 := Lib.hid (own_only HR1.out (Only.of_new ab (fun _ => False)) (fun _ _ h => h))
    replace HR2 := Lib.hid (own_only HR2.out (Only.of_new ab (fun _ => False)) (fun _ _ h => h))
    replace HS9 := Lib.hid (HS9.out.below ab HS9.out.lt)
    replace HM9 := Lib.hid (HM9.out.new ab)
    replace HP9 := Lib.hid (HP9.out.below ab HP9.out.lt)
    replace HB9 := Lib.hid (HB9.out.below ab HB9.out.lt)
    replace HUN := Lib.hid (HUN.out.below ab HUN.out.lt)
    replace HTX9 := Lib.hid (txsSh.below HTX9.out ab (fun b hb _ => hb))
    replace HF9 := Lib.hid (HF9.out.trans (ab.mono HF9.out.size))
    clear ab
    go_wp2_with (with_reducible refine wpList_stb rfl 73 (.tmp 9) (.tmp 48) rfl wb.heap.size 0 _ rfl rfl 73 (coinC zeroCo) (Blk.new wb _ _) ?g1 ?g2 ?g3 ?_)
    case g1 => simp [coinC_len _ (show (orZero none).2.1.length = 32 from rfl)]; decide
    case g2 => rw [infoCo]; simp [coinC_len _ (show (orZero none).2.1.length = 32 from rfl)]
    case g3 => exact coinC_one _
    intro wc bc oc
    have hOc : Below wb.heap.size wb wc := (((Only.refl (fun b => wb.heap.size ≤ b) wb).alloc _).trans oc (fun b _ e => by omega)).below (Nat.le_refl _) (fun b hb h => by omega)
    clear bc oc
    replace HR1 := Lib.hid (own_only HR1.out (Only.of_new hOc (fun _ => False)) (fun _ _ h => h))
    replace HR2 := Lib.hid (own_only HR2.out (Only.of_new hOc (fun _ => False)) (fun _ _ h => h))
    replace HS9 := Lib.hid (HS9.out.below hOc HS9.out.lt)
    replace HM9 := Lib.hid (HM9.out.new hOc)
    replace HP9 := Lib.hid (HP9.out.below hOc HP9.out.lt)
    replace HB9 := Lib.hid (HB9.out.below hOc HB9.out.lt)
    replace HUN := Lib.hid (HUN.out.below hOc HUN.out.lt)
    replace HTX9 := Lib.hid (txsSh.below HTX9.out hOc (fun b hb _ => hb))
    replace HF9 := Lib.hid (HF9.out.trans (hOc.mono HF9.out.size))
    obtain ⟨p9, hp9⟩ : ∃ p9, wb.heap.size = p9 := ⟨_, rfl⟩
    rw [hp9]
    clear hOc hp9
    go_wp2_with fail
    refine (clen_any wc gs gs pm2 kL2 HS9.out HM9.out).mono ?_
    rintro ec wc' ⟨rfl, rfl⟩
    rw [show ((kL2.length : Nat) : Int) = 2 from rfl]
    go_wp2_with (first
      | (with_reducible refine wpList_ld rfl 53 (.tmp 6) rfl M 0 rfl (blkC 0 zid zid 0 0 0 (.slice (some ⟨N, 0, none⟩) 2 2)) HB9.out.rowAll _ Try.underlying53 rfl 69 infoBlk (blkC_len _ _ _ _ _ _ _ zid32 zid32).symm ?_)
      | (with_reducible refine wpList_ld rfl 45 (.tmp 7) rfl p7 0 rfl [.slice A1 1 c1, .slice A2 1 c2] HUN.out.rowAll _ Try.underlying45 rfl 2 infoUndo rfl ?_))
    have DC := disc_any wc' gs gs pm2 kL2 0 0 0 0 zid zid (some ⟨N, 0, none⟩) 2 2 [([mkIn [98]], [((52 : Int), sha [107], ())], ()), ([((x1, ((0 : Nat) : Int), ()), [107], ())], [((48 : Int), zid, ())], ())] A1 A2 c1 c2 1 kU2 rfl rfl HS9.out HM9.out (Nat.le_of_lt HS9.out.lt) (weak_slice weak_tx13 _ _ (fun b => b < wc'.heap.size) _ _ HTX9.out (fun b hb _ => hb)) rfl hfit (by decide) (by decide)
      ((Sl.of_own HR1.out).weak (fun b hb _ => hb) (by decide)) ((Sl.of_own HR2.out).weak (fun b hb _ => hb) (by decide)) rfl (fun y hy => by
        have h9 : y = ((txX kT1, 0), (50, sha [107], 1)) := by simpa [kU2] using hy
        rw [h9]
        exact ⟨⟨sha_len _, by decide⟩, sha_len _, by decide, by decide⟩) rfl
    have hk4 : discM [([mkIn [98]], [((52 : Int), sha [107], ())], ()), ([((x1, ((0 : Nat) : Int), ()), [107], ())], [((48 : Int), zid, ())], ())] kU2 kL2 = kL1 := by rw [← HX1.out]; exact keep4
    rw [hk4] at DC
    refine DC.mono ?_
    clear DC hk4
    rintro ed wd ⟨rfl, od, pm3, hsd, hmd⟩
    have HSD := Lib.hid hsd
    have HMD := Lib.hid hmd
    have HPD := Lib.hid (HP9.out.only od (by have := HMB.out; omega))
    have HUD := Lib.hid (HUN.out.only od (fun e => Blk.ne_ HUN.out HS9.out (by decide) e))
    have HFD := Lib.hid (HF9.out.trans (od.below HF9.out.size (fun b hb e => by have := HG.out; omega)))
    clear od hsd hmd HR1 HR2 HS9 HM9 HP9 HB9 HUN HTX9 HF9
    go_wp2_with (with_reducible refine wpList_ld rfl 31 (.tmp 5) rfl p5 0 rfl (ptC x1 0) HPD.out.rowAll _ Try.underlying31 rfl 33 infoPt (ptC_len _ _ HX32.out).symm ?_)
    have G2 := cget_any wd gs gs pm3 kL1 x1 0 hok5 HSD.out HMD.out
    have hk5 : getC kL1 (x1, 0) = some (50, sha [107], 1) := by rw [← HX1.out]; exact keep5
    rw [hk5] at G2
    refine G2.mono ?_
    clear G2 hk5
    rintro ee we ⟨rfl, ae⟩
    have hs32 : (sha [107]).length = 32 := sha_len _
    have HS32 := Lib.hid hs32
    obtain ⟨K, hK⟩ : ∃ K, sha [107] = K := ⟨_, rfl⟩
    rw [show (orZero (some (50, sha [107], 1)) : CoT) = (50, K, 1) by rw [← hK]; rfl]
    rw [hK] at HS32
    replace HSD := Lib.hid (HSD.out.below ae HSD.out.lt)
    replace HMD := Lib.hid (HMD.out.new ae)
    replace HUD := Lib.hid (HUD.out.below ae HUD.out.lt)
    replace HFD := Lib.hid (HFD.out.trans (ae.mono HFD.out.size))
    clear ae hs32 hK
    go_wp2_with (with_reducible refine wpList_stb rfl 73 (.tmp 13) (.tmp 57) rfl we.heap.size 0 _ rfl rfl 73 (coinC zeroCo) (Blk.new we _ _) ?h1 ?h2 ?h3 ?_)
    case h1 => simp [coinC_len (50, K, 1) HS32.out]; decide
    case h2 => rw [infoCo]; simp [coinC_len (50, K, 1) HS32.out]
    case h3 => exact coinC_one _
    intro wf bf of'
    rw [over_all _ _ (by simp [coinC_len (50, K, 1) HS32.out]; decide)] at bf
    have hOf : Below we.heap.size we wf := (((Only.refl (fun b => we.heap.size ≤ b) we).alloc _).trans of' (fun b _ e => by omega)).below (Nat.le_refl _) (fun b hb h => by omega)
    replace HSD := Lib.hid (HSD.out.below hOf HSD.out.lt)
    replace HMD := Lib.hid (HMD.out.new hOf)
    replace HUD := Lib.hid (HUD.out.below hOf HUD.out.lt)
    replace HFD := Lib.hid (HFD.out.trans (hOf.mono HFD.out.size))
    have ca := co_amt bf
    have ch : wf.cell? ⟨we.heap.size, 33, none⟩ = some (.int .i64 1) := by
      rw [bf.cell 33, List.getElem?_toArray, coinC, List.getElem?_cons_succ, List.getElem?_append_right (by simp [HS32.out])]
      simp [HS32.out]
    have cu := HUD.out.cell 0
    simp only [List.getElem?_toArray, List.getElem?_cons_zero] at cu
    clear bf of' hOf
    go_wp2_with fail
    refine (clen_any wf gs gs pm3 kL1 HSD.out HMD.out).mono ?_
    rintro eg wg ⟨rfl, rfl⟩
    rw [show ((kL1.length : Nat) : Int) = 1 from rfl]
    go_wp2
    go_ret
    exact ⟨rfl, HFD.out⟩
end Go.Proofs.Ytlngjojibmnmeaa
