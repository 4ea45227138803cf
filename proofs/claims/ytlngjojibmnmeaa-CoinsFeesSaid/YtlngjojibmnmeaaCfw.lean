/- CoinsFees, walked. -/
import Derived.Test.YtlngjojibmnmeaaKps
import Derived.Test.YtlngjojibmnmeaaCfp
namespace Go.Proofs.Ytlngjojibmnmeaa
open Go.RowKit
theorem row2a {w : World} {g t : Nat} {a b c d : Value} (h : Blk w g t #[a, b, c, d]) : RowAt w g 0 [a, b] := by simpa using h.rowAt 0 2
theorem row2b {w : World} {g t : Nat} {a b c d : Value} (h : Blk w g t #[a, b, c, d]) : RowAt w g 2 [c, d] := by simpa using h.rowAt 2 2
set_option maxRecDepth 20000 in
set_option maxHeartbeats 16000000 in
set_option linter.unusedSimpArgs false in
theorem coinsFees_any (w : World) (made kept first : Int) (hmd : -9223372036854775808 ≤ made ∧ made < 9223372036854775808) (hkp : -9223372036854775808 ≤ kept ∧ kept < 9223372036854775808) (hfs : -9223372036854775808 ≤ first ∧ first < 9223372036854775808) :
    Calls Try.prog 6 #[.int .i64 made, .int .i64 kept, .int .i64 first] w fun e w' => e = .returned (.bool true) ∧ Below w.heap.size w w' := by
  go_enter Try.func6, Try.ntmps6
  go_wp2_with fail
  refine (keeps_any w).mono ?_
  rintro e0 w0 ⟨rfl, a0⟩
  have HB0 := Lib.hid a0
  clear a0
  by_cases q1 : made < 0
  · have d1 : decide (made < (0 : Int)) = true := by simpa using q1
    clear q1
    go_wp2
    go_ret
    exact ⟨rfl, HB0.out⟩
  have d1 : decide (made < (0 : Int)) = false := by simpa using q1
  by_cases q2 : 1099511627776 < made
  · have d2 : decide ((1099511627776 : Int) < made) = true := by simpa using q2
    clear q1 q2
    go_wp2
    go_ret
    exact ⟨rfl, HB0.out⟩
  have d2 : decide ((1099511627776 : Int) < made) = false := by simpa using q2
  by_cases q3 : kept < 0
  · have d3 : decide (kept < (0 : Int)) = true := by simpa using q3
    clear q1 q2 q3
    go_wp2
    go_ret
    exact ⟨rfl, HB0.out⟩
  have d3 : decide (kept < (0 : Int)) = false := by simpa using q3
  by_cases q4 : made < kept
  · have d4 : decide (made < kept) = true := by simpa using q4
    clear q1 q2 q3 q4
    go_wp2
    go_ret
    exact ⟨rfl, HB0.out⟩
  have d4 : decide (made < kept) = false := by simpa using q4
  by_cases q5 : first < 0
  · have d5 : decide (first < (0 : Int)) = true := by simpa using q5
    clear q1 q2 q3 q4 q5
    go_wp2
    go_ret
    exact ⟨rfl, HB0.out⟩
  have d5 : decide (first < (0 : Int)) = false := by simpa using q5
  by_cases q6 : 1125899906842624 < first
  · have d6 : decide ((1125899906842624 : Int) < first) = true := by simpa using q6
    clear q1 q2 q3 q4 q5 q6
    go_wp2
    go_ret
    exact ⟨rfl, HB0.out⟩
  have d6 : decide ((1125899906842624 : Int) < first) = false := by simpa using q6
  have HMD := Lib.hid (show 0 ≤ made ∧ made ≤ 1099511627776 by omega)
  have HKP := Lib.hid (show 0 ≤ kept ∧ kept ≤ made by omega)
  have HFS := Lib.hid (show 0 ≤ first ∧ first ≤ 1125899906842624 by omega)
  have HWM := Lib.hid (show (Lit.int .i64 made).wf = true ∧ (Lit.int .i64 kept).wf = true ∧ (Lit.int .i64 first).wf = true by simp [Lit.wf, IntKind.min, IntKind.max, IntKind.signed, IntKind.bits]; omega)
  clear q1 q2 q3 q4 q5 q6 hmd hkp hfs
  go_upto_region 6 with fail
  clear d1 d2 d3 d4 d5 d6
  generalize hW : World.alloc w0 _ = W
  have hb1 : Blk W w0.heap.size 26 [Value.map none].toArray := by rw [← hW]; exact Blk.new _ _ _
  have hbl : Below w0.heap.size w0 W := by rw [← hW]; exact (Below.refl _ _).alloc (Nat.le_refl _) _
  clear hW
  obtain ⟨gs, hg⟩ : ∃ gs, w0.heap.size = gs := ⟨_, rfl⟩
  rw [hg] at hb1 ⊢
  have HG := Lib.hid hg
  have HS := Lib.hid hb1
  have HBL := Lib.hid hbl
  clear hg hb1 hbl
  go_wp2_with fail
  have hgW := HS.out.lt
  refine (mkr_any W made [107] [97] HWM.out.1 (by decide)).mono ?_
  rintro e1 w1 ⟨p1, q1, rfl, a1, ri1, ro1⟩
  replace HS := Lib.hid (HS.out.below a1 HS.out.lt)
  replace HBL := Lib.hid (HBL.out.trans (a1.mono HBL.out.size))
  have RI := Lib.hid (weak_slice weak_in13 _ _ (fun b => b ≠ gs ∧ b < w1.heap.size) _ _ ri1 (fun b hb h => ⟨by omega, hb⟩))
  have RO := Lib.hid (weak_slice weak_out13 _ _ (fun b => b ≠ gs ∧ b < w1.heap.size) _ _ ro1 (fun b hb h => ⟨by omega, hb⟩))
  have HGW := Lib.hid (show gs < w1.heap.size from HS.out.lt)
  clear a1 ri1 ro1 hgW
  have hzv := zero_blk
  go_wp2_with (first
    | (refine wpList_bsl rfl 49 1 _ rfl #[(0, .agg #[.slice (some ⟨p1, 0, none⟩) 1 1, .slice (some ⟨q1, 0, none⟩) 1 1])] _ (run_one_tx _ _ w1) (by simp [Act.eval, Act.put]) ?_)
    | (refine wpList_bld rfl 53 _ rfl [(1, .slice (some ⟨w1.heap.size, 0, none⟩) 1 1)] _ (built_blkt _ _ _) (by simp [Act.eval, Act.put]) ?_)
    | (with_reducible refine wpList_stb rfl 53 (.tmp 8) (.tmp 43) rfl (w1.heap.size + 1) 0 _ rfl rfl 53 (blkC 0 zid zid 0 0 0 (.slice none 0 0)) (Blk.newS w1 _ _ _) ?a1 ?a2 ?a3 ?_))
  case a1 => simp [blkC_len _ _ _ _ _ _ _ zid32 zid32]
  case a2 => rw [infoBlk]; simp [blkC_len _ _ _ _ _ _ _ zid32 zid32]
  case a3 => exact blkC_one _ _ _ _ _ _ _ rfl
  intro w2 b2 o2
  rw [over_all _ _ (by simp [blkC_len _ _ _ _ _ _ _ zid32 zid32])] at b2
  have k1 : Blk (w1.alloc (.cells #[.slice (some ⟨p1, 0, none⟩) 1 1, .slice (some ⟨q1, 0, none⟩) 1 1] 41)) w1.heap.size 41 #[.slice (some ⟨p1, 0, none⟩) 1 1, .slice (some ⟨q1, 0, none⟩) 1 1] := Blk.new _ _ _
  have hal : Below w1.heap.size w1 w2 := ((((Only.refl (fun b => w1.heap.size ≤ b) w1).alloc _).alloc _).trans o2 (fun b _ e => by omega)).below (Nat.le_refl _) (fun b hb h => by omega)
  have k2 : Blk w2 w1.heap.size 41 #[.slice (some ⟨p1, 0, none⟩) 1 1, .slice (some ⟨q1, 0, none⟩) 1 1] := (k1.alloc _).only o2 (by omega)
  replace HS := Lib.hid (HS.out.below hal HS.out.lt)
  replace HBL := Lib.hid (HBL.out.trans (hal.mono HBL.out.size))
  have HTX := Lib.hid (show txsSh.rel w2 (fun b => b < w2.heap.size) [.slice (some ⟨w1.heap.size, 0, none⟩) 1 1] [([mkIn [97]], [(made, sha [107], ())], ())] from one_slk k2.rowAll (show w1.heap.size < w2.heap.size from k2.lt) (weak_tx13 _ _ (fun b => b < w2.heap.size) _ _ (tx_rel (insSh.below RI.out hal (fun b hb _ => hb)) (outsSh.below RO.out hal (fun b hb _ => hb))) (fun b hb _ => hb)))
  have HRI2 := Lib.hid (insSh.below RI.out hal (fun b hb _ => hb))
  have HRO2 := Lib.hid (outsSh.below RO.out hal (fun b hb _ => hb))
  have HZ1 := Lib.hid hal.size
  obtain ⟨tb, htb⟩ : ∃ tb, w1.heap.size = tb := ⟨_, rfl⟩
  rw [htb] at b2 k2 HTX ⊢
  have HB := Lib.hid b2
  have HTR := Lib.hid k2
  have HTB := Lib.hid (show w1.heap.size = tb ∧ gs < tb by have := HBL.out.size; have := HG.out; exact ⟨htb, by have := HGW.out; omega⟩)
  have hgs1 := HS.out.lt
  clear b2 k1 k2 o2 hal htb hgs1
  go_wp2_with (with_reducible refine wpList_ld rfl 53 (.tmp 8) rfl (tb + 1) 0 rfl (blkC 0 zid zid 0 0 0 (.slice (some ⟨tb, 0, none⟩) 1 1)) HB.out.rowAll _ Try.underlying53 rfl 69 infoBlk (blkC_len _ _ _ _ _ _ _ zid32 zid32).symm ?_)
  have CC := cconnect_any w2 gs gs none [] 0 0 0 0 zid zid (some ⟨tb, 0, none⟩) 1 1 [([mkIn [97]], [(made, sha [107], ())], ())] 1 made rfl rfl (Nat.le_of_lt HS.out.lt) HS.out rfl HTX.out rfl (fun t ht => by rw [List.mem_singleton] at ht; rw [ht]; exact (ffit1 made)) (by decide)
  have hk1 : connM 1 made [([mkIn [97]], [(made, sha [107], ())], ())] [] = ((fL1 made), [], 0) := fee1 made HMD.out.1 (by have := HMD.out; omega)
  rw [hk1] at CC
  refine CC.mono ?_
  clear CC hk1
  rintro e3 w3 ⟨u1, v1, u2, v2, rfl, o3, _, _, pm, hs3, hm3⟩
  replace HB := Lib.hid (HB.out.only o3 (by have := HTB.out; omega))
  replace HTR := Lib.hid (HTR.out.only o3 (by have := HTB.out; omega))
  have HRI3 := Lib.hid (insSh.only HRI2.out o3 (fun b hb h e => h.1 e))
  have HRO3 := Lib.hid (outsSh.only HRO2.out o3 (fun b hb h e => h.1 e))
  replace HBL := Lib.hid (HBL.out.trans (o3.below HBL.out.size (fun b hb e => by have := HG.out; omega)))
  have HGZ := Lib.hid (show gs < w3.heap.size ∧ tb + 1 < w3.heap.size from ⟨hs3.lt, HB.out.lt⟩)
  replace HS := Lib.hid hs3
  have HM := Lib.hid (show MapAt w3 gs pm (fL1 made) from hm3)
  clear o3 hs3 hm3 HTX HRI2 HRO2 RI RO
  rw [show cU ((fL1 made), [], 0) = [] from rfl, show (((fL1 made), ([] : CoL), (0 : Int)) : CoL × CoL × Int).2.2 = 0 from rfl, List.length_nil]
  go_wp2_with (with_reducible refine wpList_stb rfl 45 (.tmp 9) (.tmp 48) rfl w3.heap.size 0 _ rfl rfl 45 [.slice none 0 0, .slice none 0 0] (Blk.new w3 _ _) ?b1 ?b2 ?b3 ?_)
  case b1 => simp
  case b2 => rw [infoUndo]; rfl
  case b3 => simp [Value.oneCell']
  intro w4 b4 o4
  have hO4 : Below w3.heap.size w3 w4 := (((Only.refl (fun b => w3.heap.size ≤ b) w3).alloc _).trans o4 (fun b _ e => by omega)).below (Nat.le_refl _) (fun b hb h => by omega)
  clear b4 o4
  replace HS := Lib.hid (HS.out.below hO4 HS.out.lt)
  replace HM := Lib.hid (HM.out.new hO4)
  replace HB := Lib.hid (HB.out.below hO4 HB.out.lt)
  replace HTR := Lib.hid (HTR.out.below hO4 HTR.out.lt)
  replace HBL := Lib.hid (HBL.out.trans (hO4.mono HBL.out.size))
  replace HRI3 := Lib.hid (insSh.below HRI3.out hO4 (fun b hb _ => hb))
  replace HRO3 := Lib.hid (outsSh.below HRO3.out hO4 (fun b hb _ => hb))
  clear hO4
  go_upto_region 10 with fail
  obtain ⟨x1, hx1⟩ : ∃ x1, txX (fT1 made) = x1 := ⟨_, rfl⟩
  have HX32 := Lib.hid (show x1.length = 32 by rw [← hx1]; exact sha_len _)
  have HX1 := Lib.hid hx1
  clear hx1
  obtain ⟨B, hB⟩ : ∃ B, w4.heap.size = B := ⟨_, rfl⟩
  have HBZ := Lib.hid hB
  refine wp_region_sets 19 (by kernel_rfl) (by decide) (by kernel_rfl) (by kernel_rfl) (by kernel_rfl) (Fz B) (Fz.refl _ _) (fun _ _ h k => h.trans k) (fun i v w' => match i with
    | 0 => v = .int .i64 first
    | 1 => ∃ p q : Nat, v = .agg #[.slice (some ⟨p, 0, none⟩) 1 1, .slice (some ⟨q, 0, none⟩) 1 1] ∧ TxP B w' p q zid 4294967295 [98] first (sha [107])
    | 2 => v = .pointer (some ⟨tb + 1, 68, none⟩)
    | 3 => v = .slice (some ⟨tb, 0, none⟩) 1 1
    | 4 => v = .pointer (some ⟨tb, 0, none⟩)
    | 5 => v = .agg #[.slice (some ⟨p1, 0, none⟩) 1 1, .slice (some ⟨q1, 0, none⟩) 1 1]
    | 6 => v = .agg (bts x1).toArray
    | 7 => v = .agg (ptC x1 0).toArray
    | 8 => ∃ N fr, v = .slice (some ⟨N, 0, none⟩) 1 1 ∧ B ≤ N ∧ w'.heap[N]? = some (Obj.cells #[.int .u8 107] 5 fr)
    | 9 => ∃ N : Nat, v = .slice (some ⟨N, 0, none⟩) 1 1 ∧ KyP B w' N 1 1 [107]
    | 10 => ∃ N : Nat, v = .agg (inC x1 0 (.slice (some ⟨N, 0, none⟩) 1 1)).toArray ∧ KyP B w' N 1 1 [107]
    | 11 => ∃ N K : Nat, v = .slice (some ⟨N, 0, none⟩) 1 1 ∧ KyP B w' K 1 1 [107] ∧ B ≤ N ∧ Blk w' N 34 (inC x1 0 (.slice (some ⟨K, 0, none⟩) 1 1)).toArray
    | 12 => v = .int .i64 kept
    | 13 => v = .agg (outC kept zid).toArray
    | 14 => ∃ N : Nat, v = .slice (some ⟨N, 0, none⟩) 1 1 ∧ B ≤ N ∧ Blk w' N 38 (outC kept zid).toArray
    | 15 => ∃ p q : Nat, v = .agg #[.slice (some ⟨p, 0, none⟩) 1 1, .slice (some ⟨q, 0, none⟩) 1 1] ∧ TxP B w' p q x1 0 [107] kept zid
    | 16 => ∃ N p q p' q' : Nat, v = .slice (some ⟨N, 0, none⟩) 2 2 ∧ B ≤ N ∧ Blk w' N 41 #[.slice (some ⟨p, 0, none⟩) 1 1, .slice (some ⟨q, 0, none⟩) 1 1, .slice (some ⟨p', 0, none⟩) 1 1, .slice (some ⟨q', 0, none⟩) 1 1] ∧ TxP B w' p q zid 4294967295 [98] first (sha [107]) ∧ TxP B w' p' q' x1 0 [107] kept zid
    | 17 => ∃ N p q p' q' : Nat, v = .agg (blkC 0 zid zid 0 0 0 (.slice (some ⟨N, 0, none⟩) 2 2)).toArray ∧ B ≤ N ∧ Blk w' N 41 #[.slice (some ⟨p, 0, none⟩) 1 1, .slice (some ⟨q, 0, none⟩) 1 1, .slice (some ⟨p', 0, none⟩) 1 1, .slice (some ⟨q', 0, none⟩) 1 1] ∧ TxP B w' p q zid 4294967295 [98] first (sha [107]) ∧ TxP B w' p' q' x1 0 [107] kept zid
    | 18 => ∃ N : Nat, v = .pointer (some ⟨N, 0, none⟩) ∧ B ≤ N ∧ Blk w' N 53 (blkC 0 zid zid 0 0 0 (.slice none 0 0)).toArray
    | _ => True) ?hV ?hs ?hf
  case hV =>
    intro i v wa wb h f
    match i, h with
    | 0, h => exact h
    | 1, ⟨p, q, h1, h2⟩ => exact ⟨p, q, h1, h2.fz f⟩
    | 2, h => exact h
    | 3, h => exact h
    | 4, h => exact h
    | 5, h => exact h
    | 6, h => exact h
    | 7, h => exact h
    | 8, ⟨N, fr, h1, h2, h3⟩ =>
      obtain ⟨fr', h4⟩ := f.u8 N _ fr h3
      exact ⟨N, fr', h1, h2, h4⟩
    | 9, ⟨N, h1, h2⟩ => exact ⟨N, h1, h2.fz f⟩
    | 10, ⟨N, h1, h2⟩ => exact ⟨N, h1, h2.fz f⟩
    | 11, ⟨N, K, h1, h2, h3, h4⟩ => exact ⟨N, K, h1, h2.fz f, h3, f.blk _ _ _ (by decide) h4⟩
    | 12, h => exact h
    | 13, h => exact h
    | 14, ⟨N, h1, h2, h3⟩ => exact ⟨N, h1, h2, f.blk _ _ _ (by decide) h3⟩
    | 15, ⟨p, q, h1, h2⟩ => exact ⟨p, q, h1, h2.fz f⟩
    | 16, ⟨N, p, q, p', q', h1, h2, h3, h4, h5⟩ => exact ⟨N, p, q, p', q', h1, h2, f.blk _ _ _ (by decide) h3, h4.fz f, h5.fz f⟩
    | 17, ⟨N, p, q, p', q', h1, h2, h3, h4, h5⟩ => exact ⟨N, p, q, p', q', h1, h2, f.blk _ _ _ (by decide) h3, h4.fz f, h5.fz f⟩
    | 18, ⟨N, h1, h2, h3⟩ => exact ⟨N, h1, h2, f.blk N _ _ (by decide) h3⟩
    | _ + 19, _ => trivial
  case hs =>
    intro i o ho x w' hw hd K hK
    have hBw : B ≤ w'.heap.size := by have h1 := hw.size; have h2 := HBZ.out; have h3 : w4.drew.heap.size = w4.heap.size := rfl; omega
    rcases i with _ | i
    · obtain rfl := Option.some.inj (show some _ = some o from ho)
      clear ho
      generalize hfr : frameOf _ _ _ _ = fr at hK ⊢
      have e2 : fr.eval (.tmp 2) = .int .i64 first := by rw [← hfr]; kernel_rfl
      exact step_val (v := .int .i64 first) (w' := w') (by unfold execOp; simp only [e2]; rfl) (hK _ _ (Fz.refl _ _) rfl)
    rcases i with _ | i
    · obtain rfl := Option.some.inj (show some _ = some o from ho)
      clear ho
      generalize hfr : frameOf _ _ _ _ = fr at hK ⊢
      have e52 : fr.eval (.tmp 52) = x 0 := by rw [← hfr]; kernel_rfl
      have hx0 : x 0 = .int .i64 first := hd 0 (by kernel_rfl)
      have e52t : fr.tmps[52]?.getD undef = x 0 := by rw [← hfr]; kernel_rfl
      rw [hx0] at e52t
      clear hfr e52
      go_simp
      try rw [e52t]
      go_at_call 14
      refine (mkr_any2 w' first [107] [98] HWM.out.2.2 (by decide)).mono ?_
      rintro e ww ⟨p, q, rfl, a, hex⟩
      exact hK _ _ (Fz.of_below hBw a) ⟨p, q, rfl, TxP.of_mkr hBw hex⟩
    rcases i with _ | i
    · obtain rfl := Option.some.inj (show some _ = some o from ho)
      clear ho
      generalize hfr : frameOf _ _ _ _ = fr at hK ⊢
      have e8 : fr.eval (.tmp 8) = .pointer (some ⟨tb + 1, 0, none⟩) := by rw [← hfr]; kernel_rfl
      exact step_val (v := .pointer (some ⟨tb + 1, 68, none⟩)) (w' := w') (by unfold execOp; simp only [e8]; kernel_rfl) (hK _ _ (Fz.refl _ _) rfl)
    rcases i with _ | i
    · obtain rfl := Option.some.inj (show some _ = some o from ho)
      clear ho
      generalize hfr : frameOf _ _ _ _ = fr at hK ⊢
      have e54 : fr.eval (.tmp 54) = x 2 := by rw [← hfr]; kernel_rfl
      have hx2 : x 2 = .pointer (some ⟨tb + 1, 68, none⟩) := hd 2 (by kernel_rfl)
      have c68 := blk_cell68 (HB.out.drew.below hw.below (by have := HBZ.out; have := HB.out.lt; omega)) zid32 zid32
      exact step_val (v := .slice (some ⟨tb, 0, none⟩) 1 1) (w' := w') (by unfold execOp; simp only [e54, hx2]; go_simp) (hK _ _ (Fz.refl _ _) rfl)
    rcases i with _ | i
    · obtain rfl := Option.some.inj (show some _ = some o from ho)
      clear ho
      generalize hfr : frameOf _ _ _ _ = fr at hK ⊢
      have e55 : fr.eval (.tmp 55) = x 3 := by rw [← hfr]; kernel_rfl
      have hx3 : x 3 = .slice (some ⟨tb, 0, none⟩) 1 1 := hd 3 (by kernel_rfl)
      have e55t : fr.tmps[55]?.getD undef = x 3 := by rw [← hfr]; kernel_rfl
      rw [hx3] at e55t
      exact step_val (v := .pointer (some ⟨tb, 0, none⟩)) (w' := w') (by unfold execOp; go_simp) (hK _ _ (Fz.refl _ _) rfl)
    rcases i with _ | i
    · obtain rfl := Option.some.inj (show some _ = some o from ho)
      clear ho
      generalize hfr : frameOf _ _ _ _ = fr at hK ⊢
      have e56 : fr.eval (.tmp 56) = x 4 := by rw [← hfr]; kernel_rfl
      have hx4 : x 4 = .pointer (some ⟨tb, 0, none⟩) := hd 4 (by kernel_rfl)
      exact wp_load_mid 41 (.tmp 56) rfl tb 0 (e56.trans hx4) [.slice (some ⟨p1, 0, none⟩) 1 1, .slice (some ⟨q1, 0, none⟩) 1 1] _ ((HTR.out.drew.below hw.below (by have := HBZ.out; have := HTR.out.lt; omega)).rowAll) Try.underlying41 rfl infoTx (hK _ _ (Fz.refl _ _) rfl)
    rcases i with _ | i
    · obtain rfl := Option.some.inj (show some _ = some o from ho)
      clear ho
      generalize hfr : frameOf _ _ _ _ = fr at hK ⊢
      have e57 : fr.eval (.tmp 57) = x 5 := by rw [← hfr]; kernel_rfl
      have hx5 : x 5 = .agg #[.slice (some ⟨p1, 0, none⟩) 1 1, .slice (some ⟨q1, 0, none⟩) 1 1] := hd 5 (by kernel_rfl)
      have e57t : fr.tmps[57]?.getD undef = x 5 := by rw [← hfr]; kernel_rfl
      rw [hx5] at e57t
      clear hfr e57
      have hbw := hw.below
      have hbn := HBZ.out
      go_simp
      try rw [e57t]
      go_at_call 15
      refine (tx_id_any w' _ _ 1 1 1 1 [mkIn [97]] [(made, sha [107], ())] (fun b => b ≠ gs ∧ b < w1.heap.size) (insSh.below (show insSh.rel w4.drew _ _ _ from insSh.only HRI3.out ((Only.refl (fun _ => False) w4).drew) (fun _ _ _ h => h)) hbw (fun b hb h => by have h3 : w4.drew.heap.size = w4.heap.size := rfl; omega)) (outsSh.below (show outsSh.rel w4.drew _ _ _ from outsSh.only HRO3.out ((Only.refl (fun _ => False) w4).drew) (fun _ _ _ h => h)) hbw (fun b hb h => by have h3 : w4.drew.heap.size = w4.heap.size := rfl; omega)) rfl rfl (fun b h => by have := HTB.out; have := HTR.out.lt; omega) (ffit1 made)).mono ?_
      rintro e ww ⟨rfl, a⟩
      rw [show sha2 (txB ([mkIn [97]], [(made, sha [107], ())], ())) = txX (fT1 made) from rfl, HX1.out]
      exact hK _ _ (Fz.of_below hBw a) rfl
    rcases i with _ | i
    · obtain rfl := Option.some.inj (show some _ = some o from ho)
      clear ho
      generalize hfr : frameOf _ _ _ _ = fr at hK ⊢
      have e58 : fr.eval (.tmp 58) = x 6 := by rw [← hfr]; kernel_rfl
      have hx6 : x 6 = .agg (bts x1).toArray := hd 6 (by kernel_rfl)
      exact step_val (exec_buildc rfl (l := [(0, .agg (bts x1).toArray)]) (by simp [e58, hx6]) (built_pt0 x1 HX32.out)) (hK _ _ (Fz.refl _ _) rfl)
    rcases i with _ | i
    · obtain rfl := Option.some.inj (show some _ = some o from ho)
      clear ho
      generalize hfr : frameOf _ _ _ _ = fr at hK ⊢
      refine step_val (exec_bslc rfl (run_one_u8 107 w') (by simp [Act.eval])) (hK _ _ (Fz.of_below hBw ((Below.refl _ _).alloc (Nat.le_refl _) _)) ⟨w'.heap.size, (0, 0), rfl, hBw, heap_alloc_new _ _⟩)
    rcases i with _ | i
    · obtain rfl := Option.some.inj (show some _ = some o from ho)
      clear ho
      generalize hfr : frameOf _ _ _ _ = fr at hK ⊢
      have e60 : fr.eval (.tmp 60) = x 8 := by rw [← hfr]; kernel_rfl
      obtain ⟨N, fr0, hx2, hN, hb⟩ := hd 8 (by kernel_rfl)
      obtain ⟨w2', hrun, hfz⟩ := mark_any w' B N 1 1 _ fr0 hb hN
      obtain ⟨fr1, hb1⟩ := hfz.u8 N _ fr0 hb
      refine step_val (exec_conv rfl (e60.trans hx2) hrun) (hK _ _ hfz ⟨N, rfl, _, fr1, hN, ⟨_, _, _, rfl, rfl, Nat.le_refl _, rfl, fun _ => ⟨N, 0, rfl, rfl, ?_⟩⟩, hb1⟩)
      intro j u hj
      refine hfz.cel _ _ ?_
      match j, hj with
      | 0, hj => rw [← hj]; exact cell_of_row _ _ _ _ _ _ hb
    rcases i with _ | i
    · obtain rfl := Option.some.inj (show some _ = some o from ho)
      clear ho
      generalize hfr : frameOf _ _ _ _ = fr at hK ⊢
      have e59 : fr.eval (.tmp 59) = x 7 := by rw [← hfr]; kernel_rfl
      have e61 : fr.eval (.tmp 61) = x 9 := by rw [← hfr]; kernel_rfl
      have hx1' : x 7 = .agg (ptC x1 0).toArray := hd 7 (by kernel_rfl)
      obtain ⟨N, hx3, hb⟩ := hd 9 (by kernel_rfl)
      exact step_val (exec_buildc rfl (l := [(0, .agg (ptC x1 0).toArray), (1, .slice (some ⟨N, 0, none⟩) 1 1)]) (by simp [e59, e61, hx1', hx3]) (built_inp x1 0 _ _ _ HX32.out)) (hK _ _ (Fz.refl _ _) ⟨N, rfl, hb⟩)
    rcases i with _ | i
    · obtain rfl := Option.some.inj (show some _ = some o from ho)
      clear ho
      generalize hfr : frameOf _ _ _ _ = fr at hK ⊢
      have e62 : fr.eval (.tmp 62) = x 10 := by rw [← hfr]; kernel_rfl
      obtain ⟨N, hx4, hb⟩ := hd 10 (by kernel_rfl)
      have ha : Below w'.heap.size w' (w'.alloc (.cells (inC x1 0 (.slice (some ⟨N, 0, none⟩) 1 1)).toArray 34)) := (Below.refl _ _).alloc (Nat.le_refl _) _
      exact step_val (exec_bslc rfl (run_one_in x1 0 _ _ _ HX32.out w') (by simp [e62, hx4])) (hK _ _ (Fz.of_below hBw ha) ⟨w'.heap.size, N, rfl, hb.fz (Fz.of_below hBw ha), hBw, Blk.new _ _ _⟩)
    rcases i with _ | i
    · obtain rfl := Option.some.inj (show some _ = some o from ho)
      clear ho
      generalize hfr : frameOf _ _ _ _ = fr at hK ⊢
      have e1 : fr.eval (.tmp 1) = .int .i64 kept := by rw [← hfr]; kernel_rfl
      exact step_val (v := .int .i64 kept) (w' := w') (by unfold execOp; simp only [e1]; rfl) (hK _ _ (Fz.refl _ _) rfl)
    rcases i with _ | i
    · obtain rfl := Option.some.inj (show some _ = some o from ho)
      clear ho
      generalize hfr : frameOf _ _ _ _ = fr at hK ⊢
      have e64 : fr.eval (.tmp 64) = x 12 := by rw [← hfr]; kernel_rfl
      have hx12 : x 12 = .int .i64 kept := hd 12 (by kernel_rfl)
      exact step_val (exec_buildc rfl (l := [(0, .int .i64 kept)]) (by simp [e64, hx12]) (built_outa kept)) (hK _ _ (Fz.refl _ _) rfl)
    rcases i with _ | i
    · obtain rfl := Option.some.inj (show some _ = some o from ho)
      clear ho
      generalize hfr : frameOf _ _ _ _ = fr at hK ⊢
      have e65 : fr.eval (.tmp 65) = x 13 := by rw [← hfr]; kernel_rfl
      have hx6 : x 13 = .agg (outC kept zid).toArray := hd 13 (by kernel_rfl)
      have ha : Below w'.heap.size w' (w'.alloc (.cells (outC kept zid).toArray 38)) := (Below.refl _ _).alloc (Nat.le_refl _) _
      exact step_val (exec_bslc rfl (run_one_out kept zid rfl w') (by simp [e65, hx6])) (hK _ _ (Fz.of_below hBw ha) ⟨w'.heap.size, rfl, hBw, Blk.new _ _ _⟩)
    rcases i with _ | i
    · obtain rfl := Option.some.inj (show some _ = some o from ho)
      clear ho
      generalize hfr : frameOf _ _ _ _ = fr at hK ⊢
      have e63 : fr.eval (.tmp 63) = x 11 := by rw [← hfr]; kernel_rfl
      have e66 : fr.eval (.tmp 66) = x 14 := by rw [← hfr]; kernel_rfl
      obtain ⟨N, K0, hx5, hky, hN, hi⟩ := hd 11 (by kernel_rfl)
      obtain ⟨M, hx7, hM, hoo⟩ := hd 14 (by kernel_rfl)
      exact step_val (exec_buildc rfl (l := [(0, .slice (some ⟨N, 0, none⟩) 1 1), (1, .slice (some ⟨M, 0, none⟩) 1 1)]) (by simp [e63, e66, hx5, hx7]) (built_txk _ _ _ _ _ _)) (hK _ _ (Fz.refl _ _) ⟨N, M, rfl, K0, 1, 1, hky, hN, hM, hi, hoo⟩)
    rcases i with _ | i
    · obtain rfl := Option.some.inj (show some _ = some o from ho)
      clear ho
      generalize hfr : frameOf _ _ _ _ = fr at hK ⊢
      have e53 : fr.eval (.tmp 53) = x 1 := by rw [← hfr]; kernel_rfl
      have e67 : fr.eval (.tmp 67) = x 15 := by rw [← hfr]; kernel_rfl
      obtain ⟨p, q, hx0, hi⟩ := hd 1 (by kernel_rfl)
      obtain ⟨N, M, hx8, hi2⟩ := hd 15 (by kernel_rfl)
      have ha : Below w'.heap.size w' (w'.alloc (.cells #[.slice (some ⟨p, 0, none⟩) 1 1, .slice (some ⟨q, 0, none⟩) 1 1, .slice (some ⟨N, 0, none⟩) 1 1, .slice (some ⟨M, 0, none⟩) 1 1] 41)) := (Below.refl _ _).alloc (Nat.le_refl _) _
      have hb4 : Blk (w'.alloc (.cells #[.slice (some ⟨p, 0, none⟩) 1 1, .slice (some ⟨q, 0, none⟩) 1 1, .slice (some ⟨N, 0, none⟩) 1 1, .slice (some ⟨M, 0, none⟩) 1 1] 41)) w'.heap.size 41 #[.slice (some ⟨p, 0, none⟩) 1 1, .slice (some ⟨q, 0, none⟩) 1 1, .slice (some ⟨N, 0, none⟩) 1 1, .slice (some ⟨M, 0, none⟩) 1 1] := Blk.new _ _ _
      exact step_val (exec_bslc rfl (run_two_tx _ _ _ _ w') (by simp [e53, e67, hx0, hx8])) (hK _ _ (Fz.of_below hBw ha) ⟨w'.heap.size, p, q, N, M, rfl, hBw, hb4, hi.fz (Fz.of_below hBw ha), hi2.fz (Fz.of_below hBw ha)⟩)
    rcases i with _ | i
    · obtain rfl := Option.some.inj (show some _ = some o from ho)
      clear ho
      generalize hfr : frameOf _ _ _ _ = fr at hK ⊢
      have e68 : fr.eval (.tmp 68) = x 16 := by rw [← hfr]; kernel_rfl
      obtain ⟨N, p, q, p', q', hx9, h1, h2, h3, h4⟩ := hd 16 (by kernel_rfl)
      exact step_val (exec_buildc rfl (l := [(1, .slice (some ⟨N, 0, none⟩) 2 2)]) (by simp [e68, hx9]) (built_blkt _ _ _)) (hK _ _ (Fz.refl _ _) ⟨N, p, q, p', q', rfl, h1, h2, h3, h4⟩)
    rcases i with _ | i
    · obtain rfl := Option.some.inj (show some _ = some o from ho)
      clear ho
      generalize hfr : frameOf _ _ _ _ = fr at hK ⊢
      exact step_val (v := .pointer (some ⟨w'.heap.size, 0, none⟩)) (w' := w'.alloc (.cells (blkC 0 zid zid 0 0 0 (.slice none 0 0)).toArray 53)) (by show _ = _; kernel_rfl) (hK _ _ (Fz.of_below hBw ((Below.refl _ _).alloc (Nat.le_refl _) _)) ⟨w'.heap.size, rfl, hBw, Blk.new _ _ _⟩)
    exfalso
    have : i + 19 < 19 := by
      have h1 := (List.getElem?_eq_some_iff.1 ho).1
      simpa using h1
    omega
  case hf =>
    intro x w7 hw hall
    obtain ⟨N, p, q, p', q', hx10, hN, hbN, ht1, ht2⟩ := hall 17 (by decide)
    obtain ⟨M, hx11, hM, hbM⟩ := hall 18 (by decide)
    have hB7 := hw.below
    have hBB := HBZ.out
    have HS7 := Lib.hid (HS.out.drew.below hB7 (by have := HS.out.lt; omega))
    have HM7 := Lib.hid (show MapAt w7 gs pm (fL1 made) from MapAt.only (show MapAt w4.drew gs pm (fL1 made) from HM.out) (Only.of_below hB7) (fun b hb => by
      have h7 := HM.out
      subst hb
      have := h7.2.lt
      omega))
    have HF7 := Lib.hid (HBL.out.trans (show Below w0.heap.size w4 w7 from ⟨hB7.os, hB7.tape, hB7.output, hB7.size, fun k hk => hB7.block k (by have := HBL.out.size; omega)⟩))
    have HMB := Lib.hid (show gs < B ∧ tb + 1 < B ∧ B ≤ M ∧ gs < tb by have := HS.out.lt; have := HB.out.lt; have := HTB.out; omega)
    have HBO := Lib.hid (HB.out.drew.below hB7 (by have := HB.out.lt; omega))
    have HTR7 := Lib.hid (HTR.out.drew.below hB7 (by have := HTR.out.lt; omega))
    have HI7 := Lib.hid (insSh.below (show insSh.rel w4.drew _ _ _ from insSh.only HRI3.out ((Only.refl (fun _ => False) w4).drew) (fun _ _ _ h => h)) hB7 (fun b hb h => by have h3 : w4.drew.heap.size = w4.heap.size := rfl; omega))
    have HO7 := Lib.hid (outsSh.below (show outsSh.rel w4.drew _ _ _ from outsSh.only HRO3.out ((Only.refl (fun _ => False) w4).drew) (fun _ _ _ h => h)) hB7 (fun b hb h => by have h3 : w4.drew.heap.size = w4.heap.size := rfl; omega))
    have HBM := Lib.hid hbM
    have HBN := Lib.hid hbN
    have HNB := Lib.hid hN
    have HT1 := Lib.hid ht1
    have HT2 := Lib.hid ht2
    clear hall ht1 ht2 hN hbN hbM hM hB7 hBB HS hw HRI3 HRO3 HB HTR
    simp only [List.take_succ_cons, List.take_zero, List.drop_succ_cons, List.drop_zero, frameOf, Act.put, List.setIfInBounds_toArray, List.set_cons_zero, List.set_cons_succ, Nat.zero_add, Nat.reduceAdd, hx10, hx11]
    clear hx10 hx11
    go_wp2_with (with_reducible refine wpList_stb rfl 53 (.tmp 11) (.tmp 69) rfl M 0 _ rfl rfl 53 (blkC 0 zid zid 0 0 0 (.slice none 0 0)) HBM.out ?d1 ?d2 ?d3 ?_)
    case d1 => simp [blkC_len _ _ _ _ _ _ _ zid32 zid32]
    case d2 => rw [infoBlk]; simp [blkC_len _ _ _ _ _ _ _ zid32 zid32]
    case d3 => exact blkC_one _ _ _ _ _ _ _ rfl
    intro w8 b8 o8
    rw [over_all _ _ (by simp [blkC_len _ _ _ _ _ _ _ zid32 zid32])] at b8
    have HT18 := Lib.hid (HT1.out.only HBM.out o8)
    have HT28 := Lib.hid (HT2.out.only HBM.out o8)
    have HN8 := Lib.hid (HBN.out.only o8 (fun e => Blk.ne_ HBN.out HBM.out (by decide) e))
    have HS8 := Lib.hid (HS7.out.only o8 (by have := HMB.out; omega))
    have HM8 := Lib.hid (MapAt.only HM7.out o8 (fun b hb => by
      have h7 := HM.out
      subst hb
      have := h7.2.lt
      have := HMB.out
      have := HBZ.out
      omega))
    have HF8 := Lib.hid (HF7.out.trans (o8.below HF7.out.size (fun b hb e => by have := HMB.out; have := HG.out; omega)))
    have HB8 := Lib.hid b8
    have HBO8 := Lib.hid (HBO.out.only o8 (by have := HMB.out; omega))
    have HTR8 := Lib.hid (HTR7.out.only o8 (by have := HMB.out; omega))
    have HI8 := Lib.hid (insSh.only HI7.out o8 (fun b _ h e => by have := HMB.out; have := HTB.out; omega))
    have HO8 := Lib.hid (outsSh.only HO7.out o8 (fun b _ h e => by have := HMB.out; have := HTB.out; omega))
    have hs32 : (sha [107]).length = 32 := sha_len _
    have HTX := Lib.hid (show txsSh.rel w8 (fun b => B ≤ b ∧ b < w8.heap.size) [.slice (some ⟨N, 0, none⟩) 2 2] [([mkIn [98]], [(first, sha [107], ())], ()), ([((x1, ((0 : Nat) : Int), ()), [107], ())], [(kept, zid, ())], ())] from
      two_slk (cs := [.slice (some ⟨p, 0, none⟩) 1 1, .slice (some ⟨q, 0, none⟩) 1 1]) (ds := [.slice (some ⟨p', 0, none⟩) 1 1, .slice (some ⟨q', 0, none⟩) 1 1]) HN8.out.rowAll ⟨HNB.out, HN8.out.lt⟩ (HT18.out.rel rfl (by decide) hs32 HWM.out.2.2) (HT28.out.rel HX32.out (by decide) rfl HWM.out.2.1))
    clear b8 o8 HS7 HM7 HF7 HBM HBN HT1 HT2 HM HBO HTR7 HI7 HO7 hs32
    go_wp2_with (with_reducible refine wpList_ld rfl 53 (.tmp 11) rfl M 0 rfl (blkC 0 zid zid 0 0 0 (.slice (some ⟨N, 0, none⟩) 2 2)) HB8.out.rowAll _ Try.underlying53 rfl 69 infoBlk (blkC_len _ _ _ _ _ _ _ zid32 zid32).symm ?_)
    have hfit : ∀ t ∈ [([mkIn [98]], [(first, sha [107], ())], ()), ([((x1, ((0 : Nat) : Int), ()), [107], ())], [(kept, zid, ())], ())], TxFit t := fun t ht => by
      rcases List.mem_cons.1 ht with h | h
      · rw [h]; exact ffit2 first
      · rw [List.mem_singleton.1 h, ← HX1.out]; exact ffit3 made kept
    have CC := cconnect_any w8 gs gs pm (fL1 made) 0 0 0 0 zid zid (some ⟨N, 0, none⟩) 2 2 _ 2 7 rfl rfl (Nat.le_of_lt HS8.out.lt) HS8.out HM8.out (weak_slice weak_tx13 _ _ (fun b => b < w8.heap.size) _ _ HTX.out (fun b _ h => h.2)) rfl hfit (by decide)
    obtain ⟨R, hR⟩ : ∃ R, connM 2 7 [([mkIn [98]], [(first, sha [107], ())], ()), ([((x1, ((0 : Nat) : Int), ()), [107], ())], [(kept, zid, ())], ())] (fL1 made) = R := ⟨_, rfl⟩
    have HR := Lib.hid (show connM 2 7 [fT2 first, fT3 made kept] (fL1 made) = R by rw [← hR, ← HX1.out]; rfl)
    rw [hR] at CC
    refine CC.mono ?_
    clear CC hR hfit
    rintro e9 w9 ⟨A1, c1, A2, c2, rfl, o9, _, _, pm2, hs9, hm9⟩
    obtain ⟨nu, hnu⟩ : ∃ nu, (cU R).length = nu := ⟨_, rfl⟩
    rw [hnu]
    have HS9 := Lib.hid hs9
    have HM9 := Lib.hid hm9
    have HB9 := Lib.hid (HB8.out.only o9 (by have := HMB.out; omega))
    have HBO9 := Lib.hid (HBO8.out.only o9 (by have := HMB.out; omega))
    have HTR9 := Lib.hid (HTR8.out.only o9 (by have := HMB.out; omega))
    have HN9 := Lib.hid (HN8.out.only o9 (by have := HMB.out; have := HNB.out; omega))
    have HI9 := Lib.hid (insSh.only HI8.out o9 (fun b _ h e => h.1 e))
    have HO9 := Lib.hid (outsSh.only HO8.out o9 (fun b _ h e => h.1 e))
    have HT19 := Lib.hid (HT18.out.gs HMB.out.1 o9)
    have HT29 := Lib.hid (HT28.out.gs HMB.out.1 o9)
    have HF9 := Lib.hid (HF8.out.trans (o9.below HF8.out.size (fun b hb e => by have := HG.out; omega)))
    have HZ9 := Lib.hid (show B ≤ w9.heap.size by have := o9.size; have := HN8.out.lt; have := HNB.out; omega)
    clear hs9 hm9 o9 HS8 HM8 HB8 HBO8 HTR8 HN8 HI8 HO8 HT18 HT28 HF8 HTX hnu
    go_wp2_with (with_reducible refine wpList_stb rfl 45 (.tmp 12) (.tmp 73) rfl w9.heap.size 0 _ rfl rfl 45 [.slice none 0 0, .slice none 0 0] (Blk.new w9 _ _) ?f1 ?f2 ?f3 ?_)
    case f1 => simp
    case f2 => rw [infoUndo]; rfl
    case f3 => simp [Value.oneCell']
    intro wa ba oa
    have hOa : Below w9.heap.size w9 wa := (((Only.refl (fun b => w9.heap.size ≤ b) w9).alloc _).trans oa (fun b _ e => by omega)).below (Nat.le_refl _) (fun b hb h => by omega)
    clear ba oa
    have HSA := Lib.hid (HS9.out.below hOa HS9.out.lt)
    have HMA := Lib.hid (HM9.out.new hOa)
    have HBA := Lib.hid (HB9.out.below hOa HB9.out.lt)
    have HBOA := Lib.hid (HBO9.out.below hOa HBO9.out.lt)
    have HTRA := Lib.hid (HTR9.out.below hOa HTR9.out.lt)
    have HNA := Lib.hid (HN9.out.below hOa HN9.out.lt)
    have HIA := Lib.hid (insSh.below HI9.out hOa (fun b hb _ => hb))
    have HOA := Lib.hid (outsSh.below HO9.out hOa (fun b hb _ => hb))
    have HT1A := Lib.hid (HT19.out.fz (Fz.of_below HZ9.out hOa))
    have HT2A := Lib.hid (HT29.out.fz (Fz.of_below HZ9.out hOa))
    have HFA := Lib.hid (HF9.out.trans (hOa.mono HF9.out.size))
    have HZA := Lib.hid (show B ≤ wa.heap.size ∧ w1.heap.size ≤ wa.heap.size by have := hOa.size; have := HZ9.out; have := HTB.out; have := HMB.out; omega)
    obtain ⟨p12, hp12⟩ : ∃ p12, w9.heap.size = p12 := ⟨_, rfl⟩
    rw [hp12]
    clear hOa hp12 HS9 HM9 HB9 HBO9 HTR9 HN9 HI9 HO9 HT19 HT29 HF9
    have u1 : wrap64 (first - 7) = first - 7 := by have := HFS.out; exact IntWalk.wrap64_in _ (by omega)
    have u2 : wrap64 (made - kept) = made - kept := by have := HMD.out; have := HKP.out; exact IntWalk.wrap64_in _ (by omega)
    obtain ⟨gd, hgd⟩ : ∃ gd, decide (first - 7 ≤ made - kept) = gd := ⟨_, rfl⟩
    obtain ⟨x2, hx2⟩ : ∃ x2, txX (fT2 first) = x2 := ⟨_, rfl⟩
    obtain ⟨x3, hx3⟩ : ∃ x3, txX (fT3 made kept) = x3 := ⟨_, rfl⟩
    have hx232 : x2.length = 32 := by rw [← hx2]; exact sha_len _
    have hx332 : x3.length = 32 := by rw [← hx3]; exact sha_len _
    have hx132 := HX32.out
    have hs32 : (sha [107]).length = 32 := sha_len _
    have ID2 := Lib.hid (show ∀ W, Below wa.heap.size wa W → Calls Try.prog 15 #[.agg #[.slice (some ⟨p, 0, none⟩) 1 1, .slice (some ⟨q, 0, none⟩) 1 1]] W fun e w' => e = .returned (idV x2) ∧ Below W.heap.size W w' from by
      intro W hW
      rw [← hx2]
      exact tx_id_any W _ _ 1 1 1 1 [mkIn [98]] [(first, sha [107], ())] (fun b => b < wa.heap.size) (insSh.below (HT1A.out.ins rfl (by decide)) hW (fun b hb _ => hb)) (outsSh.below (HT1A.out.outs hs32 HWM.out.2.2) hW (fun b hb _ => hb)) rfl rfl (fun b hb => Nat.lt_of_lt_of_le hb hW.size) (ffit2 first))
    have ID3 := Lib.hid (show ∀ W, Below wa.heap.size wa W → Calls Try.prog 15 #[.agg #[.slice (some ⟨p', 0, none⟩) 1 1, .slice (some ⟨q', 0, none⟩) 1 1]] W fun e w' => e = .returned (idV x3) ∧ Below W.heap.size W w' from by
      intro W hW
      rw [← hx3]
      have hf := ffit3 made kept
      rw [show fT3 made kept = ([((x1, ((0 : Nat) : Int), ()), [107], ())], [(kept, zid, ())], ()) by rw [← HX1.out]; rfl] at hf ⊢
      exact tx_id_any W _ _ 1 1 1 1 [((x1, ((0 : Nat) : Int), ()), [107], ())] [(kept, zid, ())] (fun b => b < wa.heap.size) (insSh.below (HT2A.out.ins hx132 (by decide)) hW (fun b hb _ => hb)) (outsSh.below (HT2A.out.outs rfl HWM.out.2.1) hW (fun b hb _ => hb)) rfl rfl (fun b hb => Nat.lt_of_lt_of_le hb hW.size) hf)
    have ID1 := Lib.hid (show ∀ W, Below wa.heap.size wa W → Calls Try.prog 15 #[.agg #[.slice (some ⟨p1, 0, none⟩) 1 1, .slice (some ⟨q1, 0, none⟩) 1 1]] W fun e w' => e = .returned (idV x1) ∧ Below W.heap.size W w' from by
      intro W hW
      rw [← HX1.out]
      exact tx_id_any W _ _ 1 1 1 1 [mkIn [97]] [(made, sha [107], ())] (fun b => b ≠ gs ∧ b < w1.heap.size) (insSh.below HIA.out hW (fun b hb _ => hb)) (outsSh.below HOA.out hW (fun b hb _ => hb)) rfl rfl (fun b hb => Nat.lt_of_lt_of_le hb.2 (Nat.le_trans HZA.out.2 hW.size)) (ffit1 made))
    obtain ⟨ea, hea⟩ : ∃ ea, (x2 == x3) = ea := ⟨_, rfl⟩
    obtain ⟨eb, heb⟩ : ∃ eb, (x2 == x1) = eb := ⟨_, rfl⟩
    have heqA : ∀ w', (Op.equalIn 10000 28 (.agg (bts x2).toArray) (.agg (bts x3).toArray)).run Try.prog w' = .ok ea w' := fun w' => by
      rw [show (10000 : Nat) = 9998 + 2 from rfl, run_eq_arr Try.underlying28 Try.underlying5 (by kernel_rfl) (by kernel_rfl) (by kernel_rfl) x2 x3 hx232 hx332 w' 9998, hea]
    have heqB : ∀ w', (Op.equalIn 10000 28 (.agg (bts x2).toArray) (.agg (bts x1).toArray)).run Try.prog w' = .ok eb w' := fun w' => by
      rw [show (10000 : Nat) = 9998 + 2 from rfl, run_eq_arr Try.underlying28 Try.underlying5 (by kernel_rfl) (by kernel_rfl) (by kernel_rfl) x2 x1 hx232 hx132 w' 9998, heb]
    have HEA := Lib.hid hea
    have HX2 := Lib.hid hx2
    have HX3 := Lib.hid hx3
    clear hea heb hx2 hx3 hx232 hx332 hx132 hs32 HIA HOA HT1A HT2A
    have HGD := Lib.hid hgd
    obtain ⟨r2, hr2⟩ : ∃ r2, R.2.2 = r2 := ⟨_, rfl⟩
    rw [hr2]
    have HR2 := Lib.hid hr2
    clear hr2
    go_wp2_with fail
    clear u1 u2 hgd
    have HZ0 := zid32
    cases ea with
    | true =>
      unfold idV at ID1 ID2 ID3
      refine wp_region_held_drew (S := (fun w' => Blk w' M 53 (blkC 0 zid zid 0 0 0 (.slice (some ⟨N, 0, none⟩) 2 2)).toArray ∧ Blk w' (tb + 1) 53 (blkC 0 zid zid 0 0 0 (.slice (some ⟨tb, 0, none⟩) 1 1)).toArray ∧ Blk w' N 41 #[.slice (some ⟨p, 0, none⟩) 1 1, .slice (some ⟨q, 0, none⟩) 1 1, .slice (some ⟨p', 0, none⟩) 1 1, .slice (some ⟨q', 0, none⟩) 1 1] ∧ Blk w' tb 41 #[.slice (some ⟨p1, 0, none⟩) 1 1, .slice (some ⟨q1, 0, none⟩) 1 1] ∧ Below wa.heap.size wa w')) (by kernel_rfl) (⟨HBA.out.drew, HBOA.out.drew, HNA.out.drew, HTRA.out.drew, (Below.refl wa.heap.size wa).drew⟩) ?_
      intro hSw
      refine wpAnyH_take (i := 0) (oi := ⟨some 81, _, _, _, _, _⟩) (v := (.pointer (some ⟨M, 68, none⟩))) rfl (by kernel_rfl) (by kernel_rfl) (by kernel_rfl) (fun _ _ _ h => h) (Or.inl ⟨by rfl, ?_⟩) hSw ?_
      · intro w' hSw'
        have c68 := blk_cell68 hSw'.1 zid32 zid32
        have b68 := blk_cell68 hSw'.2.1 zid32 zid32
        go_simp
      simp only [Act.put, List.setIfInBounds_toArray, List.set_cons_zero, List.set_cons_succ]
      refine wpAnyH_take (i := 1) (oi := ⟨some 82, _, _, _, _, _⟩) (v := (.slice (some ⟨N, 0, none⟩) 2 2)) rfl (by kernel_rfl) (by kernel_rfl) (by kernel_rfl) (fun _ _ _ h => h) (Or.inl ⟨by rfl, ?_⟩) hSw ?_
      · intro w' hSw'
        have c68 := blk_cell68 hSw'.1 zid32 zid32
        have b68 := blk_cell68 hSw'.2.1 zid32 zid32
        go_simp
      simp only [Act.put, List.setIfInBounds_toArray, List.set_cons_zero, List.set_cons_succ]
      refine wpAnyH_take (i := 2) (oi := ⟨some 83, _, _, _, _, _⟩) (v := (.pointer (some ⟨N, 0, none⟩))) rfl (by kernel_rfl) (by kernel_rfl) (by kernel_rfl) (fun _ _ _ h => h) (Or.inl ⟨by rfl, ?_⟩) hSw ?_
      · intro w' hSw'
        have c68 := blk_cell68 hSw'.1 zid32 zid32
        have b68 := blk_cell68 hSw'.2.1 zid32 zid32
        go_simp
      simp only [Act.put, List.setIfInBounds_toArray, List.set_cons_zero, List.set_cons_succ]
      refine wpAnyH_take (i := 3) (oi := ⟨some 84, _, _, _, _, _⟩) (v := .agg ([.slice (some ⟨p, 0, none⟩) 1 1, .slice (some ⟨q, 0, none⟩) 1 1]).toArray) rfl (by kernel_rfl) (by kernel_rfl) (by kernel_rfl) (fun _ _ _ h => h) (yieldsIf_load_mid (by rfl) _ _ rfl N (0) rfl ([.slice (some ⟨p, 0, none⟩) 1 1, .slice (some ⟨q, 0, none⟩) 1 1]) _ (fun _ h => row2a h.2.2.1) Try.underlying41 rfl infoTx) hSw ?_
      simp only [Act.put, List.setIfInBounds_toArray, List.set_cons_zero, List.set_cons_succ]
      refine wpAnyH_take (i := 5) (oi := ⟨some 86, _, _, _, _, _⟩) (v := (.pointer (some ⟨M, 68, none⟩))) rfl (by kernel_rfl) (by kernel_rfl) (by kernel_rfl) (fun _ _ _ h => h) (Or.inl ⟨by rfl, ?_⟩) hSw ?_
      · intro w' hSw'
        have c68 := blk_cell68 hSw'.1 zid32 zid32
        have b68 := blk_cell68 hSw'.2.1 zid32 zid32
        go_simp
      simp only [Act.put, List.setIfInBounds_toArray, List.set_cons_zero, List.set_cons_succ]
      refine wpAnyH_take (i := 6) (oi := ⟨some 87, _, _, _, _, _⟩) (v := (.slice (some ⟨N, 0, none⟩) 2 2)) rfl (by kernel_rfl) (by kernel_rfl) (by kernel_rfl) (fun _ _ _ h => h) (Or.inl ⟨by rfl, ?_⟩) hSw ?_
      · intro w' hSw'
        have c68 := blk_cell68 hSw'.1 zid32 zid32
        have b68 := blk_cell68 hSw'.2.1 zid32 zid32
        go_simp
      simp only [Act.put, List.setIfInBounds_toArray, List.set_cons_zero, List.set_cons_succ]
      refine wpAnyH_take (i := 7) (oi := ⟨some 88, _, _, _, _, _⟩) (v := (.pointer (some ⟨N, 2, none⟩))) rfl (by kernel_rfl) (by kernel_rfl) (by kernel_rfl) (fun _ _ _ h => h) (Or.inl ⟨by rfl, ?_⟩) hSw ?_
      · intro w' hSw'
        have c68 := blk_cell68 hSw'.1 zid32 zid32
        have b68 := blk_cell68 hSw'.2.1 zid32 zid32
        go_simp
      simp only [Act.put, List.setIfInBounds_toArray, List.set_cons_zero, List.set_cons_succ]
      refine wpAnyH_take (i := 8) (oi := ⟨some 89, _, _, _, _, _⟩) (v := .agg ([.slice (some ⟨p', 0, none⟩) 1 1, .slice (some ⟨q', 0, none⟩) 1 1]).toArray) rfl (by kernel_rfl) (by kernel_rfl) (by kernel_rfl) (fun _ _ _ h => h) (yieldsIf_load_mid (by rfl) _ _ rfl N (2) rfl ([.slice (some ⟨p', 0, none⟩) 1 1, .slice (some ⟨q', 0, none⟩) 1 1]) _ (fun _ h => row2b h.2.2.1) Try.underlying41 rfl infoTx) hSw ?_
      simp only [Act.put, List.setIfInBounds_toArray, List.set_cons_zero, List.set_cons_succ]
      refine wpAnyH_ready (rs := [4]) (by kernel_rfl) (by simp) (AllReadyH.cons (o := ⟨some 85, _, _, _, _, _⟩) rfl (fun K hK => ?_) AllReadyH.nil)
      go_simp
      refine (ID2.out _ hSw.2.2.2.2).mono ?_
      rintro e4 w4 ⟨rfl, a4⟩
      dsimp only
      refine hK.out _ _ (⟨hSw.1.below a4 hSw.1.lt, hSw.2.1.below a4 hSw.2.1.lt, hSw.2.2.1.below a4 hSw.2.2.1.lt, hSw.2.2.2.1.below a4 hSw.2.2.2.1.lt, hSw.2.2.2.2.trans (a4.mono hSw.2.2.2.2.size)⟩) ?_
      intro hSw
      clear hK K
      try simp only [Act.put, List.setIfInBounds_toArray, List.set_cons_zero, List.set_cons_succ]
      refine wpAnyH_ready (rs := [9]) (by kernel_rfl) (by simp) (AllReadyH.cons (o := ⟨some 90, _, _, _, _, _⟩) rfl (fun K hK => ?_) AllReadyH.nil)
      go_simp
      refine (ID3.out _ hSw.2.2.2.2).mono ?_
      rintro e9 w9 ⟨rfl, a9⟩
      dsimp only
      refine hK.out _ _ (⟨hSw.1.below a9 hSw.1.lt, hSw.2.1.below a9 hSw.2.1.lt, hSw.2.2.1.below a9 hSw.2.2.1.lt, hSw.2.2.2.1.below a9 hSw.2.2.2.1.lt, hSw.2.2.2.2.trans (a9.mono hSw.2.2.2.2.size)⟩) ?_
      intro hSw
      clear hK K
      try simp only [Act.put, List.setIfInBounds_toArray, List.set_cons_zero, List.set_cons_succ]
      refine wpAnyH_take (i := 10) (oi := ⟨some 91, _, _, _, _, _⟩) (v := (.bool true)) rfl (by kernel_rfl) (by kernel_rfl) (by kernel_rfl) (fun _ _ _ h => h) (Or.inl ⟨by rfl, ?_⟩) hSw ?_
      · intro w' hSw'
        have c68 := blk_cell68 hSw'.1 zid32 zid32
        have b68 := blk_cell68 hSw'.2.1 zid32 zid32
        go_simp
      simp only [Act.put, List.setIfInBounds_toArray, List.set_cons_zero, List.set_cons_succ]
      refine wpAnyH_take (i := 11) (oi := ⟨some 92, _, _, _, _, _⟩) (v := (.bool true)) rfl (by kernel_rfl) (by kernel_rfl) (by kernel_rfl) (fun _ _ _ h => h) (Or.inl ⟨by rfl, ?_⟩) hSw ?_
      · intro w' hSw'
        have c68 := blk_cell68 hSw'.1 zid32 zid32
        have b68 := blk_cell68 hSw'.2.1 zid32 zid32
        go_simp
      simp only [Act.put, List.setIfInBounds_toArray, List.set_cons_zero, List.set_cons_succ]
      refine wpAnyH_take (i := 12) (oi := ⟨some 93, _, _, _, _, _⟩) (v := undef) rfl (by kernel_rfl) (by kernel_rfl) (by kernel_rfl) (fun _ _ _ h => h) (Or.inr ⟨by rfl, rfl⟩) hSw ?_
      simp only [Act.put, List.setIfInBounds_toArray, List.set_cons_zero, List.set_cons_succ]
      refine wpAnyH_take (i := 13) (oi := ⟨some 94, _, _, _, _, _⟩) (v := undef) rfl (by kernel_rfl) (by kernel_rfl) (by kernel_rfl) (fun _ _ _ h => h) (Or.inr ⟨by rfl, rfl⟩) hSw ?_
      simp only [Act.put, List.setIfInBounds_toArray, List.set_cons_zero, List.set_cons_succ]
      refine wpAnyH_take (i := 14) (oi := ⟨some 95, _, _, _, _, _⟩) (v := undef) rfl (by kernel_rfl) (by kernel_rfl) (by kernel_rfl) (fun _ _ _ h => h) (Or.inr ⟨by rfl, rfl⟩) hSw ?_
      simp only [Act.put, List.setIfInBounds_toArray, List.set_cons_zero, List.set_cons_succ]
      refine wpAnyH_take (i := 15) (oi := ⟨some 96, _, _, _, _, _⟩) (v := undef) rfl (by kernel_rfl) (by kernel_rfl) (by kernel_rfl) (fun _ _ _ h => h) (Or.inr ⟨by rfl, rfl⟩) hSw ?_
      simp only [Act.put, List.setIfInBounds_toArray, List.set_cons_zero, List.set_cons_succ]
      refine wpAnyH_take (i := 16) (oi := ⟨some 97, _, _, _, _, _⟩) (v := undef) rfl (by kernel_rfl) (by kernel_rfl) (by kernel_rfl) (fun _ _ _ h => h) (Or.inr ⟨by rfl, rfl⟩) hSw ?_
      simp only [Act.put, List.setIfInBounds_toArray, List.set_cons_zero, List.set_cons_succ]
      refine wpAnyH_take (i := 17) (oi := ⟨some 98, _, _, _, _, _⟩) (v := undef) rfl (by kernel_rfl) (by kernel_rfl) (by kernel_rfl) (fun _ _ _ h => h) (Or.inr ⟨by rfl, rfl⟩) hSw ?_
      simp only [Act.put, List.setIfInBounds_toArray, List.set_cons_zero, List.set_cons_succ]
      refine wpAnyH_take (i := 18) (oi := ⟨some 99, _, _, _, _, _⟩) (v := undef) rfl (by kernel_rfl) (by kernel_rfl) (by kernel_rfl) (fun _ _ _ h => h) (Or.inr ⟨by rfl, rfl⟩) hSw ?_
      simp only [Act.put, List.setIfInBounds_toArray, List.set_cons_zero, List.set_cons_succ]
      refine wpAnyH_take (i := 19) (oi := ⟨some 100, _, _, _, _, _⟩) (v := undef) rfl (by kernel_rfl) (by kernel_rfl) (by kernel_rfl) (fun _ _ _ h => h) (Or.inr ⟨by rfl, rfl⟩) hSw ?_
      simp only [Act.put, List.setIfInBounds_toArray, List.set_cons_zero, List.set_cons_succ]
      refine wpAnyH_take (i := 20) (oi := ⟨some 101, _, _, _, _, _⟩) (v := undef) rfl (by kernel_rfl) (by kernel_rfl) (by kernel_rfl) (fun _ _ _ h => h) (Or.inr ⟨by rfl, rfl⟩) hSw ?_
      simp only [Act.put, List.setIfInBounds_toArray, List.set_cons_zero, List.set_cons_succ]
      refine wpAnyH_take (i := 21) (oi := ⟨some 102, _, _, _, _, _⟩) (v := undef) rfl (by kernel_rfl) (by kernel_rfl) (by kernel_rfl) (fun _ _ _ h => h) (Or.inr ⟨by rfl, rfl⟩) hSw ?_
      simp only [Act.put, List.setIfInBounds_toArray, List.set_cons_zero, List.set_cons_succ]
      refine wpAnyH_take (i := 22) (oi := ⟨some 103, _, _, _, _, _⟩) (v := undef) rfl (by kernel_rfl) (by kernel_rfl) (by kernel_rfl) (fun _ _ _ h => h) (Or.inr ⟨by rfl, rfl⟩) hSw ?_
      simp only [Act.put, List.setIfInBounds_toArray, List.set_cons_zero, List.set_cons_succ]
      refine wpAnyH_take (i := 23) (oi := ⟨some 104, _, _, _, _, _⟩) (v := (.bool true)) rfl (by kernel_rfl) (by kernel_rfl) (by kernel_rfl) (fun _ _ _ h => h) (Or.inl ⟨by rfl, ?_⟩) hSw ?_
      · intro w' hSw'
        have c68 := blk_cell68 hSw'.1 zid32 zid32
        have b68 := blk_cell68 hSw'.2.1 zid32 zid32
        go_simp
      simp only [Act.put, List.setIfInBounds_toArray, List.set_cons_zero, List.set_cons_succ]
      refine wpAnyH_done (by kernel_rfl) ?_ _
      have HW := Lib.hid hSw.2.2.2.2
      clear hSw heqA heqB
      go_wp2
      go_ret
      exact ⟨rfl, HB0.out.trans ((HFA.out.trans (HW.out.mono HFA.out.size)).mono HB0.out.size)⟩
    | false =>
      unfold idV at ID1 ID2 ID3
      refine wp_region_held_drew (S := (fun w' => Blk w' M 53 (blkC 0 zid zid 0 0 0 (.slice (some ⟨N, 0, none⟩) 2 2)).toArray ∧ Blk w' (tb + 1) 53 (blkC 0 zid zid 0 0 0 (.slice (some ⟨tb, 0, none⟩) 1 1)).toArray ∧ Blk w' N 41 #[.slice (some ⟨p, 0, none⟩) 1 1, .slice (some ⟨q, 0, none⟩) 1 1, .slice (some ⟨p', 0, none⟩) 1 1, .slice (some ⟨q', 0, none⟩) 1 1] ∧ Blk w' tb 41 #[.slice (some ⟨p1, 0, none⟩) 1 1, .slice (some ⟨q1, 0, none⟩) 1 1] ∧ Below wa.heap.size wa w')) (by kernel_rfl) (⟨HBA.out.drew, HBOA.out.drew, HNA.out.drew, HTRA.out.drew, (Below.refl wa.heap.size wa).drew⟩) ?_
      intro hSw
      refine wpAnyH_take (i := 0) (oi := ⟨some 81, _, _, _, _, _⟩) (v := (.pointer (some ⟨M, 68, none⟩))) rfl (by kernel_rfl) (by kernel_rfl) (by kernel_rfl) (fun _ _ _ h => h) (Or.inl ⟨by rfl, ?_⟩) hSw ?_
      · intro w' hSw'
        have c68 := blk_cell68 hSw'.1 zid32 zid32
        have b68 := blk_cell68 hSw'.2.1 zid32 zid32
        go_simp
      simp only [Act.put, List.setIfInBounds_toArray, List.set_cons_zero, List.set_cons_succ]
      refine wpAnyH_take (i := 1) (oi := ⟨some 82, _, _, _, _, _⟩) (v := (.slice (some ⟨N, 0, none⟩) 2 2)) rfl (by kernel_rfl) (by kernel_rfl) (by kernel_rfl) (fun _ _ _ h => h) (Or.inl ⟨by rfl, ?_⟩) hSw ?_
      · intro w' hSw'
        have c68 := blk_cell68 hSw'.1 zid32 zid32
        have b68 := blk_cell68 hSw'.2.1 zid32 zid32
        go_simp
      simp only [Act.put, List.setIfInBounds_toArray, List.set_cons_zero, List.set_cons_succ]
      refine wpAnyH_take (i := 2) (oi := ⟨some 83, _, _, _, _, _⟩) (v := (.pointer (some ⟨N, 0, none⟩))) rfl (by kernel_rfl) (by kernel_rfl) (by kernel_rfl) (fun _ _ _ h => h) (Or.inl ⟨by rfl, ?_⟩) hSw ?_
      · intro w' hSw'
        have c68 := blk_cell68 hSw'.1 zid32 zid32
        have b68 := blk_cell68 hSw'.2.1 zid32 zid32
        go_simp
      simp only [Act.put, List.setIfInBounds_toArray, List.set_cons_zero, List.set_cons_succ]
      refine wpAnyH_take (i := 3) (oi := ⟨some 84, _, _, _, _, _⟩) (v := .agg ([.slice (some ⟨p, 0, none⟩) 1 1, .slice (some ⟨q, 0, none⟩) 1 1]).toArray) rfl (by kernel_rfl) (by kernel_rfl) (by kernel_rfl) (fun _ _ _ h => h) (yieldsIf_load_mid (by rfl) _ _ rfl N (0) rfl ([.slice (some ⟨p, 0, none⟩) 1 1, .slice (some ⟨q, 0, none⟩) 1 1]) _ (fun _ h => row2a h.2.2.1) Try.underlying41 rfl infoTx) hSw ?_
      simp only [Act.put, List.setIfInBounds_toArray, List.set_cons_zero, List.set_cons_succ]
      refine wpAnyH_take (i := 5) (oi := ⟨some 86, _, _, _, _, _⟩) (v := (.pointer (some ⟨M, 68, none⟩))) rfl (by kernel_rfl) (by kernel_rfl) (by kernel_rfl) (fun _ _ _ h => h) (Or.inl ⟨by rfl, ?_⟩) hSw ?_
      · intro w' hSw'
        have c68 := blk_cell68 hSw'.1 zid32 zid32
        have b68 := blk_cell68 hSw'.2.1 zid32 zid32
        go_simp
      simp only [Act.put, List.setIfInBounds_toArray, List.set_cons_zero, List.set_cons_succ]
      refine wpAnyH_take (i := 6) (oi := ⟨some 87, _, _, _, _, _⟩) (v := (.slice (some ⟨N, 0, none⟩) 2 2)) rfl (by kernel_rfl) (by kernel_rfl) (by kernel_rfl) (fun _ _ _ h => h) (Or.inl ⟨by rfl, ?_⟩) hSw ?_
      · intro w' hSw'
        have c68 := blk_cell68 hSw'.1 zid32 zid32
        have b68 := blk_cell68 hSw'.2.1 zid32 zid32
        go_simp
      simp only [Act.put, List.setIfInBounds_toArray, List.set_cons_zero, List.set_cons_succ]
      refine wpAnyH_take (i := 7) (oi := ⟨some 88, _, _, _, _, _⟩) (v := (.pointer (some ⟨N, 2, none⟩))) rfl (by kernel_rfl) (by kernel_rfl) (by kernel_rfl) (fun _ _ _ h => h) (Or.inl ⟨by rfl, ?_⟩) hSw ?_
      · intro w' hSw'
        have c68 := blk_cell68 hSw'.1 zid32 zid32
        have b68 := blk_cell68 hSw'.2.1 zid32 zid32
        go_simp
      simp only [Act.put, List.setIfInBounds_toArray, List.set_cons_zero, List.set_cons_succ]
      refine wpAnyH_take (i := 8) (oi := ⟨some 89, _, _, _, _, _⟩) (v := .agg ([.slice (some ⟨p', 0, none⟩) 1 1, .slice (some ⟨q', 0, none⟩) 1 1]).toArray) rfl (by kernel_rfl) (by kernel_rfl) (by kernel_rfl) (fun _ _ _ h => h) (yieldsIf_load_mid (by rfl) _ _ rfl N (2) rfl ([.slice (some ⟨p', 0, none⟩) 1 1, .slice (some ⟨q', 0, none⟩) 1 1]) _ (fun _ h => row2b h.2.2.1) Try.underlying41 rfl infoTx) hSw ?_
      simp only [Act.put, List.setIfInBounds_toArray, List.set_cons_zero, List.set_cons_succ]
      refine wpAnyH_ready (rs := [4]) (by kernel_rfl) (by simp) (AllReadyH.cons (o := ⟨some 85, _, _, _, _, _⟩) rfl (fun K hK => ?_) AllReadyH.nil)
      go_simp
      refine (ID2.out _ hSw.2.2.2.2).mono ?_
      rintro e4 w4 ⟨rfl, a4⟩
      dsimp only
      refine hK.out _ _ (⟨hSw.1.below a4 hSw.1.lt, hSw.2.1.below a4 hSw.2.1.lt, hSw.2.2.1.below a4 hSw.2.2.1.lt, hSw.2.2.2.1.below a4 hSw.2.2.2.1.lt, hSw.2.2.2.2.trans (a4.mono hSw.2.2.2.2.size)⟩) ?_
      intro hSw
      clear hK K
      try simp only [Act.put, List.setIfInBounds_toArray, List.set_cons_zero, List.set_cons_succ]
      refine wpAnyH_ready (rs := [9]) (by kernel_rfl) (by simp) (AllReadyH.cons (o := ⟨some 90, _, _, _, _, _⟩) rfl (fun K hK => ?_) AllReadyH.nil)
      go_simp
      refine (ID3.out _ hSw.2.2.2.2).mono ?_
      rintro e9 w9 ⟨rfl, a9⟩
      dsimp only
      refine hK.out _ _ (⟨hSw.1.below a9 hSw.1.lt, hSw.2.1.below a9 hSw.2.1.lt, hSw.2.2.1.below a9 hSw.2.2.1.lt, hSw.2.2.2.1.below a9 hSw.2.2.2.1.lt, hSw.2.2.2.2.trans (a9.mono hSw.2.2.2.2.size)⟩) ?_
      intro hSw
      clear hK K
      try simp only [Act.put, List.setIfInBounds_toArray, List.set_cons_zero, List.set_cons_succ]
      refine wpAnyH_take (i := 10) (oi := ⟨some 91, _, _, _, _, _⟩) (v := (.bool false)) rfl (by kernel_rfl) (by kernel_rfl) (by kernel_rfl) (fun _ _ _ h => h) (Or.inl ⟨by rfl, ?_⟩) hSw ?_
      · intro w' hSw'
        have c68 := blk_cell68 hSw'.1 zid32 zid32
        have b68 := blk_cell68 hSw'.2.1 zid32 zid32
        go_simp
      simp only [Act.put, List.setIfInBounds_toArray, List.set_cons_zero, List.set_cons_succ]
      refine wpAnyH_take (i := 11) (oi := ⟨some 92, _, _, _, _, _⟩) (v := (.bool false)) rfl (by kernel_rfl) (by kernel_rfl) (by kernel_rfl) (fun _ _ _ h => h) (Or.inl ⟨by rfl, ?_⟩) hSw ?_
      · intro w' hSw'
        have c68 := blk_cell68 hSw'.1 zid32 zid32
        have b68 := blk_cell68 hSw'.2.1 zid32 zid32
        go_simp
      simp only [Act.put, List.setIfInBounds_toArray, List.set_cons_zero, List.set_cons_succ]
      refine wpAnyH_take (i := 12) (oi := ⟨some 93, _, _, _, _, _⟩) (v := (.pointer (some ⟨M, 68, none⟩))) rfl (by kernel_rfl) (by kernel_rfl) (by kernel_rfl) (fun _ _ _ h => h) (Or.inl ⟨by rfl, ?_⟩) hSw ?_
      · intro w' hSw'
        have c68 := blk_cell68 hSw'.1 zid32 zid32
        have b68 := blk_cell68 hSw'.2.1 zid32 zid32
        go_simp
      simp only [Act.put, List.setIfInBounds_toArray, List.set_cons_zero, List.set_cons_succ]
      refine wpAnyH_take (i := 13) (oi := ⟨some 94, _, _, _, _, _⟩) (v := (.slice (some ⟨N, 0, none⟩) 2 2)) rfl (by kernel_rfl) (by kernel_rfl) (by kernel_rfl) (fun _ _ _ h => h) (Or.inl ⟨by rfl, ?_⟩) hSw ?_
      · intro w' hSw'
        have c68 := blk_cell68 hSw'.1 zid32 zid32
        have b68 := blk_cell68 hSw'.2.1 zid32 zid32
        go_simp
      simp only [Act.put, List.setIfInBounds_toArray, List.set_cons_zero, List.set_cons_succ]
      refine wpAnyH_take (i := 14) (oi := ⟨some 95, _, _, _, _, _⟩) (v := (.pointer (some ⟨N, 0, none⟩))) rfl (by kernel_rfl) (by kernel_rfl) (by kernel_rfl) (fun _ _ _ h => h) (Or.inl ⟨by rfl, ?_⟩) hSw ?_
      · intro w' hSw'
        have c68 := blk_cell68 hSw'.1 zid32 zid32
        have b68 := blk_cell68 hSw'.2.1 zid32 zid32
        go_simp
      simp only [Act.put, List.setIfInBounds_toArray, List.set_cons_zero, List.set_cons_succ]
      refine wpAnyH_take (i := 15) (oi := ⟨some 96, _, _, _, _, _⟩) (v := .agg ([.slice (some ⟨p, 0, none⟩) 1 1, .slice (some ⟨q, 0, none⟩) 1 1]).toArray) rfl (by kernel_rfl) (by kernel_rfl) (by kernel_rfl) (fun _ _ _ h => h) (yieldsIf_load_mid (by rfl) _ _ rfl N (0) rfl ([.slice (some ⟨p, 0, none⟩) 1 1, .slice (some ⟨q, 0, none⟩) 1 1]) _ (fun _ h => row2a h.2.2.1) Try.underlying41 rfl infoTx) hSw ?_
      simp only [Act.put, List.setIfInBounds_toArray, List.set_cons_zero, List.set_cons_succ]
      refine wpAnyH_take (i := 17) (oi := ⟨some 98, _, _, _, _, _⟩) (v := (.pointer (some ⟨tb + 1, 68, none⟩))) rfl (by kernel_rfl) (by kernel_rfl) (by kernel_rfl) (fun _ _ _ h => h) (Or.inl ⟨by rfl, ?_⟩) hSw ?_
      · intro w' hSw'
        have c68 := blk_cell68 hSw'.1 zid32 zid32
        have b68 := blk_cell68 hSw'.2.1 zid32 zid32
        go_simp
      simp only [Act.put, List.setIfInBounds_toArray, List.set_cons_zero, List.set_cons_succ]
      refine wpAnyH_take (i := 18) (oi := ⟨some 99, _, _, _, _, _⟩) (v := (.slice (some ⟨tb, 0, none⟩) 1 1)) rfl (by kernel_rfl) (by kernel_rfl) (by kernel_rfl) (fun _ _ _ h => h) (Or.inl ⟨by rfl, ?_⟩) hSw ?_
      · intro w' hSw'
        have c68 := blk_cell68 hSw'.1 zid32 zid32
        have b68 := blk_cell68 hSw'.2.1 zid32 zid32
        go_simp
      simp only [Act.put, List.setIfInBounds_toArray, List.set_cons_zero, List.set_cons_succ]
      refine wpAnyH_take (i := 19) (oi := ⟨some 100, _, _, _, _, _⟩) (v := (.pointer (some ⟨tb, 0, none⟩))) rfl (by kernel_rfl) (by kernel_rfl) (by kernel_rfl) (fun _ _ _ h => h) (Or.inl ⟨by rfl, ?_⟩) hSw ?_
      · intro w' hSw'
        have c68 := blk_cell68 hSw'.1 zid32 zid32
        have b68 := blk_cell68 hSw'.2.1 zid32 zid32
        go_simp
      simp only [Act.put, List.setIfInBounds_toArray, List.set_cons_zero, List.set_cons_succ]
      refine wpAnyH_take (i := 20) (oi := ⟨some 101, _, _, _, _, _⟩) (v := .agg ([.slice (some ⟨p1, 0, none⟩) 1 1, .slice (some ⟨q1, 0, none⟩) 1 1]).toArray) rfl (by kernel_rfl) (by kernel_rfl) (by kernel_rfl) (fun _ _ _ h => h) (yieldsIf_load_mid (by rfl) _ _ rfl tb (0) rfl ([.slice (some ⟨p1, 0, none⟩) 1 1, .slice (some ⟨q1, 0, none⟩) 1 1]) _ (fun _ h => h.2.2.2.1.rowAll) Try.underlying41 rfl infoTx) hSw ?_
      simp only [Act.put, List.setIfInBounds_toArray, List.set_cons_zero, List.set_cons_succ]
      refine wpAnyH_ready (rs := [16]) (by kernel_rfl) (by simp) (AllReadyH.cons (o := ⟨some 97, _, _, _, _, _⟩) rfl (fun K hK => ?_) AllReadyH.nil)
      go_simp
      refine (ID2.out _ hSw.2.2.2.2).mono ?_
      rintro e16 w16 ⟨rfl, a16⟩
      dsimp only
      refine hK.out _ _ (⟨hSw.1.below a16 hSw.1.lt, hSw.2.1.below a16 hSw.2.1.lt, hSw.2.2.1.below a16 hSw.2.2.1.lt, hSw.2.2.2.1.below a16 hSw.2.2.2.1.lt, hSw.2.2.2.2.trans (a16.mono hSw.2.2.2.2.size)⟩) ?_
      intro hSw
      clear hK K
      try simp only [Act.put, List.setIfInBounds_toArray, List.set_cons_zero, List.set_cons_succ]
      refine wpAnyH_ready (rs := [21]) (by kernel_rfl) (by simp) (AllReadyH.cons (o := ⟨some 102, _, _, _, _, _⟩) rfl (fun K hK => ?_) AllReadyH.nil)
      go_simp
      refine (ID1.out _ hSw.2.2.2.2).mono ?_
      rintro e21 w21 ⟨rfl, a21⟩
      dsimp only
      refine hK.out _ _ (⟨hSw.1.below a21 hSw.1.lt, hSw.2.1.below a21 hSw.2.1.lt, hSw.2.2.1.below a21 hSw.2.2.1.lt, hSw.2.2.2.1.below a21 hSw.2.2.2.1.lt, hSw.2.2.2.2.trans (a21.mono hSw.2.2.2.2.size)⟩) ?_
      intro hSw
      clear hK K
      try simp only [Act.put, List.setIfInBounds_toArray, List.set_cons_zero, List.set_cons_succ]
      refine wpAnyH_take (i := 22) (oi := ⟨some 103, _, _, _, _, _⟩) (v := (.bool eb)) rfl (by kernel_rfl) (by kernel_rfl) (by kernel_rfl) (fun _ _ _ h => h) (Or.inl ⟨by rfl, ?_⟩) hSw ?_
      · intro w' hSw'
        have c68 := blk_cell68 hSw'.1 zid32 zid32
        have b68 := blk_cell68 hSw'.2.1 zid32 zid32
        go_simp
      simp only [Act.put, List.setIfInBounds_toArray, List.set_cons_zero, List.set_cons_succ]
      refine wpAnyH_take (i := 23) (oi := ⟨some 104, _, _, _, _, _⟩) (v := (.bool eb)) rfl (by kernel_rfl) (by kernel_rfl) (by kernel_rfl) (fun _ _ _ h => h) (Or.inl ⟨by rfl, ?_⟩) hSw ?_
      · intro w' hSw'
        have c68 := blk_cell68 hSw'.1 zid32 zid32
        have b68 := blk_cell68 hSw'.2.1 zid32 zid32
        go_simp
      simp only [Act.put, List.setIfInBounds_toArray, List.set_cons_zero, List.set_cons_succ]
      refine wpAnyH_done (by kernel_rfl) ?_ _
      have HW := Lib.hid hSw.2.2.2.2
      clear hSw heqA heqB
      cases eb with
      | true =>
        go_wp2
        go_ret
        exact ⟨rfl, HB0.out.trans ((HFA.out.trans (HW.out.mono HFA.out.size)).mono HB0.out.size)⟩
      | false =>
        cases gd with
        | false =>
          have hR : R = (fL3 made kept, fL1 made, 121) := by
            rw [← HR.out]
            exact fee_bad made kept first HMD.out.1 (by have := HMD.out; omega) HKP.out.1 HKP.out.2 HFS.out.1 HFS.out.2 (of_decide_eq_false HGD.out)
          have hr : r2 = 121 := by rw [← HR2.out, hR]
          subst hr
          clear hR
          go_wp2
          go_ret
          exact ⟨rfl, HB0.out.trans ((HFA.out.trans (HW.out.mono HFA.out.size)).mono HB0.out.size)⟩
        | true =>
          have hR : R = (fL3 made kept ++ [((x2, 0), (first, sha [107], 2))], fL1 made, 0) := by
            rw [← HR.out, ← HX2.out]
            exact fee_good made kept first HMD.out.1 (by have := HMD.out; omega) HKP.out.1 HKP.out.2 HFS.out.1 HFS.out.2 (of_decide_eq_true HGD.out) (by rw [HX2.out, HX3.out]; exact HEA.out)
          have hr : r2 = 0 := by rw [← HR2.out, hR]
          subst hr
          obtain ⟨LL, hLL⟩ : ∃ LL, (fL3 made kept ++ [((x2, (0 : Nat)), (first, sha [107], 2))] : CoL) = LL := ⟨_, rfl⟩
          have hcl : cL R (fL1 made) = LL := by rw [hR, ← hLL]; rfl
          have hct : totC LL = first + kept := by rw [← hLL, fL3]; show kept + (first + 0) = _; omega
          have hnn : ∀ x ∈ LL, 0 ≤ x.2.1 := by
            rw [← hLL, fL3]
            intro x hx
            have hk := HKP.out
            have hf := HFS.out
            simp only [List.cons_append, List.nil_append, List.mem_cons, List.not_mem_nil, or_false] at hx
            rcases hx with rfl | rfl
            · exact hk.1
            · exact hf.1
          have hma := HMA.out
          rw [hcl] at hma
          have HT := Lib.hid hct
          have HNN := Lib.hid hnn
          have u3 : wrap64 (first + kept) = first + kept := by have := HMD.out; have := HKP.out; have := HFS.out; exact IntWalk.wrap64_in _ (by omega)
          have AL := call_any _ gs gs pm2 LL (HSA.out.below HW.out HSA.out.lt) (hma.new HW.out)
          clear hR hLL hcl hct hnn hma
          go_wp2_with fail
          refine AL.mono ?_
          clear AL
          rintro e22 w22 ⟨p22, rfl, a22, m22⟩
          go_wp2_with fail
          refine (total_any _ _ _ LL m22 HNN.out (by rw [HT.out]; have := HMD.out; have := HKP.out; have := HFS.out; omega)).mono ?_
          rintro e23 w23 ⟨rfl, a23⟩
          rw [HT.out]
          go_wp2
          go_ret
          exact ⟨rfl, HB0.out.trans (((HFA.out.trans (HW.out.mono HFA.out.size)).trans ((a22.trans (a23.mono a22.size)).mono (HFA.out.trans (HW.out.mono HFA.out.size)).size)).mono HB0.out.size)⟩
end Go.Proofs.Ytlngjojibmnmeaa
