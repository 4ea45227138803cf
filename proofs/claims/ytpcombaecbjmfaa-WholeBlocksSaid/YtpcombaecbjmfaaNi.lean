/- The number that an ID's bytes are; a header's name; proved, mined at the easiest bits. -/
import Derived.Test.YtpcombaecbjmfaaNm
import Derived.Test.YtpcombaecbjmfaaMr
import Derived.Test.YtpcombaecbjmfaaHr
import Derived.Test.YtpcombaecbjmfaaBl
namespace Go.Proofs.Ytpcombaecbjmfaa
open Go.RowKit
theorem run_index_id (l : List UInt8) (hl : l.length = 32) (i : Nat) (hi : i < 32) (w : World) : (Instr.index 32 (.agg (bts l).toArray) (.int .i64 (i : Int))).run Try.prog w = .ok (.int .u8 (((l.getD i 0).toNat : Nat) : Int)) w := by
  have h0 : (0:Int) ≤ (i : Int) ∧ (i : Int) < 32 := by omega
  simp [Instr.index, run_underlying Try.underlying32, asIntOf, h0, go_sem]
  rw [if_pos hi, bts_get l i (by omega)]
  simp [Bt, List.getElem?_eq_getElem (show i < l.length by omega)]
/-- the number's words, so far -/
def fid (l : List UInt8) : Nat → List Nat
  | 0 => [0, 0, 0, 0]
  | i + 1 => (fid l i).set (i / 8) ((fid l i).getD (i / 8) 0 ||| (l.getD i 0).toNat * 2 ^ (8 * (i % 8)))
theorem fid_len (l : List UInt8) (i : Nat) : (fid l i).length = 4 := by
  induction i with
  | zero => rfl
  | succ i ih => rw [fid, List.length_set, ih]
theorem or_lt64 (a b : Nat) (ha : a < 18446744073709551616) (hb : b < 18446744073709551616) : a ||| b < 18446744073709551616 := by
  have := @Nat.or_lt_two_pow a b 64 (by omega) (by omega)
  omega
theorem byte_shl (x : UInt8) (r : Nat) (hr : r < 8) : x.toNat * 2 ^ (8 * r) < 18446744073709551616 := by
  have h := x.toNat_lt
  rcases (show r = 0 ∨ r = 1 ∨ r = 2 ∨ r = 3 ∨ r = 4 ∨ r = 5 ∨ r = 6 ∨ r = 7 by omega) with rfl | rfl | rfl | rfl | rfl | rfl | rfl | rfl <;> omega
theorem fid_lt (l : List UInt8) (i : Nat) : ∀ j, (fid l i).getD j 0 < 18446744073709551616 := by
  induction i with
  | zero =>
    intro j
    rcases j with _ | _ | _ | _ | j <;> simp [fid]
  | succ i ih =>
    intro j
    rw [fid]
    by_cases hj : j = i / 8
    · subst hj
      by_cases hl : i / 8 < (fid l i).length
      · simp only [List.getD, List.getElem?_set_self hl, Option.getD_some]
        exact or_lt64 _ _ (ih _) (byte_shl _ _ (Nat.mod_lt _ (by decide)))
      · rw [List.set_eq_of_length_le (by omega)]; exact ih _
    · simp only [List.getD, List.getElem?_set_ne (Ne.symm hj)]
      exact ih j
theorem ofInt64 (a : Nat) (ha : a < 18446744073709551616) : (BitVec.ofInt 64 (a : Int)).toNat = a := by
  rw [BitVec.ofInt_natCast, BitVec.toNat_ofNat]; exact Nat.mod_eq_of_lt (by omega)
theorem wrap_u64m (n : Nat) (h : n < 18446744073709551616) : IntKind.u64.wrap (n : Int) = (n : Int) := by rw [IntKind.wrap_u64]; omega
theorem or64 (a b : Nat) (ha : a < 18446744073709551616) (hb : b < 18446744073709551616) : bits BinOp.or IntKind.u64 (a : Int) (b : Int) = ((a ||| b : Nat) : Int) := by
  have hx := or_lt64 a b ha hb
  show IntKind.u64.wrap ((BitVec.ofInt 64 (a : Int) ||| BitVec.ofInt 64 (b : Int)).toNat : Int) = _
  rw [BitVec.toNat_or, ofInt64 a ha, ofInt64 b hb, wrap_u64m _ hx]
set_option maxRecDepth 20000 in
set_option maxHeartbeats 4000000 in
set_option linter.unusedSimpArgs false in
theorem fromID_any (w : World) (l : List UInt8) (hl : l.length = 32) :
    Calls Try.prog 57 #[.agg (bts l).toArray] w fun e w' => e = .returned (.agg (n6 (fid l 32)).toArray) ∧ Below w.heap.size w w' := by
  have HL := Lib.hid hl
  clear hl
  go_enter Try.func57, Try.ntmps57
  go_upto_region 2 with fail
  generalize hW : World.alloc (World.alloc (World.alloc w _) _) _ = W
  have h0 : Blk W w.heap.size 32 (bts l).toArray := by rw [← hW]; exact ((Blk.new _ _ _).alloc _).alloc _
  have h1 : Blk W (w.heap.size + 1) 109 (n6 [0, 0, 0, 0]).toArray := by rw [← hW]; exact (blk_new2 w _ _ (n6 [0, 0, 0, 0])).alloc _
  have h2 : Blk W (w.heap.size + 1 + 1) 109 (n6 [0, 0, 0, 0]).toArray := by
    have := blk_new2 (w.alloc (.cells (bts l).toArray 32)) (.cells (n6 [0, 0, 0, 0]).toArray 109) 109 (n6 [0, 0, 0, 0])
    rw [show (w.alloc (.cells (bts l).toArray 32)).heap.size = w.heap.size + 1 by simp] at this
    rw [← hW]; exact this
  have hbl : Below w.heap.size w W := by rw [← hW]; exact (((Below.refl _ _).alloc (Nat.le_refl _) _).alloc (by simp) _).alloc (by simp; omega) _
  clear hW
  obtain ⟨q, hq⟩ : ∃ q, w.heap.size = q := ⟨_, rfl⟩
  rw [hq] at h0 h1 h2 ⊢
  have HQ := Lib.hid hq
  have H0 := Lib.hid h0
  have H1 := Lib.hid h1
  have H2 := Lib.hid h2
  have HBL := Lib.hid hbl
  clear hq h0 h1 h2 hbl
  go_wp2_with (with_reducible refine wpList_ld rfl 32 (.tmp 1) rfl q 0 rfl (bts l) H0.out.rowAll _ Try.underlying32 rfl 32 infoID (by simp [HL.out]) ?_)
  go_loopg [7] 32 (fun k v7 wr => ∃ (i : Nat), i + k = 32 ∧ v7 = .int .i64 i ∧ Hid (Blk wr (q + 1) 109 (n6 [0, 0, 0, 0]).toArray) ∧ Hid (Blk wr (q + 1 + 1) 109 (n6 (fid l i)).toArray) ∧ Hid (Below w.heap.size w wr))
  case atStart => exact ⟨0, by omega, rfl, H1, H2, HBL⟩
  case round =>
    clear H1 H2 HBL H0
    obtain ⟨i, hi, rfl, H1, H2, HBL⟩ := hrel
    by_cases hlt : i < 32
    · have hx := run_index_id l HL.out i hlt wr
      obtain ⟨d, hd⟩ : ∃ d, (l.getD i 0).toNat = d := ⟨_, rfl⟩
      have hdl : d < 256 := by rw [← hd]; exact (l.getD i 0).toNat_lt
      rw [hd] at hx
      obtain ⟨k8, hk8⟩ : ∃ k, i / 8 = k := ⟨_, rfl⟩
      obtain ⟨r8, hr8⟩ : ∃ r, i % 8 = r := ⟨_, rfl⟩
      have e12 : (i : Int) / 8 = (k8 : Int) := by omega
      have e12' : (i : Int).tdiv 8 = (k8 : Int) := by rw [Int.tdiv_eq_ediv_of_nonneg (by omega)]; exact e12
      have e18 : (i : Int) % 8 = (r8 : Int) := by omega
      have e18' : (i : Int).tmod 8 = (r8 : Int) := by rw [Int.tmod_eq_emod_of_nonneg (by omega)]; exact e18
      have k4 : k8 < 4 := by omega
      have ki : (k8 : Int) < 4 := by omega
      have k0 : (0 : Int) ≤ (k8 : Int) := by omega
      have pc : wr.cell? ⟨q + 1 + 1, k8, none⟩ = some (.int .u64 (((fid l i).getD k8 0 : Nat) : Int)) := by rw [H2.out.cell k8, List.getElem?_toArray]; exact n6_get _ k8 (by rw [fid_len]; exact k4)
      obtain ⟨x, hxx⟩ : ∃ x, (fid l i).getD k8 0 = x := ⟨_, rfl⟩
      rw [hxx] at pc
      have fc := H2.out.frozen k8
      have r88 : r8 < 8 := by omega
      obtain ⟨s, hs⟩ : ∃ s, d * 2 ^ (8 * r8) = s := ⟨_, rfl⟩
      have hsl : s < 18446744073709551616 := by rw [← hs, ← hd]; exact byte_shl _ _ r88
      have e21 : IntKind.u64.wrap ((d : Int) * 2 ^ (8 * r8)) = (s : Int) := by
        have : (d : Int) * 2 ^ (8 * r8) = ((d * 2 ^ (8 * r8) : Nat) : Int) := by simp
        rw [this, hs, IntKind.wrap_u64]; omega
      obtain ⟨y, hy⟩ : ∃ y, x ||| s = y := ⟨_, rfl⟩
      have hxl : x < 18446744073709551616 := by rw [← hxx]; exact fid_lt l i k8
      have e22 : bits BinOp.or IntKind.u64 (x : Int) (s : Int) = (y : Int) := by rw [← hy]; exact or64 x s hxl hsl
      have hst := H2.out.set_ k8 (.int .u64 (y : Int))
      rw [List.setIfInBounds_toArray] at hst
      have HST := Lib.hid (show Blk (wr.setCell ⟨q + 1 + 1, k8, none⟩ (.int .u64 (y : Int))) (q + 1 + 1) 109 (n6 (fid l (i + 1))).toArray by
        rw [fid, hk8, hxx, hd, hr8, hs, hy]
        have : n6 ((fid l i).set k8 y) = (n6 (fid l i)).set k8 (.int .u64 (y : Int)) := by simp [n6, List.map_set]
        rw [this]; exact hst)
      have HO5 : Only (fun b => b = q + 1 + 1) wr (wr.setCell ⟨q + 1 + 1, k8, none⟩ (.int .u64 (y : Int))) := (Only.refl (fun b => b = q + 1 + 1) wr).setCell (p := ⟨q + 1 + 1, k8, none⟩) (fun _ => rfl) _
      have HH1 := Lib.hid (H1.out.only HO5 (by omega))
      have HBL5 := Lib.hid (HBL.out.trans (HO5.below HBL.out.size (fun b hb e => by have := HQ.out; omega)))
      have HI := Lib.hid hi
      clear HO5 hst hs hy hd hk8 hr8 hxx hsl hxl hi
      go_wp2
      go_roundg (32 - 1 - i)
      case measure => have := HI.out; omega
      case rel => exact ⟨i + 1, by have := HI.out; omega, by go_num, HH1, HST, HBL5⟩
    · obtain rfl : i = 32 := by omega
      have h4 : (n6 (fid l 32)).length = 4 := by rw [n6_length, fid_len]
      have H4 := Lib.hid h4
      clear h4 hlt hi
      go_wp2_with (first
        | (with_reducible refine wpList_ld rfl 109 (.tmp 3) rfl (q + 1 + 1) 0 rfl (n6 (fid l 32)) H2.out.rowAll _ Try.underlying109 rfl 4 infoNum H4.out.symm ?_)
        | (with_reducible refine wpList_stb rfl 109 (.tmp 2) (.tmp 25) rfl (q + 1) 0 _ rfl rfl 109 _ H1.out ?k1 ?k2 ?k3 ?_))
      case k1 => simp [fid_len, n6]
      case k2 => rw [infoNum]; simp [fid_len, n6]
      case k3 => exact n6_one _
      intro w6 b6 o6
      rw [over_all _ _ (by simp [fid_len, n6])] at b6
      have HB6 := Lib.hid b6
      have HBL6 := Lib.hid (HBL.out.trans (o6.below HBL.out.size (fun b hb e => by have := HQ.out; omega)))
      clear b6 o6
      go_wp2
      refine bodyPost_ret (results_cell_row rfl _ _ (q + 1) 109 (n6 (fid l 32)).toArray (0, 0) _ rfl HB6.out Try.underlying109 rfl (by rw [infoNum]; simp [H4.out])) rfl ?_
      exact ⟨rfl, HBL6.out⟩
section
variable {P : Program} {ops : Array Oper} {rest : List Oper} {o : Oper} {a : Act} {w : World} {Q : Exit → Act → World → Prop}
theorem wpList_ldg3 (hw : Region.wanted o (yielded ops a.tmps) = true) (ty : TypeId) (x : Operand) (ho : o.op = .load ty x) (b oo : Nat) (hx : a.eval x = .pointer (some ⟨b, oo, none⟩)) (cs : List Value) (hc : RowAt w b oo cs)
    (d : TypeDesc) (hu : P.underlying ty = some d) (hd : d.isRow = true) (n : Nat) (hi : (P.info? ty).map (·.size) = some n) (hn : n = cs.length)
    (h : wpList P ops Q rest (a.put o.dst (.agg cs.toArray)) w) : wpList P ops Q (o :: rest) a w := by
  unfold wpList
  rw [if_pos hw]
  exact .inl (wp_load_mid ty x ho b oo hx cs d hc hu hd (by rw [hi, hn]) h)
end
theorem hdrC_setn (v t b n m : Nat) (prev root : List UInt8) (h1 : prev.length = 32) (h2 : root.length = 32) : (hdrC v prev root t b n).set 67 (.int .u32 ((m : Nat) : Int)) = hdrC v prev root t b m := by
  have e : ∀ x : Nat, hdrC v prev root t b x = (.int .u32 ((v : Nat) : Int) :: (bts prev ++ (bts root ++ [.int .u32 ((t : Nat) : Int), .int .u32 ((b : Nat) : Int)]))) ++ [.int .u32 ((x : Nat) : Int)] := fun x => by simp [hdrC]
  have hl : (.int .u32 ((v : Nat) : Int) :: (bts prev ++ (bts root ++ [.int .u32 ((t : Nat) : Int), .int .u32 ((b : Nat) : Int)])) : List Value).length = 67 := by simp [h1, h2]
  rw [e, e, List.set_append_right _ _ (by omega), hl]
  rfl
set_option maxRecDepth 20000 in
set_option maxHeartbeats 4000000 in
theorem headID_any (w : World) (v t b n : Nat) (prev root : List UInt8) (h1 : prev.length = 32) (h2 : root.length = 32) :
    Calls Try.prog 32 #[.agg (hdrC v prev root t b n).toArray] w fun e w' => e = .returned (idV (sha2 (hdrB v prev root t b n))) ∧ Below w.heap.size w w' := by
  have HX := Lib.hid (hdrB_len v prev root t b n h1 h2)
  have BY := Lib.hid (fun W => head_bytes_any W v t b n prev root h1 h2)
  obtain ⟨X, hX⟩ : ∃ X, hdrB v prev root t b n = X := ⟨_, rfl⟩
  rw [hX] at HX BY ⊢
  clear hX
  go_enter Try.func32, Try.ntmps32
  go_upto_region 1 with fail
  generalize hW : World.alloc (World.alloc w _) _ = W
  have hb1 : Blk W w.heap.size 43 (hdrC v prev root t b n).toArray := by rw [← hW]; exact (Blk.new _ _ _).alloc _
  have hb2 : Blk W (w.heap.size + 1) 32 zeros32.toArray := by rw [← hW]; exact blk_new2 w _ _ zeros32
  have hbl : Below w.heap.size w W := by rw [← hW]; exact ((Below.refl _ _).alloc (Nat.le_refl _) _).alloc (by simp) _
  clear hW
  obtain ⟨q, hq⟩ : ∃ q, w.heap.size = q := ⟨_, rfl⟩
  rw [hq] at hb1 hb2 ⊢
  have HQ := Lib.hid hq
  have HB := Lib.hid hb1
  have HB2 := Lib.hid hb2
  have HBL := Lib.hid hbl
  clear hq hb1 hb2 hbl
  go_wp2_with (with_reducible refine wpList_ld rfl 43 (.tmp 1) rfl q 0 rfl (hdrC v prev root t b n) HB.out.rowAll _ Try.underlying43 rfl 68 infoHdr (hdrC_len _ _ _ _ _ _ h1 h2).symm ?_)
  refine (BY.out W).mono ?_
  rintro e1 w1 ⟨A1, c1, rfl, b1, b2⟩
  replace HB2 := Lib.hid (HB2.out.below b1 HB2.out.lt)
  replace HBL := Lib.hid (HBL.out.trans (b1.mono HBL.out.size))
  have ISB := Lib.hid (IsB.of_own b2)
  clear b1 b2 BY
  have TW := Lib.hid (htwice_any (w1.alloc (.cells #[.slice A1 80 c1] 28)) _ 1 1 _ [X] _ _ (Sl.one_new w1 28 (.slice A1 80 c1)) (Each1.one (ISB.out.only ((Only.refl (fun _ => False) w1).alloc _) (fun _ _ _ h => h))) (by omega) (by have := HX.out; simp; omega))
  rw [show [X].flatten = X by simp] at TW
  go_wp2_with fail
  refine TW.out.mono ?_
  rintro e3 w3 ⟨rfl, a3⟩
  have hz3 : Blk w3 (q + 1) 32 zeros32.toArray := (HB2.out.alloc _).below a3 (HB2.out.alloc _).lt
  have BL4 := Lib.hid ((HBL.out.alloc HBL.out.size (.cells #[.slice A1 80 c1] 28)).trans (a3.mono (HBL.out.alloc HBL.out.size _).size))
  clear a3 TW HB2
  go_wp2_with (with_reducible refine wpList_stb rfl 32 (.tmp 2) (.tmp 6) rfl (q + 1) 0 _ rfl rfl 32 zeros32 hz3 ?h1 ?h2 ?h3 ?_)
  case h1 => simp [zeros32, sha2, sha_len]
  case h2 => rw [infoID]; simp [sha2, sha_len]
  case h3 => exact bts_one _
  intro w4 b4 o4
  rw [over_all _ _ (by simp [zeros32, sha2, sha_len])] at b4
  have HBB := Lib.hid (show Blk w4 (q + 1) 32 (bts (sha2 X)).toArray by simpa using b4)
  have O4 := Lib.hid o4
  clear b4 o4 hz3
  go_wp2
  refine bodyPost_ret (results_cell_row rfl _ _ (q + 1) 32 (bts (sha2 X)).toArray (0, 0) _ rfl HBB.out Try.underlying32 rfl (by rw [infoID]; simp [sha2, sha_len])) rfl ?_
  exact ⟨rfl, BL4.out.trans (O4.out.below BL4.out.size (fun b hb e => by have := HQ.out; omega))⟩
def provE (v : Nat) (prev root : List UInt8) (t n : Nat) : Int := if 0 < cmpU (fid (sha2 (hdrB v prev root t 545259519 n)) 32) easyT 4 then 50 else 0
set_option maxRecDepth 20000 in
set_option maxHeartbeats 4000000 in
set_option linter.unusedSimpArgs false in
theorem proved_any (w : World) (v t n : Nat) (prev root : List UInt8) (h1 : prev.length = 32) (h2 : root.length = 32) :
    Calls Try.prog 28 #[.agg (hdrC v prev root t 545259519 n).toArray, .int .u32 545259519] w fun e w' => e = .returned (.int .i64 (provE v prev root t n)) ∧ Below w.heap.size w w' := by
  obtain ⟨cc, hcc⟩ : ∃ cc, cmpU (fid (sha2 (hdrB v prev root t 545259519 n)) 32) easyT 4 = cc := ⟨_, rfl⟩
  have hpe : provE v prev root t n = if 0 < cc then 50 else 0 := by rw [provE, hcc]
  rw [hpe]
  obtain ⟨r, hr⟩ : ∃ r : Int, (if 0 < cc then (50 : Int) else 0) = r := ⟨_, rfl⟩
  rw [hr]
  have HRR := Lib.hid hr
  clear hr
  have ID := Lib.hid (fun W => headID_any W v t 545259519 n prev root h1 h2)
  have HS := Lib.hid (show (sha2 (hdrB v prev root t 545259519 n)).length = 32 from sha_len _)
  obtain ⟨X, hX⟩ : ∃ X, sha2 (hdrB v prev root t 545259519 n) = X := ⟨_, rfl⟩
  rw [hX] at ID HS hcc
  unfold idV at ID
  have CM := Lib.hid (fun W => cmp_any W (fid X 32) easyT (fid_len _ _) rfl)
  have CT := Lib.hid (fun W => cmp_any W easyT easyT rfl rfl)
  rw [cmpU_same] at CT
  rw [hcc] at CM
  obtain ⟨F, hF⟩ : ∃ F, fid X 32 = F := ⟨_, rfl⟩
  have FI := Lib.hid (fun W => fromID_any W X HS.out)
  rw [hF] at CM FI
  have HFL := Lib.hid (show (n6 F).length = 4 by rw [n6_length, ← hF, fid_len])
  have HT4 := Lib.hid (show (n6 easyT).length = 4 from rfl)
  obtain ⟨T, hT⟩ : ∃ T, easyT = T := ⟨_, rfl⟩
  rw [hT] at CM CT HT4
  have TG := Lib.hid (fun W => target_t W)
  rw [hT] at TG
  clear hX hcc hF hT hpe
  go_enter Try.func28, Try.ntmps28
  go_upto_region 1 with fail
  generalize hW : World.alloc w _ = W
  have hb1 : Blk W w.heap.size 43 (hdrC v prev root t 545259519 n).toArray := by rw [← hW]; exact Blk.new _ _ _
  have hbl : Below w.heap.size w W := by rw [← hW]; exact (Below.refl _ _).alloc (Nat.le_refl _) _
  clear hW
  obtain ⟨q, hq⟩ : ∃ q, w.heap.size = q := ⟨_, rfl⟩
  rw [hq] at hb1 ⊢
  have HQ := Lib.hid hq
  have HB := Lib.hid hb1
  have HBL := Lib.hid hbl
  have cT := (hdr_cellT hb1 h1 h2).2.1
  clear hq hb1 hbl
  go_wp2_with fail
  refine (TG.out _).mono ?_
  rintro e1 w1 ⟨rfl, a1⟩
  replace HB := Lib.hid (HB.out.below a1 HB.out.lt)
  replace HBL := Lib.hid (HBL.out.trans (a1.mono HBL.out.size))
  clear a1 cT
  go_wp2_with (with_reducible refine wpList_stb rfl 109 (.tmp 5) (.tmp 13) rfl w1.heap.size 0 _ rfl rfl 109 (n6 [0, 0, 0, 0]) (Blk.new w1 _ _) ?h1 ?h2 ?h3 ?_)
  case h1 => simp [HT4.out]; simp [n6]
  case h2 => rw [infoNum]; simp [HT4.out]
  case h3 => exact n6_one _
  intro w3 b3 o3
  rw [over_all _ _ (by simp [HT4.out]; simp [n6])] at b3
  have hO3 : Below w1.heap.size w1 w3 := (((Only.refl (fun b => w1.heap.size ≤ b) w1).alloc _).trans o3 (fun b _ e => by omega)).below (Nat.le_refl _) (fun b hb h => by omega)
  replace HB := Lib.hid (HB.out.below hO3 HB.out.lt)
  replace HBL := Lib.hid (HBL.out.trans (hO3.mono HBL.out.size))
  obtain ⟨p5, hp5⟩ : ∃ p5, w1.heap.size = p5 := ⟨_, rfl⟩
  rw [hp5] at b3 ⊢
  have HP5 := Lib.hid b3
  clear b3 o3 hO3 hp5
  go_wp2_with fail
  refine (TG.out _).mono ?_
  rintro e4 w4 ⟨rfl, a4⟩
  replace HB := Lib.hid (HB.out.below a4 HB.out.lt)
  replace HP5 := Lib.hid (HP5.out.below a4 HP5.out.lt)
  replace HBL := Lib.hid (HBL.out.trans (a4.mono HBL.out.size))
  clear a4
  go_wp2_with (with_reducible refine wpList_stb rfl 109 (.tmp 7) (.tmp 18) rfl w4.heap.size 0 _ rfl rfl 109 (n6 [0, 0, 0, 0]) (Blk.new w4 _ _) ?g1 ?g2 ?g3 ?_)
  case g1 => simp [HT4.out]; simp [n6]
  case g2 => rw [infoNum]; simp [HT4.out]
  case g3 => exact n6_one _
  intro w6 b6 o6
  rw [over_all _ _ (by simp [HT4.out]; simp [n6])] at b6
  have hO6 : Below w4.heap.size w4 w6 := (((Only.refl (fun b => w4.heap.size ≤ b) w4).alloc _).trans o6 (fun b _ e => by omega)).below (Nat.le_refl _) (fun b hb h => by omega)
  replace HB := Lib.hid (HB.out.below hO6 HB.out.lt)
  replace HP5 := Lib.hid (HP5.out.below hO6 HP5.out.lt)
  replace HBL := Lib.hid (HBL.out.trans (hO6.mono HBL.out.size))
  obtain ⟨p7, hp7⟩ : ∃ p7, w4.heap.size = p7 := ⟨_, rfl⟩
  rw [hp7] at b6 ⊢
  have HP7 := Lib.hid b6
  clear b6 o6 hO6 hp7
  go_wp2_with (first
    | (refine wpList_ldg3 (by rfl) 109 (.tmp 5) rfl p5 0 rfl (n6 T) HP5.out.rowAll _ Try.underlying109 rfl 4 infoNum HT4.out.symm ?_)
    | (refine wpList_ldg3 (by rfl) 109 (.tmp 7) rfl p7 0 rfl (n6 T) HP7.out.rowAll _ Try.underlying109 rfl 4 infoNum HT4.out.symm ?_))
  refine (CT.out _).mono ?_
  rintro e8 w8 ⟨rfl, a8⟩
  replace HB := Lib.hid (HB.out.below a8 HB.out.lt)
  replace HP5 := Lib.hid (HP5.out.below a8 HP5.out.lt)
  replace HBL := Lib.hid (HBL.out.trans (a8.mono HBL.out.size))
  clear a8 HP7 CT TG
  go_upto_region 5 with fail
  by_cases hc : 0 < cc
  · have d : decide ((0 : Int) < cc) = true := by simp; exact hc
    have HRV := Lib.hid (show r = 50 by rw [← HRR.out, if_pos hc])
    clear hc
    refine wp_region_held_drew (S := (fun w' => Blk w' q 43 (hdrC v prev root t 545259519 n).toArray ∧ Blk w' p5 109 (n6 T).toArray ∧ Below w.heap.size w w')) (by kernel_rfl) (⟨HB.out.drew, HP5.out.drew, HBL.out.drew⟩) ?_
    intro hSw
    refine wpAnyH_take (i := 0) (oi := ⟨some 34, _, _, _, _, _⟩) (v := .agg (hdrC v prev root t 545259519 n).toArray) rfl (by kernel_rfl) (by kernel_rfl) (by kernel_rfl) (fun _ _ _ h => h) (yieldsIf_load_mid (by rfl) _ _ rfl q (0) rfl (hdrC v prev root t 545259519 n) _ (fun _ h => h.1.rowAll) Try.underlying43 rfl (by rw [hdrC_len _ _ _ _ _ _ h1 h2]; exact infoHdr)) hSw ?_
    simp only [Act.put, List.setIfInBounds_toArray, List.set_cons_zero, List.set_cons_succ]
    refine wpAnyH_take (i := 3) (oi := ⟨some 37, _, _, _, _, _⟩) (v := .agg (n6 T).toArray) rfl (by kernel_rfl) (by kernel_rfl) (by kernel_rfl) (fun _ _ _ h => h) (yieldsIf_load_mid (by rfl) _ _ rfl p5 (0) rfl (n6 T) _ (fun _ h => h.2.1.rowAll) Try.underlying109 rfl (by rw [HT4.out]; exact infoNum)) hSw ?_
    simp only [Act.put, List.setIfInBounds_toArray, List.set_cons_zero, List.set_cons_succ]
    refine wpAnyH_ready (rs := [1]) (by kernel_rfl) (by simp) (AllReadyH.cons (o := ⟨some 35, _, _, _, _, _⟩) rfl (fun K hK => ?_) AllReadyH.nil)
    go_simp
    go_at_call 32
    refine (ID.out _).mono ?_
    rintro e11 w11 ⟨rfl, a11⟩
    dsimp only
    refine hK.out _ _ (⟨hSw.1.below a11 hSw.1.lt, hSw.2.1.below a11 hSw.2.1.lt, hSw.2.2.trans (a11.mono hSw.2.2.size)⟩) ?_
    intro hSw
    clear hK K
    try simp only [Act.put, List.setIfInBounds_toArray, List.set_cons_zero, List.set_cons_succ]
    refine wpAnyH_ready (rs := [2]) (by kernel_rfl) (by simp) (AllReadyH.cons (o := ⟨some 36, _, _, _, _, _⟩) rfl (fun K hK => ?_) AllReadyH.nil)
    go_simp
    go_at_call 57
    refine (FI.out _).mono ?_
    rintro e12 w12 ⟨rfl, a12⟩
    dsimp only
    refine hK.out _ _ (⟨hSw.1.below a12 hSw.1.lt, hSw.2.1.below a12 hSw.2.1.lt, hSw.2.2.trans (a12.mono hSw.2.2.size)⟩) ?_
    intro hSw
    clear hK K
    try simp only [Act.put, List.setIfInBounds_toArray, List.set_cons_zero, List.set_cons_succ]
    refine wpAnyH_ready (rs := [4]) (by kernel_rfl) (by simp) (AllReadyH.cons (o := ⟨some 38, _, _, _, _, _⟩) rfl (fun K hK => ?_) AllReadyH.nil)
    go_simp
    go_at_call 56
    refine (CM.out _).mono ?_
    rintro e13 w13 ⟨rfl, a13⟩
    dsimp only
    refine hK.out _ _ (⟨hSw.1.below a13 hSw.1.lt, hSw.2.1.below a13 hSw.2.1.lt, hSw.2.2.trans (a13.mono hSw.2.2.size)⟩) ?_
    intro hSw
    clear hK K
    try simp only [Act.put, List.setIfInBounds_toArray, List.set_cons_zero, List.set_cons_succ]
    refine wpAnyH_take (i := 5) (oi := ⟨some 39, _, _, _, _, _⟩) (v := (.bool true)) rfl (by kernel_rfl) (by kernel_rfl) (by kernel_rfl) (fun _ _ _ h => h) (Or.inl ⟨by rfl, ?_⟩) hSw ?_
    · intro w' hSw'
      go_simp
    simp only [Act.put, List.setIfInBounds_toArray, List.set_cons_zero, List.set_cons_succ]
    refine wpAnyH_take (i := 6) (oi := ⟨some 33, _, _, _, _, _⟩) (v := (.bool true)) rfl (by kernel_rfl) (by kernel_rfl) (by kernel_rfl) (fun _ _ _ h => h) (Or.inl ⟨by rfl, ?_⟩) hSw ?_
    · intro w' hSw'
      go_simp
    simp only [Act.put, List.setIfInBounds_toArray, List.set_cons_zero, List.set_cons_succ]
    refine wpAnyH_done (by kernel_rfl) ?_ _
    go_wp2
    go_ret
    rw [HRV.out, ← HQ.out]
    exact ⟨rfl, hSw.2.2⟩
  · have d : decide ((0 : Int) < cc) = false := by simp; omega
    have HRV := Lib.hid (show r = 0 by rw [← HRR.out, if_neg hc])
    clear hc
    refine wp_region_held_drew (S := (fun w' => Blk w' q 43 (hdrC v prev root t 545259519 n).toArray ∧ Blk w' p5 109 (n6 T).toArray ∧ Below w.heap.size w w')) (by kernel_rfl) (⟨HB.out.drew, HP5.out.drew, HBL.out.drew⟩) ?_
    intro hSw
    refine wpAnyH_take (i := 0) (oi := ⟨some 34, _, _, _, _, _⟩) (v := .agg (hdrC v prev root t 545259519 n).toArray) rfl (by kernel_rfl) (by kernel_rfl) (by kernel_rfl) (fun _ _ _ h => h) (yieldsIf_load_mid (by rfl) _ _ rfl q (0) rfl (hdrC v prev root t 545259519 n) _ (fun _ h => h.1.rowAll) Try.underlying43 rfl (by rw [hdrC_len _ _ _ _ _ _ h1 h2]; exact infoHdr)) hSw ?_
    simp only [Act.put, List.setIfInBounds_toArray, List.set_cons_zero, List.set_cons_succ]
    refine wpAnyH_take (i := 3) (oi := ⟨some 37, _, _, _, _, _⟩) (v := .agg (n6 T).toArray) rfl (by kernel_rfl) (by kernel_rfl) (by kernel_rfl) (fun _ _ _ h => h) (yieldsIf_load_mid (by rfl) _ _ rfl p5 (0) rfl (n6 T) _ (fun _ h => h.2.1.rowAll) Try.underlying109 rfl (by rw [HT4.out]; exact infoNum)) hSw ?_
    simp only [Act.put, List.setIfInBounds_toArray, List.set_cons_zero, List.set_cons_succ]
    refine wpAnyH_ready (rs := [1]) (by kernel_rfl) (by simp) (AllReadyH.cons (o := ⟨some 35, _, _, _, _, _⟩) rfl (fun K hK => ?_) AllReadyH.nil)
    go_simp
    go_at_call 32
    refine (ID.out _).mono ?_
    rintro e11 w11 ⟨rfl, a11⟩
    dsimp only
    refine hK.out _ _ (⟨hSw.1.below a11 hSw.1.lt, hSw.2.1.below a11 hSw.2.1.lt, hSw.2.2.trans (a11.mono hSw.2.2.size)⟩) ?_
    intro hSw
    clear hK K
    try simp only [Act.put, List.setIfInBounds_toArray, List.set_cons_zero, List.set_cons_succ]
    refine wpAnyH_ready (rs := [2]) (by kernel_rfl) (by simp) (AllReadyH.cons (o := ⟨some 36, _, _, _, _, _⟩) rfl (fun K hK => ?_) AllReadyH.nil)
    go_simp
    go_at_call 57
    refine (FI.out _).mono ?_
    rintro e12 w12 ⟨rfl, a12⟩
    dsimp only
    refine hK.out _ _ (⟨hSw.1.below a12 hSw.1.lt, hSw.2.1.below a12 hSw.2.1.lt, hSw.2.2.trans (a12.mono hSw.2.2.size)⟩) ?_
    intro hSw
    clear hK K
    try simp only [Act.put, List.setIfInBounds_toArray, List.set_cons_zero, List.set_cons_succ]
    refine wpAnyH_ready (rs := [4]) (by kernel_rfl) (by simp) (AllReadyH.cons (o := ⟨some 38, _, _, _, _, _⟩) rfl (fun K hK => ?_) AllReadyH.nil)
    go_simp
    go_at_call 56
    refine (CM.out _).mono ?_
    rintro e13 w13 ⟨rfl, a13⟩
    dsimp only
    refine hK.out _ _ (⟨hSw.1.below a13 hSw.1.lt, hSw.2.1.below a13 hSw.2.1.lt, hSw.2.2.trans (a13.mono hSw.2.2.size)⟩) ?_
    intro hSw
    clear hK K
    try simp only [Act.put, List.setIfInBounds_toArray, List.set_cons_zero, List.set_cons_succ]
    refine wpAnyH_take (i := 5) (oi := ⟨some 39, _, _, _, _, _⟩) (v := (.bool false)) rfl (by kernel_rfl) (by kernel_rfl) (by kernel_rfl) (fun _ _ _ h => h) (Or.inl ⟨by rfl, ?_⟩) hSw ?_
    · intro w' hSw'
      go_simp
    simp only [Act.put, List.setIfInBounds_toArray, List.set_cons_zero, List.set_cons_succ]
    refine wpAnyH_take (i := 6) (oi := ⟨some 33, _, _, _, _, _⟩) (v := (.bool false)) rfl (by kernel_rfl) (by kernel_rfl) (by kernel_rfl) (fun _ _ _ h => h) (Or.inl ⟨by rfl, ?_⟩) hSw ?_
    · intro w' hSw'
      go_simp
    simp only [Act.put, List.setIfInBounds_toArray, List.set_cons_zero, List.set_cons_succ]
    refine wpAnyH_done (by kernel_rfl) ?_ _
    go_wp2
    go_ret
    rw [HRV.out, ← HQ.out]
    exact ⟨rfl, hSw.2.2⟩
/-- the first nonce behind which work stands -/
def mineM (v : Nat) (prev root : List UInt8) (t : Nat) : Nat → Nat → Option Nat
  | _, 0 => none
  | n, k + 1 => if provE v prev root t n = 0 then some n else mineM v prev root t ((n + 1) % 4294967296) k
def mineC (v : Nat) (prev root : List UInt8) (t : Nat) : Option Nat → List Value
  | some n => hdrC v prev root t 545259519 n
  | none => hdrC 0 z32 z32 0 0 0
set_option maxRecDepth 20000 in
set_option maxHeartbeats 4000000 in
set_option linter.unusedSimpArgs false in
theorem mine_any (w : World) (v t n k : Nat) (prev root : List UInt8) (h1 : prev.length = 32) (h2 : root.length = 32) (hk : k ≤ 60) (hn : n < 4294967296) :
    Calls Try.prog 27 #[.agg (hdrC v prev root t 545259519 n).toArray, .int .u32 545259519, .int .i64 (k : Int)] w fun e w' => e = .returned (.tuple #[.agg (mineC v prev root t (mineM v prev root t n k)).toArray, .bool (mineM v prev root t n k).isSome]) ∧ Below w.heap.size w w' := by
  obtain ⟨R, hR⟩ : ∃ R, mineM v prev root t n k = R := ⟨_, rfl⟩
  rw [hR]
  have HR := Lib.hid hR
  have PV := Lib.hid (fun W n => proved_any W v t n prev root h1 h2)
  have HN := Lib.hid hn
  have m1 : min (k : Int) 65536 = (k : Int) := by omega
  have m2 : max (0 : Int) (k : Int) = (k : Int) := by omega
  clear hR hn
  rcases Nat.eq_zero_or_pos k with hk0 | hkp
  · subst hk0
    have HR0 := Lib.hid (show R = none by rw [← HR.out]; rfl)
    go_enter Try.func27, Try.ntmps27
    go_wp2_with fail
    generalize hW : World.alloc (World.alloc w _) _ = W
    have hb1 : Blk W w.heap.size 43 (hdrC v prev root t 545259519 n).toArray := by rw [← hW]; exact (Blk.new _ _ _).alloc _
    have hb2 : Blk W (w.heap.size + 1) 43 (hdrC 0 z32 z32 0 0 0).toArray := by rw [← hW]; exact blk_new2 w _ _ (hdrC 0 z32 z32 0 0 0)
    have hbl : Below w.heap.size w W := by rw [← hW]; exact ((Below.refl _ _).alloc (Nat.le_refl _) _).alloc (by simp) _
    clear hW
    obtain ⟨q, hq⟩ : ∃ q, w.heap.size = q := ⟨_, rfl⟩
    rw [hq] at hb1 hb2 ⊢
    have HQ := Lib.hid hq
    have HB := Lib.hid hb1
    have HB2 := Lib.hid hb2
    have HBL := Lib.hid hbl
    have HZL := Lib.hid (show (hdrC 0 z32 z32 0 0 0).length = 68 from hdrC_len 0 z32 z32 0 0 0 rfl rfl)
    clear hq hb1 hb2 hbl
    refine wp_loop_rounds 1 ?_
    rw [rounds_succ]
    go_wp2_with (first
      | (refine wpList_bld rfl 43 #[] rfl [] (hdrC 0 z32 z32 0 0 0).toArray built_hdr0 (by simp) ?_)
      | (with_reducible refine wpList_stb rfl 43 (.tmp 6) (.tmp 23) rfl (q + 1) 0 _ rfl rfl 43 _ HB2.out ?k1 ?k2 ?k3 ?_))
    case k1 => simp [HZL.out]
    case k2 => rw [infoHdr]; simp [HZL.out]
    case k3 => exact hdrC_one _ _ _ _ _ _
    intro w6 b6 o6
    rw [over_all _ _ (by simp [HZL.out])] at b6
    have HB6 := Lib.hid b6
    have HBL6 := Lib.hid (HBL.out.trans (o6.below HBL.out.size (fun b hb e => by have := HQ.out; omega)))
    clear b6 o6
    go_wp2
    refine bodyPost_ret (results_row_tmp rfl _ _ (q + 1) 43 (hdrC 0 z32 z32 0 0 0).toArray (0, 0) _ rfl HB6.out Try.underlying43 rfl (by rw [infoHdr]; simp [HZL.out])) rfl ?_
    exact ⟨by rw [HR0.out]; rfl, HBL6.out⟩
  go_enter Try.func27, Try.ntmps27
  go_wp2_with fail
  generalize hW : World.alloc (World.alloc w _) _ = W
  have hb1 : Blk W w.heap.size 43 (hdrC v prev root t 545259519 n).toArray := by rw [← hW]; exact (Blk.new _ _ _).alloc _
  have hb2 : Blk W (w.heap.size + 1) 43 (hdrC 0 z32 z32 0 0 0).toArray := by rw [← hW]; exact blk_new2 w _ _ (hdrC 0 z32 z32 0 0 0)
  have hbl : Below w.heap.size w W := by rw [← hW]; exact ((Below.refl _ _).alloc (Nat.le_refl _) _).alloc (by simp) _
  clear hW
  obtain ⟨q, hq⟩ : ∃ q, w.heap.size = q := ⟨_, rfl⟩
  rw [hq] at hb1 hb2 ⊢
  have HQ := Lib.hid hq
  have HB := Lib.hid hb1
  have HB2 := Lib.hid hb2
  have HBL := Lib.hid hbl
  have HZL := Lib.hid (show (hdrC 0 z32 z32 0 0 0).length = 68 from hdrC_len 0 z32 z32 0 0 0 rfl rfl)
  clear hq hb1 hb2 hbl
  go_loopg [11] k (fun kk v11 wr => ∃ (j m : Nat), j + kk = k ∧ v11 = .int .i64 j ∧ Hid (m < 4294967296) ∧ Hid (R = mineM v prev root t m kk) ∧ Hid (Blk wr q 43 (hdrC v prev root t 545259519 m).toArray) ∧ Hid (Blk wr (q + 1) 43 (hdrC 0 z32 z32 0 0 0).toArray) ∧ Hid (Below w.heap.size w wr))
  case atStart => exact ⟨0, n, by omega, rfl, HN, HR.out.symm, HB, HB2, HBL⟩
  case round =>
    clear HB HB2 HBL HR
    obtain ⟨j, m, hj, rfl, HM, HR, HB, HB2, HBL⟩ := hrel
    by_cases hlt : j < k
    · obtain ⟨k2, hk2⟩ : ∃ k2, gk = k2 + 1 := ⟨gk - 1, by omega⟩
      have hr := HR.out
      rw [hk2, mineM] at hr
      obtain ⟨E, hE⟩ : ∃ E, provE v prev root t m = E := ⟨_, rfl⟩
      have PM := Lib.hid (fun W => PV.out W m)
      rw [hE] at hr PM
      have HRR := Lib.hid hr
      have HK2 := Lib.hid hk2
      have HJ := Lib.hid hj
      clear hr hE hk2 hj
      go_wp2_with (with_reducible refine wpList_ld rfl 43 (.tmp 3) rfl q 0 rfl (hdrC v prev root t 545259519 m) HB.out.rowAll _ Try.underlying43 rfl 68 infoHdr (hdrC_len _ _ _ _ _ _ h1 h2).symm ?_)
      refine (PM.out _).mono ?_
      rintro e3 w3 ⟨rfl, a3⟩
      replace HB := Lib.hid (HB.out.below a3 HB.out.lt)
      replace HB2 := Lib.hid (HB2.out.below a3 HB2.out.lt)
      replace HBL := Lib.hid (HBL.out.trans (a3.mono HBL.out.size))
      clear a3 PM
      by_cases h0 : E = 0
      · have HR0 := Lib.hid (show R = some m by rw [HRR.out, if_pos h0])
        subst h0
        go_wp2_with (first
          | (with_reducible refine wpList_ld rfl 43 (.tmp 3) rfl q 0 rfl (hdrC v prev root t 545259519 m) HB.out.rowAll _ Try.underlying43 rfl 68 infoHdr (hdrC_len _ _ _ _ _ _ h1 h2).symm ?_)
          | (with_reducible refine wpList_stb rfl 43 (.tmp 6) (.tmp 17) rfl (q + 1) 0 _ rfl rfl 43 _ HB2.out ?k1 ?k2 ?k3 ?_))
        case k1 => simp [HZL.out, hdrC_len _ _ _ _ _ _ h1 h2]
        case k2 => rw [infoHdr]; simp [hdrC_len _ _ _ _ _ _ h1 h2]
        case k3 => exact hdrC_one _ _ _ _ _ _
        intro w6 b6 o6
        rw [over_all _ _ (by simp [HZL.out, hdrC_len _ _ _ _ _ _ h1 h2])] at b6
        have HB6 := Lib.hid b6
        have HBL6 := Lib.hid (HBL.out.trans (o6.below HBL.out.size (fun b hb e => by have := HQ.out; omega)))
        clear b6 o6
        go_wp2
        refine bodyPost_ret (results_row_tmp rfl _ _ (q + 1) 43 (hdrC v prev root t 545259519 m).toArray (0, 0) _ rfl HB6.out Try.underlying43 rfl (by rw [infoHdr]; simp [hdrC_len _ _ _ _ _ _ h1 h2])) rfl ?_
        exact ⟨by rw [HR0.out]; rfl, HBL6.out⟩
      · have d : (E == 0) = false := by simpa using h0
        have HR2 := Lib.hid (show R = mineM v prev root t ((m + 1) % 4294967296) k2 by rw [HRR.out, if_neg h0])
        obtain ⟨m2, hm2⟩ : ∃ m2, (m + 1) % 4294967296 = m2 := ⟨_, rfl⟩
        rw [hm2] at HR2
        have e20 : IntKind.u32.wrap ((m : Int) + 1) = (m2 : Int) := by rw [IntKind.wrap_u32]; omega
        have cT := (hdr_cellT HB.out h1 h2).2.2
        have fT := HB.out.frozen 67
        have hst := HB.out.set_ 67 (.int .u32 (m2 : Int))
        rw [List.setIfInBounds_toArray, hdrC_setn _ _ _ _ _ _ _ h1 h2] at hst
        have HO5 : Only (fun b => b = q) w3 (w3.setCell ⟨q, 67, none⟩ (.int .u32 (m2 : Int))) := (Only.refl (fun b => b = q) w3).setCell (p := ⟨q, 67, none⟩) (fun _ => rfl) _
        have HST := Lib.hid hst
        have HH2 := Lib.hid (HB2.out.only HO5 (by omega))
        have HBL5 := Lib.hid (HBL.out.trans (HO5.below HBL.out.size (fun b hb e => by have := HQ.out; omega)))
        have HM2 := Lib.hid (show m2 < 4294967296 by omega)
        clear hst HO5 hm2 h0
        go_wp2
        go_roundg k2
        case measure => have := HK2.out; omega
        case rel => exact ⟨j + 1, m2, by have := HK2.out; have := HJ.out; omega, by first | rfl | (rw [IntWalk.wrap64_in _ (by omega)]; rfl), HM2, HR2, HST, HH2, HBL5⟩
    · have hg0 : gk = 0 := by omega
      have HR0 := Lib.hid (show R = none by rw [HR.out, hg0]; rfl)
      clear hg0 hj
      go_wp2_with (first
        | (refine wpList_bld rfl 43 #[] rfl [] (hdrC 0 z32 z32 0 0 0).toArray built_hdr0 (by simp) ?_)
        | (with_reducible refine wpList_stb rfl 43 (.tmp 6) (.tmp 23) rfl (q + 1) 0 _ rfl rfl 43 _ HB2.out ?k1 ?k2 ?k3 ?_))
      case k1 => simp [HZL.out]
      case k2 => rw [infoHdr]; simp [HZL.out]
      case k3 => exact hdrC_one _ _ _ _ _ _
      intro w6 b6 o6
      rw [over_all _ _ (by simp [HZL.out])] at b6
      have HB6 := Lib.hid b6
      have HBL6 := Lib.hid (HBL.out.trans (o6.below HBL.out.size (fun b hb e => by have := HQ.out; omega)))
      clear b6 o6
      go_wp2
      refine bodyPost_ret (results_row_tmp rfl _ _ (q + 1) 43 (hdrC 0 z32 z32 0 0 0).toArray (0, 0) _ rfl HB6.out Try.underlying43 rfl (by rw [infoHdr]; simp [HZL.out])) rfl ?_
      exact ⟨by rw [HR0.out]; rfl, HBL6.out⟩
end Go.Proofs.Ytpcombaecbjmfaa
