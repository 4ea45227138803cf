/- The document's hash twice; its root of sums; a transaction's name; the root of transactions. -/
import Derived.Test.YtnonabmbichfnaaSs
import Derived.Test.YtnonabmbichfnaaMq
import Derived.Test.YtnonabmbichfnaaFo
import Derived.Test.YtnonabmbichfnaaRt
import Derived.Test.YtnonabmbichfnaaRk
namespace Go.Proofs.Ytnonabmbichfnaa
open Go.RowKit
set_option maxRecDepth 20000 in
set_option maxHeartbeats 4000000 in
theorem rtwice_any (w : World) (l : List UInt8) (hl : l.length ≤ 1000000000000) :
    Calls Try.prog 39 #[.string (bstr l)] w fun e w' => e = .returned (.agg (bts (sha2 l)).toArray) ∧ Below w.heap.size w w' := by
  have HL := Lib.hid hl
  clear hl
  go_enter Try.func39, Try.ntmps39
  go_wp2_with fail
  generalize hW : World.alloc w _ = W
  have hb : Blk W w.heap.size 36 zeros32.toArray := by rw [← hW]; exact Blk.new _ _ _
  have hbl : Below w.heap.size w W := by rw [← hW]; exact (Below.refl _ _).alloc (Nat.le_refl _) _
  clear hW
  obtain ⟨p2, hp2⟩ : ∃ p2, w.heap.size = p2 := ⟨_, rfl⟩
  rw [hp2] at hb ⊢
  have HP2 := Lib.hid hp2
  have HB := Lib.hid hb
  have HBL := Lib.hid hbl
  clear hp2 hb hbl
  refine (rsum_any W l HL.out).mono ?_
  rintro e1 w1 ⟨rfl, a1⟩
  replace HB := Lib.hid (HB.out.below a1 HB.out.lt)
  replace HBL := Lib.hid (HBL.out.trans (a1.mono HBL.out.size))
  clear a1
  have hs := sha_len l
  obtain ⟨X, hX⟩ : ∃ X, sha l = X := ⟨_, rfl⟩
  rw [hX] at hs ⊢
  have HX := Lib.hid hX
  have HS := Lib.hid hs
  clear hX hs
  go_wp2_with (with_reducible refine wpList_stb rfl 36 (.tmp 3) (.tmp 5) rfl w1.heap.size 0 _ rfl rfl 36 _ (Blk.new w1 _ _) ?h1 ?h2 ?h3 ?_)
  case h1 => simp [HS.out]
  case h2 => rw [infoA32]; simp [HS.out]
  case h3 => exact bts_one _
  intro w3 b3 o3
  rw [over_all _ _ (by simp [HS.out])] at b3
  have hO3 : Below w1.heap.size w1 w3 := (((Only.refl (fun b => w1.heap.size ≤ b) w1).alloc _).trans o3 (fun b _ e => by omega)).below (Nat.le_refl _) (fun b hb h => by omega)
  replace HB := Lib.hid (HB.out.below hO3 HB.out.lt)
  replace HBL := Lib.hid (HBL.out.trans (hO3.mono HBL.out.size))
  have k1 := IsB.str (isB_sl (A := some ⟨w1.heap.size, 0, none⟩) (ok := fun b => b = w1.heap.size) ⟨by simp [HS.out], fun _ => ⟨_, 0, rfl, rfl, b3.rowAll⟩⟩ HS.out) (P := Try.prog) (src := 54) (dst := 9) Try.underlying54 Try.underlying5 Try.underlying9
  clear b3 o3 hO3
  generalize w1.heap.size = p3 at k1 ⊢
  go_wp2_with fail
  clear k1
  refine (rsum_any w3 X (by rw [HS.out]; omega)).mono ?_
  rintro e4 w4 ⟨rfl, a4⟩
  replace HB := Lib.hid (HB.out.below a4 HB.out.lt)
  replace HBL := Lib.hid (HBL.out.trans (a4.mono HBL.out.size))
  clear a4
  have HS2 := Lib.hid (sha_len X)
  go_wp2_with (with_reducible refine wpList_stb rfl 36 (.tmp 2) (.tmp 8) rfl p2 0 _ rfl rfl 36 _ HB.out ?k1 ?k2 ?k3 ?_)
  case k1 => simp [HS2.out, zeros32]
  case k2 => rw [infoA32]; simp [HS2.out]
  case k3 => exact bts_one _
  intro w6 b6 o6
  rw [over_all _ _ (by simp [HS2.out, zeros32])] at b6
  have HB6 := Lib.hid b6
  have HBL6 := Lib.hid (HBL.out.trans (o6.below HBL.out.size (fun b hb e => by have := HP2.out; omega)))
  clear b6 o6
  go_wp2
  refine bodyPost_ret (results_cell_row rfl _ _ p2 36 (bts (sha X)).toArray (0, 0) _ rfl HB6.out Try.underlying36 rfl (by rw [infoA32]; simp [HS2.out])) rfl ?_
  exact ⟨by rw [sha2, HX.out], HBL6.out⟩
theorem isB_blk32 {w : World} {q : Nat} {l : List UInt8} {t : TypeId} (h : Blk w q t (bts l).toArray) (hl : l.length = 32) : IsB w (fun b => b = q) (.slice (some ⟨q, 0, none⟩) 32 32) l :=
  isB_sl ⟨by simp [hl], fun _ => ⟨_, 0, rfl, rfl, h.rowAll⟩⟩ hl
set_option maxRecDepth 20000 in
set_option maxHeartbeats 4000000 in
set_option linter.unusedSimpArgs false in
theorem rpair_any (w : World) (a b : Id32) (ha : a.length = 32) (hb : b.length = 32) :
    Calls Try.prog 58 #[.agg (bts a).toArray, .agg (bts b).toArray] w fun e w' => e = .returned (.agg (bts (sha2 (a ++ b))).toArray) ∧ Below w.heap.size w w' := by
  have HA := Lib.hid ha
  have HB := Lib.hid hb
  have s1 : (bstr a).size = 32 := by rw [bstr_size, ha]
  have s2 : (bstr b).size = 32 := by rw [bstr_size, hb]
  have p1 := bstr_append a b
  clear ha hb
  go_enter Try.func58, Try.ntmps58
  go_upto_region 1 with fail
  generalize hW : World.alloc (World.alloc (World.alloc w _) _) _ = W
  have h0 : Blk W w.heap.size 36 (bts a).toArray := by rw [← hW]; exact ((Blk.new _ _ _).alloc _).alloc _
  have h1 : Blk W (w.heap.size + 1) 36 (bts b).toArray := by
    have := Blk.new (w.alloc (.cells (bts a).toArray 36)) 36 (bts b).toArray
    rw [show (w.alloc (.cells (bts a).toArray 36)).heap.size = w.heap.size + 1 by simp] at this
    rw [← hW]; exact this.alloc _
  have h2 : Blk W (w.heap.size + 2) 36 zeros32.toArray := by
    have := Blk.new ((w.alloc (.cells (bts a).toArray 36)).alloc (.cells (bts b).toArray 36)) 36 zeros32.toArray
    rw [show ((w.alloc (.cells (bts a).toArray 36)).alloc (.cells (bts b).toArray 36)).heap.size = w.heap.size + 2 by simp] at this
    rw [← hW]; exact this
  have hbl : Below w.heap.size w W := by rw [← hW]; exact (((Below.refl _ _).alloc (Nat.le_refl _) _).alloc (by simp) _).alloc (by simp; omega) _
  clear hW
  obtain ⟨q, hq⟩ : ∃ q, w.heap.size = q := ⟨_, rfl⟩
  rw [hq] at h0 h1 h2 ⊢
  have HQ := Lib.hid hq
  have H0 := Lib.hid h0
  have H1 := Lib.hid h1
  have H2 := Lib.hid h2
  have HBL := Lib.hid hbl
  clear hq h0 h1 h2 hbl
  go_wp2_with fail
  refine wp_region_tail (S := (fun w' => Blk w' q 36 (bts a).toArray ∧ Blk w' (q + 1) 36 (bts b).toArray ∧ Blk w' (q + 2) 36 zeros32.toArray ∧ Below w.heap.size w w')) 6 (by kernel_rfl) (by decide) (by kernel_rfl) (⟨H0.out.drew, H1.out.drew, H2.out.drew, HBL.out.drew⟩) ?_
  simp only [List.take_succ_cons, List.take_zero, List.drop_succ_cons, List.drop_zero]
  intro hSw
  refine wpAnyH_take (i := 0) (oi := ⟨some 5, _, _, _, _, _⟩) (v := (.slice (some ⟨q, 0, none⟩) 32 32)) rfl (by kernel_rfl) (by kernel_rfl) (by kernel_rfl) (fun _ _ _ h => h) (Or.inl ⟨by rfl, ?_⟩) hSw ?_
  · intro w' hSw'
    have k1 := IsB.str (isB_blk32 hSw'.1 HA.out) (P := Try.prog) (src := 54) (dst := 9) Try.underlying54 Try.underlying5 Try.underlying9
    have k2 := IsB.str (isB_blk32 hSw'.2.1 HB.out) (P := Try.prog) (src := 54) (dst := 9) Try.underlying54 Try.underlying5 Try.underlying9
    go_simp
  simp only [Act.put, List.setIfInBounds_toArray, List.set_cons_zero, List.set_cons_succ]
  refine wpAnyH_take (i := 1) (oi := ⟨some 6, _, _, _, _, _⟩) (v := (.string (bstr a))) rfl (by kernel_rfl) (by kernel_rfl) (by kernel_rfl) (fun _ _ _ h => h) (Or.inl ⟨by rfl, ?_⟩) hSw ?_
  · intro w' hSw'
    have k1 := IsB.str (isB_blk32 hSw'.1 HA.out) (P := Try.prog) (src := 54) (dst := 9) Try.underlying54 Try.underlying5 Try.underlying9
    have k2 := IsB.str (isB_blk32 hSw'.2.1 HB.out) (P := Try.prog) (src := 54) (dst := 9) Try.underlying54 Try.underlying5 Try.underlying9
    go_simp
  simp only [Act.put, List.setIfInBounds_toArray, List.set_cons_zero, List.set_cons_succ]
  refine wpAnyH_take (i := 2) (oi := ⟨some 7, _, _, _, _, _⟩) (v := (.slice (some ⟨q + 1, 0, none⟩) 32 32)) rfl (by kernel_rfl) (by kernel_rfl) (by kernel_rfl) (fun _ _ _ h => h) (Or.inl ⟨by rfl, ?_⟩) hSw ?_
  · intro w' hSw'
    have k1 := IsB.str (isB_blk32 hSw'.1 HA.out) (P := Try.prog) (src := 54) (dst := 9) Try.underlying54 Try.underlying5 Try.underlying9
    have k2 := IsB.str (isB_blk32 hSw'.2.1 HB.out) (P := Try.prog) (src := 54) (dst := 9) Try.underlying54 Try.underlying5 Try.underlying9
    go_simp
  simp only [Act.put, List.setIfInBounds_toArray, List.set_cons_zero, List.set_cons_succ]
  refine wpAnyH_take (i := 3) (oi := ⟨some 8, _, _, _, _, _⟩) (v := (.string (bstr b))) rfl (by kernel_rfl) (by kernel_rfl) (by kernel_rfl) (fun _ _ _ h => h) (Or.inl ⟨by rfl, ?_⟩) hSw ?_
  · intro w' hSw'
    have k1 := IsB.str (isB_blk32 hSw'.1 HA.out) (P := Try.prog) (src := 54) (dst := 9) Try.underlying54 Try.underlying5 Try.underlying9
    have k2 := IsB.str (isB_blk32 hSw'.2.1 HB.out) (P := Try.prog) (src := 54) (dst := 9) Try.underlying54 Try.underlying5 Try.underlying9
    go_simp
  simp only [Act.put, List.setIfInBounds_toArray, List.set_cons_zero, List.set_cons_succ]
  refine wpAnyH_take (i := 4) (oi := ⟨some 9, _, _, _, _, _⟩) (v := (.string (bstr (a ++ b)))) rfl (by kernel_rfl) (by kernel_rfl) (by kernel_rfl) (fun _ _ _ h => h) (Or.inl ⟨by rfl, ?_⟩) hSw ?_
  · intro w' hSw'
    have k1 := IsB.str (isB_blk32 hSw'.1 HA.out) (P := Try.prog) (src := 54) (dst := 9) Try.underlying54 Try.underlying5 Try.underlying9
    have k2 := IsB.str (isB_blk32 hSw'.2.1 HB.out) (P := Try.prog) (src := 54) (dst := 9) Try.underlying54 Try.underlying5 Try.underlying9
    go_simp
  simp only [Act.put, List.setIfInBounds_toArray, List.set_cons_zero, List.set_cons_succ]
  refine wpAnyH_ready (rs := [5]) (by kernel_rfl) (by simp) (AllReadyH.cons (o := ⟨some 10, _, _, _, _, _⟩) rfl (fun K hK => ?_) AllReadyH.nil)
  go_simp
  go_at_call 39
  refine (rtwice_any _ (a ++ b) (by simp [HA.out, HB.out])).mono ?_
  rintro e5 w5 ⟨rfl, a5⟩
  dsimp only
  refine hK.out _ _ (⟨hSw.1.below a5 hSw.1.lt, hSw.2.1.below a5 hSw.2.1.lt, hSw.2.2.1.below a5 hSw.2.2.1.lt, hSw.2.2.2.trans (a5.mono hSw.2.2.2.size)⟩) ?_
  intro hSw
  clear hK K
  try simp only [Act.put, List.setIfInBounds_toArray, List.set_cons_zero, List.set_cons_succ]
  refine wpAnyH_done (by kernel_rfl) ?_ _
  show wpList _ _ _ _ _ _
  have HS2 := Lib.hid (show (sha2 (a ++ b)).length = 32 from sha_len _)
  clear p1 s1 s2
  go_wp2_with (with_reducible refine wpList_stb rfl 36 (.tmp 4) (.tmp 10) rfl (q + 2) 0 _ rfl rfl 36 _ hSw.2.2.1 ?k1 ?k2 ?k3 ?_)
  case k1 => simp [HS2.out, zeros32]
  case k2 => rw [infoA32]; simp [HS2.out]
  case k3 => exact bts_one _
  intro w6 b6 o6
  rw [over_all _ _ (by simp [HS2.out, zeros32])] at b6
  have HB6 := Lib.hid b6
  have HBL6 := Lib.hid (hSw.2.2.2.trans (o6.below hSw.2.2.2.size (fun b hb e => by have := HQ.out; omega)))
  clear b6 o6
  go_wp2
  refine bodyPost_ret (results_cell_row rfl _ _ (q + 2) 36 (bts (sha2 (a ++ b))).toArray (0, 0) _ rfl HB6.out Try.underlying36 rfl (by rw [infoA32]; simp [HS2.out])) rfl ?_
  exact ⟨rfl, HBL6.out⟩
set_option maxRecDepth 20000 in
set_option maxHeartbeats 400000 in
theorem mcount_any (n k : Nat) (w : World) (hn : n ≤ 1000000) (hk : k ≤ 1000000) :
    Calls Try.prog 41 #[.int .i64 (n : Int), .int .i64 (k : Int)] w fun e w' => e = .returned (.int .i64 ((cntN n k : Nat) : Int)) ∧ w' = w := by
  have HN := Lib.hid hn
  clear hn
  go_enter Try.func41, Try.ntmps41
  go_wp2
  go_loopg [0, 5] k (fun q v0 v5 wr => ∃ (j y : Nat), j + q = k ∧ v5 = .int .i64 j ∧ v0 = .int .i64 (y : Int) ∧ Hid (y = cntN n j) ∧ wr = w)
  case atStart => exact ⟨0, n, by omega, rfl, rfl, rfl, rfl⟩
  case round =>
    obtain ⟨j, y, hj, rfl, rfl, HY, rfl⟩ := hrel
    by_cases hlt : j < k
    · have hyb : y ≤ 1000000 := by rw [HY.out]; exact Nat.le_trans (cntN_le _ _) HN.out
      obtain ⟨y2, hy2⟩ : ∃ y2, (y + 1) / 2 = y2 := ⟨_, rfl⟩
      have e1 : IntKind.i64.wrap ((y : Int) + 1) = (y : Int) + 1 := w64 _ (by omega)
      have e2 : ((y : Int) + 1) / 2 = (y2 : Int) := by omega
      have e3 : ((y : Int) + 1).tdiv 2 = (y2 : Int) := by rw [Int.tdiv_eq_ediv_of_nonneg (by omega)]; exact e2
      have HY2 := Lib.hid (show y2 = cntN n (j + 1) by rw [cntN, ← HY.out, hy2])
      have HYB := Lib.hid (show y2 ≤ 1000000 by omega)
      clear hyb hy2
      go_wp2
      go_roundg (k - 1 - j)
      case measure => omega
      case rel => exact ⟨j + 1, y2, by omega, by first | rfl | (rw [IntWalk.wrap64_in _ (by omega)]; rfl), by first | rfl | (have := HYB.out; rw [IntWalk.wrap64_in _ (by omega)]), HY2, rfl⟩
    · obtain rfl : j = k := by omega
      go_wp2
      go_ret
      exact ⟨by rw [← HY.out]; rfl, rfl⟩
set_option maxRecDepth 20000 in
set_option maxHeartbeats 4000000 in
set_option linter.unusedSimpArgs false in
theorem mat_any (A : Option Addr) (n c : Nat) (ids : List Id32) (hn : ids.length = n) (h32 : ∀ x ∈ ids, x.length = 32) (hn2 : n ≤ 1000) : ∀ (k : Nat) (w : World) (ok : Nat → Prop) (i : Nat), Sl w ok 32 A n (ids.flatMap bts) → k ≤ 2000 → i < cntN n k →
    Calls Try.prog 42 #[.slice A n c, .int .i64 (k : Int), .int .i64 (i : Int)] w fun e w' => e = .returned (.agg (bts ((lv ids k).getD i [])).toArray) ∧ Below w.heap.size w w' := by
  intro k
  induction k with
  | zero =>
    intro w ok i hs hk hi
    have hi' : i < n := hi
    obtain ⟨b, o, rfl, hb, hrow⟩ := ids_at hs h32 hn hi'
    rw [← getD_getElem (by omega)] at hrow
    have hel : (ids.getD i []).length = 32 := getD_mem32 h32 (by omega)
    show Calls _ _ _ _ fun e w' => e = .returned (.agg (bts (ids.getD i [])).toArray) ∧ _
    obtain ⟨x, hx⟩ : ∃ x, ids.getD i [] = x := ⟨_, rfl⟩
    rw [hx] at hrow hel ⊢
    have HX := Lib.hid hel
    have hlt := hrow.lt (by simp [hel])
    have HROW := Lib.hid hrow
    have i0 : (0 : Int) ≤ (i : Int) := by omega
    have i1 : (i : Int) < (n : Int) := by omega
    clear hs hb hx hrow hel hi
    go_enter Try.func42, Try.ntmps42
    go_wp2_with (first
      | (with_reducible refine wpList_ld rfl 36 (.tmp 13) rfl b (o + i * 32) rfl (bts x) ((HROW.out.only ((Only.refl (fun _ => False) w).alloc _) (fun h => h))) _ Try.underlying36 rfl 32 infoA32 (by simp [HX.out]) ?_)
      | (with_reducible refine wpList_stb rfl 36 (.tmp 6) (.tmp 14) rfl w.heap.size 0 _ rfl rfl 36 zeros32 (Blk.new w _ _) ?k1 ?k2 ?k3 ?_))
    case k1 => simp [HX.out, zeros32]
    case k2 => rw [infoA32]; simp [HX.out]
    case k3 => exact bts_one _
    intro w6 b6 o6
    rw [over_all _ _ (by simp [HX.out, zeros32])] at b6
    have HB6 := Lib.hid b6
    have HBL6 := Lib.hid ((((Only.refl (fun b => w.heap.size ≤ b) w).alloc _).trans o6 (fun b _ e => by omega)).below (Nat.le_refl _) (fun b hb h => by omega))
    clear b6 o6
    go_wp2
    refine bodyPost_ret (results_cell_row rfl _ _ w.heap.size 36 (bts x).toArray (0, 0) _ rfl HB6.out Try.underlying36 rfl (by rw [infoA32]; simp [HX.out])) rfl ?_
    exact ⟨rfl, HBL6.out⟩
  | succ k ih =>
    intro w ok i hs hk hi
    have hs' := hs.weak (ok' := fun b => b < w.heap.size) (fun b hb _ => hb) (by decide)
    have HS := Lib.hid (fun W (a : Below w.heap.size w W) => hs'.below a (fun _ h _ => h) (by decide))
    have hi2 : 2 * i < cntN n k := by rw [cntN] at hi; omega
    have hl : (lv ids k).length = cntN n k := by rw [lv_len, hn]
    have IH1 := Lib.hid (fun W a => ih W _ (2 * i) (HS.out W a) (by omega) hi2)
    have IH2 := Lib.hid (fun (h : 2 * i + 1 < cntN n k) W a => ih W _ (2 * i + 1) (HS.out W a) (by omega) h)
    have hx32 : ((lv ids k).getD (2 * i) []).length = 32 := getD_mem32 (lv_32 ids h32 k) (by omega)
    have hy32 : 2 * i + 1 < cntN n k → ((lv ids k).getD (2 * i + 1) []).length = 32 := fun h => getD_mem32 (lv_32 ids h32 k) (by omega)
    have hres : (lv ids (k + 1)).getD i [] = if 2 * i + 1 < cntN n k then sha2 ((lv ids k).getD (2 * i) [] ++ (lv ids k).getD (2 * i + 1) []) else sha2 ((lv ids k).getD (2 * i) [] ++ (lv ids k).getD (2 * i) []) := by
      rw [lv, mup_getD i _ (by omega), hl]
    rw [hres]
    have hcb : cntN n k ≤ 1000 := Nat.le_trans (cntN_le _ _) hn2
    obtain ⟨x, hx⟩ : ∃ x, (lv ids k).getD (2 * i) [] = x := ⟨_, rfl⟩
    obtain ⟨y, hy⟩ : ∃ y, (lv ids k).getD (2 * i + 1) [] = y := ⟨_, rfl⟩
    obtain ⟨N, hN⟩ : ∃ N, cntN n k = N := ⟨_, rfl⟩
    rw [hx] at IH1 hx32 ⊢
    rw [hy, hN] at IH2
    rw [hy] at hy32 ⊢
    rw [hN] at hi2 hcb hy32 ⊢
    have MC := Lib.hid (fun W => mcount_any n k W (by omega) (by omega))
    rw [hN] at MC
    have HX32 := Lib.hid hx32
    have HY32 := Lib.hid hy32
    have HI2 := Lib.hid hi2
    have e1 : IntKind.i64.wrap (((k + 1 : Nat) : Int) - 1) = (k : Int) := by rw [w64 _ (by omega)]; omega
    have e1' : IntKind.i64.wrap ((k : Int) + 1 - 1) = (k : Int) := by rw [w64 _ (by omega)]; omega
    obtain ⟨i2, hi2e⟩ : ∃ i2, 2 * i = i2 := ⟨_, rfl⟩
    obtain ⟨i3, hi3e⟩ : ∃ i3, 2 * i + 1 = i3 := ⟨_, rfl⟩
    have e2 : IntKind.i64.wrap (2 * (i : Int)) = (i2 : Int) := by rw [w64 _ (by omega)]; omega
    have e3 : IntKind.i64.wrap ((i2 : Int) + 1) = (i3 : Int) := by rw [w64 _ (by omega)]; omega
    have ekk : IntKind.i64.wrap (k : Int) = (k : Int) := w64 _ (by omega)
    have ek : (((k + 1 : Nat) : Int) == 0) = false := by simp; omega
    have ek' : ((k : Int) + 1 == 0) = false := by simp; omega
    rw [hi3e] at IH2 HY32 ⊢
    have hc2 : ((2 * i : Nat) : Int) = (i2 : Int) := by omega
    rw [hc2] at IH1
    obtain ⟨r, hr⟩ : ∃ r, (if i3 < N then sha2 (x ++ y) else sha2 (x ++ x)) = r := ⟨_, rfl⟩
    rw [hr]
    have HR := Lib.hid hr
    clear hs hs' hi hl hx32 hy32 hres hcb hx hy hN hi2 hi2e hc2 ih hr
    go_enter Try.func42, Try.ntmps42
    go_wp2_with fail
    generalize hW : World.alloc w _ = W
    have hb : Blk W w.heap.size 36 zeros32.toArray := by rw [← hW]; exact Blk.new _ _ _
    have hbl : Below w.heap.size w W := by rw [← hW]; exact (Below.refl _ _).alloc (Nat.le_refl _) _
    clear hW
    obtain ⟨p, hp⟩ : ∃ p, w.heap.size = p := ⟨_, rfl⟩
    rw [hp] at hb ⊢
    have HP := Lib.hid hp
    have HB := Lib.hid hb
    have HBL := Lib.hid hbl
    clear hp hb hbl
    refine (MC.out W).mono ?_
    rintro e1 w1 ⟨rfl, rfl⟩
    go_wp2_with fail
    refine (IH1.out _ HBL.out).mono ?_
    rintro e2 w2 ⟨rfl, a2⟩
    replace HB := Lib.hid (HB.out.below a2 HB.out.lt)
    replace HBL := Lib.hid (HBL.out.trans (a2.mono HBL.out.size))
    clear a2 IH1 MC
    go_wp2_with (with_reducible refine wpList_stb rfl 36 (.tmp 8) (.tmp 25) rfl w2.heap.size 0 _ rfl rfl 36 zeros32 (Blk.new w2 _ _) ?h1 ?h2 ?h3 ?_)
    case h1 => simp [HX32.out, zeros32]
    case h2 => rw [infoA32]; simp [HX32.out]
    case h3 => exact bts_one _
    intro w3 b3 o3
    rw [over_all _ _ (by simp [HX32.out, zeros32])] at b3
    have hO3 : Below w2.heap.size w2 w3 := (((Only.refl (fun b => w2.heap.size ≤ b) w2).alloc _).trans o3 (fun b _ e => by omega)).below (Nat.le_refl _) (fun b hb h => by omega)
    have hpp := HB.out.lt
    replace HB := Lib.hid (HB.out.below hO3 HB.out.lt)
    replace HBL := Lib.hid (HBL.out.trans (hO3.mono HBL.out.size))
    obtain ⟨p8, hp8⟩ : ∃ p8, w2.heap.size = p8 := ⟨_, rfl⟩
    rw [hp8] at b3 hpp ⊢
    have HB8 := Lib.hid b3
    have HPP := Lib.hid hpp
    clear b3 o3 hO3 hp8 hpp
    by_cases hlt : i3 < N
    · have d : ((i3 : Int) == (N : Int)) = false := by simp; omega
      have HRR := Lib.hid (show r = sha2 (x ++ y) by rw [← HR.out, if_pos hlt])
      have IH3 := Lib.hid (fun W a => IH2.out hlt W a)
      have HY := Lib.hid (HY32.out hlt)
      have hc3 : ((2 * i + 1 : Nat) : Int) = (i3 : Int) := by omega
      clear IH2 HY32 hlt hc3
      go_upto_region 7 with fail
      refine wp_region_tail (S := (fun w' => Blk w' p8 36 (bts x).toArray ∧ Blk w' p 36 zeros32.toArray ∧ Below w.heap.size w w')) 9 (by kernel_rfl) (by decide) (by kernel_rfl) (⟨HB8.out.drew, HB.out.drew, HBL.out.drew⟩) ?_
      simp only [List.take_succ_cons, List.take_zero, List.drop_succ_cons, List.drop_zero]
      intro hSw
      refine wpAnyH_take (i := 0) (oi := ⟨some 34, _, _, _, _, _⟩) (v := .agg (bts x).toArray) rfl (by kernel_rfl) (by kernel_rfl) (by kernel_rfl) (fun _ _ _ h => h) (yieldsIf_load_mid (by rfl) _ _ rfl p8 (0) rfl (bts x) _ (fun _ h => h.1.rowAll) Try.underlying36 rfl (by rw [infoA32]; simp [HX32.out])) hSw ?_
      simp only [Act.put, List.setIfInBounds_toArray, List.set_cons_zero, List.set_cons_succ]
      refine wpAnyH_take (i := 1) (oi := ⟨some 35, _, _, _, _, _⟩) (v := (.slice A n c)) rfl (by kernel_rfl) (by kernel_rfl) (by kernel_rfl) (fun _ _ _ h => h) (Or.inl ⟨by rfl, ?_⟩) hSw ?_
      · intro w' hSw'
        go_simp
      simp only [Act.put, List.setIfInBounds_toArray, List.set_cons_zero, List.set_cons_succ]
      refine wpAnyH_take (i := 2) (oi := ⟨some 36, _, _, _, _, _⟩) (v := (.int .i64 (((k + 1 : Nat)) : Int))) rfl (by kernel_rfl) (by kernel_rfl) (by kernel_rfl) (fun _ _ _ h => h) (Or.inl ⟨by rfl, ?_⟩) hSw ?_
      · intro w' hSw'
        go_simp
      simp only [Act.put, List.setIfInBounds_toArray, List.set_cons_zero, List.set_cons_succ]
      refine wpAnyH_take (i := 3) (oi := ⟨some 37, _, _, _, _, _⟩) (v := (.int .i64 (k : Int))) rfl (by kernel_rfl) (by kernel_rfl) (by kernel_rfl) (fun _ _ _ h => h) (Or.inl ⟨by rfl, ?_⟩) hSw ?_
      · intro w' hSw'
        go_simp
      simp only [Act.put, List.setIfInBounds_toArray, List.set_cons_zero, List.set_cons_succ]
      refine wpAnyH_take (i := 4) (oi := ⟨some 38, _, _, _, _, _⟩) (v := (.int .i64 (i : Int))) rfl (by kernel_rfl) (by kernel_rfl) (by kernel_rfl) (fun _ _ _ h => h) (Or.inl ⟨by rfl, ?_⟩) hSw ?_
      · intro w' hSw'
        go_simp
      simp only [Act.put, List.setIfInBounds_toArray, List.set_cons_zero, List.set_cons_succ]
      refine wpAnyH_take (i := 5) (oi := ⟨some 39, _, _, _, _, _⟩) (v := (.int .i64 (i2 : Int))) rfl (by kernel_rfl) (by kernel_rfl) (by kernel_rfl) (fun _ _ _ h => h) (Or.inl ⟨by rfl, ?_⟩) hSw ?_
      · intro w' hSw'
        go_simp
      simp only [Act.put, List.setIfInBounds_toArray, List.set_cons_zero, List.set_cons_succ]
      refine wpAnyH_take (i := 6) (oi := ⟨some 40, _, _, _, _, _⟩) (v := (.int .i64 (i3 : Int))) rfl (by kernel_rfl) (by kernel_rfl) (by kernel_rfl) (fun _ _ _ h => h) (Or.inl ⟨by rfl, ?_⟩) hSw ?_
      · intro w' hSw'
        go_simp
      simp only [Act.put, List.setIfInBounds_toArray, List.set_cons_zero, List.set_cons_succ]
      refine wpAnyH_ready (rs := [7]) (by kernel_rfl) (by simp) (AllReadyH.cons (o := ⟨some 41, _, _, _, _, _⟩) rfl (fun K hK => ?_) AllReadyH.nil)
      go_simp
      go_at_call 42
      refine (IH3.out _ hSw.2.2).mono ?_
      rintro e5 w5 ⟨rfl, a5⟩
      dsimp only
      refine hK.out _ _ (⟨hSw.1.below a5 hSw.1.lt, hSw.2.1.below a5 hSw.2.1.lt, hSw.2.2.trans (a5.mono hSw.2.2.size)⟩) ?_
      intro hSw
      clear hK K
      try simp only [Act.put, List.setIfInBounds_toArray, List.set_cons_zero, List.set_cons_succ]
      refine wpAnyH_ready (rs := [8]) (by kernel_rfl) (by simp) (AllReadyH.cons (o := ⟨some 42, _, _, _, _, _⟩) rfl (fun K hK => ?_) AllReadyH.nil)
      go_simp
      go_at_call 58
      refine (rpair_any _ x y HX32.out HY.out).mono ?_
      rintro e6 w6 ⟨rfl, a6⟩
      dsimp only
      refine hK.out _ _ (⟨hSw.1.below a6 hSw.1.lt, hSw.2.1.below a6 hSw.2.1.lt, hSw.2.2.trans (a6.mono hSw.2.2.size)⟩) ?_
      intro hSw
      clear hK K
      try simp only [Act.put, List.setIfInBounds_toArray, List.set_cons_zero, List.set_cons_succ]
      refine wpAnyH_done (by kernel_rfl) ?_ _
      show wpList _ _ _ _ _ _
      have HS2 := Lib.hid (show (sha2 (x ++ y)).length = 32 from sha_len _)
      go_wp2_with (with_reducible refine wpList_stb rfl 36 (.tmp 6) (.tmp 42) rfl p 0 _ rfl rfl 36 _ hSw.2.1 ?k1 ?k2 ?k3 ?_)
      case k1 => simp [HS2.out, zeros32]
      case k2 => rw [infoA32]; simp [HS2.out]
      case k3 => exact bts_one _
      intro w7 b7 o7
      rw [over_all _ _ (by simp [HS2.out, zeros32])] at b7
      have HB7 := Lib.hid b7
      have HBL7 := Lib.hid (hSw.2.2.trans (o7.below hSw.2.2.size (fun b hb e => by have := HP.out; omega)))
      clear b7 o7
      go_wp2
      refine bodyPost_ret (results_cell_row rfl _ _ p 36 (bts (sha2 (x ++ y))).toArray (0, 0) _ rfl HB7.out Try.underlying36 rfl (by rw [infoA32]; simp [HS2.out])) rfl ?_
      exact ⟨by rw [HRR.out], HBL7.out⟩
    · have d : ((i3 : Int) == (N : Int)) = true := by have := HI2.out; simp; omega
      have HRR := Lib.hid (show r = sha2 (x ++ x) by rw [← HR.out, if_neg hlt])
      clear IH2 HY32 hlt
      go_wp2_with (with_reducible refine wpList_ld rfl 36 (.tmp 8) rfl p8 0 rfl (bts x) HB8.out.rowAll _ Try.underlying36 rfl 32 infoA32 (by simp [HX32.out]) ?_)
      refine (rpair_any _ x x HX32.out HX32.out).mono ?_
      rintro e6 w6 ⟨rfl, a6⟩
      replace HB := Lib.hid (HB.out.below a6 HB.out.lt)
      replace HBL := Lib.hid (HBL.out.trans (a6.mono HBL.out.size))
      clear a6
      have HS2 := Lib.hid (show (sha2 (x ++ x)).length = 32 from sha_len _)
      go_wp2_with (with_reducible refine wpList_stb rfl 36 (.tmp 6) (.tmp 33) rfl p 0 _ rfl rfl 36 _ HB.out ?k1 ?k2 ?k3 ?_)
      case k1 => simp [HS2.out, zeros32]
      case k2 => rw [infoA32]; simp [HS2.out]
      case k3 => exact bts_one _
      intro w7 b7 o7
      rw [over_all _ _ (by simp [HS2.out, zeros32])] at b7
      have HB7 := Lib.hid b7
      have HBL7 := Lib.hid (HBL.out.trans (o7.below HBL.out.size (fun b hb e => by have := HP.out; omega)))
      clear b7 o7
      go_wp2
      refine bodyPost_ret (results_cell_row rfl _ _ p 36 (bts (sha2 (x ++ x))).toArray (0, 0) _ rfl HB7.out Try.underlying36 rfl (by rw [infoA32]; simp [HS2.out])) rfl ?_
      exact ⟨by rw [HRR.out], HBL7.out⟩
theorem infoA32b (x : Id32) (h : x.length = 32) : (Try.prog.info? 36).map (·.size) = some (bts x).length := by rw [infoA32, bts_length, h]
theorem run_eq_32 (x y : Id32) (hx : x.length = 32) (hy : y.length = 32) (w : World) : (Op.equalIn 10000 36 (.agg (bts x).toArray) (.agg (bts y).toArray)).run Try.prog w = .ok (x == y) w := by
  exact run_eq_arr (P := Try.prog) (t := 36) Try.underlying36 Try.underlying5 (by kernel_rfl) (by kernel_rfl) (by kernel_rfl) x y hx hy w 9998
set_option maxRecDepth 20000 in
set_option maxHeartbeats 4000000 in
set_option linter.unusedSimpArgs false in
theorem rroot_any (A : Option Addr) (n c : Nat) (ids : List Id32) (hn : ids.length = n) (h32 : ∀ x ∈ ids, x.length = 32) (hn2 : n ≤ 1000) (w : World) (ok : Nat → Prop) (hs : Sl w ok 32 A n (ids.flatMap bts)) :
    Calls Try.prog 28 #[.slice A n c] w fun e w' => e = .returned (.tuple #[.agg (bts (mroot ids).1).toArray, .bool (mroot ids).2]) ∧ Below w.heap.size w w' := by
  have hs' := hs.weak (ok' := fun b => b < w.heap.size) (fun b hb _ => hb) (by decide)
  have AT := Lib.hid (fun W (a : Below w.heap.size w W) k i (h : k ≤ 2000) (hi : i < cntN n k) => mat_any A n c ids hn h32 hn2 k W _ i (hs'.below a (fun _ h _ => h) (by decide)) h hi)
  have HN := Lib.hid hn
  have H32 := Lib.hid h32
  have HN2 := Lib.hid hn2
  have MC := Lib.hid (fun k W (h : k ≤ 1000000) => mcount_any n k W (by omega) h)
  by_cases h0 : n = 0
  · subst h0
    have : ids = [] := List.eq_nil_of_length_eq_zero hn
    subst this
    clear hs hs' AT HN H32 HN2 MC hn h32 hn2
    show Calls _ _ _ _ fun e w' => e = .returned (.tuple #[.agg (bts (List.replicate 32 0)).toArray, .bool false]) ∧ _
    go_enter Try.func28, Try.ntmps28
    go_wp2_with (with_reducible refine wpList_stb rfl 36 (.tmp 2) (.tmp 12) rfl w.heap.size 0 _ rfl rfl 36 zeros32 (Blk.new w _ _) ?h1 ?h2 ?h3 ?_)
    case h1 => simp [zeros32]
    case h2 => rw [infoA32]; rfl
    case h3 => (repeat' apply And.intro) <;> rfl
    intro w6 b6 o6
    have HB6 := Lib.hid (show Blk w6 w.heap.size 36 (bts (List.replicate 32 0)).toArray from b6)
    have HBL6 := Lib.hid ((((Only.refl (fun b => w.heap.size ≤ b) w).alloc _).trans o6 (fun b _ e => by omega)).below (Nat.le_refl _) (fun b hb h => by omega))
    clear b6 o6
    go_wp2
    refine bodyPost_ret (results_row_tmp rfl _ _ w.heap.size 36 (bts (List.replicate 32 0)).toArray (0, 0) _ rfl HB6.out Try.underlying36 rfl (by rw [infoA32]; rfl)) rfl ?_
    exact ⟨rfl, HBL6.out⟩
  have d0 : ((n : Int) == 0) = false := by simp; omega
  have H0 := Lib.hid (show 0 < n by omega)
  clear hs hs' hn h32 hn2 h0
  go_enter Try.func28, Try.ntmps28
  go_wp2_with fail
  clear d0
  generalize hW : World.alloc w _ = W
  have hb : Blk W w.heap.size 36 zeros32.toArray := by rw [← hW]; exact Blk.new _ _ _
  have hbl : Below w.heap.size w W := by rw [← hW]; exact (Below.refl _ _).alloc (Nat.le_refl _) _
  clear hW
  obtain ⟨p, hp⟩ : ∃ p, w.heap.size = p := ⟨_, rfl⟩
  rw [hp] at hb ⊢
  have HP := Lib.hid hp
  have HB := Lib.hid hb
  have HBL := Lib.hid hbl
  clear hp hb hbl
  go_loopg [4] n (fun q v4 wr => ∃ (j : Nat), v4 = .int .i64 j ∧ Hid (q = cntN n j) ∧ Hid (∀ i, i < j → 1 < cntN n i) ∧ Hid (j + q ≤ n) ∧ Hid (Blk wr p 36 zeros32.toArray) ∧ Hid (Below w.heap.size w wr))
  case atStart => exact ⟨0, rfl, rfl, fun i h => absurd h (by omega), by simp [Hid], HB, HBL⟩
  case round =>
    clear HB HBL
    obtain ⟨j, rfl, HQ, HA, HJ, HB, HBL⟩ := hrel
    go_wp2_with fail
    refine (MC.out j wr (by have := HJ.out; have := HN2.out; omega)).mono ?_
    rintro e1 w1 ⟨rfl, rfl⟩
    obtain ⟨N, hN⟩ : ∃ N, cntN n j = N := ⟨_, rfl⟩
    rw [hN] at HQ ⊢
    have HNN := Lib.hid hN
    clear hN
    by_cases h1 : 1 < N
    · have d : decide ((1 : Int) < (N : Int)) = true := by simp; omega
      have HA2 := Lib.hid (show ∀ i, i < j + 1 → 1 < cntN n i from fun i hi => by
        rcases Nat.lt_or_ge i j with h | h
        · exact HA.out i h
        · obtain rfl : i = j := by omega
          rw [HNN.out]; exact h1)
      have hjn : j ≤ 1000 := by have := HJ.out; have := HN2.out; omega
      go_wp2
      go_roundg (cntN n (j + 1))
      case measure => have := HQ.out; rw [cntN, HNN.out]; omega
      case rel => exact ⟨j + 1, by first | rfl | (rw [IntWalk.wrap64_in _ (by omega)]; rfl), rfl, HA2, by have := HQ.out; have := HJ.out; rw [Hid, cntN, HNN.out]; omega, HB, HBL⟩
    · have d : decide ((1 : Int) < (N : Int)) = false := by simp; omega
      have HR := Lib.hid (root_top ids j (by rw [HN.out]; exact HA.out) (by rw [HN.out, HNN.out]; omega) (by rw [HN.out]; exact H0.out))
      have hjn : j ≤ 1000 := by have := HJ.out; have := HN2.out; omega
      have HJN := Lib.hid hjn
      clear h1 hjn
      go_wp2_with fail
      clear d
      go_loopg [5, 6] j (fun q v5 v6 wr => ∃ (k : Nat) (tw : Bool), k + q = j ∧ v5 = .bool tw ∧ v6 = .int .i64 k ∧ Hid (tw = twk ids k) ∧ Hid (Blk wr p 36 zeros32.toArray) ∧ Hid (Below w.heap.size w wr))
      case atStart => exact ⟨0, false, by omega, rfl, rfl, rfl, HB, HBL⟩
      case round =>
        clear HB HBL
        obtain ⟨k, tw, hk, rfl, rfl, HTW, HB, HBL⟩ := hrel
        by_cases hlt : k < j
        · have d : decide ((k : Int) < (j : Int)) = true := by simp; omega
          go_wp2_with fail
          refine (MC.out k _ (by have := HJN.out; omega)).mono ?_
          rintro e2 w2 ⟨rfl, rfl⟩
          obtain ⟨M, hM⟩ : ∃ M, cntN n k = M := ⟨_, rfl⟩
          have hMl : (lv ids k).length = M := by rw [lv_len, HN.out, hM]
          have AT2 := Lib.hid (fun W a i hi => AT.out W a k i (by have := HJN.out; omega) hi)
          rw [hM] at AT2 ⊢
          have HML := Lib.hid hMl
          have HMB := Lib.hid (show M ≤ 1000 by rw [← hM]; exact Nat.le_trans (cntN_le _ _) HN2.out)
          have L32 := Lib.hid (lv_32 ids H32.out k)
          have HKJ := Lib.hid (And.intro hk hlt)
          clear hM hMl d hk hlt
          go_wp2_with fail
          go_loopg [5, 8] M (fun q v5 v8 wr => ∃ (i y : Nat) (tw2 : Bool), i + q = M ∧ v5 = .bool tw2 ∧ v8 = .int .i64 (y : Int) ∧ Hid (y = 2 * i) ∧ Hid (tw2 = (tw || mtw ((lv ids k).take (2 * i)))) ∧ Hid (2 * i ≤ M + 1) ∧ Hid (Blk wr p 36 zeros32.toArray) ∧ Hid (Below w.heap.size w wr))
          case atStart => exact ⟨0, 0, tw, by omega, rfl, rfl, rfl, by simp [Hid, mtw], by simp [Hid], HB, HBL⟩
          case round =>
            clear HB HBL
            obtain ⟨i, y, tw2, hi, rfl, rfl, HY, HT2, HI2, HB, HBL⟩ := hrel
            obtain ⟨y1, hy1⟩ : ∃ y1, y + 1 = y1 := ⟨_, rfl⟩
            have e1 : IntKind.i64.wrap ((y : Int) + 1) = (y1 : Int) := by have := HI2.out; have := HY.out; have := HMB.out; rw [w64 _ (by omega)]; omega
            have HY1 := Lib.hid hy1
            clear hy1
            by_cases hlt2 : y1 < M
            · have d : decide ((y1 : Int) < (M : Int)) = true := by simp; omega
              have d' : decide (y1 < M) = true := by simp; omega
              have hl0 : 2 * i + 1 < (lv ids k).length := by have := HY.out; have := HY1.out; rw [HML.out]; omega
              have hms := mtw_step (lv ids k) i hl0
              have hx32 : ((lv ids k).getD (2 * i) []).length = 32 := getD_mem32 L32.out (by omega)
              have hy32 : ((lv ids k).getD (2 * i + 1) []).length = 32 := getD_mem32 L32.out hl0
              have A1 := Lib.hid (fun W a => AT2.out W a (2 * i) (by rw [HML.out] at hl0; omega))
              have A2 := Lib.hid (fun W a => AT2.out W a (2 * i + 1) (by rw [HML.out] at hl0; exact hl0))
              obtain ⟨x, hx⟩ : ∃ x, (lv ids k).getD (2 * i) [] = x := ⟨_, rfl⟩
              obtain ⟨z, hz⟩ : ∃ z, (lv ids k).getD (2 * i + 1) [] = z := ⟨_, rfl⟩
              rw [hx] at A1 hx32 hms
              rw [hz] at A2 hy32 hms
              have hyi : ((2 * i : Nat) : Int) = (y : Int) := by have := HY.out; omega
              have hyi1 : ((2 * i + 1 : Nat) : Int) = (y1 : Int) := by have := HY.out; have := HY1.out; omega
              rw [hyi] at A1
              rw [hyi1] at A2
              obtain ⟨ee, hee⟩ : ∃ ee, (x == z) = ee := ⟨_, rfl⟩
              have heqA : ∀ w', (Op.equalIn 10000 36 (.agg (bts x).toArray) (.agg (bts z).toArray)).run Try.prog w' = .ok ee w' := fun w' => by rw [← hee]; exact run_eq_32 x z hx32 hy32 w'
              rw [hee] at hms
              have HMS := Lib.hid hms
              have HIQ := Lib.hid (And.intro hi hlt2)
              have hyb : y ≤ 1001 := by have := HI2.out; have := HY.out; have := HMB.out; omega
              clear hl0 hms hx32 hy32 hx hz hyi hyi1 hee hi hlt2
              go_wp2_with fail
              refine (A1.out _ HBL.out).mono ?_
              rintro e3 w3 ⟨rfl, a3⟩
              replace HB := Lib.hid (HB.out.below a3 HB.out.lt)
              replace HBL := Lib.hid (HBL.out.trans (a3.mono HBL.out.size))
              clear a3 A1
              go_wp2_with fail
              refine (A2.out _ HBL.out).mono ?_
              rintro e4 w4 ⟨rfl, a4⟩
              replace HB := Lib.hid (HB.out.below a4 HB.out.lt)
              replace HBL := Lib.hid (HBL.out.trans (a4.mono HBL.out.size))
              clear a4 A2
              cases ee with
              | true =>
                go_wp2
                go_roundg (M - 1 - i)
                case measure => have := HIQ.out; have := HY.out; have := HY1.out; omega
                case rel => exact ⟨i + 1, y + 2, true, by have := HIQ.out; have := HY.out; have := HY1.out; omega, rfl, by first | rfl | (rw [IntWalk.wrap64_in _ (by omega)]; rfl), by have := HY.out; rw [Hid]; omega, by rw [Hid, HMS.out]; simp, by have := HIQ.out; have := HY.out; have := HY1.out; rw [Hid]; omega, HB, HBL⟩
              | false =>
                go_wp2
                go_roundg (M - 1 - i)
                case measure => have := HIQ.out; have := HY.out; have := HY1.out; omega
                case rel => exact ⟨i + 1, y + 2, tw2, by have := HIQ.out; have := HY.out; have := HY1.out; omega, rfl, by first | rfl | (rw [IntWalk.wrap64_in _ (by omega)]; rfl), by have := HY.out; rw [Hid]; omega, by rw [Hid, HMS.out, HT2.out]; simp, by have := HIQ.out; have := HY.out; have := HY1.out; rw [Hid]; omega, HB, HBL⟩
            · have d : decide ((y1 : Int) < (M : Int)) = false := by simp; omega
              have d' : decide (y1 < M) = false := by simp; omega
              have HE := Lib.hid (show tw2 = twk ids (k + 1) by
                rw [HT2.out, mtw_all (lv ids k) i (by have := HY.out; have := HY1.out; rw [HML.out]; omega) (by rw [HML.out]; exact HI2.out), twk, ← HTW.out])
              have hkj := HKJ.out
              have hjb := HJN.out
              clear hi hlt2
              go_wp2
              go_roundg (j - 1 - k)
              case measure => omega
              case rel => exact ⟨k + 1, tw2, by omega, rfl, by first | rfl | (rw [IntWalk.wrap64_in _ (by omega)]; rfl), HE, HB, HBL⟩
        · obtain rfl : k = j := by omega
          have d : decide ((k : Int) < (k : Int)) = false := by simp
          have A0 := Lib.hid (fun W a => AT.out W a k 0 (by have := HJN.out; omega) (cntN_pos n k H0.out))
          have hx32 : ((lv ids k).getD 0 []).length = 32 := getD_mem32 (lv_32 ids H32.out k) (by rw [lv_len, HN.out]; exact cntN_pos n k H0.out)
          obtain ⟨x, hx⟩ : ∃ x, (lv ids k).getD 0 [] = x := ⟨_, rfl⟩
          have hr := HR.out
          rw [hx] at A0 hx32 hr
          rw [← HTW.out] at hr
          have HRR := Lib.hid hr
          have HX := Lib.hid hx32
          clear hx hx32 hr hlt hk
          go_wp2_with fail
          refine (A0.out _ HBL.out).mono ?_
          rintro e3 w3 ⟨rfl, a3⟩
          replace HB := Lib.hid (HB.out.below a3 HB.out.lt)
          replace HBL := Lib.hid (HBL.out.trans (a3.mono HBL.out.size))
          clear a3 A0
          go_wp2_with (with_reducible refine wpList_stb rfl 36 (.tmp 2) (.tmp 47) rfl p 0 _ rfl rfl 36 _ HB.out ?k1 ?k2 ?k3 ?_)
          case k1 => simp [HX.out, zeros32]
          case k2 => rw [infoA32]; simp [HX.out]
          case k3 => exact bts_one _
          intro w7 b7 o7
          rw [over_all _ _ (by simp [HX.out, zeros32])] at b7
          have HB7 := Lib.hid b7
          have HBL7 := Lib.hid (HBL.out.trans (o7.below HBL.out.size (fun b hb e => by have := HP.out; omega)))
          clear b7 o7
          go_wp2
          refine bodyPost_ret (results_row_tmp rfl _ _ p 36 (bts x).toArray (0, 0) _ rfl HB7.out Try.underlying36 rfl (by rw [infoA32]; simp [HX.out])) rfl ?_
          exact ⟨by rw [HRR.out]; rfl, HBL7.out⟩
set_option maxRecDepth 20000 in
set_option maxHeartbeats 4000000 in
theorem mid_any (w : World) (A A' : Option Addr) (n n' c c' : Nat) (ins : List InT) (outs : List OutT) (ok : Nat → Prop)
    (hi : insSh.rel w ok [.slice A n c] ins) (ho : outsSh.rel w ok [.slice A' n' c'] outs) (hn : ins.length = n) (hn' : outs.length = n') (hf : TxFit (ins, outs, ())) :
    Calls Try.prog 27 #[.agg #[.slice A n c, .slice A' n' c']] w fun e w' => e = .returned (.agg (bts (sha2 (txB (ins, outs, ())))).toArray) ∧ Below w.heap.size w w' := by
  have hi' := weak_slice weak_in3 _ _ (fun b => b < w.heap.size) _ _ hi (fun b hb _ => hb)
  have ho' := weak_slice weak_out3 _ _ (fun b => b < w.heap.size) _ _ ho (fun b hb _ => hb)
  have BY := Lib.hid (fun W (a : Below w.heap.size w W) => bytes07_any W A A' n n' c c' ins outs _ (insSh.below hi' a (fun _ h _ => h)) (outsSh.below ho' a (fun _ h _ => h)) hn hn' hf)
  have HL := Lib.hid (txB_len hi ho hf)
  obtain ⟨X, hX⟩ : ∃ X, txB (ins, outs, ()) = X := ⟨_, rfl⟩
  rw [hX] at BY HL ⊢
  clear hi ho hi' ho' hn hn' hf hX
  go_enter Try.func27, Try.ntmps27
  go_upto_region 1 with fail
  generalize hW : World.alloc (World.alloc w _) _ = W
  have hb1 : Blk W w.heap.size 25 #[.slice A n c, .slice A' n' c'] := by rw [← hW]; exact (Blk.new _ _ _).alloc _
  have hb2 : Blk W (w.heap.size + 1) 36 zeros32.toArray := by
    have := Blk.new (w.alloc (.cells #[.slice A n c, .slice A' n' c'] 25)) 36 zeros32.toArray
    rw [show (w.alloc (.cells #[.slice A n c, .slice A' n' c'] 25)).heap.size = w.heap.size + 1 by simp] at this
    rw [← hW]; exact this
  have hbl : Below w.heap.size w W := by rw [← hW]; exact ((Below.refl _ _).alloc (Nat.le_refl _) _).alloc (by simp) _
  clear hW
  obtain ⟨q, hq⟩ : ∃ q, w.heap.size = q := ⟨_, rfl⟩
  rw [hq] at hb1 hb2 ⊢
  have HQ := Lib.hid hq
  have HB := Lib.hid hb2
  have HBL := Lib.hid hbl
  have q0 := hb1.cell 0
  have q1 := hb1.cell 1
  simp only [List.getElem?_toArray, List.getElem?_cons_zero, List.getElem?_cons_succ] at q0 q1
  clear hq hb1 hb2 hbl
  go_wp2_with fail
  refine (BY.out _ HBL.out).mono ?_
  rintro e3 w3 ⟨rfl, a3⟩
  replace HB := Lib.hid (HB.out.below a3 HB.out.lt)
  replace HBL := Lib.hid (HBL.out.trans (a3.mono HBL.out.size))
  clear a3 BY q0 q1
  go_wp2_with fail
  refine (rtwice_any _ X (by have := HL.out; omega)).mono ?_
  rintro e4 w4 ⟨rfl, a4⟩
  replace HB := Lib.hid (HB.out.below a4 HB.out.lt)
  replace HBL := Lib.hid (HBL.out.trans (a4.mono HBL.out.size))
  clear a4
  have HX := Lib.hid (show (sha2 X).length = 32 from sha_len _)
  obtain ⟨x, hx⟩ : ∃ x, sha2 X = x := ⟨_, rfl⟩
  rw [hx] at HX ⊢
  have HXE := Lib.hid hx
  clear hx
  go_wp2_with (with_reducible refine wpList_stb rfl 36 (.tmp 2) (.tmp 5) rfl (q + 1) 0 _ rfl rfl 36 _ HB.out ?k1 ?k2 ?k3 ?_)
  case k1 => simp [HX.out, zeros32]
  case k2 => rw [infoA32]; simp [HX.out]
  case k3 => exact bts_one _
  intro w7 b7 o7
  rw [over_all _ _ (by simp [HX.out, zeros32])] at b7
  have HB7 := Lib.hid b7
  have HBL7 := Lib.hid (HBL.out.trans (o7.below HBL.out.size (fun b hb e => by have := HQ.out; omega)))
  clear b7 o7
  go_wp2
  refine bodyPost_ret (results_cell_row rfl _ _ (q + 1) 36 (bts x).toArray (0, 0) _ rfl HB7.out Try.underlying36 rfl (by rw [infoA32]; simp [HX.out])) rfl ?_
  exact ⟨by rw [HXE.out], HBL7.out⟩
theorem infoA32z : (Try.prog.info? 36).map (fun i => (i.zero, i.size, i.bytes)) = some (some (.agg zeros32.toArray), 32, 32) := by kernel_rfl
set_option maxRecDepth 20000 in
set_option maxHeartbeats 4000000 in
theorem rtxroot_any (m : Nat) (w : World) (A : Option Addr) (c : Nat) (txs : List TxT) (ok : Nat → Prop)
    (ht0 : txsSh.rel w ok [.slice A m c] txs) (hm : txs.length = m) (hf : ∀ t ∈ txs, TxFit t) (hm2 : m ≤ 1000) :
    Calls Try.prog 16 #[.slice A m c] w fun e w' => e = .returned (.tuple #[.agg (bts (mroot (txs.map fun t => sha2 (txB t))).1).toArray, .bool (mroot (txs.map fun t => sha2 (txB t))).2]) ∧ Below w.heap.size w w' := by
  have ht := weak_slice weak_tx3 _ _ (fun b => b < w.heap.size) _ _ ht0 (fun b hb _ => hb)
  have HT := Lib.hid (fun W (a : Below w.heap.size w W) => txsSh.below ht a (fun _ h _ => h))
  have HM := Lib.hid hm
  have HF := Lib.hid hf
  have HM2 := Lib.hid hm2
  clear ht ht0 hm hf
  go_enter Try.func16, Try.ntmps16
  go_wp2_with fail
  generalize hW : World.alloc w _ = W
  have hb2 : Blk W w.heap.size 36 zeros32.toArray := by rw [← hW]; exact Blk.new _ _ _
  have hbl : Below w.heap.size w W := by rw [← hW]; exact (Below.refl _ _).alloc (Nat.le_refl _) _
  clear hW
  obtain ⟨q, hq⟩ : ∃ q, w.heap.size = q := ⟨_, rfl⟩
  rw [hq] at hb2 ⊢
  have HQ := Lib.hid hq
  have HB2 := Lib.hid hb2
  have HBL := Lib.hid hbl
  have OW0 := Lib.hid (World.ownsRow_nil W (q + 1) 36 32)
  clear hq hb2 hbl
  go_loopg [4, 5] m (fun n v4 v5 wr => ∃ (j : Nat) (A : Option Addr) (c : Nat), j + n = m ∧ v5 = .int .i64 j ∧ v4 = .slice A j c ∧ Hid (wr.ownsRow (q + 1) 36 32 (.slice A j c) j (((txs.take j).map fun t => sha2 (txB t)).flatMap bts)) ∧ Hid (Blk wr q 36 zeros32.toArray) ∧ Hid (Below w.heap.size w wr))
  case atStart => exact ⟨0, none, 0, by omega, rfl, rfl, OW0, HB2, HBL⟩
  case round =>
    clear OW0 HB2 HBL
    obtain ⟨j, A2, c2, hj, rfl, rfl, HOW, HB2, HBL⟩ := hrel
    by_cases hlt : j < m
    · have ht' := HT.out _ HBL.out
      obtain ⟨b', o, cs, rfl, hb, hcs, hrow⟩ := txs_at ht' (by rw [HM.out]; exact hlt)
      obtain ⟨ins, outs, A3, A4, c3, c4, het, rfl, hi, ho⟩ := tx_cells hcs
      have hfit : TxFit (ins, outs, ()) := by rw [← het]; exact HF.out _ (List.getElem_mem _)
      have RI := Lib.hid (fun W' (a : Below wr.heap.size wr W') => mid_any W' A3 A4 _ _ c3 c4 ins outs _ (insSh.below hi a (fun b h h2 => h)) (outsSh.below ho a (fun b h h2 => h)) rfl rfl hfit)
      have HET := Lib.hid (show sha2 (txB (txs[j]'(by rw [HM.out]; exact hlt))) = sha2 (txB (ins, outs, ())) by rw [het])
      have HY := Lib.hid (show (sha2 (txB (ins, outs, ()))).length = 32 from sha_len _)
      obtain ⟨y, hy⟩ : ∃ y, sha2 (txB (ins, outs, ())) = y := ⟨_, rfl⟩
      rw [hy] at RI HET HY
      have HROW := Lib.hid hrow
      obtain ⟨n1, hn1⟩ : ∃ n1, ins.length = n1 := ⟨_, rfl⟩
      obtain ⟨n2, hn2⟩ : ∃ n2, outs.length = n2 := ⟨_, rfl⟩
      rw [hn1] at RI HROW
      rw [hn2] at RI HROW
      clear ht' hcs het hi ho hfit hrow hb hn1 hn2 hy
      go_wp2_with (with_reducible refine wpList_ld rfl 25 (.tmp 15) rfl b' (o + j * 2) rfl [.slice A3 n1 c3, .slice A4 n2 c4] HROW.out _ Try.underlying25 rfl 2 infoTx rfl ?_)
      refine (RI.out _ (Below.refl _ _)).mono ?_
      rintro e5 w5 ⟨rfl, a5⟩
      have HOW5 := Lib.hid (own_only HOW.out (Only.of_new a5 (fun _ => False)) (fun _ _ h => h))
      replace HB2 := Lib.hid (HB2.out.below a5 HB2.out.lt)
      replace HBL := Lib.hid (HBL.out.trans (a5.mono HBL.out.size))
      clear a5 RI HROW HOW
      have hy32 : y.length = 32 := HY.out
      have hfold := fold_id y HY.out
      go_wp2_with (at_builtin; refine wpList_app _ rfl (.tmp 12) (.tmp 18) 69 rfl (q + 1) 36 _ 32 32 Try.underlying69 infoA32z (by rfl) (by decide) A2 j c2 rfl _ 1 1 rfl _ (HOW5.out.alloc _) _ _ (Sl.one_row w5 36 (bts y) 32 (by rw [bts_length, HY.out])) (bts_one _) (by unfold maxLen; omega) (by omega) ?hbase ?next)
      case hbase => have := HB2.out.lt; simp; omega
      case next =>
        intro A6 c6 w6 hown6 ho6 hat6
        have hlow : ∀ b, (Value.slice A2 j c2).ownBlock = some b → q + 1 ≤ b := fun b e => own_ge HOW5.out e
        have HB6 := Lib.hid ((HB2.out.alloc (.cells (bts y).toArray 36)).only ho6 (fun e => by have := hlow _ e; omega))
        have HBL6 := Lib.hid ((HBL.out.alloc HBL.out.size (.cells (bts y).toArray 36)).trans (ho6.below (HBL.out.alloc HBL.out.size _).size (fun b hb e => by have := hlow _ e; have := HQ.out; omega)))
        have HOW6 := Lib.hid hown6
        clear hown6 ho6 hat6 hlow hfold hy32
        go_wp2
        go_roundg (m - 1 - j)
        case measure => omega
        case rel =>
          refine ⟨j + 1, A6, c6, by omega, by first | rfl | (rw [IntWalk.wrap64_in _ (by omega)]; rfl), rfl, ?_, HB6, HBL6⟩
          rw [Hid, take_snoc' txs j (by rw [HM.out]; exact hlt), List.map_append, List.flatMap_append]
          simp only [List.map_cons, List.map_nil, List.flatMap_cons, List.flatMap_nil, List.append_nil]
          rw [HET.out, List.map_take]
          exact HOW6.out
    · obtain rfl : j = m := by omega
      have hfull : txs.take j = txs := List.take_of_length_le (by rw [HM.out]; exact Nat.le_refl _)
      rw [hfull] at HOW
      have hsl := (Sl.of_own HOW.out).weak (ok' := fun b => b < wr.heap.size) (fun b hb _ => hb) (by decide)
      have RR := Lib.hid (fun W (a : Below wr.heap.size wr W) => rroot_any A2 j c2 (txs.map fun t => sha2 (txB t)) (by rw [List.length_map, HM.out]) (fun x hx => by obtain ⟨t, _, rfl⟩ := List.mem_map.1 hx; exact sha_len _) HM2.out W _ (hsl.below a (fun _ h _ => h) (by decide)))
      have HR32 := Lib.hid (mroot_len (txs.map fun t => sha2 (txB t)) (fun x hx => by obtain ⟨t, _, rfl⟩ := List.mem_map.1 hx; exact sha_len _))
      obtain ⟨R, hR⟩ : ∃ R, mroot (txs.map fun t => sha2 (txB t)) = R := ⟨_, rfl⟩
      rw [hR] at RR HR32
      obtain ⟨x, tw⟩ := R
      have HRR := Lib.hid hR
      simp only at RR HR32
      clear hsl hfull hR hlt hj
      go_wp2_with fail
      refine (RR.out _ (Below.refl _ _)).mono ?_
      rintro e5 w5 ⟨rfl, a5⟩
      replace HB2 := Lib.hid (HB2.out.below a5 HB2.out.lt)
      replace HBL := Lib.hid (HBL.out.trans (a5.mono HBL.out.size))
      clear a5 RR HOW
      go_wp2_with (with_reducible refine wpList_stb rfl 36 (.tmp 2) (.tmp 22) rfl q 0 _ rfl rfl 36 _ HB2.out ?k1 ?k2 ?k3 ?_)
      case k1 => simp [HR32.out, zeros32]
      case k2 => rw [infoA32]; simp [HR32.out]
      case k3 => exact bts_one _
      intro w7 b7 o7
      rw [over_all _ _ (by simp [HR32.out, zeros32])] at b7
      have HB7 := Lib.hid b7
      have HBL7 := Lib.hid (HBL.out.trans (o7.below HBL.out.size (fun b hb e => by have := HQ.out; omega)))
      clear b7 o7
      go_wp2
      refine bodyPost_ret (results_row_tmp rfl _ _ q 36 (bts x).toArray (0, 0) _ rfl HB7.out Try.underlying36 rfl (by rw [infoA32]; simp [HR32.out])) rfl ?_
      exact ⟨by rw [HRR.out]; rfl, HBL7.out⟩
end Go.Proofs.Ytnonabmbichfnaa
