/- merkle.Leads. -/
import Derived.Test.YtpcombaecbjmfaaMr
namespace Go.Proofs.Ytpcombaecbjmfaa
open Go.RowKit
/-- to which root a sum leads -/
def leadM : Id32 → Nat → List Id32 → Id32
  | x, _, [] => x
  | x, a, y :: r => leadM (if a % 2 = 0 then sha2 (x ++ y) else sha2 (y ++ x)) (a / 2) r
theorem leadM_32 : ∀ (r : List Id32) (x : Id32) (a : Nat), x.length = 32 → (leadM x a r).length = 32 := by
  intro r
  induction r with
  | nil => intro x a h; exact h
  | cons y r ih =>
    intro x a h
    rw [leadM]
    apply ih
    split <;> exact sha_len _
set_option maxRecDepth 20000 in
set_option maxHeartbeats 4000000 in
set_option linter.unusedSimpArgs false in
theorem leads_any (w : World) (x : Id32) (a : Nat) (A : Option Addr) (n c : Nat) (way : List Id32) (ok : Nat → Prop) (hx : x.length = 32) (hn : way.length = n) (h32 : ∀ y ∈ way, y.length = 32) (ha : a ≤ 1000000) (hn2 : n ≤ 1000)
    (hs : Sl w ok 32 A n (way.flatMap bts)) :
    Calls Try.prog 30 #[.agg (bts x).toArray, .int .i64 (a : Int), .slice A n c] w fun e w' => e = .returned (.agg (bts (leadM x a way)).toArray) ∧ Below w.heap.size w w' := by
  have hs' := hs.weak (ok' := fun b => b < w.heap.size) (fun b hb _ => hb) (by decide)
  have HS := Lib.hid (fun W (a : Below w.heap.size w W) => hs'.below a (fun _ h _ => h) (by decide))
  obtain ⟨R, hR⟩ : ∃ R, leadM x a way = R := ⟨_, rfl⟩
  rw [hR]
  have HR := Lib.hid hR
  have HX := Lib.hid hx
  have HN := Lib.hid hn
  have H32 := Lib.hid h32
  have HA := Lib.hid ha
  have HRL := Lib.hid (show R.length = 32 by rw [← hR]; exact leadM_32 _ _ _ hx)
  clear hs hs' hR hx hn h32 ha
  go_enter Try.func30, Try.ntmps30
  go_wp2_with fail
  generalize hW : World.alloc (World.alloc w _) _ = W
  have hb1 : Blk W w.heap.size 32 (bts x).toArray := by rw [← hW]; exact (Blk.new _ _ _).alloc _
  have hb2 : Blk W (w.heap.size + 1) 32 zeros32.toArray := by
    have := Blk.new (w.alloc (.cells (bts x).toArray 32)) 32 zeros32.toArray
    rw [show (w.alloc (.cells (bts x).toArray 32)).heap.size = w.heap.size + 1 by simp] at this
    rw [← hW]; exact this
  have hbl : Below w.heap.size w W := by rw [← hW]; exact ((Below.refl _ _).alloc (Nat.le_refl _) _).alloc (by simp) _
  clear hW
  obtain ⟨q, hq⟩ : ∃ q, w.heap.size = q := ⟨_, rfl⟩
  rw [hq] at hb1 hb2 ⊢
  have HQ := Lib.hid hq
  have HB := Lib.hid hb1
  have HB2 := Lib.hid hb2
  have HBL := Lib.hid hbl
  clear hq hb1 hb2 hbl
  go_loopg [1, 11] n (fun k v1 v11 wr => ∃ (j a : Nat) (x : Id32), j + k = n ∧ v1 = .int .i64 (a : Int) ∧ v11 = .int .i64 j ∧ Hid (a ≤ 1000000) ∧ Hid (x.length = 32) ∧ Hid (R = leadM x a (way.drop j)) ∧ Hid (Blk wr q 32 (bts x).toArray) ∧ Hid (Blk wr (q + 1) 32 zeros32.toArray) ∧ Hid (Below w.heap.size w wr))
  case atStart => exact ⟨0, a, x, by omega, rfl, rfl, HA, HX, HR.out.symm, HB, HB2, HBL⟩
  case round =>
    clear HB HB2 HBL HR HX HA
    obtain ⟨j, a, x, hj, rfl, rfl, HA, HX, HR, HB, HB2, HBL⟩ := hrel
    by_cases hlt : j < n
    · obtain ⟨b, o, rfl, hb, hrow⟩ := ids_at (HS.out _ HBL.out) H32.out HN.out hlt
      have hjl : j < way.length := by rw [HN.out]; exact hlt
      have hr := HR.out
      rw [List.drop_eq_getElem_cons hjl, leadM] at hr
      have hy32 : (way[j]'hjl).length = 32 := H32.out _ (List.getElem_mem hjl)
      obtain ⟨y, hy⟩ : ∃ y, way[j]'hjl = y := ⟨_, rfl⟩
      rw [hy] at hrow hr hy32
      have HY := Lib.hid hy32
      have HROW := Lib.hid hrow
      have HR2 := Lib.hid hr
      have HJ := Lib.hid hj
      clear hr hy hrow hy32 hb hj
      go_wp2_with (first
        | (with_reducible refine wpList_ld rfl 32 (.tmp 13) rfl b (o + j * 32) rfl (bts y) HROW.out _ Try.underlying32 rfl 32 infoID (by simp [HY.out]) ?_)
        | (with_reducible refine wpList_stb rfl 32 (.tmp 8) (.tmp 14) rfl wr.heap.size 0 _ rfl rfl 32 zeros32 (Blk.new wr _ _) ?h1 ?h2 ?h3 ?_))
      case h1 => simp [HY.out, zeros32]
      case h2 => rw [infoID]; simp [HY.out]
      case h3 => exact bts_one _
      intro w3 b3 o3
      rw [over_all _ _ (by simp [HY.out, zeros32])] at b3
      have hO3 : Below wr.heap.size wr w3 := (((Only.refl (fun b => wr.heap.size ≤ b) wr).alloc _).trans o3 (fun b _ e => by omega)).below (Nat.le_refl _) (fun b hb h => by omega)
      replace HB := Lib.hid (HB.out.below hO3 HB.out.lt)
      replace HB2 := Lib.hid (HB2.out.below hO3 HB2.out.lt)
      replace HBL := Lib.hid (HBL.out.trans (hO3.mono HBL.out.size))
      obtain ⟨p8, hp8⟩ : ∃ p8, wr.heap.size = p8 := ⟨_, rfl⟩
      rw [hp8] at b3 ⊢
      have HP8 := Lib.hid b3
      obtain ⟨a2, ha2⟩ : ∃ a2, a / 2 = a2 := ⟨_, rfl⟩
      have e24 : (a : Int) / 2 = (a2 : Int) := by omega
      have e24' : (a : Int).tdiv 2 = (a2 : Int) := by rw [Int.tdiv_eq_ediv_of_nonneg (by omega)]; exact e24
      have e25 : IntKind.i64.wrap (a2 : Int) = (a2 : Int) := by have := HA.out; rw [w64 _ (by omega)]
      have HA2 := Lib.hid (show a2 ≤ 1000000 by have := HA.out; omega)
      rw [ha2] at HR2
      clear b3 o3 hO3 hp8 ha2 HROW
      by_cases hp : a % 2 = 0
      · have d1 : ((a : Int) % 2 == 0) = true := by simp; omega
        have d2 : (((a % 2 : Nat) : Int) == 0) = true := by simp; omega
        have d3 : (a % 2 == 0) = true := by simp; omega
        have d4 : ((a : Int).tmod 2 == 0) = true := by rw [Int.tmod_eq_emod_of_nonneg (by omega)]; exact d1
        have HR3 := Lib.hid (show R = leadM (sha2 (x ++ y)) a2 (way.drop (j + 1)) by rw [HR2.out, if_pos hp])
        clear hp
        have HL := Lib.hid (show (sha2 (x ++ y)).length = 32 from sha_len _)
        go_wp2_with (first
          | (with_reducible refine wpList_ld rfl 32 (.tmp 3) rfl q 0 rfl (bts x) HB.out.rowAll _ Try.underlying32 rfl 32 infoID (by simp [HX.out]) ?_)
          | (with_reducible refine wpList_ld rfl 32 (.tmp 8) rfl p8 0 rfl (bts y) HP8.out.rowAll _ Try.underlying32 rfl 32 infoID (by simp [HY.out]) ?_))
        refine (pair_any _ x y HX.out HY.out).mono ?_
        rintro e5 w5 ⟨rfl, a5⟩
        replace HB := Lib.hid (HB.out.below a5 HB.out.lt)
        replace HB2 := Lib.hid (HB2.out.below a5 HB2.out.lt)
        replace HBL := Lib.hid (HBL.out.trans (a5.mono HBL.out.size))
        clear a5 d1 d2 d3 d4
        obtain ⟨z, hz⟩ : ∃ z, sha2 (x ++ y) = z := ⟨_, rfl⟩
        rw [hz] at HL HR3 ⊢
        clear hz
        go_wp2_with (with_reducible refine wpList_stb rfl 32 (.tmp 3) (.tmp 20) rfl q 0 _ rfl rfl 32 _ HB.out ?k1 ?k2 ?k3 ?_)
        case k1 => simp [HL.out, HX.out]
        case k2 => rw [infoID]; simp [HL.out]
        case k3 => exact bts_one _
        intro w6 b6 o6
        rw [over_all _ _ (by simp [HL.out, HX.out])] at b6
        have HB6 := Lib.hid b6
        have HB7 := Lib.hid (HB2.out.only o6 (by omega))
        have HBL6 := Lib.hid (HBL.out.trans (o6.below HBL.out.size (fun b hb e => by have := HQ.out; omega)))
        clear b6 o6
        have hj := HJ.out
        go_wp2
        go_roundg (n - 1 - j)
        case measure => omega
        case rel => exact ⟨j + 1, a2, z, by omega, by first | rfl | (have := HA2.out; refine congrArg _ ?_; rw [IntWalk.wrap64_in _ (by omega)]), by first | rfl | (rw [IntWalk.wrap64_in _ (by omega)]; rfl), HA2, HL, HR3, HB6, HB7, HBL6⟩
      · have d1 : ((a : Int) % 2 == 0) = false := by simp; omega
        have d2 : (((a % 2 : Nat) : Int) == 0) = false := by simp; omega
        have d3 : (a % 2 == 0) = false := by simp; omega
        have d4 : ((a : Int).tmod 2 == 0) = false := by rw [Int.tmod_eq_emod_of_nonneg (by omega)]; exact d1
        have HR3 := Lib.hid (show R = leadM (sha2 (y ++ x)) a2 (way.drop (j + 1)) by rw [HR2.out, if_neg hp])
        clear hp
        have HL := Lib.hid (show (sha2 (y ++ x)).length = 32 from sha_len _)
        go_wp2_with (first
          | (with_reducible refine wpList_ld rfl 32 (.tmp 3) rfl q 0 rfl (bts x) HB.out.rowAll _ Try.underlying32 rfl 32 infoID (by simp [HX.out]) ?_)
          | (with_reducible refine wpList_ld rfl 32 (.tmp 8) rfl p8 0 rfl (bts y) HP8.out.rowAll _ Try.underlying32 rfl 32 infoID (by simp [HY.out]) ?_))
        refine (pair_any _ y x HY.out HX.out).mono ?_
        rintro e5 w5 ⟨rfl, a5⟩
        replace HB := Lib.hid (HB.out.below a5 HB.out.lt)
        replace HB2 := Lib.hid (HB2.out.below a5 HB2.out.lt)
        replace HBL := Lib.hid (HBL.out.trans (a5.mono HBL.out.size))
        clear a5 d1 d2 d3 d4
        obtain ⟨z, hz⟩ : ∃ z, sha2 (y ++ x) = z := ⟨_, rfl⟩
        rw [hz] at HL HR3 ⊢
        clear hz
        go_wp2_with (with_reducible refine wpList_stb rfl 32 (.tmp 3) (.tmp 23) rfl q 0 _ rfl rfl 32 _ HB.out ?k1 ?k2 ?k3 ?_)
        case k1 => simp [HL.out, HX.out]
        case k2 => rw [infoID]; simp [HL.out]
        case k3 => exact bts_one _
        intro w6 b6 o6
        rw [over_all _ _ (by simp [HL.out, HX.out])] at b6
        have HB6 := Lib.hid b6
        have HB7 := Lib.hid (HB2.out.only o6 (by omega))
        have HBL6 := Lib.hid (HBL.out.trans (o6.below HBL.out.size (fun b hb e => by have := HQ.out; omega)))
        clear b6 o6
        have hj := HJ.out
        go_wp2
        go_roundg (n - 1 - j)
        case measure => omega
        case rel => exact ⟨j + 1, a2, z, by omega, by first | rfl | (have := HA2.out; refine congrArg _ ?_; rw [IntWalk.wrap64_in _ (by omega)]), by first | rfl | (rw [IntWalk.wrap64_in _ (by omega)]; rfl), HA2, HL, HR3, HB6, HB7, HBL6⟩
    · obtain rfl : j = n := by omega
      have HRX := Lib.hid (show R = x by rw [HR.out, List.drop_of_length_le (by rw [HN.out]; exact Nat.le_refl _)]; rfl)
      clear hlt hj
      go_wp2_with (first
        | (with_reducible refine wpList_ld rfl 32 (.tmp 3) rfl q 0 rfl (bts x) HB.out.rowAll _ Try.underlying32 rfl 32 infoID (by simp [HX.out]) ?_)
        | (with_reducible refine wpList_stb rfl 32 (.tmp 6) (.tmp 27) rfl (q + 1) 0 _ rfl rfl 32 _ HB2.out ?k1 ?k2 ?k3 ?_))
      case k1 => simp [HX.out, zeros32]
      case k2 => rw [infoID]; simp [HX.out]
      case k3 => exact bts_one _
      intro w6 b6 o6
      rw [over_all _ _ (by simp [HX.out, zeros32])] at b6
      have HB6 := Lib.hid b6
      have HBL6 := Lib.hid (HBL.out.trans (o6.below HBL.out.size (fun b hb e => by have := HQ.out; omega)))
      clear b6 o6
      go_wp2
      refine bodyPost_ret (results_cell_row rfl _ _ (q + 1) 32 (bts x).toArray (0, 0) _ rfl HB6.out Try.underlying32 rfl (by rw [infoID]; simp [HX.out])) rfl ?_
      exact ⟨by rw [HRX.out], HBL6.out⟩
end Go.Proofs.Ytpcombaecbjmfaa
