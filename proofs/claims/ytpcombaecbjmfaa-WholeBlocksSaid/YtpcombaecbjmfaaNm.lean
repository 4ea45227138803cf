/- Numbers of 256 bits; the target of the easiest bits; compared. -/
import Derived.Test.YtpcombaecbjmfaaHd
import Derived.Test.YtpcombaecbjmfaaTk
import Derived.Test.YtpcombaecbjmfaaTr
import Derived.Handy
import Derived.Deep.RegionHeld3
import Derived.StillTailTactics
namespace Go.Proofs.Ytpcombaecbjmfaa
open Go.RowKit
def n6 (l : List Nat) : List Value := l.map fun (x : Nat) => Value.int .u64 ((x : Nat) : Int)
theorem n6_length (l : List Nat) : (n6 l).length = l.length := by simp [n6]
theorem n6_get (l : List Nat) (i : Nat) (h : i < l.length) : (n6 l)[i]? = some (.int .u64 ((l.getD i 0 : Nat) : Int)) := by simp [n6, h, List.getD]
theorem n6_one (l : List Nat) : ∀ u ∈ n6 l, u.oneCell' = true := by
  intro u hu
  simp only [n6, List.mem_map] at hu
  obtain ⟨x, _, rfl⟩ := hu
  rfl
theorem blk_new2 (w : World) (o : Obj) (t : TypeId) (L : List Value) : Blk ((w.alloc o).alloc (.cells L.toArray t)) (w.heap.size + 1) t L.toArray := by
  have := Blk.new (w.alloc o) t L.toArray
  rwa [show (w.alloc o).heap.size = w.heap.size + 1 by simp] at this
theorem infoNum : (Try.prog.info? 109).map (·.size) = some 4 := by kernel_rfl
set_option maxRecDepth 20000 in
set_option maxHeartbeats 1000000 in
theorem len64_23 (w : World) : Calls Try.prog 82 #[.int .u64 8388607] w fun e w' => e = .returned (.int .i64 23) ∧ w' = w := by
  go_enter Try.func82, Try.ntmps82
  go_wp2
  go_ret
  refine ⟨?_, rfl⟩
  kernel_rfl
set_option maxRecDepth 20000 in
set_option maxHeartbeats 1000000 in
theorem len_t (w : World) : Calls Try.prog 76 #[.agg #[.int .u64 8388607, .int .u64 0, .int .u64 0, .int .u64 0]] w fun e w' => e = .returned (.int .i64 23) ∧ Below w.heap.size w w' := by
  have c0 : (w.alloc (.cells #[.int .u64 8388607, .int .u64 0, .int .u64 0, .int .u64 0] 109)).cell? ⟨w.heap.size, 0, none⟩ = some (.int .u64 8388607) := (Blk.new w 109 _).cell 0
  have c1 : (w.alloc (.cells #[.int .u64 8388607, .int .u64 0, .int .u64 0, .int .u64 0] 109)).cell? ⟨w.heap.size, 1, none⟩ = some (.int .u64 0) := (Blk.new w 109 _).cell 1
  have c2 : (w.alloc (.cells #[.int .u64 8388607, .int .u64 0, .int .u64 0, .int .u64 0] 109)).cell? ⟨w.heap.size, 2, none⟩ = some (.int .u64 0) := (Blk.new w 109 _).cell 2
  have c3 : (w.alloc (.cells #[.int .u64 8388607, .int .u64 0, .int .u64 0, .int .u64 0] 109)).cell? ⟨w.heap.size, 3, none⟩ = some (.int .u64 0) := (Blk.new w 109 _).cell 3
  go_enter Try.func76, Try.ntmps76
  go_wp2_with fail
  go_rounds 4
  go_ret
  refine ⟨?_, (Below.refl _ _).alloc (Nat.le_refl _) _⟩
  kernel_rfl
/-- the number that the easiest bits mean -/
def easyT : List Nat := [0, 0, 0, 9223370937343148032]
set_option maxRecDepth 20000 in
set_option maxHeartbeats 1000000 in
theorem of_t (w : World) : Calls Try.prog 73 #[.int .u64 8388607] w fun e w' => e = .returned (.agg #[.int .u64 8388607, .int .u64 0, .int .u64 0, .int .u64 0]) ∧ Below w.heap.size w w' := by
  go_enter Try.func73, Try.ntmps73
  go_wp2_with (with_reducible refine wpList_stb rfl 109 (.tmp 2) (.tmp 4) rfl w.heap.size 0 _ rfl rfl 109 (n6 [0, 0, 0, 0]) (Blk.new w _ _) ?h1 ?h2 ?h3 ?_)
  case h1 => simp [n6]
  case h2 => rw [infoNum]; rfl
  case h3 => exact ⟨rfl, rfl⟩
  intro w6 b6 o6
  have HB6 := Lib.hid (show Blk w6 w.heap.size 109 #[.int .u64 8388607, .int .u64 0, .int .u64 0, .int .u64 0] from b6)
  have HBL6 := Lib.hid ((((Only.refl (fun b => w.heap.size ≤ b) w).alloc _).trans o6 (fun b _ e => by omega)).below (Nat.le_refl _) (fun b hb h => by omega))
  clear b6 o6
  go_wp2
  refine bodyPost_ret (results_cell_row rfl _ _ w.heap.size 109 #[.int .u64 8388607, .int .u64 0, .int .u64 0, .int .u64 0] (0, 0) _ rfl HB6.out Try.underlying109 rfl (by rw [infoNum]; rfl)) rfl ?_
  exact ⟨rfl, HBL6.out⟩
set_option maxRecDepth 20000 in
set_option maxHeartbeats 4000000 in
theorem shl_t (w : World) : Calls Try.prog 77 #[.agg #[.int .u64 8388607, .int .u64 0, .int .u64 0, .int .u64 0], .int .i64 232] w fun e w' => e = .returned (.agg (n6 easyT).toArray) ∧ Below w.heap.size w w' := by
  go_enter Try.func77, Try.ntmps77
  go_wp2_with fail
  generalize hW : World.alloc (World.alloc (World.alloc w _) _) _ = W
  have h0 : Blk W w.heap.size 109 (n6 [8388607, 0, 0, 0]).toArray := by rw [← hW]; exact ((Blk.new _ _ _).alloc _).alloc _
  have h1 : Blk W (w.heap.size + 1) 109 (n6 [0, 0, 0, 0]).toArray := by
    have := Blk.new (w.alloc (.cells (n6 [8388607, 0, 0, 0]).toArray 109)) 109 (n6 [0, 0, 0, 0]).toArray
    rw [show (w.alloc (.cells (n6 [8388607, 0, 0, 0]).toArray 109)).heap.size = w.heap.size + 1 by simp] at this
    rw [← hW]; exact this.alloc _
  have h2 : Blk W (w.heap.size + 1 + 1) 109 (n6 [0, 0, 0, 0]).toArray := by
    have := Blk.new ((w.alloc (.cells (n6 [8388607, 0, 0, 0]).toArray 109)).alloc (.cells (n6 [0, 0, 0, 0]).toArray 109)) 109 (n6 [0, 0, 0, 0]).toArray
    rw [show ((w.alloc (.cells (n6 [8388607, 0, 0, 0]).toArray 109)).alloc (.cells (n6 [0, 0, 0, 0]).toArray 109)).heap.size = w.heap.size + 1 + 1 by simp] at this
    rw [← hW]; exact this
  have hbl : Below w.heap.size w W := by rw [← hW]; exact (((Below.refl _ _).alloc (Nat.le_refl _) _).alloc (by simp) _).alloc (by simp; omega) _
  clear hW
  obtain ⟨q, hq⟩ : ∃ q, w.heap.size = q := ⟨_, rfl⟩
  rw [hq] at h0 h1 h2 ⊢
  have HQ := Lib.hid hq
  have H1 := Lib.hid h1
  have H2 := Lib.hid h2
  have HBL := Lib.hid hbl
  have c0 : W.cell? ⟨q, 0, none⟩ = some (.int .u64 8388607) := h0.cell 0
  have c3 : W.cell? ⟨q + 1 + 1, 3, none⟩ = some (.int .u64 0) := h2.cell 3
  have f3 := h2.frozen 3
  clear hq h0 h1 h2 hbl
  have HB5 := Lib.hid (show Blk (W.setCell ⟨q + 1 + 1, 3, none⟩ (.int .u64 9223370937343148032)) (q + 1 + 1) 109 (n6 easyT).toArray from H2.out.set_ 3 (.int .u64 9223370937343148032))
  have HO5 : Only (fun b => b = q + 1 + 1) W (W.setCell ⟨q + 1 + 1, 3, none⟩ (.int .u64 9223370937343148032)) := (Only.refl (fun b => b = q + 1 + 1) W).setCell (p := ⟨q + 1 + 1, 3, none⟩) (fun _ => rfl) _
  have HB1 := Lib.hid (H1.out.only HO5 (by omega))
  have HBL5 := Lib.hid (HBL.out.trans (HO5.below HBL.out.size (fun b hb e => by have := HQ.out; omega)))
  clear HO5
  refine wp_loop_rounds 2 ?_
  rw [rounds_succ]
  go_wp2_with fail
  rw [rounds_succ]
  go_wp2_with (first
    | (with_reducible refine wpList_ld rfl 109 (.tmp 5) rfl (q + 1 + 1) 0 rfl (n6 easyT) HB5.out.rowAll _ Try.underlying109 rfl 4 infoNum rfl ?_)
    | (with_reducible refine wpList_stb rfl 109 (.tmp 4) (.tmp 56) rfl (q + 1) 0 _ rfl rfl 109 _ HB1.out ?k1 ?k2 ?k3 ?_))
  case k1 => simp [n6, easyT]
  case k2 => rw [infoNum]; rfl
  case k3 => exact n6_one _
  intro w6 b6 o6
  have HB6 := Lib.hid (show Blk w6 (q + 1) 109 (n6 easyT).toArray from b6)
  have HBL6 := Lib.hid (HBL5.out.trans (o6.below HBL5.out.size (fun b hb e => by have := HQ.out; omega)))
  clear b6 o6
  go_wp2
  refine bodyPost_ret (results_cell_row rfl _ _ (q + 1) 109 (n6 easyT).toArray (0, 0) _ rfl HB6.out Try.underlying109 rfl (by rw [infoNum]; rfl)) rfl ?_
  exact ⟨rfl, HBL6.out⟩
set_option maxRecDepth 20000 in
set_option maxHeartbeats 4000000 in
theorem target_t (w : World) : Calls Try.prog 55 #[.int .u32 545259519] w fun e w' => e = .returned (.tuple #[.agg (n6 easyT).toArray, .bool true]) ∧ Below w.heap.size w w' := by
  go_enter Try.func55, Try.ntmps55
  go_upto_region 4 with fail
  generalize hW : World.alloc w _ = W
  have hb : Blk W w.heap.size 109 (n6 [0, 0, 0, 0]).toArray := by rw [← hW]; exact Blk.new _ _ _
  have hbl : Below w.heap.size w W := by rw [← hW]; exact (Below.refl _ _).alloc (Nat.le_refl _) _
  clear hW
  obtain ⟨p, hp⟩ : ∃ p, w.heap.size = p := ⟨_, rfl⟩
  rw [hp] at hb ⊢
  have HP := Lib.hid hp
  have HB := Lib.hid hb
  have HBL := Lib.hid hbl
  clear hp hb hbl
  go_wp2_with fail
  refine (of_t W).mono ?_
  rintro e1 w1 ⟨rfl, a1⟩
  replace HB := Lib.hid (HB.out.below a1 HB.out.lt)
  replace HBL := Lib.hid (HBL.out.trans (a1.mono HBL.out.size))
  clear a1
  go_wp2_with (with_reducible refine wpList_stb rfl 109 (.tmp 6) (.tmp 22) rfl w1.heap.size 0 _ rfl rfl 109 (n6 [0, 0, 0, 0]) (Blk.new w1 _ _) ?h1 ?h2 ?h3 ?_)
  case h1 => simp [n6]
  case h2 => rw [infoNum]; rfl
  case h3 => exact ⟨rfl, rfl⟩
  intro w3 b3 o3
  have hO3 : Below w1.heap.size w1 w3 := (((Only.refl (fun b => w1.heap.size ≤ b) w1).alloc _).trans o3 (fun b _ e => by omega)).below (Nat.le_refl _) (fun b hb h => by omega)
  replace HB := Lib.hid (HB.out.below hO3 HB.out.lt)
  replace HBL := Lib.hid (HBL.out.trans (hO3.mono HBL.out.size))
  have hb6 : Blk w3 w1.heap.size 109 [Value.int .u64 8388607, .int .u64 0, .int .u64 0, .int .u64 0].toArray := b3
  obtain ⟨p6, hp6⟩ : ∃ p6, w1.heap.size = p6 := ⟨_, rfl⟩
  rw [hp6] at hb6 ⊢
  have HB6 := Lib.hid hb6
  clear b3 o3 hO3 hb6 hp6
  go_wp2_with (with_reducible refine wpList_ld rfl 109 (.tmp 6) rfl p6 0 rfl [Value.int .u64 8388607, .int .u64 0, .int .u64 0, .int .u64 0] HB6.out.rowAll _ Try.underlying109 rfl 4 infoNum rfl ?_)
  refine (len_t w3).mono ?_
  rintro e4 w4 ⟨rfl, a4⟩
  replace HB := Lib.hid (HB.out.below a4 HB.out.lt)
  replace HB6 := Lib.hid (HB6.out.below a4 HB6.out.lt)
  replace HBL := Lib.hid (HBL.out.trans (a4.mono HBL.out.size))
  clear a4
  go_wp2_with (with_reducible refine wpList_ld rfl 109 (.tmp 6) rfl p6 0 rfl [Value.int .u64 8388607, .int .u64 0, .int .u64 0, .int .u64 0] HB6.out.rowAll _ Try.underlying109 rfl 4 infoNum rfl ?_)
  refine (shl_t w4).mono ?_
  rintro e5 w5 ⟨rfl, a5⟩
  replace HB := Lib.hid (HB.out.below a5 HB.out.lt)
  replace HBL := Lib.hid (HBL.out.trans (a5.mono HBL.out.size))
  clear a5 HB6
  go_wp2_with (with_reducible refine wpList_stb rfl 109 (.tmp 2) (.tmp 46) rfl p 0 _ rfl rfl 109 _ HB.out ?k1 ?k2 ?k3 ?_)
  case k1 => simp [n6, easyT]
  case k2 => rw [infoNum]; rfl
  case k3 => exact n6_one _
  intro w7 b7 o7
  have HB7 := Lib.hid (show Blk w7 p 109 (n6 easyT).toArray from b7)
  have HBL7 := Lib.hid (HBL.out.trans (o7.below HBL.out.size (fun b hb e => by have := HP.out; omega)))
  clear b7 o7
  go_wp2
  refine bodyPost_ret (results_row_tmp rfl _ _ p 109 (n6 easyT).toArray (0, 0) _ rfl HB7.out Try.underlying109 rfl (by rw [infoNum]; rfl)) rfl ?_
  exact ⟨rfl, HBL7.out⟩
/-- compared, from the highest word down -/
def cmpU (a b : List Nat) : Nat → Int
  | 0 => 0
  | i + 1 => if a.getD i 0 = b.getD i 0 then cmpU a b i else if a.getD i 0 < b.getD i 0 then -1 else 1
theorem cmpU_same (a : List Nat) (i : Nat) : cmpU a a i = 0 := by
  induction i with
  | zero => rfl
  | succ i ih => rw [cmpU, if_pos rfl, ih]
set_option maxRecDepth 20000 in
set_option maxHeartbeats 4000000 in
set_option linter.unusedSimpArgs false in
theorem cmp_any (w : World) (a b : List Nat) (ha : a.length = 4) (hb : b.length = 4) :
    Calls Try.prog 56 #[.agg (n6 a).toArray, .agg (n6 b).toArray] w fun e w' => e = .returned (.int .i64 (cmpU a b 4)) ∧ Below w.heap.size w w' := by
  obtain ⟨res, hres⟩ : ∃ res, cmpU a b 4 = res := ⟨_, rfl⟩
  rw [hres]
  have HRES := Lib.hid hres
  have HA := Lib.hid ha
  have HB := Lib.hid hb
  clear ha hb hres
  go_enter Try.func56, Try.ntmps56
  go_wp2_with fail
  generalize hW : World.alloc (World.alloc w _) _ = W
  have h0 : Blk W w.heap.size 109 (n6 a).toArray := by rw [← hW]; exact (Blk.new _ _ _).alloc _
  have h1 : Blk W (w.heap.size + 1) 109 (n6 b).toArray := by rw [← hW]; exact blk_new2 w _ _ _
  have hbl : Below w.heap.size w W := by rw [← hW]; exact ((Below.refl _ _).alloc (Nat.le_refl _) _).alloc (by simp) _
  clear hW
  obtain ⟨q, hq⟩ : ∃ q, w.heap.size = q := ⟨_, rfl⟩
  rw [hq] at h0 h1 ⊢
  have HQ := Lib.hid hq
  have H0 := Lib.hid h0
  have H1 := Lib.hid h1
  have HBL := Lib.hid hbl
  clear hq h0 h1 hbl
  go_loopg [5] 5 (fun k v5 wr => ∃ (j : Nat) (z : Int), k = j + 1 ∧ v5 = .int .i64 z ∧ Hid (z = (j : Int) - 1) ∧ Hid (j ≤ 4) ∧ Hid (res = cmpU a b j) ∧ Hid (Blk wr q 109 (n6 a).toArray) ∧ Hid (Blk wr (q + 1) 109 (n6 b).toArray) ∧ Hid (Below w.heap.size w wr))
  case atStart => exact ⟨4, 3, rfl, rfl, rfl, Nat.le_refl _, HRES.out.symm, H0, H1, HBL⟩
  case round =>
    clear H0 H1 HBL
    obtain ⟨j, z, hk, rfl, HZ, HJ, HR, H0, H1, HBL⟩ := hrel
    by_cases hj : j = 0
    · have z0 : ¬ ((0 : Int) ≤ z) := by have := HZ.out; omega
      have HR0 := Lib.hid (show res = 0 by rw [HR.out, hj]; rfl)
      clear hj
      go_wp2
      go_ret
      rw [HR0.out, ← HQ.out]
      exact ⟨rfl, HBL.out⟩
    · obtain ⟨i, rfl⟩ : ∃ i, j = i + 1 := ⟨j - 1, by omega⟩
      obtain rfl : z = (i : Int) := by have := HZ.out; omega
      have i4 : i < 4 := by have := HJ.out; omega
      have z0 : (0 : Int) ≤ (i : Int) := by omega
      have z4 : (i : Int) < 4 := by omega
      have pa : wr.drew.cell? ⟨q, i, none⟩ = some (.int .u64 ((a.getD i 0 : Nat) : Int)) := by rw [H0.out.drew.cell i, List.getElem?_toArray]; exact n6_get a i (by rw [HA.out]; exact i4)
      have pb : wr.drew.cell? ⟨q + 1, i, none⟩ = some (.int .u64 ((b.getD i 0 : Nat) : Int)) := by rw [H1.out.drew.cell i, List.getElem?_toArray]; exact n6_get b i (by rw [HB.out]; exact i4)
      have hr := HR.out
      rw [cmpU] at hr
      obtain ⟨x, hx⟩ : ∃ x, a.getD i 0 = x := ⟨_, rfl⟩
      obtain ⟨y, hy⟩ : ∃ y, b.getD i 0 = y := ⟨_, rfl⟩
      rw [hx] at pa hr
      rw [hy] at pb hr
      have HPA := Lib.hid pa
      have HPB := Lib.hid pb
      have HR2 := Lib.hid hr
      obtain ⟨y2, hy2⟩ : ∃ y2 : Int, (i : Int) - 1 = y2 := ⟨_, rfl⟩
      have e9 : IntKind.i64.wrap ((i : Int) - 1) = y2 := by rw [w64 _ (by omega)]; exact hy2
      have HY2 := Lib.hid hy2
      clear hx hy hr pa pb hy2 hj
      go_upto_region 4 with fail
      by_cases hxy : x = y
      · have d : ((x : Int) != (y : Int)) = false := by simp; omega
        subst hxy
        refine wp_region_held_drew (S := (fun w' => w'.cell? ⟨q, i, none⟩ = some (.int .u64 (x : Int)) ∧ w'.cell? ⟨q + 1, i, none⟩ = some (.int .u64 (x : Int)))) (by kernel_rfl) (⟨HPA.out, HPB.out⟩) ?_
        intro hSw
        refine wpAnyH_take (i := 0) (oi := ⟨some 10, _, _, _, _, _⟩) (v := (.int .i64 (i : Int))) rfl (by kernel_rfl) (by kernel_rfl) (by kernel_rfl) (fun _ _ _ h => h) (Or.inl ⟨by rfl, ?_⟩) hSw ?_
        · intro w' hSw'
          have pa := hSw'.1
          have pb := hSw'.2
          go_simp
        simp only [Act.put, List.setIfInBounds_toArray, List.set_cons_zero, List.set_cons_succ]
        refine wpAnyH_take (i := 1) (oi := ⟨some 11, _, _, _, _, _⟩) (v := (.pointer (some ⟨q, i, none⟩))) rfl (by kernel_rfl) (by kernel_rfl) (by kernel_rfl) (fun _ _ _ h => h) (Or.inl ⟨by rfl, ?_⟩) hSw ?_
        · intro w' hSw'
          have pa := hSw'.1
          have pb := hSw'.2
          go_simp
        simp only [Act.put, List.setIfInBounds_toArray, List.set_cons_zero, List.set_cons_succ]
        refine wpAnyH_take (i := 2) (oi := ⟨some 12, _, _, _, _, _⟩) (v := (.int .u64 (x : Int))) rfl (by kernel_rfl) (by kernel_rfl) (by kernel_rfl) (fun _ _ _ h => h) (Or.inl ⟨by rfl, ?_⟩) hSw ?_
        · intro w' hSw'
          have pa := hSw'.1
          have pb := hSw'.2
          go_simp
        simp only [Act.put, List.setIfInBounds_toArray, List.set_cons_zero, List.set_cons_succ]
        refine wpAnyH_take (i := 3) (oi := ⟨some 13, _, _, _, _, _⟩) (v := (.int .i64 (i : Int))) rfl (by kernel_rfl) (by kernel_rfl) (by kernel_rfl) (fun _ _ _ h => h) (Or.inl ⟨by rfl, ?_⟩) hSw ?_
        · intro w' hSw'
          have pa := hSw'.1
          have pb := hSw'.2
          go_simp
        simp only [Act.put, List.setIfInBounds_toArray, List.set_cons_zero, List.set_cons_succ]
        refine wpAnyH_take (i := 4) (oi := ⟨some 14, _, _, _, _, _⟩) (v := (.pointer (some ⟨q + 1, i, none⟩))) rfl (by kernel_rfl) (by kernel_rfl) (by kernel_rfl) (fun _ _ _ h => h) (Or.inl ⟨by rfl, ?_⟩) hSw ?_
        · intro w' hSw'
          have pa := hSw'.1
          have pb := hSw'.2
          go_simp
        simp only [Act.put, List.setIfInBounds_toArray, List.set_cons_zero, List.set_cons_succ]
        refine wpAnyH_take (i := 5) (oi := ⟨some 15, _, _, _, _, _⟩) (v := (.int .u64 (x : Int))) rfl (by kernel_rfl) (by kernel_rfl) (by kernel_rfl) (fun _ _ _ h => h) (Or.inl ⟨by rfl, ?_⟩) hSw ?_
        · intro w' hSw'
          have pa := hSw'.1
          have pb := hSw'.2
          go_simp
        simp only [Act.put, List.setIfInBounds_toArray, List.set_cons_zero, List.set_cons_succ]
        refine wpAnyH_take (i := 6) (oi := ⟨some 16, _, _, _, _, _⟩) (v := (.bool false)) rfl (by kernel_rfl) (by kernel_rfl) (by kernel_rfl) (fun _ _ _ h => h) (Or.inl ⟨by rfl, ?_⟩) hSw ?_
        · intro w' hSw'
          have pa := hSw'.1
          have pb := hSw'.2
          go_simp
        simp only [Act.put, List.setIfInBounds_toArray, List.set_cons_zero, List.set_cons_succ]
        refine wpAnyH_done (by kernel_rfl) ?_ _
        have HR3 := Lib.hid (show res = cmpU a b i by rw [HR2.out, if_pos rfl])
        have H0' := Lib.hid H0.out.drew
        have H1' := Lib.hid H1.out.drew
        have HBL' := Lib.hid HBL.out.drew
        go_wp2
        go_roundg (i + 1)
        case measure => omega
        case rel => exact ⟨i, y2, rfl, by first | rfl | (have := HY2.out; refine congrArg _ ?_; rw [IntWalk.wrap64_in _ (by omega)]; omega), HY2.out.symm, Nat.le_of_lt i4, HR3.out, H0', H1', HBL'⟩
      · have d : ((x : Int) != (y : Int)) = true := by simp; omega
        refine wp_region_held_drew (S := (fun w' => w'.cell? ⟨q, i, none⟩ = some (.int .u64 (x : Int)) ∧ w'.cell? ⟨q + 1, i, none⟩ = some (.int .u64 (y : Int)))) (by kernel_rfl) (⟨HPA.out, HPB.out⟩) ?_
        intro hSw
        refine wpAnyH_take (i := 0) (oi := ⟨some 10, _, _, _, _, _⟩) (v := (.int .i64 (i : Int))) rfl (by kernel_rfl) (by kernel_rfl) (by kernel_rfl) (fun _ _ _ h => h) (Or.inl ⟨by rfl, ?_⟩) hSw ?_
        · intro w' hSw'
          have pa := hSw'.1
          have pb := hSw'.2
          go_simp
        simp only [Act.put, List.setIfInBounds_toArray, List.set_cons_zero, List.set_cons_succ]
        refine wpAnyH_take (i := 1) (oi := ⟨some 11, _, _, _, _, _⟩) (v := (.pointer (some ⟨q, i, none⟩))) rfl (by kernel_rfl) (by kernel_rfl) (by kernel_rfl) (fun _ _ _ h => h) (Or.inl ⟨by rfl, ?_⟩) hSw ?_
        · intro w' hSw'
          have pa := hSw'.1
          have pb := hSw'.2
          go_simp
        simp only [Act.put, List.setIfInBounds_toArray, List.set_cons_zero, List.set_cons_succ]
        refine wpAnyH_take (i := 2) (oi := ⟨some 12, _, _, _, _, _⟩) (v := (.int .u64 (x : Int))) rfl (by kernel_rfl) (by kernel_rfl) (by kernel_rfl) (fun _ _ _ h => h) (Or.inl ⟨by rfl, ?_⟩) hSw ?_
        · intro w' hSw'
          have pa := hSw'.1
          have pb := hSw'.2
          go_simp
        simp only [Act.put, List.setIfInBounds_toArray, List.set_cons_zero, List.set_cons_succ]
        refine wpAnyH_take (i := 3) (oi := ⟨some 13, _, _, _, _, _⟩) (v := (.int .i64 (i : Int))) rfl (by kernel_rfl) (by kernel_rfl) (by kernel_rfl) (fun _ _ _ h => h) (Or.inl ⟨by rfl, ?_⟩) hSw ?_
        · intro w' hSw'
          have pa := hSw'.1
          have pb := hSw'.2
          go_simp
        simp only [Act.put, List.setIfInBounds_toArray, List.set_cons_zero, List.set_cons_succ]
        refine wpAnyH_take (i := 4) (oi := ⟨some 14, _, _, _, _, _⟩) (v := (.pointer (some ⟨q + 1, i, none⟩))) rfl (by kernel_rfl) (by kernel_rfl) (by kernel_rfl) (fun _ _ _ h => h) (Or.inl ⟨by rfl, ?_⟩) hSw ?_
        · intro w' hSw'
          have pa := hSw'.1
          have pb := hSw'.2
          go_simp
        simp only [Act.put, List.setIfInBounds_toArray, List.set_cons_zero, List.set_cons_succ]
        refine wpAnyH_take (i := 5) (oi := ⟨some 15, _, _, _, _, _⟩) (v := (.int .u64 (y : Int))) rfl (by kernel_rfl) (by kernel_rfl) (by kernel_rfl) (fun _ _ _ h => h) (Or.inl ⟨by rfl, ?_⟩) hSw ?_
        · intro w' hSw'
          have pa := hSw'.1
          have pb := hSw'.2
          go_simp
        simp only [Act.put, List.setIfInBounds_toArray, List.set_cons_zero, List.set_cons_succ]
        refine wpAnyH_take (i := 6) (oi := ⟨some 16, _, _, _, _, _⟩) (v := (.bool true)) rfl (by kernel_rfl) (by kernel_rfl) (by kernel_rfl) (fun _ _ _ h => h) (Or.inl ⟨by rfl, ?_⟩) hSw ?_
        · intro w' hSw'
          have pa := hSw'.1
          have pb := hSw'.2
          go_simp
        simp only [Act.put, List.setIfInBounds_toArray, List.set_cons_zero, List.set_cons_succ]
        refine wpAnyH_done (by kernel_rfl) ?_ _
        go_upto_region 5 with fail
        by_cases hlt : x < y
        · have d2 : decide ((x : Int) < (y : Int)) = true := by simp; omega
          have d3 : decide (x < y) = true := by simp; omega
          have HR3 := Lib.hid (show res = -1 by rw [HR2.out, if_neg hxy, if_pos hlt])
          refine wp_region_held_drew (S := (fun w' => w'.cell? ⟨q, i, none⟩ = some (.int .u64 (x : Int)) ∧ w'.cell? ⟨q + 1, i, none⟩ = some (.int .u64 (y : Int)))) (by kernel_rfl) (⟨HPA.out, HPB.out⟩) ?_
          intro hSw
          refine wpAnyH_take (i := 0) (oi := ⟨some 17, _, _, _, _, _⟩) (v := (.int .i64 (i : Int))) rfl (by kernel_rfl) (by kernel_rfl) (by kernel_rfl) (fun _ _ _ h => h) (Or.inl ⟨by rfl, ?_⟩) hSw ?_
          · intro w' hSw'
            have pa := hSw'.1
            have pb := hSw'.2
            go_simp
          simp only [Act.put, List.setIfInBounds_toArray, List.set_cons_zero, List.set_cons_succ]
          refine wpAnyH_take (i := 1) (oi := ⟨some 18, _, _, _, _, _⟩) (v := (.pointer (some ⟨q, i, none⟩))) rfl (by kernel_rfl) (by kernel_rfl) (by kernel_rfl) (fun _ _ _ h => h) (Or.inl ⟨by rfl, ?_⟩) hSw ?_
          · intro w' hSw'
            have pa := hSw'.1
            have pb := hSw'.2
            go_simp
          simp only [Act.put, List.setIfInBounds_toArray, List.set_cons_zero, List.set_cons_succ]
          refine wpAnyH_take (i := 2) (oi := ⟨some 19, _, _, _, _, _⟩) (v := (.int .u64 (x : Int))) rfl (by kernel_rfl) (by kernel_rfl) (by kernel_rfl) (fun _ _ _ h => h) (Or.inl ⟨by rfl, ?_⟩) hSw ?_
          · intro w' hSw'
            have pa := hSw'.1
            have pb := hSw'.2
            go_simp
          simp only [Act.put, List.setIfInBounds_toArray, List.set_cons_zero, List.set_cons_succ]
          refine wpAnyH_take (i := 3) (oi := ⟨some 20, _, _, _, _, _⟩) (v := (.int .i64 (i : Int))) rfl (by kernel_rfl) (by kernel_rfl) (by kernel_rfl) (fun _ _ _ h => h) (Or.inl ⟨by rfl, ?_⟩) hSw ?_
          · intro w' hSw'
            have pa := hSw'.1
            have pb := hSw'.2
            go_simp
          simp only [Act.put, List.setIfInBounds_toArray, List.set_cons_zero, List.set_cons_succ]
          refine wpAnyH_take (i := 4) (oi := ⟨some 21, _, _, _, _, _⟩) (v := (.pointer (some ⟨q + 1, i, none⟩))) rfl (by kernel_rfl) (by kernel_rfl) (by kernel_rfl) (fun _ _ _ h => h) (Or.inl ⟨by rfl, ?_⟩) hSw ?_
          · intro w' hSw'
            have pa := hSw'.1
            have pb := hSw'.2
            go_simp
          simp only [Act.put, List.setIfInBounds_toArray, List.set_cons_zero, List.set_cons_succ]
          refine wpAnyH_take (i := 5) (oi := ⟨some 22, _, _, _, _, _⟩) (v := (.int .u64 (y : Int))) rfl (by kernel_rfl) (by kernel_rfl) (by kernel_rfl) (fun _ _ _ h => h) (Or.inl ⟨by rfl, ?_⟩) hSw ?_
          · intro w' hSw'
            have pa := hSw'.1
            have pb := hSw'.2
            go_simp
          simp only [Act.put, List.setIfInBounds_toArray, List.set_cons_zero, List.set_cons_succ]
          refine wpAnyH_take (i := 6) (oi := ⟨some 23, _, _, _, _, _⟩) (v := (.bool true)) rfl (by kernel_rfl) (by kernel_rfl) (by kernel_rfl) (fun _ _ _ h => h) (Or.inl ⟨by rfl, ?_⟩) hSw ?_
          · intro w' hSw'
            have pa := hSw'.1
            have pb := hSw'.2
            go_simp
          simp only [Act.put, List.setIfInBounds_toArray, List.set_cons_zero, List.set_cons_succ]
          refine wpAnyH_done (by kernel_rfl) ?_ _
          have HBL' := Lib.hid HBL.out.drew.drew
          go_wp2
          go_ret
          rw [HR3.out, ← HQ.out]
          exact ⟨rfl, HBL'.out⟩
        · have d2 : decide ((x : Int) < (y : Int)) = false := by simp; omega
          have d3 : decide (x < y) = false := by simp; omega
          have HR3 := Lib.hid (show res = 1 by rw [HR2.out, if_neg hxy, if_neg hlt])
          refine wp_region_held_drew (S := (fun w' => w'.cell? ⟨q, i, none⟩ = some (.int .u64 (x : Int)) ∧ w'.cell? ⟨q + 1, i, none⟩ = some (.int .u64 (y : Int)))) (by kernel_rfl) (⟨HPA.out, HPB.out⟩) ?_
          intro hSw
          refine wpAnyH_take (i := 0) (oi := ⟨some 17, _, _, _, _, _⟩) (v := (.int .i64 (i : Int))) rfl (by kernel_rfl) (by kernel_rfl) (by kernel_rfl) (fun _ _ _ h => h) (Or.inl ⟨by rfl, ?_⟩) hSw ?_
          · intro w' hSw'
            have pa := hSw'.1
            have pb := hSw'.2
            go_simp
          simp only [Act.put, List.setIfInBounds_toArray, List.set_cons_zero, List.set_cons_succ]
          refine wpAnyH_take (i := 1) (oi := ⟨some 18, _, _, _, _, _⟩) (v := (.pointer (some ⟨q, i, none⟩))) rfl (by kernel_rfl) (by kernel_rfl) (by kernel_rfl) (fun _ _ _ h => h) (Or.inl ⟨by rfl, ?_⟩) hSw ?_
          · intro w' hSw'
            have pa := hSw'.1
            have pb := hSw'.2
            go_simp
          simp only [Act.put, List.setIfInBounds_toArray, List.set_cons_zero, List.set_cons_succ]
          refine wpAnyH_take (i := 2) (oi := ⟨some 19, _, _, _, _, _⟩) (v := (.int .u64 (x : Int))) rfl (by kernel_rfl) (by kernel_rfl) (by kernel_rfl) (fun _ _ _ h => h) (Or.inl ⟨by rfl, ?_⟩) hSw ?_
          · intro w' hSw'
            have pa := hSw'.1
            have pb := hSw'.2
            go_simp
          simp only [Act.put, List.setIfInBounds_toArray, List.set_cons_zero, List.set_cons_succ]
          refine wpAnyH_take (i := 3) (oi := ⟨some 20, _, _, _, _, _⟩) (v := (.int .i64 (i : Int))) rfl (by kernel_rfl) (by kernel_rfl) (by kernel_rfl) (fun _ _ _ h => h) (Or.inl ⟨by rfl, ?_⟩) hSw ?_
          · intro w' hSw'
            have pa := hSw'.1
            have pb := hSw'.2
            go_simp
          simp only [Act.put, List.setIfInBounds_toArray, List.set_cons_zero, List.set_cons_succ]
          refine wpAnyH_take (i := 4) (oi := ⟨some 21, _, _, _, _, _⟩) (v := (.pointer (some ⟨q + 1, i, none⟩))) rfl (by kernel_rfl) (by kernel_rfl) (by kernel_rfl) (fun _ _ _ h => h) (Or.inl ⟨by rfl, ?_⟩) hSw ?_
          · intro w' hSw'
            have pa := hSw'.1
            have pb := hSw'.2
            go_simp
          simp only [Act.put, List.setIfInBounds_toArray, List.set_cons_zero, List.set_cons_succ]
          refine wpAnyH_take (i := 5) (oi := ⟨some 22, _, _, _, _, _⟩) (v := (.int .u64 (y : Int))) rfl (by kernel_rfl) (by kernel_rfl) (by kernel_rfl) (fun _ _ _ h => h) (Or.inl ⟨by rfl, ?_⟩) hSw ?_
          · intro w' hSw'
            have pa := hSw'.1
            have pb := hSw'.2
            go_simp
          simp only [Act.put, List.setIfInBounds_toArray, List.set_cons_zero, List.set_cons_succ]
          refine wpAnyH_take (i := 6) (oi := ⟨some 23, _, _, _, _, _⟩) (v := (.bool false)) rfl (by kernel_rfl) (by kernel_rfl) (by kernel_rfl) (fun _ _ _ h => h) (Or.inl ⟨by rfl, ?_⟩) hSw ?_
          · intro w' hSw'
            have pa := hSw'.1
            have pb := hSw'.2
            go_simp
          simp only [Act.put, List.setIfInBounds_toArray, List.set_cons_zero, List.set_cons_succ]
          refine wpAnyH_done (by kernel_rfl) ?_ _
          have HBL' := Lib.hid HBL.out.drew.drew
          go_wp2
          go_ret
          rw [HR3.out, ← HQ.out]
          exact ⟨rfl, HBL'.out⟩
end Go.Proofs.Ytpcombaecbjmfaa
