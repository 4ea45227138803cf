/- coins.Set: Len, Get, All; the sum of a map of coins. -/
import Derived.Test.YtlbpeihdedhjiaaCln
import Derived.Maps.RangeRun
namespace Go.Proofs.Ytlbpeihdedhjiaa
open Go.RowKit
theorem ma_len {w : World} {B : Nat} {p : Option Nat} {L : CoL} (h : MapAt w B p L) (ty : TypeId) :
    (Builtin.len_ #[40] ty #[.map p]).run Try.prog w = .ok (.int .i64 (L.length : Int)) w := by
  cases p with
  | none =>
    have h : L = [] := h
    subst h
    have ht : (Try.prog).underlying 40 = some (.map 28 61) := Try.underlying40
    simp [Builtin.len_, run_underlying ht, Result.andThen]
    rfl
  | some b => exact cm_len h.2 ty
set_option maxRecDepth 20000 in
set_option maxHeartbeats 4000000 in
theorem clen_any (w : World) (B gs : Nat) (p : Option Nat) (L : CoL) (hs : Blk w gs 42 [Value.map p].toArray) (hm : MapAt w B p L) :
    Calls Try.prog 14 #[.pointer (some ⟨gs, 0, none⟩)] w fun e w' => e = .returned (.int .i64 (L.length : Int)) ∧ w' = w := by
  have c0 := hs.cell 0
  simp only [List.getElem?_toArray, List.getElem?_cons_zero] at c0
  have hl := fun ty => ma_len hm ty
  clear hm hs
  go_enter Try.func14, Try.ntmps14
  go_wp2
  go_ret
  exact ⟨rfl, rfl⟩
set_option maxRecDepth 20000 in
set_option maxHeartbeats 4000000 in
theorem call_any (w : World) (B gs : Nat) (p : Option Nat) (L : CoL) (hs : Blk w gs 42 [Value.map p].toArray) (hm : MapAt w B p L) :
    Calls Try.prog 16 #[.pointer (some ⟨gs, 0, none⟩)] w fun e w' => ∃ p', e = .returned (.map p') ∧ Below w.heap.size w w' ∧ MapAt w' w.heap.size p' L := by
  have HM := Lib.hid hm
  have c0 := hs.cell 0
  simp only [List.getElem?_toArray, List.getElem?_cons_zero] at c0
  clear hm hs
  go_enter Try.func16, Try.ntmps16
  go_wp2_with fail
  refine (mclone_any w B p L HM.out).mono ?_
  rintro e1 w1 ⟨p', rfl, a1, m1⟩
  have HM1 := Lib.hid m1
  have HA := Lib.hid a1
  clear m1 a1 c0
  go_wp2
  go_ret
  exact ⟨p', rfl, HA.out, HM1.out⟩
set_option maxRecDepth 20000 in
set_option maxHeartbeats 4000000 in
set_option linter.unusedSimpArgs false in
theorem cget_any (w : World) (B gs : Nat) (p : Option Nat) (L : CoL) (id : List UInt8) (ix : Nat) (hp : PtOk (id, ix)) (hs : Blk w gs 42 [Value.map p].toArray) (hm : MapAt w B p L) :
    Calls Try.prog 17 #[.pointer (some ⟨gs, 0, none⟩), .agg (ptC id ix).toArray] w fun e w' => e = .returned (.tuple #[.agg (coinC (orZero (getC L (id, ix)))).toArray, .bool (getC L (id, ix)).isSome]) ∧ Below w.heap.size w w' := by
  obtain ⟨g, hg⟩ : ∃ g, getC L (id, ix) = g := ⟨_, rfl⟩
  rw [hg]
  have HG := Lib.hid hg
  have HQK := Lib.hid hp
  have HGL := Lib.hid (show (orZero g).2.1.length = 32 by
    cases g with
    | none => rfl
    | some c => exact (hm.ok _ (get_mem hg)).2.1)
  have HS := Lib.hid hs
  have HM := Lib.hid hm
  clear hg hp hs hm
  go_enter Try.func17, Try.ntmps17
  go_upto_region 1 with fail
  obtain ⟨W1, hW1⟩ : ∃ W1, w.alloc (.cells (ptC id ix).toArray 28) = W1 := ⟨_, rfl⟩
  have z1 : W1.heap.size = w.heap.size + 1 := by rw [← hW1]; simp
  have l1 : Below w.heap.size w W1 := by rw [← hW1]; exact (Below.refl _ _).alloc (Nat.le_refl _) _
  have k1 : Blk W1 w.heap.size 28 (ptC id ix).toArray := by rw [← hW1]; exact Blk.new _ _ _
  rw [hW1]
  clear hW1
  generalize hW2 : World.alloc W1 _ = W2
  have z2 : W2.heap.size = w.heap.size + 2 := by rw [← hW2]; simp [z1]
  have l2 : Below W1.heap.size W1 W2 := by rw [← hW2]; exact (Below.refl _ _).alloc (Nat.le_refl _) _
  have k2 : Blk W2 W1.heap.size 61 (coinC zeroCo).toArray := by rw [← hW2]; exact Blk.new _ _ _
  clear hW2
  have hbl : Below w.heap.size w W2 := l1.trans (l2.mono (by omega))
  have hk1 : Blk W2 w.heap.size 28 (ptC id ix).toArray := k1.below l2 (by omega)
  have HS2 := Lib.hid (HS.out.below hbl HS.out.lt)
  have HM2 := Lib.hid (HM.out.new hbl)
  have hgl := HS.out.lt
  obtain ⟨q, hq⟩ : ∃ q, w.heap.size = q := ⟨_, rfl⟩
  obtain ⟨g4, hg4⟩ : ∃ g4, W1.heap.size = g4 := ⟨_, rfl⟩
  have HQ := Lib.hid (show g4 = q + 1 ∧ W2.heap.size = q + 2 ∧ gs < q ∧ w.heap.size = q by omega)
  have HBL := Lib.hid hbl
  rw [hg4] at k2
  rw [hq] at hk1 ⊢
  rw [show q + 1 = g4 by have := HQ.out; omega]
  have HB := Lib.hid hk1
  have HB4 := Lib.hid k2
  clear z1 l1 k1 z2 l2 k2 hbl hk1 hg4 hgl hq HS HM
  go_wp2_with fail
  have HX4 := Lib.hid HB4.out.drew
  refine wp_region_held_drew (S := (fun w' => Blk w' gs 42 [Value.map p].toArray ∧ MapAt w' B p L ∧ Blk w' q 28 (ptC id ix).toArray ∧ Below W2.heap.size W2 w')) (by kernel_rfl) (⟨HS2.out.drew, HM2.out, HB.out.drew, (Below.refl _ _).drew⟩) ?_
  intro hSw
  refine wpAnyH_take (i := 0) (oi := ⟨some 9, _, _, _, _, _⟩) (v := (.pointer (some ⟨gs, 0, none⟩))) rfl (by kernel_rfl) (by kernel_rfl) (by kernel_rfl) (fun _ _ _ h => h) (Or.inl ⟨by rfl, ?_⟩) hSw ?_
  · intro w' hSw'
    have c0 := hSw'.1.cell 0
    simp only [List.getElem?_toArray, List.getElem?_cons_zero] at c0
    have k1 := ma_look hSw'.2.1 id ix HQK.out
    rw [HG.out] at k1
    go_simp
  simp only [Act.put, List.setIfInBounds_toArray, List.set_cons_zero, List.set_cons_succ]
  refine wpAnyH_take (i := 1) (oi := ⟨some 10, _, _, _, _, _⟩) (v := (.pointer (some ⟨gs, 0, none⟩))) rfl (by kernel_rfl) (by kernel_rfl) (by kernel_rfl) (fun _ _ _ h => h) (Or.inl ⟨by rfl, ?_⟩) hSw ?_
  · intro w' hSw'
    have c0 := hSw'.1.cell 0
    simp only [List.getElem?_toArray, List.getElem?_cons_zero] at c0
    have k1 := ma_look hSw'.2.1 id ix HQK.out
    rw [HG.out] at k1
    go_simp
  simp only [Act.put, List.setIfInBounds_toArray, List.set_cons_zero, List.set_cons_succ]
  refine wpAnyH_take (i := 2) (oi := ⟨some 11, _, _, _, _, _⟩) (v := (.pointer (some ⟨gs, 0, none⟩))) rfl (by kernel_rfl) (by kernel_rfl) (by kernel_rfl) (fun _ _ _ h => h) (Or.inl ⟨by rfl, ?_⟩) hSw ?_
  · intro w' hSw'
    have c0 := hSw'.1.cell 0
    simp only [List.getElem?_toArray, List.getElem?_cons_zero] at c0
    have k1 := ma_look hSw'.2.1 id ix HQK.out
    rw [HG.out] at k1
    go_simp
  simp only [Act.put, List.setIfInBounds_toArray, List.set_cons_zero, List.set_cons_succ]
  refine wpAnyH_take (i := 3) (oi := ⟨some 12, _, _, _, _, _⟩) (v := (.map p)) rfl (by kernel_rfl) (by kernel_rfl) (by kernel_rfl) (fun _ _ _ h => h) (Or.inl ⟨by rfl, ?_⟩) hSw ?_
  · intro w' hSw'
    have c0 := hSw'.1.cell 0
    simp only [List.getElem?_toArray, List.getElem?_cons_zero] at c0
    have k1 := ma_look hSw'.2.1 id ix HQK.out
    rw [HG.out] at k1
    go_simp
  simp only [Act.put, List.setIfInBounds_toArray, List.set_cons_zero, List.set_cons_succ]
  refine wpAnyH_take (i := 4) (oi := ⟨some 13, _, _, _, _, _⟩) (v := .agg (ptC id ix).toArray) rfl (by kernel_rfl) (by kernel_rfl) (by kernel_rfl) (fun _ _ _ h => h) (yieldsIf_load_mid (by rfl) _ _ rfl q (0) rfl (ptC id ix) _ (fun _ h => h.2.2.1.rowAll) Try.underlying28 rfl (by rw [ptC_len _ _ HQK.out.1]; exact infoPt)) hSw ?_
  simp only [Act.put, List.setIfInBounds_toArray, List.set_cons_zero, List.set_cons_succ]
  refine wpAnyH_take (i := 5) (oi := ⟨some 14, _, _, _, _, _⟩) (v := (.tuple #[.agg (coinC (orZero g)).toArray, .bool g.isSome])) rfl (by kernel_rfl) (by kernel_rfl) (by kernel_rfl) (fun _ _ _ h => h) (Or.inl ⟨by rfl, ?_⟩) hSw ?_
  · intro w' hSw'
    have c0 := hSw'.1.cell 0
    simp only [List.getElem?_toArray, List.getElem?_cons_zero] at c0
    have k1 := ma_look hSw'.2.1 id ix HQK.out
    rw [HG.out] at k1
    go_simp
  simp only [Act.put, List.setIfInBounds_toArray, List.set_cons_zero, List.set_cons_succ]
  refine wpAnyH_take (i := 6) (oi := ⟨some 8, _, _, _, _, _⟩) (v := (.tuple #[.agg (coinC (orZero g)).toArray, .bool g.isSome])) rfl (by kernel_rfl) (by kernel_rfl) (by kernel_rfl) (fun _ _ _ h => h) (Or.inl ⟨by rfl, ?_⟩) hSw ?_
  · intro w' hSw'
    have c0 := hSw'.1.cell 0
    simp only [List.getElem?_toArray, List.getElem?_cons_zero] at c0
    have k1 := ma_look hSw'.2.1 id ix HQK.out
    rw [HG.out] at k1
    go_simp
  simp only [Act.put, List.setIfInBounds_toArray, List.set_cons_zero, List.set_cons_succ]
  refine wpAnyH_take (i := 7) (oi := ⟨some 15, _, _, _, _, _⟩) (v := (.agg (coinC (orZero g)).toArray)) rfl (by kernel_rfl) (by kernel_rfl) (by kernel_rfl) (fun _ _ _ h => h) (Or.inl ⟨by rfl, ?_⟩) hSw ?_
  · intro w' hSw'
    have c0 := hSw'.1.cell 0
    simp only [List.getElem?_toArray, List.getElem?_cons_zero] at c0
    have k1 := ma_look hSw'.2.1 id ix HQK.out
    rw [HG.out] at k1
    go_simp
  simp only [Act.put, List.setIfInBounds_toArray, List.set_cons_zero, List.set_cons_succ]
  refine wpAnyH_take (i := 8) (oi := ⟨some 16, _, _, _, _, _⟩) (v := (.bool g.isSome)) rfl (by kernel_rfl) (by kernel_rfl) (by kernel_rfl) (fun _ _ _ h => h) (Or.inl ⟨by rfl, ?_⟩) hSw ?_
  · intro w' hSw'
    have c0 := hSw'.1.cell 0
    simp only [List.getElem?_toArray, List.getElem?_cons_zero] at c0
    have k1 := ma_look hSw'.2.1 id ix HQK.out
    rw [HG.out] at k1
    go_simp
  simp only [Act.put, List.setIfInBounds_toArray, List.set_cons_zero, List.set_cons_succ]
  refine wpAnyH_ready (rs := [9]) (by kernel_rfl) (by simp) (AllReadyH.cons (o := ⟨some 6, _, _, _, _, _⟩) rfl (fun K hK => ?_) AllReadyH.nil)
  refine step_newc (by rfl) (.cells (coinC zeroCo).toArray 61) (fun N => .pointer (some ⟨N, 0, none⟩)) (by show _ = _; kernel_rfl) ?_
  intro p11 wn11 hN11 hw11 a11
  have H11 := Lib.hid (show Blk wn11 p11 61 (coinC zeroCo).toArray by rw [hN11, hw11]; exact Blk.new _ _ _)
  have HN11 := Lib.hid (show gs ≠ p11 ∧ q ≠ p11 ∧ g4 ≠ p11 ∧ W2.heap.size ≤ p11 ∧ ∀ b, p = some b → b ≠ p11 by
    have h1 := hSw.1.lt; have h2 := hSw.2.2.1.lt; have h3 := HX4.out.lt; have h4 := hSw.2.2.2.size; have h5 := hSw.2.1
    refine ⟨by omega, by omega, by omega, by omega, fun b hb => ?_⟩
    subst hb
    have := h5.2.lt
    omega)
  replace HX4 := Lib.hid (HX4.out.below a11 HX4.out.lt)
  have t4 := hSw.2.2.2.trans (a11.mono hSw.2.2.2.size)
  clear hN11 hw11
  refine hK.out _ _ (⟨hSw.1.below a11 hSw.1.lt, hSw.2.1.new a11, hSw.2.2.1.below a11 hSw.2.2.1.lt, t4⟩) ?_
  intro hSw
  clear hK K
  try simp only [Act.put, List.setIfInBounds_toArray, List.set_cons_zero, List.set_cons_succ]
  refine wpAnyH_ready (rs := [10]) (by kernel_rfl) (by simp) (AllReadyH.cons (o := ⟨none, _, _, _, _, _⟩) rfl (fun K hK => ?_) AllReadyH.nil)
  refine step_stbc rfl 61 (.tmp 6) (.tmp 15) rfl p11 0 _ rfl rfl 61 (coinC zeroCo) H11.out (by simp [coinC_len _ HGL.out]; decide) (by rw [infoCo]; simp [coinC_len _ HGL.out]) (coinC_one _) ?_
  intro w5 b5 o5
  rw [over_all _ _ (by simp [coinC_len _ HGL.out]; decide)] at b5
  have hn := HN11.out
  have H12 := Lib.hid (show Blk w5 p11 61 (coinC (orZero g)).toArray from b5)
  have HX5 := Lib.hid (HX4.out.only o5 hn.2.2.1)
  have t4 := hSw.2.2.2.trans (o5.below hSw.2.2.2.size (fun b hb e => by omega))
  clear H11 HX4
  refine hK.out _ _ (⟨hSw.1.only o5 hn.1, hSw.2.1.only o5 hn.2.2.2.2, hSw.2.2.1.only o5 hn.2.1, t4⟩) ?_
  intro hSw
  clear hK K
  try simp only [Act.put, List.setIfInBounds_toArray, List.set_cons_zero, List.set_cons_succ]
  refine wpAnyH_take (i := 11) (oi := ⟨some 7, _, _, _, _, _⟩) (v := (.bool g.isSome)) rfl (by kernel_rfl) (by kernel_rfl) (by kernel_rfl) (fun _ _ _ h => h) (Or.inl ⟨by rfl, ?_⟩) hSw ?_
  · intro w' hSw'
    have c0 := hSw'.1.cell 0
    simp only [List.getElem?_toArray, List.getElem?_cons_zero] at c0
    have k1 := ma_look hSw'.2.1 id ix HQK.out
    rw [HG.out] at k1
    go_simp
  simp only [Act.put, List.setIfInBounds_toArray, List.set_cons_zero, List.set_cons_succ]
  refine wpAnyH_done (by kernel_rfl) ?_ _
  have HF := Lib.hid hSw.2.2.2
  clear hSw a11 b5 o5 hn t4
  go_wp2_with (first
    | (with_reducible refine wpList_ld rfl 61 (.tmp 6) rfl p11 0 rfl (coinC (orZero g)) H12.out.rowAll _ Try.underlying61 rfl 34 infoCo (coinC_len _ HGL.out).symm ?_)
    | (with_reducible refine wpList_stb rfl 61 (.tmp 4) (.tmp 17) rfl g4 0 _ rfl rfl 61 (coinC zeroCo) HX5.out ?t1 ?t2 ?t3 ?_))
  case t1 => simp [coinC_len _ HGL.out]; decide
  case t2 => rw [infoCo]; simp [coinC_len _ HGL.out]
  case t3 => exact coinC_one _
  intro wz bz oz
  rw [over_all _ _ (by simp [coinC_len _ HGL.out]; decide)] at bz
  have hz := HBL.out.trans ((HF.out.mono HBL.out.size).trans (oz.below (by have := HF.out.size; have := HBL.out.size; omega) (fun b hb e => by have := HQ.out; omega)))
  go_wp2
  refine bodyPost_ret (results_row_tmp rfl _ _ g4 61 (coinC (orZero g)).toArray (0, 0) _ rfl bz Try.underlying61 rfl (by rw [infoCo]; simp [coinC_len _ HGL.out])) rfl ?_
  exact ⟨rfl, hz⟩
end Go.Proofs.Ytlbpeihdedhjiaa
