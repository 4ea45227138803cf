/- the walk of law12.CheckTxs. -/
import Derived.Test.YtkenkhefpemdmaaFx
namespace Go.Proofs.Ytkenkhefpemdmaa
open Go.RowKit
set_option maxRecDepth 20000 in
set_option maxHeartbeats 4000000 in
theorem checkTxs_any (w : World) (A A' : Option Addr) (n n' c c' : Nat) (ins : List InT) (outs : List OutT) (ok : Nat → Prop) (first : Bool)
    (hi : insSh.rel w ok [.slice A n c] ins) (ho : outsSh.rel w ok [.slice A' n' c'] outs) (hn : ins.length = n) (hn' : outs.length = n') :
    Calls Try.prog 3 #[.agg #[.slice A n c, .slice A' n' c'], .bool first] w fun e w' => e = .returned (.bool true) ∧ Below w.heap.size w w' := by
  have HI := Lib.hid hi
  have HO := Lib.hid ho
  have HN := Lib.hid hn
  have HN' := Lib.hid hn'
  clear hi ho hn hn'
  go_enter Try.func3, Try.ntmps3
  go_wp2_with fail
  generalize hW : World.alloc w _ = W
  have hb2 : Blk W w.heap.size 25 #[.slice A n c, .slice A' n' c'] := by rw [← hW]; exact Blk.new _ _ _
  have hbl : Below w.heap.size w W := by rw [← hW]; exact (Below.refl _ _).alloc (Nat.le_refl _) _
  clear hW
  obtain ⟨q, hq⟩ : ∃ q, w.heap.size = q := ⟨_, rfl⟩
  rw [hq] at hb2 ⊢
  have HQ := Lib.hid hq
  have HB := Lib.hid hb2
  have HBL := Lib.hid hbl
  clear hq hb2 hbl
  refine (asks_any W).mono ?_
  rintro e1 w1 ⟨rfl, a1⟩
  replace HB := Lib.hid (HB.out.below a1 HB.out.lt)
  replace HBL := Lib.hid (HBL.out.trans (a1.mono HBL.out.size))
  clear a1
  have c0 := HB.out.cell 0
  have c1 := HB.out.cell 1
  simp only [List.getElem?_toArray, List.getElem?_cons_zero, List.getElem?_cons_succ] at c0 c1
  have FT := fits_any w1 A A' n n' c c' ins outs ok (insSh.below HI.out HBL.out (fun _ h _ => h)) HN.out HN'.out
  obtain ⟨fb, hfb⟩ : ∃ fb, fitsB (ins, outs, ()) = fb := ⟨_, rfl⟩
  rw [hfb] at FT
  replace FT := Lib.hid FT
  clear hfb
  go_wp2_with fail
  refine FT.out.mono ?_
  rintro e2 w2 ⟨rfl, a2⟩
  replace HB := Lib.hid (HB.out.below a2 HB.out.lt)
  replace HBL := Lib.hid (HBL.out.trans (a2.mono HBL.out.size))
  clear a2 FT c0 c1
  cases fb with
  | false =>
    go_wp2
    go_ret
    rw [← HQ.out]
    exact ⟨rfl, HBL.out⟩
  | true =>
    have c0 := HB.out.cell 0
    have c1 := HB.out.cell 1
    simp only [List.getElem?_toArray, List.getElem?_cons_zero, List.getElem?_cons_succ] at c0 c1
    have CS := Lib.hid (csum_any w2 A' n' c' outs ok (outsSh.below HO.out HBL.out (fun _ h _ => h)) HN'.out)
    go_wp2_with fail
    refine CS.out.mono ?_
    rintro e3 w3 ⟨rfl, a3⟩
    replace HB := Lib.hid (HB.out.below a3 HB.out.lt)
    replace HBL := Lib.hid (HBL.out.trans (a3.mono HBL.out.size))
    clear a3 CS c0 c1
    have c0 := HB.out.cell 0
    have c1 := HB.out.cell 1
    simp only [List.getElem?_toArray, List.getElem?_cons_zero, List.getElem?_cons_succ] at c0 c1
    have CS := rsum12_any w3 A' n' c' outs ok (outsSh.below HO.out HBL.out (fun _ h _ => h)) HN'.out
    obtain ⟨R, hR⟩ : ∃ R, csum 0 outs = R := ⟨_, rfl⟩
    rw [hR] at CS ⊢
    replace CS := Lib.hid CS
    clear hR
    obtain ⟨sm, okb⟩ := R
    dsimp only at CS ⊢
    go_wp2_with fail
    refine CS.out.mono ?_
    rintro e4 w4 ⟨rfl, rfl⟩
    clear CS c0 c1
    go_wp2
    refine wp_region_held_drew (S := (fun w' => Blk w' q 25 #[.slice A n c, .slice A' n' c'] ∧ Below w.heap.size w w')) (by kernel_rfl) (⟨HB.out.drew, HBL.out.drew⟩) ?_
    intro hSw
    refine wpAnyH_take (i := 0) (oi := ⟨some 26, _, _, _, _, _⟩) (v := (.agg #[.slice A n c, .slice A' n' c'])) rfl (by kernel_rfl) (by kernel_rfl) (by kernel_rfl) (fun _ _ _ h => h) (Or.inl ⟨by rfl, ?_⟩) hSw ?_
    · intro w' hSw'
      have c0 := hSw'.1.cell 0
      have c1 := hSw'.1.cell 1
      simp only [List.getElem?_toArray, List.getElem?_cons_zero, List.getElem?_cons_succ] at c0 c1
      go_simp
    simp only [Act.put, List.setIfInBounds_toArray, List.set_cons_zero, List.set_cons_succ]
    refine wpAnyH_take (i := 1) (oi := ⟨some 27, _, _, _, _, _⟩) (v := (.bool first)) rfl (by kernel_rfl) (by kernel_rfl) (by kernel_rfl) (fun _ _ _ h => h) (Or.inl ⟨by rfl, ?_⟩) hSw ?_
    · intro w' hSw'
      have c0 := hSw'.1.cell 0
      have c1 := hSw'.1.cell 1
      simp only [List.getElem?_toArray, List.getElem?_cons_zero, List.getElem?_cons_succ] at c0 c1
      go_simp
    simp only [Act.put, List.setIfInBounds_toArray, List.set_cons_zero, List.set_cons_succ]
    refine wpAnyH_take (i := 3) (oi := ⟨some 29, _, _, _, _, _⟩) (v := (.agg #[.slice A n c, .slice A' n' c'])) rfl (by kernel_rfl) (by kernel_rfl) (by kernel_rfl) (fun _ _ _ h => h) (Or.inl ⟨by rfl, ?_⟩) hSw ?_
    · intro w' hSw'
      have c0 := hSw'.1.cell 0
      have c1 := hSw'.1.cell 1
      simp only [List.getElem?_toArray, List.getElem?_cons_zero, List.getElem?_cons_succ] at c0 c1
      go_simp
    simp only [Act.put, List.setIfInBounds_toArray, List.set_cons_zero, List.set_cons_succ]
    refine wpAnyH_take (i := 4) (oi := ⟨some 30, _, _, _, _, _⟩) (v := (.bool first)) rfl (by kernel_rfl) (by kernel_rfl) (by kernel_rfl) (fun _ _ _ h => h) (Or.inl ⟨by rfl, ?_⟩) hSw ?_
    · intro w' hSw'
      have c0 := hSw'.1.cell 0
      have c1 := hSw'.1.cell 1
      simp only [List.getElem?_toArray, List.getElem?_cons_zero, List.getElem?_cons_succ] at c0 c1
      go_simp
    simp only [Act.put, List.setIfInBounds_toArray, List.set_cons_zero, List.set_cons_succ]
    refine wpAnyH_ready (rs := [2]) (by kernel_rfl) (by simp) (AllReadyH.cons (o := ⟨some 28, _, _, _, _, _⟩) rfl (fun K hK => ?_) AllReadyH.nil)
    go_simp
    go_at_call 13
    refine (check_tx_any _ A A' n n' c c' ins outs ok first (insSh.below HI.out hSw.2 (fun _ h _ => h)) (outsSh.below HO.out hSw.2 (fun _ h _ => h)) HN.out HN'.out).mono ?_
    rintro e5 w5 ⟨rfl, a5⟩
    dsimp only
    refine hK.out _ _ (⟨hSw.1.below a5 hSw.1.lt, hSw.2.trans (a5.mono hSw.2.size)⟩) ?_
    intro hSw
    clear hK K
    try simp only [Act.put, List.setIfInBounds_toArray, List.set_cons_zero, List.set_cons_succ]
    refine wpAnyH_ready (rs := [5]) (by kernel_rfl) (by simp) (AllReadyH.cons (o := ⟨some 31, _, _, _, _, _⟩) rfl (fun K hK => ?_) AllReadyH.nil)
    go_simp
    go_at_call 14
    refine (tx12_any _ A A' n n' c c' ins outs ok first (insSh.below HI.out hSw.2 (fun _ h _ => h)) (outsSh.below HO.out hSw.2 (fun _ h _ => h)) HN.out HN'.out).mono ?_
    rintro e6 w6 ⟨rfl, a6⟩
    dsimp only
    refine hK.out _ _ (⟨hSw.1.below a6 hSw.1.lt, hSw.2.trans (a6.mono hSw.2.size)⟩) ?_
    intro hSw
    clear hK K
    try simp only [Act.put, List.setIfInBounds_toArray, List.set_cons_zero, List.set_cons_succ]
    refine wpAnyH_take (i := 6) (oi := ⟨some 32, _, _, _, _, _⟩) (v := (.bool true)) rfl (by kernel_rfl) (by kernel_rfl) (by kernel_rfl) (fun _ _ _ h => h) (Or.inl ⟨by rfl, ?_⟩) hSw ?_
    · intro w' hSw'
      have c0 := hSw'.1.cell 0
      have c1 := hSw'.1.cell 1
      simp only [List.getElem?_toArray, List.getElem?_cons_zero, List.getElem?_cons_succ] at c0 c1
      go_simp
    simp only [Act.put, List.setIfInBounds_toArray, List.set_cons_zero, List.set_cons_succ]
    refine wpAnyH_take (i := 7) (oi := ⟨some 33, _, _, _, _, _⟩) (v := (.bool true)) rfl (by kernel_rfl) (by kernel_rfl) (by kernel_rfl) (fun _ _ _ h => h) (Or.inl ⟨by rfl, ?_⟩) hSw ?_
    · intro w' hSw'
      have c0 := hSw'.1.cell 0
      have c1 := hSw'.1.cell 1
      simp only [List.getElem?_toArray, List.getElem?_cons_zero, List.getElem?_cons_succ] at c0 c1
      go_simp
    simp only [Act.put, List.setIfInBounds_toArray, List.set_cons_zero, List.set_cons_succ]
    refine wpAnyH_take (i := 8) (oi := ⟨some 34, _, _, _, _, _⟩) (v := (.int .i64 sm)) rfl (by kernel_rfl) (by kernel_rfl) (by kernel_rfl) (fun _ _ _ h => h) (Or.inl ⟨by rfl, ?_⟩) hSw ?_
    · intro w' hSw'
      have c0 := hSw'.1.cell 0
      have c1 := hSw'.1.cell 1
      simp only [List.getElem?_toArray, List.getElem?_cons_zero, List.getElem?_cons_succ] at c0 c1
      go_simp
    simp only [Act.put, List.setIfInBounds_toArray, List.set_cons_zero, List.set_cons_succ]
    refine wpAnyH_take (i := 9) (oi := ⟨some 35, _, _, _, _, _⟩) (v := (.int .i64 sm)) rfl (by kernel_rfl) (by kernel_rfl) (by kernel_rfl) (fun _ _ _ h => h) (Or.inl ⟨by rfl, ?_⟩) hSw ?_
    · intro w' hSw'
      have c0 := hSw'.1.cell 0
      have c1 := hSw'.1.cell 1
      simp only [List.getElem?_toArray, List.getElem?_cons_zero, List.getElem?_cons_succ] at c0 c1
      go_simp
    simp only [Act.put, List.setIfInBounds_toArray, List.set_cons_zero, List.set_cons_succ]
    refine wpAnyH_take (i := 10) (oi := ⟨some 36, _, _, _, _, _⟩) (v := (.bool true)) rfl (by kernel_rfl) (by kernel_rfl) (by kernel_rfl) (fun _ _ _ h => h) (Or.inl ⟨by rfl, ?_⟩) hSw ?_
    · intro w' hSw'
      have c0 := hSw'.1.cell 0
      have c1 := hSw'.1.cell 1
      simp only [List.getElem?_toArray, List.getElem?_cons_zero, List.getElem?_cons_succ] at c0 c1
      go_simp
    simp only [Act.put, List.setIfInBounds_toArray, List.set_cons_zero, List.set_cons_succ]
    refine wpAnyH_take (i := 11) (oi := ⟨some 37, _, _, _, _, _⟩) (v := (.bool true)) rfl (by kernel_rfl) (by kernel_rfl) (by kernel_rfl) (fun _ _ _ h => h) (Or.inl ⟨by rfl, ?_⟩) hSw ?_
    · intro w' hSw'
      have c0 := hSw'.1.cell 0
      have c1 := hSw'.1.cell 1
      simp only [List.getElem?_toArray, List.getElem?_cons_zero, List.getElem?_cons_succ] at c0 c1
      go_simp
    simp only [Act.put, List.setIfInBounds_toArray, List.set_cons_zero, List.set_cons_succ]
    refine wpAnyH_take (i := 12) (oi := ⟨some 38, _, _, _, _, _⟩) (v := (.bool true)) rfl (by kernel_rfl) (by kernel_rfl) (by kernel_rfl) (fun _ _ _ h => h) (Or.inl ⟨by rfl, ?_⟩) hSw ?_
    · intro w' hSw'
      have c0 := hSw'.1.cell 0
      have c1 := hSw'.1.cell 1
      simp only [List.getElem?_toArray, List.getElem?_cons_zero, List.getElem?_cons_succ] at c0 c1
      go_simp
    simp only [Act.put, List.setIfInBounds_toArray, List.set_cons_zero, List.set_cons_succ]
    refine wpAnyH_take (i := 13) (oi := ⟨some 39, _, _, _, _, _⟩) (v := (.bool okb)) rfl (by kernel_rfl) (by kernel_rfl) (by kernel_rfl) (fun _ _ _ h => h) (Or.inl ⟨by rfl, ?_⟩) hSw ?_
    · intro w' hSw'
      have c0 := hSw'.1.cell 0
      have c1 := hSw'.1.cell 1
      simp only [List.getElem?_toArray, List.getElem?_cons_zero, List.getElem?_cons_succ] at c0 c1
      go_simp
    simp only [Act.put, List.setIfInBounds_toArray, List.set_cons_zero, List.set_cons_succ]
    refine wpAnyH_take (i := 14) (oi := ⟨some 40, _, _, _, _, _⟩) (v := (.bool okb)) rfl (by kernel_rfl) (by kernel_rfl) (by kernel_rfl) (fun _ _ _ h => h) (Or.inl ⟨by rfl, ?_⟩) hSw ?_
    · intro w' hSw'
      have c0 := hSw'.1.cell 0
      have c1 := hSw'.1.cell 1
      simp only [List.getElem?_toArray, List.getElem?_cons_zero, List.getElem?_cons_succ] at c0 c1
      go_simp
    simp only [Act.put, List.setIfInBounds_toArray, List.set_cons_zero, List.set_cons_succ]
    refine wpAnyH_take (i := 15) (oi := ⟨some 41, _, _, _, _, _⟩) (v := (.bool true)) rfl (by kernel_rfl) (by kernel_rfl) (by kernel_rfl) (fun _ _ _ h => h) (Or.inl ⟨by rfl, ?_⟩) hSw ?_
    · intro w' hSw'
      have c0 := hSw'.1.cell 0
      have c1 := hSw'.1.cell 1
      simp only [List.getElem?_toArray, List.getElem?_cons_zero, List.getElem?_cons_succ] at c0 c1
      go_simp
    simp only [Act.put, List.setIfInBounds_toArray, List.set_cons_zero, List.set_cons_succ]
    refine wpAnyH_take (i := 16) (oi := ⟨some 42, _, _, _, _, _⟩) (v := (.bool true)) rfl (by kernel_rfl) (by kernel_rfl) (by kernel_rfl) (fun _ _ _ h => h) (Or.inl ⟨by rfl, ?_⟩) hSw ?_
    · intro w' hSw'
      have c0 := hSw'.1.cell 0
      have c1 := hSw'.1.cell 1
      simp only [List.getElem?_toArray, List.getElem?_cons_zero, List.getElem?_cons_succ] at c0 c1
      go_simp
    simp only [Act.put, List.setIfInBounds_toArray, List.set_cons_zero, List.set_cons_succ]
    refine wpAnyH_take (i := 17) (oi := ⟨some 4, _, _, _, _, _⟩) (v := (.bool true)) rfl (by kernel_rfl) (by kernel_rfl) (by kernel_rfl) (fun _ _ _ h => h) (Or.inl ⟨by rfl, ?_⟩) hSw ?_
    · intro w' hSw'
      have c0 := hSw'.1.cell 0
      have c1 := hSw'.1.cell 1
      simp only [List.getElem?_toArray, List.getElem?_cons_zero, List.getElem?_cons_succ] at c0 c1
      go_simp
    simp only [Act.put, List.setIfInBounds_toArray, List.set_cons_zero, List.set_cons_succ]
    refine wpAnyH_done (by kernel_rfl) ?_ _
    go_wp2
    go_ret
    rw [← HQ.out]
    exact ⟨rfl, hSw.2⟩
end Go.Proofs.Ytkenkhefpemdmaa
