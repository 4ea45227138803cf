/- TxApart, walked. -/
import Derived.Test.YtpcombaecbjmfaaSa
import Derived.Test.YtpcombaecbjmfaaPo
import Derived.Test.YtpcombaecbjmfaaTrd
namespace Go.Proofs.Ytpcombaecbjmfaa
open Go.RowKit
theorem row_pt {w : World} {b o : Nat} {id : List UInt8} {ix : Nat} {v : Value} (h : RowAt w b o (inC id ix v)) (hl : id.length = 32) : RowAt w b o (ptC id ix) := by
  have := h.take 33
  rwa [show (inC id ix v).take 33 = ptC id ix by simp [inC, ptC, List.take_append, hl, List.take_of_length_le]] at this
theorem infoPt7 (id : List UInt8) (ix : Nat) (h : id.length = 32) : (Try.prog.info? 59).map (·.size) = some (ptC id ix).length := by rw [ptC_len id ix h]; kernel_rfl
theorem infoOut7 (amt : Int) (lock : List UInt8) (h : lock.length = 32) : (Try.prog.info? 63).map (·.size) = some (outC amt lock).length := by rw [outC_len' amt lock h]; kernel_rfl
set_option maxRecDepth 20000 in
set_option maxHeartbeats 4000000 in
set_option linter.unusedSimpArgs false in
theorem txApart_any (w : World) (A A' B B' : Option Addr) (n n' c c' m m' d d' : Nat) (ins ins2 : List InT) (outs outs2 : List OutT) (ok ok2 : Nat → Prop)
    (hi0 : insSh.rel w ok [.slice A n c] ins) (ho0 : outsSh.rel w ok [.slice A' n' c'] outs) (hn : ins.length = n) (hn' : outs.length = n')
    (hi20 : insSh.rel w ok2 [.slice B m d] ins2) (ho20 : outsSh.rel w ok2 [.slice B' m' d'] outs2) (hm : ins2.length = m) (hm' : outs2.length = m') :
    Calls Try.prog 7 #[.agg #[.slice A n c, .slice A' n' c'], .agg #[.slice B m d, .slice B' m' d']] w fun e w' => e = .returned (.bool true) ∧ Below w.heap.size w w' := by
  have hi := weak_slice weak_in3 _ _ (fun b => b < w.heap.size) _ _ hi0 (fun b hb _ => hb)
  have ho := weak_slice weak_out3 _ _ (fun b => b < w.heap.size) _ _ ho0 (fun b hb _ => hb)
  have hi2 := weak_slice weak_in3 _ _ (fun b => b < w.heap.size) _ _ hi20 (fun b hb _ => hb)
  have ho2 := weak_slice weak_out3 _ _ (fun b => b < w.heap.size) _ _ ho20 (fun b hb _ => hb)
  have HTO := Lib.hid (tx_ok hi ho)
  have HTO2 := Lib.hid (tx_ok hi2 ho2)
  have INS := Lib.hid (fun W (a : Below w.heap.size w W) => insSh.below hi a (fun _ h _ => h))
  have OUTS := Lib.hid (fun W (a : Below w.heap.size w W) => outsSh.below ho a (fun _ h _ => h))
  have INS2 := Lib.hid (fun W (a : Below w.heap.size w W) => insSh.below hi2 a (fun _ h _ => h))
  have OUTS2 := Lib.hid (fun W (a : Below w.heap.size w W) => outsSh.below ho2 a (fun _ h _ => h))
  have HN := Lib.hid hn
  have HN' := Lib.hid hn'
  have HM := Lib.hid hm
  have HM' := Lib.hid hm'
  clear hi ho hi0 ho0 hn hn' hi2 ho2 hi20 ho20 hm hm'
  go_enter Try.func7, Try.ntmps7
  go_wp2_with fail
  generalize hW : World.alloc (World.alloc w _) _ = W
  have hb : Blk W w.heap.size 25 #[.slice A n c, .slice A' n' c'] := by rw [← hW]; exact (Blk.new _ _ _).alloc _
  have hb2 : Blk W (w.heap.size + 1) 25 #[.slice B m d, .slice B' m' d'] := by rw [← hW]; exact Blk.newS w _ _ _
  have hbl : Below w.heap.size w W := by rw [← hW]; exact ((Below.refl _ _).alloc (Nat.le_refl _) _).alloc (by simp) _
  clear hW
  obtain ⟨g, hg⟩ : ∃ g, w.heap.size = g := ⟨_, rfl⟩
  rw [hg] at hb hb2 ⊢
  have HG := Lib.hid hg
  refine (writes7_any W).mono ?_
  rintro e1 w1 ⟨rfl, a1⟩
  have HB := Lib.hid (hb.below a1 hb.lt)
  have HB2 := Lib.hid (hb2.below a1 hb2.lt)
  have HBL := Lib.hid (hbl.trans (a1.mono hbl.size))
  clear hg hb hb2 hbl a1
  have c0 := HB.out.cell 0
  have c1 := HB.out.cell 1
  simp only [List.getElem?_toArray, List.getElem?_cons_zero, List.getElem?_cons_succ] at c0 c1
  go_wp2_with fail
  refine (fits7_any w1 A A' n n' c c' ins outs _ (INS.out _ HBL.out) HN.out HN'.out).mono ?_
  rintro e2 w2 ⟨rfl, a2⟩
  replace HB := Lib.hid (HB.out.below a2 HB.out.lt)
  replace HB2 := Lib.hid (HB2.out.below a2 HB2.out.lt)
  replace HBL := Lib.hid (HBL.out.trans (a2.mono HBL.out.size))
  clear a2 c0 c1
  cases hfit : fitsB (ins, outs, ())
  · clear hfit
    go_wp2
    go_ret
    rw [← HG.out]
    exact ⟨rfl, HBL.out⟩
  have HF := Lib.hid (fits_fit hfit)
  clear hfit
  have c0 := HB2.out.cell 0
  have c1 := HB2.out.cell 1
  simp only [List.getElem?_toArray, List.getElem?_cons_zero, List.getElem?_cons_succ] at c0 c1
  go_wp2_with fail
  refine (fits7_any w2 B B' m m' d d' ins2 outs2 _ (INS2.out _ HBL.out) HM.out HM'.out).mono ?_
  rintro e3 w3 ⟨rfl, a3⟩
  replace HB := Lib.hid (HB.out.below a3 HB.out.lt)
  replace HB2 := Lib.hid (HB2.out.below a3 HB2.out.lt)
  replace HBL := Lib.hid (HBL.out.trans (a3.mono HBL.out.size))
  clear a3 c0 c1
  cases hfit : fitsB (ins2, outs2, ())
  · clear hfit
    go_wp2
    go_ret
    rw [← HG.out]
    exact ⟨rfl, HBL.out⟩
  have HF2 := Lib.hid (fits_fit hfit)
  clear hfit
  go_upto_region 5 with fail
  have HN1 := Lib.hid (show n ≤ 1000 by have := HF.out.1; have := HN.out; simp only at *; omega)
  have HN1' := Lib.hid (show n' ≤ 1000 by have := HF.out.2.1; have := HN'.out; simp only at *; omega)
  go_cut [5] (fun v5 wc => ∃ al : Bool, v5 = .bool al ∧ Hid (al = decide (n = m ∧ n' = m')) ∧ Hid (Blk wc g 25 #[.slice A n c, .slice A' n' c']) ∧ Hid (Blk wc (g + 1) 25 #[.slice B m d, .slice B' m' d']) ∧ Hid (Below w.heap.size w wc))
  · have c0 := HB.out.cell 0
    have c1 := HB.out.cell 1
    have k0 := HB2.out.cell 0
    have k1 := HB2.out.cell 1
    simp only [List.getElem?_toArray, List.getElem?_cons_zero, List.getElem?_cons_succ] at c0 c1 k0 k1
    by_cases h : n = m
    · have t1 : ((n : Int) == (m : Int)) = true := by rw [h]; simp
      obtain ⟨q, hq⟩ : ∃ q, ((n' : Int) == (m' : Int)) = q := ⟨_, rfl⟩
      have HQ := Lib.hid (show q = decide (n = m ∧ n' = m') by rw [← hq, Bool.eq_iff_iff]; simp [h]; omega)
      clear h
      go_wp2
      go_meet
      exact ⟨q, rfl, HQ, HB, HB2, HBL⟩
    · have t1 : ((n : Int) == (m : Int)) = false := by simp; omega
      have HQ := Lib.hid (show false = decide (n = m ∧ n' = m') by simp [h])
      clear h
      go_wp2
      go_meet
      exact ⟨false, rfl, HQ, HB, HB2, HBL⟩
  case rest =>
    clear HB HB2 HBL
    obtain ⟨al0, rfl, HAL, HB, HB2, HBL⟩ := hcut
    go_upto_block 0 with fail
    go_cut [5] (fun v5 wc => ∃ al : Bool, v5 = .bool al ∧ Hid (al = decide (n = m ∧ n' = m' ∧ ins = ins2)) ∧ Hid (Blk wc g 25 #[.slice A n c, .slice A' n' c']) ∧ Hid (Blk wc (g + 1) 25 #[.slice B m d, .slice B' m' d']) ∧ Hid (Below w.heap.size w wc))
    · go_wp2_with fail
      go_loopg [5, 6] n (fun q v5 v6 wr => ∃ (j : Nat) (al : Bool), j + q = n ∧ v5 = .bool al ∧ v6 = .int .i64 j ∧ Hid (al = decide (n = m ∧ n' = m' ∧ ins.take j = ins2.take j)) ∧ Hid (Blk wr g 25 #[.slice A n c, .slice A' n' c']) ∧ Hid (Blk wr (g + 1) 25 #[.slice B m d, .slice B' m' d']) ∧ Hid (Below w.heap.size w wr))
      case atStart => exact ⟨0, al0, by omega, rfl, rfl, by have := HAL.out; simp only [Hid, List.take_zero, and_true]; exact this, HB, HB2, HBL⟩
      case round =>
        clear HB HB2 HBL HAL
        obtain ⟨j, al, hj, rfl, rfl, HAL, HB, HB2, HBL⟩ := hrel
        cases al with
        | false =>
          have HQ := Lib.hid (show false = decide (n = m ∧ n' = m' ∧ ins = ins2) by
            have h := HAL.out
            symm at h
            rw [decide_eq_false_iff_not] at h
            symm
            rw [decide_eq_false_iff_not]
            rintro ⟨e1, e2, e3⟩
            exact h ⟨e1, e2, by rw [e3]⟩)
          go_wp2
          go_meet
          exact ⟨false, rfl, HQ, HB, HB2, HBL⟩
        | true =>
          have hall := HAL.out
          symm at hall
          rw [decide_eq_true_iff] at hall
          have c0 := HB.out.cell 0
          simp only [List.getElem?_toArray, List.getElem?_cons_zero] at c0
          by_cases hlt : j < n
          · obtain ⟨b, o, id, ix, key, v, rfl, hb, hij, hrow, hkb, hid, hix⟩ := ins_at (INS.out _ HBL.out) (by rw [HN.out]; exact hlt)
            obtain ⟨b2, o2, id2, ix2, key2, v2, rfl, hb2, hij2, hrow2, hkb2, hid2, hix2⟩ := ins_at (j := j) (INS2.out _ HBL.out) (by rw [HM.out]; omega)
            have hlt2 : j < m := by omega
            obtain ⟨Ak, nk, ck, rfl, hnk, hkc, hks⟩ := hkb
            obtain ⟨Bk, mk, dk, rfl, hnk2, hkc2, hks2⟩ := hkb2
            have HKB := Lib.hid (show IsB wr _ (.slice Ak nk ck) key from ⟨Ak, nk, ck, rfl, hnk, hkc, hks⟩)
            have HKB2 := Lib.hid (show IsB wr _ (.slice Bk mk dk) key2 from ⟨Bk, mk, dk, rfl, hnk2, hkc2, hks2⟩)
            have HROW := Lib.hid hrow
            have HROW2 := Lib.hid hrow2
            have HID := Lib.hid hid
            have HID2 := Lib.hid hid2
            have hstep : (ins.take (j + 1) = ins2.take (j + 1)) ↔ ((id = id2 ∧ ix = ix2) ∧ key = key2) := by
              rw [take_snoc' ins j (by rw [HN.out]; exact hlt), take_snoc' ins2 j (by rw [HM.out]; exact hlt2), hall.2.2, hij, hij2]
              simp
              omega
            obtain ⟨ee, hee⟩ : ∃ ee, decide (id = id2 ∧ ix = ix2) = ee := ⟨_, rfl⟩
            obtain ⟨kk, hkk⟩ : ∃ kk, (key == key2) = kk := ⟨_, rfl⟩
            have hnew : (ee && kk) = decide (n = m ∧ n' = m' ∧ ins.take (j + 1) = ins2.take (j + 1)) := by
              rw [Bool.eq_iff_iff, decide_eq_true_iff, hstep, ← hee, ← hkk]
              simp [hall.1, hall.2.1]
            have heqA : ∀ w', (Op.equalIn 10000 59 (.agg (ptC id ix).toArray) (.agg (ptC id2 ix2).toArray)).run Try.prog w' = .ok ee w' := fun w' => by rw [← hee]; exact run_eq_pt id id2 ix ix2 hid hid2 hix hix2 w' 9997
            have HNEW0 := Lib.hid hnew
            have HMJ := Lib.hid hlt2
            clear hnew hstep hee hij hij2 hrow hrow2 hid hid2 hix hix2 hb hb2 hnk hkc hks hnk2 hkc2 hks2 hall HAL hlt2
            go_wp2
            clear c0
            have hjm := HMJ.out
            cases ee with
            | false =>
              have HNEW := Lib.hid (show false = decide (n = m ∧ n' = m' ∧ ins.take (j + 1) = ins2.take (j + 1)) from HNEW0.out)
              refine wp_region_held_drew (S := (fun w' => Blk w' g 25 #[.slice (some ⟨b, o, none⟩) n c, .slice A' n' c'] ∧ Blk w' (g + 1) 25 #[.slice (some ⟨b2, o2, none⟩) m d, .slice B' m' d'] ∧ RowAt w' b (o + j * 34) (inC id ix (.slice Ak nk ck)) ∧ RowAt w' b2 (o2 + j * 34) (inC id2 ix2 (.slice Bk mk dk)) ∧ IsB w' (fun _ => True) (.slice Ak nk ck) key ∧ IsB w' (fun _ => True) (.slice Bk mk dk) key2 ∧ Below w.heap.size w w')) (by kernel_rfl) (⟨HB.out.drew, HB2.out.drew, HROW.out, HROW2.out, IsB.weak HKB.out (fun _ _ _ => trivial), IsB.weak HKB2.out (fun _ _ _ => trivial), HBL.out.drew⟩) ?_
              intro hSw
              refine wpAnyH_take (i := 0) (oi := ⟨some 46, _, _, _, _, _⟩) (v := (.pointer (some ⟨g, 0, none⟩))) rfl (by kernel_rfl) (by kernel_rfl) (by kernel_rfl) (fun _ _ _ h => h) (Or.inl ⟨by rfl, ?_⟩) hSw ?_
              · intro w' hSw'
                have c0 := hSw'.1.cell 0
                have k0 := hSw'.2.1.cell 0
                have c33 := row_in33 hSw'.2.2.1 HID.out
                have k33 := row_in33 hSw'.2.2.2.1 HID2.out
                have h1 := IsB.str hSw'.2.2.2.2.1 (P := Try.prog) (src := 28) (dst := 9) Try.underlying28 Try.underlying5 Try.underlying9
                have h2 := IsB.str hSw'.2.2.2.2.2.1 (P := Try.prog) (src := 28) (dst := 9) Try.underlying28 Try.underlying5 Try.underlying9
                simp only [List.getElem?_toArray, List.getElem?_cons_zero] at c0 k0
                go_simp
              simp only [Act.put, List.setIfInBounds_toArray, List.set_cons_zero, List.set_cons_succ]
              refine wpAnyH_take (i := 1) (oi := ⟨some 47, _, _, _, _, _⟩) (v := (.slice (some ⟨b, o, none⟩) n c)) rfl (by kernel_rfl) (by kernel_rfl) (by kernel_rfl) (fun _ _ _ h => h) (Or.inl ⟨by rfl, ?_⟩) hSw ?_
              · intro w' hSw'
                have c0 := hSw'.1.cell 0
                have k0 := hSw'.2.1.cell 0
                have c33 := row_in33 hSw'.2.2.1 HID.out
                have k33 := row_in33 hSw'.2.2.2.1 HID2.out
                have h1 := IsB.str hSw'.2.2.2.2.1 (P := Try.prog) (src := 28) (dst := 9) Try.underlying28 Try.underlying5 Try.underlying9
                have h2 := IsB.str hSw'.2.2.2.2.2.1 (P := Try.prog) (src := 28) (dst := 9) Try.underlying28 Try.underlying5 Try.underlying9
                simp only [List.getElem?_toArray, List.getElem?_cons_zero] at c0 k0
                go_simp
              simp only [Act.put, List.setIfInBounds_toArray, List.set_cons_zero, List.set_cons_succ]
              refine wpAnyH_take (i := 2) (oi := ⟨some 48, _, _, _, _, _⟩) (v := (.int .i64 (j : Int))) rfl (by kernel_rfl) (by kernel_rfl) (by kernel_rfl) (fun _ _ _ h => h) (Or.inl ⟨by rfl, ?_⟩) hSw ?_
              · intro w' hSw'
                have c0 := hSw'.1.cell 0
                have k0 := hSw'.2.1.cell 0
                have c33 := row_in33 hSw'.2.2.1 HID.out
                have k33 := row_in33 hSw'.2.2.2.1 HID2.out
                have h1 := IsB.str hSw'.2.2.2.2.1 (P := Try.prog) (src := 28) (dst := 9) Try.underlying28 Try.underlying5 Try.underlying9
                have h2 := IsB.str hSw'.2.2.2.2.2.1 (P := Try.prog) (src := 28) (dst := 9) Try.underlying28 Try.underlying5 Try.underlying9
                simp only [List.getElem?_toArray, List.getElem?_cons_zero] at c0 k0
                go_simp
              simp only [Act.put, List.setIfInBounds_toArray, List.set_cons_zero, List.set_cons_succ]
              refine wpAnyH_take (i := 3) (oi := ⟨some 49, _, _, _, _, _⟩) (v := (.pointer (some ⟨b, o + j * 34, none⟩))) rfl (by kernel_rfl) (by kernel_rfl) (by kernel_rfl) (fun _ _ _ h => h) (Or.inl ⟨by rfl, ?_⟩) hSw ?_
              · intro w' hSw'
                have c0 := hSw'.1.cell 0
                have k0 := hSw'.2.1.cell 0
                have c33 := row_in33 hSw'.2.2.1 HID.out
                have k33 := row_in33 hSw'.2.2.2.1 HID2.out
                have h1 := IsB.str hSw'.2.2.2.2.1 (P := Try.prog) (src := 28) (dst := 9) Try.underlying28 Try.underlying5 Try.underlying9
                have h2 := IsB.str hSw'.2.2.2.2.2.1 (P := Try.prog) (src := 28) (dst := 9) Try.underlying28 Try.underlying5 Try.underlying9
                simp only [List.getElem?_toArray, List.getElem?_cons_zero] at c0 k0
                go_simp
              simp only [Act.put, List.setIfInBounds_toArray, List.set_cons_zero, List.set_cons_succ]
              refine wpAnyH_take (i := 4) (oi := ⟨some 50, _, _, _, _, _⟩) (v := (.pointer (some ⟨b, o + j * 34, none⟩))) rfl (by kernel_rfl) (by kernel_rfl) (by kernel_rfl) (fun _ _ _ h => h) (Or.inl ⟨by rfl, ?_⟩) hSw ?_
              · intro w' hSw'
                have c0 := hSw'.1.cell 0
                have k0 := hSw'.2.1.cell 0
                have c33 := row_in33 hSw'.2.2.1 HID.out
                have k33 := row_in33 hSw'.2.2.2.1 HID2.out
                have h1 := IsB.str hSw'.2.2.2.2.1 (P := Try.prog) (src := 28) (dst := 9) Try.underlying28 Try.underlying5 Try.underlying9
                have h2 := IsB.str hSw'.2.2.2.2.2.1 (P := Try.prog) (src := 28) (dst := 9) Try.underlying28 Try.underlying5 Try.underlying9
                simp only [List.getElem?_toArray, List.getElem?_cons_zero] at c0 k0
                go_simp
              simp only [Act.put, List.setIfInBounds_toArray, List.set_cons_zero, List.set_cons_succ]
              refine wpAnyH_take (i := 5) (oi := ⟨some 51, _, _, _, _, _⟩) (v := .agg (ptC id ix).toArray) rfl (by kernel_rfl) (by kernel_rfl) (by kernel_rfl) (fun _ _ _ h => h) (yieldsIf_load_mid (by rfl) _ _ rfl b (o + j * 34) rfl (ptC id ix) _ (fun _ h => row_pt h.2.2.1 HID.out) Try.underlying59 rfl (infoPt7 id ix HID.out)) hSw ?_
              simp only [Act.put, List.setIfInBounds_toArray, List.set_cons_zero, List.set_cons_succ]
              refine wpAnyH_take (i := 6) (oi := ⟨some 52, _, _, _, _, _⟩) (v := (.pointer (some ⟨g + 1, 0, none⟩))) rfl (by kernel_rfl) (by kernel_rfl) (by kernel_rfl) (fun _ _ _ h => h) (Or.inl ⟨by rfl, ?_⟩) hSw ?_
              · intro w' hSw'
                have c0 := hSw'.1.cell 0
                have k0 := hSw'.2.1.cell 0
                have c33 := row_in33 hSw'.2.2.1 HID.out
                have k33 := row_in33 hSw'.2.2.2.1 HID2.out
                have h1 := IsB.str hSw'.2.2.2.2.1 (P := Try.prog) (src := 28) (dst := 9) Try.underlying28 Try.underlying5 Try.underlying9
                have h2 := IsB.str hSw'.2.2.2.2.2.1 (P := Try.prog) (src := 28) (dst := 9) Try.underlying28 Try.underlying5 Try.underlying9
                simp only [List.getElem?_toArray, List.getElem?_cons_zero] at c0 k0
                go_simp
              simp only [Act.put, List.setIfInBounds_toArray, List.set_cons_zero, List.set_cons_succ]
              refine wpAnyH_take (i := 7) (oi := ⟨some 53, _, _, _, _, _⟩) (v := (.slice (some ⟨b2, o2, none⟩) m d)) rfl (by kernel_rfl) (by kernel_rfl) (by kernel_rfl) (fun _ _ _ h => h) (Or.inl ⟨by rfl, ?_⟩) hSw ?_
              · intro w' hSw'
                have c0 := hSw'.1.cell 0
                have k0 := hSw'.2.1.cell 0
                have c33 := row_in33 hSw'.2.2.1 HID.out
                have k33 := row_in33 hSw'.2.2.2.1 HID2.out
                have h1 := IsB.str hSw'.2.2.2.2.1 (P := Try.prog) (src := 28) (dst := 9) Try.underlying28 Try.underlying5 Try.underlying9
                have h2 := IsB.str hSw'.2.2.2.2.2.1 (P := Try.prog) (src := 28) (dst := 9) Try.underlying28 Try.underlying5 Try.underlying9
                simp only [List.getElem?_toArray, List.getElem?_cons_zero] at c0 k0
                go_simp
              simp only [Act.put, List.setIfInBounds_toArray, List.set_cons_zero, List.set_cons_succ]
              refine wpAnyH_take (i := 8) (oi := ⟨some 54, _, _, _, _, _⟩) (v := (.int .i64 (j : Int))) rfl (by kernel_rfl) (by kernel_rfl) (by kernel_rfl) (fun _ _ _ h => h) (Or.inl ⟨by rfl, ?_⟩) hSw ?_
              · intro w' hSw'
                have c0 := hSw'.1.cell 0
                have k0 := hSw'.2.1.cell 0
                have c33 := row_in33 hSw'.2.2.1 HID.out
                have k33 := row_in33 hSw'.2.2.2.1 HID2.out
                have h1 := IsB.str hSw'.2.2.2.2.1 (P := Try.prog) (src := 28) (dst := 9) Try.underlying28 Try.underlying5 Try.underlying9
                have h2 := IsB.str hSw'.2.2.2.2.2.1 (P := Try.prog) (src := 28) (dst := 9) Try.underlying28 Try.underlying5 Try.underlying9
                simp only [List.getElem?_toArray, List.getElem?_cons_zero] at c0 k0
                go_simp
              simp only [Act.put, List.setIfInBounds_toArray, List.set_cons_zero, List.set_cons_succ]
              refine wpAnyH_take (i := 9) (oi := ⟨some 55, _, _, _, _, _⟩) (v := (.pointer (some ⟨b2, o2 + j * 34, none⟩))) rfl (by kernel_rfl) (by kernel_rfl) (by kernel_rfl) (fun _ _ _ h => h) (Or.inl ⟨by rfl, ?_⟩) hSw ?_
              · intro w' hSw'
                have c0 := hSw'.1.cell 0
                have k0 := hSw'.2.1.cell 0
                have c33 := row_in33 hSw'.2.2.1 HID.out
                have k33 := row_in33 hSw'.2.2.2.1 HID2.out
                have h1 := IsB.str hSw'.2.2.2.2.1 (P := Try.prog) (src := 28) (dst := 9) Try.underlying28 Try.underlying5 Try.underlying9
                have h2 := IsB.str hSw'.2.2.2.2.2.1 (P := Try.prog) (src := 28) (dst := 9) Try.underlying28 Try.underlying5 Try.underlying9
                simp only [List.getElem?_toArray, List.getElem?_cons_zero] at c0 k0
                go_simp
              simp only [Act.put, List.setIfInBounds_toArray, List.set_cons_zero, List.set_cons_succ]
              refine wpAnyH_take (i := 10) (oi := ⟨some 56, _, _, _, _, _⟩) (v := (.pointer (some ⟨b2, o2 + j * 34, none⟩))) rfl (by kernel_rfl) (by kernel_rfl) (by kernel_rfl) (fun _ _ _ h => h) (Or.inl ⟨by rfl, ?_⟩) hSw ?_
              · intro w' hSw'
                have c0 := hSw'.1.cell 0
                have k0 := hSw'.2.1.cell 0
                have c33 := row_in33 hSw'.2.2.1 HID.out
                have k33 := row_in33 hSw'.2.2.2.1 HID2.out
                have h1 := IsB.str hSw'.2.2.2.2.1 (P := Try.prog) (src := 28) (dst := 9) Try.underlying28 Try.underlying5 Try.underlying9
                have h2 := IsB.str hSw'.2.2.2.2.2.1 (P := Try.prog) (src := 28) (dst := 9) Try.underlying28 Try.underlying5 Try.underlying9
                simp only [List.getElem?_toArray, List.getElem?_cons_zero] at c0 k0
                go_simp
              simp only [Act.put, List.setIfInBounds_toArray, List.set_cons_zero, List.set_cons_succ]
              refine wpAnyH_take (i := 11) (oi := ⟨some 57, _, _, _, _, _⟩) (v := .agg (ptC id2 ix2).toArray) rfl (by kernel_rfl) (by kernel_rfl) (by kernel_rfl) (fun _ _ _ h => h) (yieldsIf_load_mid (by rfl) _ _ rfl b2 (o2 + j * 34) rfl (ptC id2 ix2) _ (fun _ h => row_pt h.2.2.2.1 HID2.out) Try.underlying59 rfl (infoPt7 id2 ix2 HID2.out)) hSw ?_
              simp only [Act.put, List.setIfInBounds_toArray, List.set_cons_zero, List.set_cons_succ]
              refine wpAnyH_take (i := 12) (oi := ⟨some 58, _, _, _, _, _⟩) (v := (.bool false)) rfl (by kernel_rfl) (by kernel_rfl) (by kernel_rfl) (fun _ _ _ h => h) (Or.inl ⟨by rfl, ?_⟩) hSw ?_
              · intro w' hSw'
                have c0 := hSw'.1.cell 0
                have k0 := hSw'.2.1.cell 0
                have c33 := row_in33 hSw'.2.2.1 HID.out
                have k33 := row_in33 hSw'.2.2.2.1 HID2.out
                have h1 := IsB.str hSw'.2.2.2.2.1 (P := Try.prog) (src := 28) (dst := 9) Try.underlying28 Try.underlying5 Try.underlying9
                have h2 := IsB.str hSw'.2.2.2.2.2.1 (P := Try.prog) (src := 28) (dst := 9) Try.underlying28 Try.underlying5 Try.underlying9
                simp only [List.getElem?_toArray, List.getElem?_cons_zero] at c0 k0
                go_simp
              simp only [Act.put, List.setIfInBounds_toArray, List.set_cons_zero, List.set_cons_succ]
              refine wpAnyH_take (i := 13) (oi := ⟨some 59, _, _, _, _, _⟩) (v := (.bool false)) rfl (by kernel_rfl) (by kernel_rfl) (by kernel_rfl) (fun _ _ _ h => h) (Or.inl ⟨by rfl, ?_⟩) hSw ?_
              · intro w' hSw'
                have c0 := hSw'.1.cell 0
                have k0 := hSw'.2.1.cell 0
                have c33 := row_in33 hSw'.2.2.1 HID.out
                have k33 := row_in33 hSw'.2.2.2.1 HID2.out
                have h1 := IsB.str hSw'.2.2.2.2.1 (P := Try.prog) (src := 28) (dst := 9) Try.underlying28 Try.underlying5 Try.underlying9
                have h2 := IsB.str hSw'.2.2.2.2.2.1 (P := Try.prog) (src := 28) (dst := 9) Try.underlying28 Try.underlying5 Try.underlying9
                simp only [List.getElem?_toArray, List.getElem?_cons_zero] at c0 k0
                go_simp
              simp only [Act.put, List.setIfInBounds_toArray, List.set_cons_zero, List.set_cons_succ]
              refine wpAnyH_take (i := 14) (oi := ⟨some 60, _, _, _, _, _⟩) (v := undef) rfl (by kernel_rfl) (by kernel_rfl) (by kernel_rfl) (fun _ _ _ h => h) (Or.inr ⟨by rfl, rfl⟩) hSw ?_
              simp only [Act.put, List.setIfInBounds_toArray, List.set_cons_zero, List.set_cons_succ]
              refine wpAnyH_take (i := 15) (oi := ⟨some 61, _, _, _, _, _⟩) (v := undef) rfl (by kernel_rfl) (by kernel_rfl) (by kernel_rfl) (fun _ _ _ h => h) (Or.inr ⟨by rfl, rfl⟩) hSw ?_
              simp only [Act.put, List.setIfInBounds_toArray, List.set_cons_zero, List.set_cons_succ]
              refine wpAnyH_take (i := 16) (oi := ⟨some 62, _, _, _, _, _⟩) (v := undef) rfl (by kernel_rfl) (by kernel_rfl) (by kernel_rfl) (fun _ _ _ h => h) (Or.inr ⟨by rfl, rfl⟩) hSw ?_
              simp only [Act.put, List.setIfInBounds_toArray, List.set_cons_zero, List.set_cons_succ]
              refine wpAnyH_take (i := 17) (oi := ⟨some 63, _, _, _, _, _⟩) (v := undef) rfl (by kernel_rfl) (by kernel_rfl) (by kernel_rfl) (fun _ _ _ h => h) (Or.inr ⟨by rfl, rfl⟩) hSw ?_
              simp only [Act.put, List.setIfInBounds_toArray, List.set_cons_zero, List.set_cons_succ]
              refine wpAnyH_take (i := 18) (oi := ⟨some 64, _, _, _, _, _⟩) (v := undef) rfl (by kernel_rfl) (by kernel_rfl) (by kernel_rfl) (fun _ _ _ h => h) (Or.inr ⟨by rfl, rfl⟩) hSw ?_
              simp only [Act.put, List.setIfInBounds_toArray, List.set_cons_zero, List.set_cons_succ]
              refine wpAnyH_take (i := 19) (oi := ⟨some 65, _, _, _, _, _⟩) (v := undef) rfl (by kernel_rfl) (by kernel_rfl) (by kernel_rfl) (fun _ _ _ h => h) (Or.inr ⟨by rfl, rfl⟩) hSw ?_
              simp only [Act.put, List.setIfInBounds_toArray, List.set_cons_zero, List.set_cons_succ]
              refine wpAnyH_take (i := 20) (oi := ⟨some 66, _, _, _, _, _⟩) (v := undef) rfl (by kernel_rfl) (by kernel_rfl) (by kernel_rfl) (fun _ _ _ h => h) (Or.inr ⟨by rfl, rfl⟩) hSw ?_
              simp only [Act.put, List.setIfInBounds_toArray, List.set_cons_zero, List.set_cons_succ]
              refine wpAnyH_take (i := 21) (oi := ⟨some 67, _, _, _, _, _⟩) (v := undef) rfl (by kernel_rfl) (by kernel_rfl) (by kernel_rfl) (fun _ _ _ h => h) (Or.inr ⟨by rfl, rfl⟩) hSw ?_
              simp only [Act.put, List.setIfInBounds_toArray, List.set_cons_zero, List.set_cons_succ]
              refine wpAnyH_take (i := 22) (oi := ⟨some 68, _, _, _, _, _⟩) (v := undef) rfl (by kernel_rfl) (by kernel_rfl) (by kernel_rfl) (fun _ _ _ h => h) (Or.inr ⟨by rfl, rfl⟩) hSw ?_
              simp only [Act.put, List.setIfInBounds_toArray, List.set_cons_zero, List.set_cons_succ]
              refine wpAnyH_take (i := 23) (oi := ⟨some 69, _, _, _, _, _⟩) (v := undef) rfl (by kernel_rfl) (by kernel_rfl) (by kernel_rfl) (fun _ _ _ h => h) (Or.inr ⟨by rfl, rfl⟩) hSw ?_
              simp only [Act.put, List.setIfInBounds_toArray, List.set_cons_zero, List.set_cons_succ]
              refine wpAnyH_take (i := 24) (oi := ⟨some 70, _, _, _, _, _⟩) (v := undef) rfl (by kernel_rfl) (by kernel_rfl) (by kernel_rfl) (fun _ _ _ h => h) (Or.inr ⟨by rfl, rfl⟩) hSw ?_
              simp only [Act.put, List.setIfInBounds_toArray, List.set_cons_zero, List.set_cons_succ]
              refine wpAnyH_take (i := 25) (oi := ⟨some 71, _, _, _, _, _⟩) (v := undef) rfl (by kernel_rfl) (by kernel_rfl) (by kernel_rfl) (fun _ _ _ h => h) (Or.inr ⟨by rfl, rfl⟩) hSw ?_
              simp only [Act.put, List.setIfInBounds_toArray, List.set_cons_zero, List.set_cons_succ]
              refine wpAnyH_take (i := 26) (oi := ⟨some 72, _, _, _, _, _⟩) (v := undef) rfl (by kernel_rfl) (by kernel_rfl) (by kernel_rfl) (fun _ _ _ h => h) (Or.inr ⟨by rfl, rfl⟩) hSw ?_
              simp only [Act.put, List.setIfInBounds_toArray, List.set_cons_zero, List.set_cons_succ]
              refine wpAnyH_take (i := 27) (oi := ⟨some 73, _, _, _, _, _⟩) (v := undef) rfl (by kernel_rfl) (by kernel_rfl) (by kernel_rfl) (fun _ _ _ h => h) (Or.inr ⟨by rfl, rfl⟩) hSw ?_
              simp only [Act.put, List.setIfInBounds_toArray, List.set_cons_zero, List.set_cons_succ]
              refine wpAnyH_take (i := 28) (oi := ⟨some 74, _, _, _, _, _⟩) (v := undef) rfl (by kernel_rfl) (by kernel_rfl) (by kernel_rfl) (fun _ _ _ h => h) (Or.inr ⟨by rfl, rfl⟩) hSw ?_
              simp only [Act.put, List.setIfInBounds_toArray, List.set_cons_zero, List.set_cons_succ]
              refine wpAnyH_take (i := 29) (oi := ⟨some 75, _, _, _, _, _⟩) (v := (.bool false)) rfl (by kernel_rfl) (by kernel_rfl) (by kernel_rfl) (fun _ _ _ h => h) (Or.inl ⟨by rfl, ?_⟩) hSw ?_
              · intro w' hSw'
                have c0 := hSw'.1.cell 0
                have k0 := hSw'.2.1.cell 0
                have c33 := row_in33 hSw'.2.2.1 HID.out
                have k33 := row_in33 hSw'.2.2.2.1 HID2.out
                have h1 := IsB.str hSw'.2.2.2.2.1 (P := Try.prog) (src := 28) (dst := 9) Try.underlying28 Try.underlying5 Try.underlying9
                have h2 := IsB.str hSw'.2.2.2.2.2.1 (P := Try.prog) (src := 28) (dst := 9) Try.underlying28 Try.underlying5 Try.underlying9
                simp only [List.getElem?_toArray, List.getElem?_cons_zero] at c0 k0
                go_simp
              simp only [Act.put, List.setIfInBounds_toArray, List.set_cons_zero, List.set_cons_succ]
              refine wpAnyH_take (i := 30) (oi := ⟨some 5, _, _, _, _, _⟩) (v := (.bool false)) rfl (by kernel_rfl) (by kernel_rfl) (by kernel_rfl) (fun _ _ _ h => h) (Or.inl ⟨by rfl, ?_⟩) hSw ?_
              · intro w' hSw'
                have c0 := hSw'.1.cell 0
                have k0 := hSw'.2.1.cell 0
                have c33 := row_in33 hSw'.2.2.1 HID.out
                have k33 := row_in33 hSw'.2.2.2.1 HID2.out
                have h1 := IsB.str hSw'.2.2.2.2.1 (P := Try.prog) (src := 28) (dst := 9) Try.underlying28 Try.underlying5 Try.underlying9
                have h2 := IsB.str hSw'.2.2.2.2.2.1 (P := Try.prog) (src := 28) (dst := 9) Try.underlying28 Try.underlying5 Try.underlying9
                simp only [List.getElem?_toArray, List.getElem?_cons_zero] at c0 k0
                go_simp
              simp only [Act.put, List.setIfInBounds_toArray, List.set_cons_zero, List.set_cons_succ]
              refine wpAnyH_done (by kernel_rfl) ?_ _
              go_wp2
              go_roundg (n - 1 - j)
              case measure => omega
              case rel => exact ⟨j + 1, false, by omega, rfl, by have := HN1.out; first | rfl | (rw [IntWalk.wrap64_in _ (by omega)]; rfl), HNEW, Lib.hid hSw.1, Lib.hid hSw.2.1, Lib.hid hSw.2.2.2.2.2.2⟩
            | true =>
              have HNEW := Lib.hid (show kk = decide (n = m ∧ n' = m' ∧ ins.take (j + 1) = ins2.take (j + 1)) by rw [← HNEW0.out, Bool.true_and])
              refine wp_region_held_drew (S := (fun w' => Blk w' g 25 #[.slice (some ⟨b, o, none⟩) n c, .slice A' n' c'] ∧ Blk w' (g + 1) 25 #[.slice (some ⟨b2, o2, none⟩) m d, .slice B' m' d'] ∧ RowAt w' b (o + j * 34) (inC id ix (.slice Ak nk ck)) ∧ RowAt w' b2 (o2 + j * 34) (inC id2 ix2 (.slice Bk mk dk)) ∧ IsB w' (fun _ => True) (.slice Ak nk ck) key ∧ IsB w' (fun _ => True) (.slice Bk mk dk) key2 ∧ Below w.heap.size w w')) (by kernel_rfl) (⟨HB.out.drew, HB2.out.drew, HROW.out, HROW2.out, IsB.weak HKB.out (fun _ _ _ => trivial), IsB.weak HKB2.out (fun _ _ _ => trivial), HBL.out.drew⟩) ?_
              intro hSw
              refine wpAnyH_take (i := 0) (oi := ⟨some 46, _, _, _, _, _⟩) (v := (.pointer (some ⟨g, 0, none⟩))) rfl (by kernel_rfl) (by kernel_rfl) (by kernel_rfl) (fun _ _ _ h => h) (Or.inl ⟨by rfl, ?_⟩) hSw ?_
              · intro w' hSw'
                have c0 := hSw'.1.cell 0
                have k0 := hSw'.2.1.cell 0
                have c33 := row_in33 hSw'.2.2.1 HID.out
                have k33 := row_in33 hSw'.2.2.2.1 HID2.out
                have h1 := IsB.str hSw'.2.2.2.2.1 (P := Try.prog) (src := 28) (dst := 9) Try.underlying28 Try.underlying5 Try.underlying9
                have h2 := IsB.str hSw'.2.2.2.2.2.1 (P := Try.prog) (src := 28) (dst := 9) Try.underlying28 Try.underlying5 Try.underlying9
                simp only [List.getElem?_toArray, List.getElem?_cons_zero] at c0 k0
                go_simp
              simp only [Act.put, List.setIfInBounds_toArray, List.set_cons_zero, List.set_cons_succ]
              refine wpAnyH_take (i := 1) (oi := ⟨some 47, _, _, _, _, _⟩) (v := (.slice (some ⟨b, o, none⟩) n c)) rfl (by kernel_rfl) (by kernel_rfl) (by kernel_rfl) (fun _ _ _ h => h) (Or.inl ⟨by rfl, ?_⟩) hSw ?_
              · intro w' hSw'
                have c0 := hSw'.1.cell 0
                have k0 := hSw'.2.1.cell 0
                have c33 := row_in33 hSw'.2.2.1 HID.out
                have k33 := row_in33 hSw'.2.2.2.1 HID2.out
                have h1 := IsB.str hSw'.2.2.2.2.1 (P := Try.prog) (src := 28) (dst := 9) Try.underlying28 Try.underlying5 Try.underlying9
                have h2 := IsB.str hSw'.2.2.2.2.2.1 (P := Try.prog) (src := 28) (dst := 9) Try.underlying28 Try.underlying5 Try.underlying9
                simp only [List.getElem?_toArray, List.getElem?_cons_zero] at c0 k0
                go_simp
              simp only [Act.put, List.setIfInBounds_toArray, List.set_cons_zero, List.set_cons_succ]
              refine wpAnyH_take (i := 2) (oi := ⟨some 48, _, _, _, _, _⟩) (v := (.int .i64 (j : Int))) rfl (by kernel_rfl) (by kernel_rfl) (by kernel_rfl) (fun _ _ _ h => h) (Or.inl ⟨by rfl, ?_⟩) hSw ?_
              · intro w' hSw'
                have c0 := hSw'.1.cell 0
                have k0 := hSw'.2.1.cell 0
                have c33 := row_in33 hSw'.2.2.1 HID.out
                have k33 := row_in33 hSw'.2.2.2.1 HID2.out
                have h1 := IsB.str hSw'.2.2.2.2.1 (P := Try.prog) (src := 28) (dst := 9) Try.underlying28 Try.underlying5 Try.underlying9
                have h2 := IsB.str hSw'.2.2.2.2.2.1 (P := Try.prog) (src := 28) (dst := 9) Try.underlying28 Try.underlying5 Try.underlying9
                simp only [List.getElem?_toArray, List.getElem?_cons_zero] at c0 k0
                go_simp
              simp only [Act.put, List.setIfInBounds_toArray, List.set_cons_zero, List.set_cons_succ]
              refine wpAnyH_take (i := 3) (oi := ⟨some 49, _, _, _, _, _⟩) (v := (.pointer (some ⟨b, o + j * 34, none⟩))) rfl (by kernel_rfl) (by kernel_rfl) (by kernel_rfl) (fun _ _ _ h => h) (Or.inl ⟨by rfl, ?_⟩) hSw ?_
              · intro w' hSw'
                have c0 := hSw'.1.cell 0
                have k0 := hSw'.2.1.cell 0
                have c33 := row_in33 hSw'.2.2.1 HID.out
                have k33 := row_in33 hSw'.2.2.2.1 HID2.out
                have h1 := IsB.str hSw'.2.2.2.2.1 (P := Try.prog) (src := 28) (dst := 9) Try.underlying28 Try.underlying5 Try.underlying9
                have h2 := IsB.str hSw'.2.2.2.2.2.1 (P := Try.prog) (src := 28) (dst := 9) Try.underlying28 Try.underlying5 Try.underlying9
                simp only [List.getElem?_toArray, List.getElem?_cons_zero] at c0 k0
                go_simp
              simp only [Act.put, List.setIfInBounds_toArray, List.set_cons_zero, List.set_cons_succ]
              refine wpAnyH_take (i := 4) (oi := ⟨some 50, _, _, _, _, _⟩) (v := (.pointer (some ⟨b, o + j * 34, none⟩))) rfl (by kernel_rfl) (by kernel_rfl) (by kernel_rfl) (fun _ _ _ h => h) (Or.inl ⟨by rfl, ?_⟩) hSw ?_
              · intro w' hSw'
                have c0 := hSw'.1.cell 0
                have k0 := hSw'.2.1.cell 0
                have c33 := row_in33 hSw'.2.2.1 HID.out
                have k33 := row_in33 hSw'.2.2.2.1 HID2.out
                have h1 := IsB.str hSw'.2.2.2.2.1 (P := Try.prog) (src := 28) (dst := 9) Try.underlying28 Try.underlying5 Try.underlying9
                have h2 := IsB.str hSw'.2.2.2.2.2.1 (P := Try.prog) (src := 28) (dst := 9) Try.underlying28 Try.underlying5 Try.underlying9
                simp only [List.getElem?_toArray, List.getElem?_cons_zero] at c0 k0
                go_simp
              simp only [Act.put, List.setIfInBounds_toArray, List.set_cons_zero, List.set_cons_succ]
              refine wpAnyH_take (i := 5) (oi := ⟨some 51, _, _, _, _, _⟩) (v := .agg (ptC id ix).toArray) rfl (by kernel_rfl) (by kernel_rfl) (by kernel_rfl) (fun _ _ _ h => h) (yieldsIf_load_mid (by rfl) _ _ rfl b (o + j * 34) rfl (ptC id ix) _ (fun _ h => row_pt h.2.2.1 HID.out) Try.underlying59 rfl (infoPt7 id ix HID.out)) hSw ?_
              simp only [Act.put, List.setIfInBounds_toArray, List.set_cons_zero, List.set_cons_succ]
              refine wpAnyH_take (i := 6) (oi := ⟨some 52, _, _, _, _, _⟩) (v := (.pointer (some ⟨g + 1, 0, none⟩))) rfl (by kernel_rfl) (by kernel_rfl) (by kernel_rfl) (fun _ _ _ h => h) (Or.inl ⟨by rfl, ?_⟩) hSw ?_
              · intro w' hSw'
                have c0 := hSw'.1.cell 0
                have k0 := hSw'.2.1.cell 0
                have c33 := row_in33 hSw'.2.2.1 HID.out
                have k33 := row_in33 hSw'.2.2.2.1 HID2.out
                have h1 := IsB.str hSw'.2.2.2.2.1 (P := Try.prog) (src := 28) (dst := 9) Try.underlying28 Try.underlying5 Try.underlying9
                have h2 := IsB.str hSw'.2.2.2.2.2.1 (P := Try.prog) (src := 28) (dst := 9) Try.underlying28 Try.underlying5 Try.underlying9
                simp only [List.getElem?_toArray, List.getElem?_cons_zero] at c0 k0
                go_simp
              simp only [Act.put, List.setIfInBounds_toArray, List.set_cons_zero, List.set_cons_succ]
              refine wpAnyH_take (i := 7) (oi := ⟨some 53, _, _, _, _, _⟩) (v := (.slice (some ⟨b2, o2, none⟩) m d)) rfl (by kernel_rfl) (by kernel_rfl) (by kernel_rfl) (fun _ _ _ h => h) (Or.inl ⟨by rfl, ?_⟩) hSw ?_
              · intro w' hSw'
                have c0 := hSw'.1.cell 0
                have k0 := hSw'.2.1.cell 0
                have c33 := row_in33 hSw'.2.2.1 HID.out
                have k33 := row_in33 hSw'.2.2.2.1 HID2.out
                have h1 := IsB.str hSw'.2.2.2.2.1 (P := Try.prog) (src := 28) (dst := 9) Try.underlying28 Try.underlying5 Try.underlying9
                have h2 := IsB.str hSw'.2.2.2.2.2.1 (P := Try.prog) (src := 28) (dst := 9) Try.underlying28 Try.underlying5 Try.underlying9
                simp only [List.getElem?_toArray, List.getElem?_cons_zero] at c0 k0
                go_simp
              simp only [Act.put, List.setIfInBounds_toArray, List.set_cons_zero, List.set_cons_succ]
              refine wpAnyH_take (i := 8) (oi := ⟨some 54, _, _, _, _, _⟩) (v := (.int .i64 (j : Int))) rfl (by kernel_rfl) (by kernel_rfl) (by kernel_rfl) (fun _ _ _ h => h) (Or.inl ⟨by rfl, ?_⟩) hSw ?_
              · intro w' hSw'
                have c0 := hSw'.1.cell 0
                have k0 := hSw'.2.1.cell 0
                have c33 := row_in33 hSw'.2.2.1 HID.out
                have k33 := row_in33 hSw'.2.2.2.1 HID2.out
                have h1 := IsB.str hSw'.2.2.2.2.1 (P := Try.prog) (src := 28) (dst := 9) Try.underlying28 Try.underlying5 Try.underlying9
                have h2 := IsB.str hSw'.2.2.2.2.2.1 (P := Try.prog) (src := 28) (dst := 9) Try.underlying28 Try.underlying5 Try.underlying9
                simp only [List.getElem?_toArray, List.getElem?_cons_zero] at c0 k0
                go_simp
              simp only [Act.put, List.setIfInBounds_toArray, List.set_cons_zero, List.set_cons_succ]
              refine wpAnyH_take (i := 9) (oi := ⟨some 55, _, _, _, _, _⟩) (v := (.pointer (some ⟨b2, o2 + j * 34, none⟩))) rfl (by kernel_rfl) (by kernel_rfl) (by kernel_rfl) (fun _ _ _ h => h) (Or.inl ⟨by rfl, ?_⟩) hSw ?_
              · intro w' hSw'
                have c0 := hSw'.1.cell 0
                have k0 := hSw'.2.1.cell 0
                have c33 := row_in33 hSw'.2.2.1 HID.out
                have k33 := row_in33 hSw'.2.2.2.1 HID2.out
                have h1 := IsB.str hSw'.2.2.2.2.1 (P := Try.prog) (src := 28) (dst := 9) Try.underlying28 Try.underlying5 Try.underlying9
                have h2 := IsB.str hSw'.2.2.2.2.2.1 (P := Try.prog) (src := 28) (dst := 9) Try.underlying28 Try.underlying5 Try.underlying9
                simp only [List.getElem?_toArray, List.getElem?_cons_zero] at c0 k0
                go_simp
              simp only [Act.put, List.setIfInBounds_toArray, List.set_cons_zero, List.set_cons_succ]
              refine wpAnyH_take (i := 10) (oi := ⟨some 56, _, _, _, _, _⟩) (v := (.pointer (some ⟨b2, o2 + j * 34, none⟩))) rfl (by kernel_rfl) (by kernel_rfl) (by kernel_rfl) (fun _ _ _ h => h) (Or.inl ⟨by rfl, ?_⟩) hSw ?_
              · intro w' hSw'
                have c0 := hSw'.1.cell 0
                have k0 := hSw'.2.1.cell 0
                have c33 := row_in33 hSw'.2.2.1 HID.out
                have k33 := row_in33 hSw'.2.2.2.1 HID2.out
                have h1 := IsB.str hSw'.2.2.2.2.1 (P := Try.prog) (src := 28) (dst := 9) Try.underlying28 Try.underlying5 Try.underlying9
                have h2 := IsB.str hSw'.2.2.2.2.2.1 (P := Try.prog) (src := 28) (dst := 9) Try.underlying28 Try.underlying5 Try.underlying9
                simp only [List.getElem?_toArray, List.getElem?_cons_zero] at c0 k0
                go_simp
              simp only [Act.put, List.setIfInBounds_toArray, List.set_cons_zero, List.set_cons_succ]
              refine wpAnyH_take (i := 11) (oi := ⟨some 57, _, _, _, _, _⟩) (v := .agg (ptC id2 ix2).toArray) rfl (by kernel_rfl) (by kernel_rfl) (by kernel_rfl) (fun _ _ _ h => h) (yieldsIf_load_mid (by rfl) _ _ rfl b2 (o2 + j * 34) rfl (ptC id2 ix2) _ (fun _ h => row_pt h.2.2.2.1 HID2.out) Try.underlying59 rfl (infoPt7 id2 ix2 HID2.out)) hSw ?_
              simp only [Act.put, List.setIfInBounds_toArray, List.set_cons_zero, List.set_cons_succ]
              refine wpAnyH_take (i := 12) (oi := ⟨some 58, _, _, _, _, _⟩) (v := (.bool true)) rfl (by kernel_rfl) (by kernel_rfl) (by kernel_rfl) (fun _ _ _ h => h) (Or.inl ⟨by rfl, ?_⟩) hSw ?_
              · intro w' hSw'
                have c0 := hSw'.1.cell 0
                have k0 := hSw'.2.1.cell 0
                have c33 := row_in33 hSw'.2.2.1 HID.out
                have k33 := row_in33 hSw'.2.2.2.1 HID2.out
                have h1 := IsB.str hSw'.2.2.2.2.1 (P := Try.prog) (src := 28) (dst := 9) Try.underlying28 Try.underlying5 Try.underlying9
                have h2 := IsB.str hSw'.2.2.2.2.2.1 (P := Try.prog) (src := 28) (dst := 9) Try.underlying28 Try.underlying5 Try.underlying9
                simp only [List.getElem?_toArray, List.getElem?_cons_zero] at c0 k0
                go_simp
              simp only [Act.put, List.setIfInBounds_toArray, List.set_cons_zero, List.set_cons_succ]
              refine wpAnyH_take (i := 13) (oi := ⟨some 59, _, _, _, _, _⟩) (v := (.bool true)) rfl (by kernel_rfl) (by kernel_rfl) (by kernel_rfl) (fun _ _ _ h => h) (Or.inl ⟨by rfl, ?_⟩) hSw ?_
              · intro w' hSw'
                have c0 := hSw'.1.cell 0
                have k0 := hSw'.2.1.cell 0
                have c33 := row_in33 hSw'.2.2.1 HID.out
                have k33 := row_in33 hSw'.2.2.2.1 HID2.out
                have h1 := IsB.str hSw'.2.2.2.2.1 (P := Try.prog) (src := 28) (dst := 9) Try.underlying28 Try.underlying5 Try.underlying9
                have h2 := IsB.str hSw'.2.2.2.2.2.1 (P := Try.prog) (src := 28) (dst := 9) Try.underlying28 Try.underlying5 Try.underlying9
                simp only [List.getElem?_toArray, List.getElem?_cons_zero] at c0 k0
                go_simp
              simp only [Act.put, List.setIfInBounds_toArray, List.set_cons_zero, List.set_cons_succ]
              refine wpAnyH_take (i := 14) (oi := ⟨some 60, _, _, _, _, _⟩) (v := (.pointer (some ⟨g, 0, none⟩))) rfl (by kernel_rfl) (by kernel_rfl) (by kernel_rfl) (fun _ _ _ h => h) (Or.inl ⟨by rfl, ?_⟩) hSw ?_
              · intro w' hSw'
                have c0 := hSw'.1.cell 0
                have k0 := hSw'.2.1.cell 0
                have c33 := row_in33 hSw'.2.2.1 HID.out
                have k33 := row_in33 hSw'.2.2.2.1 HID2.out
                have h1 := IsB.str hSw'.2.2.2.2.1 (P := Try.prog) (src := 28) (dst := 9) Try.underlying28 Try.underlying5 Try.underlying9
                have h2 := IsB.str hSw'.2.2.2.2.2.1 (P := Try.prog) (src := 28) (dst := 9) Try.underlying28 Try.underlying5 Try.underlying9
                simp only [List.getElem?_toArray, List.getElem?_cons_zero] at c0 k0
                go_simp
              simp only [Act.put, List.setIfInBounds_toArray, List.set_cons_zero, List.set_cons_succ]
              refine wpAnyH_take (i := 15) (oi := ⟨some 61, _, _, _, _, _⟩) (v := (.slice (some ⟨b, o, none⟩) n c)) rfl (by kernel_rfl) (by kernel_rfl) (by kernel_rfl) (fun _ _ _ h => h) (Or.inl ⟨by rfl, ?_⟩) hSw ?_
              · intro w' hSw'
                have c0 := hSw'.1.cell 0
                have k0 := hSw'.2.1.cell 0
                have c33 := row_in33 hSw'.2.2.1 HID.out
                have k33 := row_in33 hSw'.2.2.2.1 HID2.out
                have h1 := IsB.str hSw'.2.2.2.2.1 (P := Try.prog) (src := 28) (dst := 9) Try.underlying28 Try.underlying5 Try.underlying9
                have h2 := IsB.str hSw'.2.2.2.2.2.1 (P := Try.prog) (src := 28) (dst := 9) Try.underlying28 Try.underlying5 Try.underlying9
                simp only [List.getElem?_toArray, List.getElem?_cons_zero] at c0 k0
                go_simp
              simp only [Act.put, List.setIfInBounds_toArray, List.set_cons_zero, List.set_cons_succ]
              refine wpAnyH_take (i := 16) (oi := ⟨some 62, _, _, _, _, _⟩) (v := (.int .i64 (j : Int))) rfl (by kernel_rfl) (by kernel_rfl) (by kernel_rfl) (fun _ _ _ h => h) (Or.inl ⟨by rfl, ?_⟩) hSw ?_
              · intro w' hSw'
                have c0 := hSw'.1.cell 0
                have k0 := hSw'.2.1.cell 0
                have c33 := row_in33 hSw'.2.2.1 HID.out
                have k33 := row_in33 hSw'.2.2.2.1 HID2.out
                have h1 := IsB.str hSw'.2.2.2.2.1 (P := Try.prog) (src := 28) (dst := 9) Try.underlying28 Try.underlying5 Try.underlying9
                have h2 := IsB.str hSw'.2.2.2.2.2.1 (P := Try.prog) (src := 28) (dst := 9) Try.underlying28 Try.underlying5 Try.underlying9
                simp only [List.getElem?_toArray, List.getElem?_cons_zero] at c0 k0
                go_simp
              simp only [Act.put, List.setIfInBounds_toArray, List.set_cons_zero, List.set_cons_succ]
              refine wpAnyH_take (i := 17) (oi := ⟨some 63, _, _, _, _, _⟩) (v := (.pointer (some ⟨b, o + j * 34, none⟩))) rfl (by kernel_rfl) (by kernel_rfl) (by kernel_rfl) (fun _ _ _ h => h) (Or.inl ⟨by rfl, ?_⟩) hSw ?_
              · intro w' hSw'
                have c0 := hSw'.1.cell 0
                have k0 := hSw'.2.1.cell 0
                have c33 := row_in33 hSw'.2.2.1 HID.out
                have k33 := row_in33 hSw'.2.2.2.1 HID2.out
                have h1 := IsB.str hSw'.2.2.2.2.1 (P := Try.prog) (src := 28) (dst := 9) Try.underlying28 Try.underlying5 Try.underlying9
                have h2 := IsB.str hSw'.2.2.2.2.2.1 (P := Try.prog) (src := 28) (dst := 9) Try.underlying28 Try.underlying5 Try.underlying9
                simp only [List.getElem?_toArray, List.getElem?_cons_zero] at c0 k0
                go_simp
              simp only [Act.put, List.setIfInBounds_toArray, List.set_cons_zero, List.set_cons_succ]
              refine wpAnyH_take (i := 18) (oi := ⟨some 64, _, _, _, _, _⟩) (v := (.pointer (some ⟨b, o + j * 34 + 33, none⟩))) rfl (by kernel_rfl) (by kernel_rfl) (by kernel_rfl) (fun _ _ _ h => h) (Or.inl ⟨by rfl, ?_⟩) hSw ?_
              · intro w' hSw'
                have c0 := hSw'.1.cell 0
                have k0 := hSw'.2.1.cell 0
                have c33 := row_in33 hSw'.2.2.1 HID.out
                have k33 := row_in33 hSw'.2.2.2.1 HID2.out
                have h1 := IsB.str hSw'.2.2.2.2.1 (P := Try.prog) (src := 28) (dst := 9) Try.underlying28 Try.underlying5 Try.underlying9
                have h2 := IsB.str hSw'.2.2.2.2.2.1 (P := Try.prog) (src := 28) (dst := 9) Try.underlying28 Try.underlying5 Try.underlying9
                simp only [List.getElem?_toArray, List.getElem?_cons_zero] at c0 k0
                go_simp
              simp only [Act.put, List.setIfInBounds_toArray, List.set_cons_zero, List.set_cons_succ]
              refine wpAnyH_take (i := 19) (oi := ⟨some 65, _, _, _, _, _⟩) (v := (.slice Ak nk ck)) rfl (by kernel_rfl) (by kernel_rfl) (by kernel_rfl) (fun _ _ _ h => h) (Or.inl ⟨by rfl, ?_⟩) hSw ?_
              · intro w' hSw'
                have c0 := hSw'.1.cell 0
                have k0 := hSw'.2.1.cell 0
                have c33 := row_in33 hSw'.2.2.1 HID.out
                have k33 := row_in33 hSw'.2.2.2.1 HID2.out
                have h1 := IsB.str hSw'.2.2.2.2.1 (P := Try.prog) (src := 28) (dst := 9) Try.underlying28 Try.underlying5 Try.underlying9
                have h2 := IsB.str hSw'.2.2.2.2.2.1 (P := Try.prog) (src := 28) (dst := 9) Try.underlying28 Try.underlying5 Try.underlying9
                simp only [List.getElem?_toArray, List.getElem?_cons_zero] at c0 k0
                go_simp
              simp only [Act.put, List.setIfInBounds_toArray, List.set_cons_zero, List.set_cons_succ]
              refine wpAnyH_take (i := 20) (oi := ⟨some 66, _, _, _, _, _⟩) (v := (.string (bstr key))) rfl (by kernel_rfl) (by kernel_rfl) (by kernel_rfl) (fun _ _ _ h => h) (Or.inl ⟨by rfl, ?_⟩) hSw ?_
              · intro w' hSw'
                have c0 := hSw'.1.cell 0
                have k0 := hSw'.2.1.cell 0
                have c33 := row_in33 hSw'.2.2.1 HID.out
                have k33 := row_in33 hSw'.2.2.2.1 HID2.out
                have h1 := IsB.str hSw'.2.2.2.2.1 (P := Try.prog) (src := 28) (dst := 9) Try.underlying28 Try.underlying5 Try.underlying9
                have h2 := IsB.str hSw'.2.2.2.2.2.1 (P := Try.prog) (src := 28) (dst := 9) Try.underlying28 Try.underlying5 Try.underlying9
                simp only [List.getElem?_toArray, List.getElem?_cons_zero] at c0 k0
                go_simp
              simp only [Act.put, List.setIfInBounds_toArray, List.set_cons_zero, List.set_cons_succ]
              refine wpAnyH_take (i := 21) (oi := ⟨some 67, _, _, _, _, _⟩) (v := (.pointer (some ⟨g + 1, 0, none⟩))) rfl (by kernel_rfl) (by kernel_rfl) (by kernel_rfl) (fun _ _ _ h => h) (Or.inl ⟨by rfl, ?_⟩) hSw ?_
              · intro w' hSw'
                have c0 := hSw'.1.cell 0
                have k0 := hSw'.2.1.cell 0
                have c33 := row_in33 hSw'.2.2.1 HID.out
                have k33 := row_in33 hSw'.2.2.2.1 HID2.out
                have h1 := IsB.str hSw'.2.2.2.2.1 (P := Try.prog) (src := 28) (dst := 9) Try.underlying28 Try.underlying5 Try.underlying9
                have h2 := IsB.str hSw'.2.2.2.2.2.1 (P := Try.prog) (src := 28) (dst := 9) Try.underlying28 Try.underlying5 Try.underlying9
                simp only [List.getElem?_toArray, List.getElem?_cons_zero] at c0 k0
                go_simp
              simp only [Act.put, List.setIfInBounds_toArray, List.set_cons_zero, List.set_cons_succ]
              refine wpAnyH_take (i := 22) (oi := ⟨some 68, _, _, _, _, _⟩) (v := (.slice (some ⟨b2, o2, none⟩) m d)) rfl (by kernel_rfl) (by kernel_rfl) (by kernel_rfl) (fun _ _ _ h => h) (Or.inl ⟨by rfl, ?_⟩) hSw ?_
              · intro w' hSw'
                have c0 := hSw'.1.cell 0
                have k0 := hSw'.2.1.cell 0
                have c33 := row_in33 hSw'.2.2.1 HID.out
                have k33 := row_in33 hSw'.2.2.2.1 HID2.out
                have h1 := IsB.str hSw'.2.2.2.2.1 (P := Try.prog) (src := 28) (dst := 9) Try.underlying28 Try.underlying5 Try.underlying9
                have h2 := IsB.str hSw'.2.2.2.2.2.1 (P := Try.prog) (src := 28) (dst := 9) Try.underlying28 Try.underlying5 Try.underlying9
                simp only [List.getElem?_toArray, List.getElem?_cons_zero] at c0 k0
                go_simp
              simp only [Act.put, List.setIfInBounds_toArray, List.set_cons_zero, List.set_cons_succ]
              refine wpAnyH_take (i := 23) (oi := ⟨some 69, _, _, _, _, _⟩) (v := (.int .i64 (j : Int))) rfl (by kernel_rfl) (by kernel_rfl) (by kernel_rfl) (fun _ _ _ h => h) (Or.inl ⟨by rfl, ?_⟩) hSw ?_
              · intro w' hSw'
                have c0 := hSw'.1.cell 0
                have k0 := hSw'.2.1.cell 0
                have c33 := row_in33 hSw'.2.2.1 HID.out
                have k33 := row_in33 hSw'.2.2.2.1 HID2.out
                have h1 := IsB.str hSw'.2.2.2.2.1 (P := Try.prog) (src := 28) (dst := 9) Try.underlying28 Try.underlying5 Try.underlying9
                have h2 := IsB.str hSw'.2.2.2.2.2.1 (P := Try.prog) (src := 28) (dst := 9) Try.underlying28 Try.underlying5 Try.underlying9
                simp only [List.getElem?_toArray, List.getElem?_cons_zero] at c0 k0
                go_simp
              simp only [Act.put, List.setIfInBounds_toArray, List.set_cons_zero, List.set_cons_succ]
              refine wpAnyH_take (i := 24) (oi := ⟨some 70, _, _, _, _, _⟩) (v := (.pointer (some ⟨b2, o2 + j * 34, none⟩))) rfl (by kernel_rfl) (by kernel_rfl) (by kernel_rfl) (fun _ _ _ h => h) (Or.inl ⟨by rfl, ?_⟩) hSw ?_
              · intro w' hSw'
                have c0 := hSw'.1.cell 0
                have k0 := hSw'.2.1.cell 0
                have c33 := row_in33 hSw'.2.2.1 HID.out
                have k33 := row_in33 hSw'.2.2.2.1 HID2.out
                have h1 := IsB.str hSw'.2.2.2.2.1 (P := Try.prog) (src := 28) (dst := 9) Try.underlying28 Try.underlying5 Try.underlying9
                have h2 := IsB.str hSw'.2.2.2.2.2.1 (P := Try.prog) (src := 28) (dst := 9) Try.underlying28 Try.underlying5 Try.underlying9
                simp only [List.getElem?_toArray, List.getElem?_cons_zero] at c0 k0
                go_simp
              simp only [Act.put, List.setIfInBounds_toArray, List.set_cons_zero, List.set_cons_succ]
              refine wpAnyH_take (i := 25) (oi := ⟨some 71, _, _, _, _, _⟩) (v := (.pointer (some ⟨b2, o2 + j * 34 + 33, none⟩))) rfl (by kernel_rfl) (by kernel_rfl) (by kernel_rfl) (fun _ _ _ h => h) (Or.inl ⟨by rfl, ?_⟩) hSw ?_
              · intro w' hSw'
                have c0 := hSw'.1.cell 0
                have k0 := hSw'.2.1.cell 0
                have c33 := row_in33 hSw'.2.2.1 HID.out
                have k33 := row_in33 hSw'.2.2.2.1 HID2.out
                have h1 := IsB.str hSw'.2.2.2.2.1 (P := Try.prog) (src := 28) (dst := 9) Try.underlying28 Try.underlying5 Try.underlying9
                have h2 := IsB.str hSw'.2.2.2.2.2.1 (P := Try.prog) (src := 28) (dst := 9) Try.underlying28 Try.underlying5 Try.underlying9
                simp only [List.getElem?_toArray, List.getElem?_cons_zero] at c0 k0
                go_simp
              simp only [Act.put, List.setIfInBounds_toArray, List.set_cons_zero, List.set_cons_succ]
              refine wpAnyH_take (i := 26) (oi := ⟨some 72, _, _, _, _, _⟩) (v := (.slice Bk mk dk)) rfl (by kernel_rfl) (by kernel_rfl) (by kernel_rfl) (fun _ _ _ h => h) (Or.inl ⟨by rfl, ?_⟩) hSw ?_
              · intro w' hSw'
                have c0 := hSw'.1.cell 0
                have k0 := hSw'.2.1.cell 0
                have c33 := row_in33 hSw'.2.2.1 HID.out
                have k33 := row_in33 hSw'.2.2.2.1 HID2.out
                have h1 := IsB.str hSw'.2.2.2.2.1 (P := Try.prog) (src := 28) (dst := 9) Try.underlying28 Try.underlying5 Try.underlying9
                have h2 := IsB.str hSw'.2.2.2.2.2.1 (P := Try.prog) (src := 28) (dst := 9) Try.underlying28 Try.underlying5 Try.underlying9
                simp only [List.getElem?_toArray, List.getElem?_cons_zero] at c0 k0
                go_simp
              simp only [Act.put, List.setIfInBounds_toArray, List.set_cons_zero, List.set_cons_succ]
              refine wpAnyH_take (i := 27) (oi := ⟨some 73, _, _, _, _, _⟩) (v := (.string (bstr key2))) rfl (by kernel_rfl) (by kernel_rfl) (by kernel_rfl) (fun _ _ _ h => h) (Or.inl ⟨by rfl, ?_⟩) hSw ?_
              · intro w' hSw'
                have c0 := hSw'.1.cell 0
                have k0 := hSw'.2.1.cell 0
                have c33 := row_in33 hSw'.2.2.1 HID.out
                have k33 := row_in33 hSw'.2.2.2.1 HID2.out
                have h1 := IsB.str hSw'.2.2.2.2.1 (P := Try.prog) (src := 28) (dst := 9) Try.underlying28 Try.underlying5 Try.underlying9
                have h2 := IsB.str hSw'.2.2.2.2.2.1 (P := Try.prog) (src := 28) (dst := 9) Try.underlying28 Try.underlying5 Try.underlying9
                simp only [List.getElem?_toArray, List.getElem?_cons_zero] at c0 k0
                go_simp
              simp only [Act.put, List.setIfInBounds_toArray, List.set_cons_zero, List.set_cons_succ]
              refine wpAnyH_take (i := 28) (oi := ⟨some 74, _, _, _, _, _⟩) (v := (.bool kk)) rfl (by kernel_rfl) (by kernel_rfl) (by kernel_rfl) (fun _ _ _ h => h) (Or.inl ⟨by rfl, ?_⟩) hSw ?_
              · intro w' hSw'
                have c0 := hSw'.1.cell 0
                have k0 := hSw'.2.1.cell 0
                have c33 := row_in33 hSw'.2.2.1 HID.out
                have k33 := row_in33 hSw'.2.2.2.1 HID2.out
                have h1 := IsB.str hSw'.2.2.2.2.1 (P := Try.prog) (src := 28) (dst := 9) Try.underlying28 Try.underlying5 Try.underlying9
                have h2 := IsB.str hSw'.2.2.2.2.2.1 (P := Try.prog) (src := 28) (dst := 9) Try.underlying28 Try.underlying5 Try.underlying9
                simp only [List.getElem?_toArray, List.getElem?_cons_zero] at c0 k0
                go_simp
              simp only [Act.put, List.setIfInBounds_toArray, List.set_cons_zero, List.set_cons_succ]
              refine wpAnyH_take (i := 29) (oi := ⟨some 75, _, _, _, _, _⟩) (v := (.bool kk)) rfl (by kernel_rfl) (by kernel_rfl) (by kernel_rfl) (fun _ _ _ h => h) (Or.inl ⟨by rfl, ?_⟩) hSw ?_
              · intro w' hSw'
                have c0 := hSw'.1.cell 0
                have k0 := hSw'.2.1.cell 0
                have c33 := row_in33 hSw'.2.2.1 HID.out
                have k33 := row_in33 hSw'.2.2.2.1 HID2.out
                have h1 := IsB.str hSw'.2.2.2.2.1 (P := Try.prog) (src := 28) (dst := 9) Try.underlying28 Try.underlying5 Try.underlying9
                have h2 := IsB.str hSw'.2.2.2.2.2.1 (P := Try.prog) (src := 28) (dst := 9) Try.underlying28 Try.underlying5 Try.underlying9
                simp only [List.getElem?_toArray, List.getElem?_cons_zero] at c0 k0
                go_simp
              simp only [Act.put, List.setIfInBounds_toArray, List.set_cons_zero, List.set_cons_succ]
              refine wpAnyH_take (i := 30) (oi := ⟨some 5, _, _, _, _, _⟩) (v := (.bool kk)) rfl (by kernel_rfl) (by kernel_rfl) (by kernel_rfl) (fun _ _ _ h => h) (Or.inl ⟨by rfl, ?_⟩) hSw ?_
              · intro w' hSw'
                have c0 := hSw'.1.cell 0
                have k0 := hSw'.2.1.cell 0
                have c33 := row_in33 hSw'.2.2.1 HID.out
                have k33 := row_in33 hSw'.2.2.2.1 HID2.out
                have h1 := IsB.str hSw'.2.2.2.2.1 (P := Try.prog) (src := 28) (dst := 9) Try.underlying28 Try.underlying5 Try.underlying9
                have h2 := IsB.str hSw'.2.2.2.2.2.1 (P := Try.prog) (src := 28) (dst := 9) Try.underlying28 Try.underlying5 Try.underlying9
                simp only [List.getElem?_toArray, List.getElem?_cons_zero] at c0 k0
                go_simp
              simp only [Act.put, List.setIfInBounds_toArray, List.set_cons_zero, List.set_cons_succ]
              refine wpAnyH_done (by kernel_rfl) ?_ _
              go_wp2
              go_roundg (n - 1 - j)
              case measure => omega
              case rel => exact ⟨j + 1, kk, by omega, rfl, by have := HN1.out; first | rfl | (rw [IntWalk.wrap64_in _ (by omega)]; rfl), HNEW, Lib.hid hSw.1, Lib.hid hSw.2.1, Lib.hid hSw.2.2.2.2.2.2⟩
          · obtain rfl : j = n := by omega
            have HQ := Lib.hid (show true = decide (j = m ∧ n' = m' ∧ ins = ins2) by
              symm
              rw [decide_eq_true_iff]
              refine ⟨hall.1, hall.2.1, ?_⟩
              have h := hall.2.2
              rwa [List.take_of_length_le (by rw [HN.out]; exact Nat.le_refl _), List.take_of_length_le (by rw [HM.out]; omega)] at h)
            clear hall HAL
            go_wp2
            go_meet
            exact ⟨true, rfl, HQ, HB, HB2, HBL⟩
    case rest =>
      clear HB HB2 HBL HAL
      obtain ⟨al1, rfl, HAL, HB, HB2, HBL⟩ := hcut
      go_upto_block 2 with fail
      go_cut [5] (fun v5 wc => ∃ al : Bool, v5 = .bool al ∧ Hid (al = decide (n = m ∧ n' = m' ∧ ins = ins2 ∧ outs = outs2)) ∧ Hid (Blk wc g 25 #[.slice A n c, .slice A' n' c']) ∧ Hid (Blk wc (g + 1) 25 #[.slice B m d, .slice B' m' d']) ∧ Hid (Below w.heap.size w wc))
      · go_wp2_with fail
        go_loopg [5, 7] n' (fun q v5 v7 wr => ∃ (j : Nat) (al : Bool), j + q = n' ∧ v5 = .bool al ∧ v7 = .int .i64 j ∧ Hid (al = decide (n = m ∧ n' = m' ∧ ins = ins2 ∧ outs.take j = outs2.take j)) ∧ Hid (Blk wr g 25 #[.slice A n c, .slice A' n' c']) ∧ Hid (Blk wr (g + 1) 25 #[.slice B m d, .slice B' m' d']) ∧ Hid (Below w.heap.size w wr))
        case atStart => exact ⟨0, al1, by omega, rfl, rfl, by have := HAL.out; simp only [Hid, List.take_zero, and_true]; exact this, HB, HB2, HBL⟩
        case round =>
          clear HB HB2 HBL HAL
          obtain ⟨j, al, hj, rfl, rfl, HAL, HB, HB2, HBL⟩ := hrel
          cases al with
          | false =>
            have HQ := Lib.hid (show false = decide (n = m ∧ n' = m' ∧ ins = ins2 ∧ outs = outs2) by
              have h := HAL.out
              symm at h
              rw [decide_eq_false_iff_not] at h
              symm
              rw [decide_eq_false_iff_not]
              rintro ⟨e1, e2, e3, e4⟩
              exact h ⟨e1, e2, e3, by rw [e4]⟩)
            go_wp2
            go_meet
            exact ⟨false, rfl, HQ, HB, HB2, HBL⟩
          | true =>
            have hall := HAL.out
            symm at hall
            rw [decide_eq_true_iff] at hall
            have c0 := HB.out.cell 1
            simp only [List.getElem?_toArray, List.getElem?_cons_zero, List.getElem?_cons_succ] at c0
            by_cases hlt : j < n'
            · obtain ⟨b, o, amt, lock, rfl, hb, hij, hrow, hid, hamt1, hamt2⟩ := outs_at (OUTS.out _ HBL.out) (by rw [HN'.out]; exact hlt)
              obtain ⟨b2, o2, amt2, lock2, rfl, hb2, hij2, hrow2, hid2, hamt3, hamt4⟩ := outs_at (j := j) (OUTS2.out _ HBL.out) (by rw [HM'.out]; omega)
              have hlt2 : j < m' := by omega
              have HROW := Lib.hid hrow
              have HROW2 := Lib.hid hrow2
              have HID := Lib.hid hid
              have HID2 := Lib.hid hid2
              have hstep : (outs.take (j + 1) = outs2.take (j + 1)) ↔ (amt = amt2 ∧ lock = lock2) := by
                rw [take_snoc' outs j (by rw [HN'.out]; exact hlt), take_snoc' outs2 j (by rw [HM'.out]; exact hlt2), hall.2.2.2, hij, hij2]
                simp
              obtain ⟨ee, hee⟩ : ∃ ee, decide (amt = amt2 ∧ lock = lock2) = ee := ⟨_, rfl⟩
              have hnew : ee = decide (n = m ∧ n' = m' ∧ ins = ins2 ∧ outs.take (j + 1) = outs2.take (j + 1)) := by
                rw [Bool.eq_iff_iff, decide_eq_true_iff, hstep, ← hee]
                simp [hall.1, hall.2.1, hall.2.2.1]
              have heqA : ∀ w', (Op.equalIn 10000 63 (.agg (outC amt lock).toArray) (.agg (outC amt2 lock2).toArray)).run Try.prog w' = .ok ee w' := fun w' => by rw [← hee]; exact run_eq_out amt amt2 lock lock2 hid hid2 hamt1 hamt2 hamt3 hamt4 w' 9997
              have HNEW := Lib.hid hnew
              have hjm := hlt2
              clear hnew hstep hee hij hij2 hrow hrow2 hid hid2 hamt1 hamt2 hamt3 hamt4 hb hb2 hall HAL hlt2
              go_wp2
              clear c0
              refine wp_region_held_drew (S := (fun w' => Blk w' g 25 #[.slice A n c, .slice (some ⟨b, o, none⟩) n' c'] ∧ Blk w' (g + 1) 25 #[.slice B m d, .slice (some ⟨b2, o2, none⟩) m' d'] ∧ RowAt w' b (o + j * 33) (outC amt lock) ∧ RowAt w' b2 (o2 + j * 33) (outC amt2 lock2) ∧ Below w.heap.size w w')) (by kernel_rfl) (⟨HB.out.drew, HB2.out.drew, HROW.out, HROW2.out, HBL.out.drew⟩) ?_
              intro hSw
              refine wpAnyH_take (i := 0) (oi := ⟨some 86, _, _, _, _, _⟩) (v := (.pointer (some ⟨g, 1, none⟩))) rfl (by kernel_rfl) (by kernel_rfl) (by kernel_rfl) (fun _ _ _ h => h) (Or.inl ⟨by rfl, ?_⟩) hSw ?_
              · intro w' hSw'
                have c1 := hSw'.1.cell 1
                have k1 := hSw'.2.1.cell 1
                simp only [List.getElem?_toArray, List.getElem?_cons_zero, List.getElem?_cons_succ] at c1 k1
                go_simp
              simp only [Act.put, List.setIfInBounds_toArray, List.set_cons_zero, List.set_cons_succ]
              refine wpAnyH_take (i := 1) (oi := ⟨some 87, _, _, _, _, _⟩) (v := (.slice (some ⟨b, o, none⟩) n' c')) rfl (by kernel_rfl) (by kernel_rfl) (by kernel_rfl) (fun _ _ _ h => h) (Or.inl ⟨by rfl, ?_⟩) hSw ?_
              · intro w' hSw'
                have c1 := hSw'.1.cell 1
                have k1 := hSw'.2.1.cell 1
                simp only [List.getElem?_toArray, List.getElem?_cons_zero, List.getElem?_cons_succ] at c1 k1
                go_simp
              simp only [Act.put, List.setIfInBounds_toArray, List.set_cons_zero, List.set_cons_succ]
              refine wpAnyH_take (i := 2) (oi := ⟨some 88, _, _, _, _, _⟩) (v := (.int .i64 (j : Int))) rfl (by kernel_rfl) (by kernel_rfl) (by kernel_rfl) (fun _ _ _ h => h) (Or.inl ⟨by rfl, ?_⟩) hSw ?_
              · intro w' hSw'
                have c1 := hSw'.1.cell 1
                have k1 := hSw'.2.1.cell 1
                simp only [List.getElem?_toArray, List.getElem?_cons_zero, List.getElem?_cons_succ] at c1 k1
                go_simp
              simp only [Act.put, List.setIfInBounds_toArray, List.set_cons_zero, List.set_cons_succ]
              refine wpAnyH_take (i := 3) (oi := ⟨some 89, _, _, _, _, _⟩) (v := (.pointer (some ⟨b, o + j * 33, none⟩))) rfl (by kernel_rfl) (by kernel_rfl) (by kernel_rfl) (fun _ _ _ h => h) (Or.inl ⟨by rfl, ?_⟩) hSw ?_
              · intro w' hSw'
                have c1 := hSw'.1.cell 1
                have k1 := hSw'.2.1.cell 1
                simp only [List.getElem?_toArray, List.getElem?_cons_zero, List.getElem?_cons_succ] at c1 k1
                go_simp
              simp only [Act.put, List.setIfInBounds_toArray, List.set_cons_zero, List.set_cons_succ]
              refine wpAnyH_take (i := 4) (oi := ⟨some 90, _, _, _, _, _⟩) (v := .agg (outC amt lock).toArray) rfl (by kernel_rfl) (by kernel_rfl) (by kernel_rfl) (fun _ _ _ h => h) (yieldsIf_load_mid (by rfl) _ _ rfl b (o + j * 33) rfl (outC amt lock) _ (fun _ h => h.2.2.1) Try.underlying63 rfl (infoOut7 amt lock HID.out)) hSw ?_
              simp only [Act.put, List.setIfInBounds_toArray, List.set_cons_zero, List.set_cons_succ]
              refine wpAnyH_take (i := 5) (oi := ⟨some 91, _, _, _, _, _⟩) (v := (.pointer (some ⟨g + 1, 1, none⟩))) rfl (by kernel_rfl) (by kernel_rfl) (by kernel_rfl) (fun _ _ _ h => h) (Or.inl ⟨by rfl, ?_⟩) hSw ?_
              · intro w' hSw'
                have c1 := hSw'.1.cell 1
                have k1 := hSw'.2.1.cell 1
                simp only [List.getElem?_toArray, List.getElem?_cons_zero, List.getElem?_cons_succ] at c1 k1
                go_simp
              simp only [Act.put, List.setIfInBounds_toArray, List.set_cons_zero, List.set_cons_succ]
              refine wpAnyH_take (i := 6) (oi := ⟨some 92, _, _, _, _, _⟩) (v := (.slice (some ⟨b2, o2, none⟩) m' d')) rfl (by kernel_rfl) (by kernel_rfl) (by kernel_rfl) (fun _ _ _ h => h) (Or.inl ⟨by rfl, ?_⟩) hSw ?_
              · intro w' hSw'
                have c1 := hSw'.1.cell 1
                have k1 := hSw'.2.1.cell 1
                simp only [List.getElem?_toArray, List.getElem?_cons_zero, List.getElem?_cons_succ] at c1 k1
                go_simp
              simp only [Act.put, List.setIfInBounds_toArray, List.set_cons_zero, List.set_cons_succ]
              refine wpAnyH_take (i := 7) (oi := ⟨some 93, _, _, _, _, _⟩) (v := (.int .i64 (j : Int))) rfl (by kernel_rfl) (by kernel_rfl) (by kernel_rfl) (fun _ _ _ h => h) (Or.inl ⟨by rfl, ?_⟩) hSw ?_
              · intro w' hSw'
                have c1 := hSw'.1.cell 1
                have k1 := hSw'.2.1.cell 1
                simp only [List.getElem?_toArray, List.getElem?_cons_zero, List.getElem?_cons_succ] at c1 k1
                go_simp
              simp only [Act.put, List.setIfInBounds_toArray, List.set_cons_zero, List.set_cons_succ]
              refine wpAnyH_take (i := 8) (oi := ⟨some 94, _, _, _, _, _⟩) (v := (.pointer (some ⟨b2, o2 + j * 33, none⟩))) rfl (by kernel_rfl) (by kernel_rfl) (by kernel_rfl) (fun _ _ _ h => h) (Or.inl ⟨by rfl, ?_⟩) hSw ?_
              · intro w' hSw'
                have c1 := hSw'.1.cell 1
                have k1 := hSw'.2.1.cell 1
                simp only [List.getElem?_toArray, List.getElem?_cons_zero, List.getElem?_cons_succ] at c1 k1
                go_simp
              simp only [Act.put, List.setIfInBounds_toArray, List.set_cons_zero, List.set_cons_succ]
              refine wpAnyH_take (i := 9) (oi := ⟨some 95, _, _, _, _, _⟩) (v := .agg (outC amt2 lock2).toArray) rfl (by kernel_rfl) (by kernel_rfl) (by kernel_rfl) (fun _ _ _ h => h) (yieldsIf_load_mid (by rfl) _ _ rfl b2 (o2 + j * 33) rfl (outC amt2 lock2) _ (fun _ h => h.2.2.2.1) Try.underlying63 rfl (infoOut7 amt2 lock2 HID2.out)) hSw ?_
              simp only [Act.put, List.setIfInBounds_toArray, List.set_cons_zero, List.set_cons_succ]
              refine wpAnyH_take (i := 10) (oi := ⟨some 96, _, _, _, _, _⟩) (v := (.bool ee)) rfl (by kernel_rfl) (by kernel_rfl) (by kernel_rfl) (fun _ _ _ h => h) (Or.inl ⟨by rfl, ?_⟩) hSw ?_
              · intro w' hSw'
                have c1 := hSw'.1.cell 1
                have k1 := hSw'.2.1.cell 1
                simp only [List.getElem?_toArray, List.getElem?_cons_zero, List.getElem?_cons_succ] at c1 k1
                go_simp
              simp only [Act.put, List.setIfInBounds_toArray, List.set_cons_zero, List.set_cons_succ]
              refine wpAnyH_take (i := 11) (oi := ⟨some 5, _, _, _, _, _⟩) (v := (.bool ee)) rfl (by kernel_rfl) (by kernel_rfl) (by kernel_rfl) (fun _ _ _ h => h) (Or.inl ⟨by rfl, ?_⟩) hSw ?_
              · intro w' hSw'
                have c1 := hSw'.1.cell 1
                have k1 := hSw'.2.1.cell 1
                simp only [List.getElem?_toArray, List.getElem?_cons_zero, List.getElem?_cons_succ] at c1 k1
                go_simp
              simp only [Act.put, List.setIfInBounds_toArray, List.set_cons_zero, List.set_cons_succ]
              refine wpAnyH_done (by kernel_rfl) ?_ _
              go_wp2
              go_roundg (n' - 1 - j)
              case measure => omega
              case rel => exact ⟨j + 1, ee, by omega, rfl, by have := HN1'.out; first | rfl | (rw [IntWalk.wrap64_in _ (by omega)]; rfl), HNEW, Lib.hid hSw.1, Lib.hid hSw.2.1, Lib.hid hSw.2.2.2.2⟩
            · obtain rfl : j = n' := by omega
              have HQ := Lib.hid (show true = decide (n = m ∧ j = m' ∧ ins = ins2 ∧ outs = outs2) by
                symm
                rw [decide_eq_true_iff]
                refine ⟨hall.1, hall.2.1, hall.2.2.1, ?_⟩
                have h := hall.2.2.2
                rwa [List.take_of_length_le (by rw [HN'.out]; exact Nat.le_refl _), List.take_of_length_le (by rw [HM'.out]; omega)] at h)
              clear hall HAL
              go_wp2
              go_meet
              exact ⟨true, rfl, HQ, HB, HB2, HBL⟩
      case rest =>
        clear HB HB2 HBL HAL
        obtain ⟨al, rfl, HAL, HB, HB2, HBL⟩ := hcut
        have hxy : (txB (ins, outs, ()) == txB (ins2, outs2, ())) = al := by
          rw [HAL.out, Bool.eq_iff_iff, decide_eq_true_iff, beq_iff_eq]
          constructor
          · intro e
            have e2 := txB_inj HTO.out HTO2.out HF.out HF2.out e
            injection e2 with e3 e4
            injection e4 with e5 _
            exact ⟨by rw [← HN.out, ← HM.out, e3], by rw [← HN'.out, ← HM'.out, e5], e3, e5⟩
          · rintro ⟨_, _, e3, e4⟩; rw [e3, e4]
        have BY := Lib.hid (fun W (a : Below w.heap.size w W) => tx_bytes_any W A A' n n' c c' ins outs _ (INS.out _ a) (OUTS.out _ a) HN.out HN'.out (fun b hb => by have := a.size; omega) HF.out)
        have BY2 := Lib.hid (fun W (a : Below w.heap.size w W) => tx_bytes_any W B B' m m' d d' ins2 outs2 _ (INS2.out _ a) (OUTS2.out _ a) HM.out HM'.out (fun b hb => by have := a.size; omega) HF2.out)
        have ID := Lib.hid (fun W (a : Below w.heap.size w W) => tx_id_any W A A' n n' c c' ins outs _ (INS.out _ a) (OUTS.out _ a) HN.out HN'.out (fun b hb => by have := a.size; omega) HF.out)
        have ID2 := Lib.hid (fun W (a : Below w.heap.size w W) => tx_id_any W B B' m m' d d' ins2 outs2 _ (INS2.out _ a) (OUTS2.out _ a) HM.out HM'.out (fun b hb => by have := a.size; omega) HF2.out)
        obtain ⟨X, hX⟩ : ∃ X, txB (ins, outs, ()) = X := ⟨_, rfl⟩
        obtain ⟨Y, hY⟩ : ∃ Y, txB (ins2, outs2, ()) = Y := ⟨_, rfl⟩
        rw [hX, hY] at hxy
        simp only [hX] at BY ID
        simp only [hY] at BY2 ID2
        have HXY := Lib.hid hxy
        clear hX hY hxy HAL
        go_upto_region 14 with fail
        refine wp_region_held_drew (S := (fun w' => Blk w' g 25 #[.slice A n c, .slice A' n' c'] ∧ Blk w' (g + 1) 25 #[.slice B m d, .slice B' m' d'] ∧ Below w.heap.size w w')) (by kernel_rfl) (⟨HB.out.drew, HB2.out.drew, HBL.out.drew⟩) ?_
        intro hSw
        refine wpAnyH_take (i := 0) (oi := ⟨some 97, _, _, _, _, _⟩) (v := (.agg #[.slice A n c, .slice A' n' c'])) rfl (by kernel_rfl) (by kernel_rfl) (by kernel_rfl) (fun _ _ _ h => h) (Or.inl ⟨by rfl, ?_⟩) hSw ?_
        · intro w' hSw'
          have c0 := hSw'.1.cell 0
          have c1 := hSw'.1.cell 1
          have k0 := hSw'.2.1.cell 0
          have k1 := hSw'.2.1.cell 1
          simp only [List.getElem?_toArray, List.getElem?_cons_zero, List.getElem?_cons_succ] at c0 c1 k0 k1
          go_simp
        simp only [Act.put, List.setIfInBounds_toArray, List.set_cons_zero, List.set_cons_succ]
        refine wpAnyH_take (i := 2) (oi := ⟨some 99, _, _, _, _, _⟩) (v := (.agg #[.slice B m d, .slice B' m' d'])) rfl (by kernel_rfl) (by kernel_rfl) (by kernel_rfl) (fun _ _ _ h => h) (Or.inl ⟨by rfl, ?_⟩) hSw ?_
        · intro w' hSw'
          have c0 := hSw'.1.cell 0
          have c1 := hSw'.1.cell 1
          have k0 := hSw'.2.1.cell 0
          have k1 := hSw'.2.1.cell 1
          simp only [List.getElem?_toArray, List.getElem?_cons_zero, List.getElem?_cons_succ] at c0 c1 k0 k1
          go_simp
        simp only [Act.put, List.setIfInBounds_toArray, List.set_cons_zero, List.set_cons_succ]
        refine wpAnyH_ready (rs := [1]) (by kernel_rfl) (by simp) (AllReadyH.cons (o := ⟨some 98, _, _, _, _, _⟩) rfl (fun K hK => ?_) AllReadyH.nil)
        go_simp
        go_at_call 13
        refine (BY.out _ hSw.2.2).mono ?_
        rintro e11 w11 ⟨X1, nx, cx, rfl, hnx, a11, o11⟩
        have HX := Lib.hid (IsB.weak (IsB.of_own o11) (ok' := fun _ => True) (fun _ _ _ => trivial))
        clear o11 hnx
        dsimp only
        refine hK.out _ _ (⟨hSw.1.below a11 hSw.1.lt, hSw.2.1.below a11 hSw.2.1.lt, hSw.2.2.trans (a11.mono hSw.2.2.size)⟩) ?_
        intro hSw
        clear hK K
        try simp only [Act.put, List.setIfInBounds_toArray, List.set_cons_zero, List.set_cons_succ]
        refine wpAnyH_ready (rs := [3]) (by kernel_rfl) (by simp) (AllReadyH.cons (o := ⟨some 100, _, _, _, _, _⟩) rfl (fun K hK => ?_) AllReadyH.nil)
        go_simp
        go_at_call 13
        refine (BY2.out _ hSw.2.2).mono ?_
        rintro e12 w12 ⟨Y1, ny, cy, rfl, hny, a12, o12⟩
        replace HX := Lib.hid (IsB.only HX.out (Only.of_below a12) (fun b hb _ hk => by omega))
        have HY := Lib.hid (IsB.weak (IsB.of_own o12) (ok' := fun _ => True) (fun _ _ _ => trivial))
        clear o12 hny
        dsimp only
        refine hK.out _ _ (⟨hSw.1.below a12 hSw.1.lt, hSw.2.1.below a12 hSw.2.1.lt, hSw.2.2.trans (a12.mono hSw.2.2.size)⟩) ?_
        intro hSw
        clear hK K
        try simp only [Act.put, List.setIfInBounds_toArray, List.set_cons_zero, List.set_cons_succ]
        refine wpAnyH_take (i := 4) (oi := ⟨some 8, _, _, _, _, _⟩) (v := (.slice X1 nx cx)) rfl (by kernel_rfl) (by kernel_rfl) (by kernel_rfl) (fun _ _ _ h => h) (Or.inl ⟨by rfl, ?_⟩) hSw ?_
        · intro w' hSw'
          have c0 := hSw'.1.cell 0
          have c1 := hSw'.1.cell 1
          have k0 := hSw'.2.1.cell 0
          have k1 := hSw'.2.1.cell 1
          simp only [List.getElem?_toArray, List.getElem?_cons_zero, List.getElem?_cons_succ] at c0 c1 k0 k1
          go_simp
        simp only [Act.put, List.setIfInBounds_toArray, List.set_cons_zero, List.set_cons_succ]
        refine wpAnyH_take (i := 5) (oi := ⟨some 9, _, _, _, _, _⟩) (v := (.slice Y1 ny cy)) rfl (by kernel_rfl) (by kernel_rfl) (by kernel_rfl) (fun _ _ _ h => h) (Or.inl ⟨by rfl, ?_⟩) hSw ?_
        · intro w' hSw'
          have c0 := hSw'.1.cell 0
          have c1 := hSw'.1.cell 1
          have k0 := hSw'.2.1.cell 0
          have k1 := hSw'.2.1.cell 1
          simp only [List.getElem?_toArray, List.getElem?_cons_zero, List.getElem?_cons_succ] at c0 c1 k0 k1
          go_simp
        simp only [Act.put, List.setIfInBounds_toArray, List.set_cons_zero, List.set_cons_succ]
        refine wpAnyH_done (by kernel_rfl) ?_ _
        clear BY BY2
        go_upto_region 15 with fail
        cases al with
        | true =>
          have hxy := HXY.out
          have hXY := eq_of_beq hxy
          have hR32 : (sha2 X).length = 32 := sha2_len _
          rw [← hXY] at ID2
          obtain ⟨R, hR⟩ : ∃ R, sha2 X = R := ⟨_, rfl⟩
          rw [hR] at ID ID2 hR32
          unfold idV at ID ID2
          have heqA : ∀ w', (Op.equalIn 10000 32 (.agg (bts R).toArray) (.agg (bts R).toArray)).run Try.prog w' = .ok true w' := fun w' => by rw [run_eq_id R R hR32 hR32 w']; simp
          clear hR hR32 hXY
          refine wp_region_held_drew (S := (fun w' => Blk w' g 25 #[.slice A n c, .slice A' n' c'] ∧ Blk w' (g + 1) 25 #[.slice B m d, .slice B' m' d'] ∧ IsB w' (fun _ => True) (.slice X1 nx cx) X ∧ IsB w' (fun _ => True) (.slice Y1 ny cy) Y ∧ Below w.heap.size w w')) (by kernel_rfl) (⟨hSw.1.drew, hSw.2.1.drew, HX.out, HY.out, hSw.2.2.drew⟩) ?_
          intro hSw
          refine wpAnyH_take (i := 0) (oi := ⟨some 101, _, _, _, _, _⟩) (v := (.bool true)) rfl (by kernel_rfl) (by kernel_rfl) (by kernel_rfl) (fun _ _ _ h => h) (Or.inl ⟨by rfl, ?_⟩) hSw ?_
          · intro w' hSw'
            have c0 := hSw'.1.cell 0
            have c1 := hSw'.1.cell 1
            have k0 := hSw'.2.1.cell 0
            have k1 := hSw'.2.1.cell 1
            have h1 := IsB.str hSw'.2.2.1 (P := Try.prog) (src := 28) (dst := 9) Try.underlying28 Try.underlying5 Try.underlying9
            have h2 := IsB.str hSw'.2.2.2.1 (P := Try.prog) (src := 28) (dst := 9) Try.underlying28 Try.underlying5 Try.underlying9
            simp only [List.getElem?_toArray, List.getElem?_cons_zero, List.getElem?_cons_succ] at c0 c1 k0 k1
            go_simp
          simp only [Act.put, List.setIfInBounds_toArray, List.set_cons_zero, List.set_cons_succ]
          refine wpAnyH_take (i := 1) (oi := ⟨some 102, _, _, _, _, _⟩) (v := (.slice X1 nx cx)) rfl (by kernel_rfl) (by kernel_rfl) (by kernel_rfl) (fun _ _ _ h => h) (Or.inl ⟨by rfl, ?_⟩) hSw ?_
          · intro w' hSw'
            have c0 := hSw'.1.cell 0
            have c1 := hSw'.1.cell 1
            have k0 := hSw'.2.1.cell 0
            have k1 := hSw'.2.1.cell 1
            have h1 := IsB.str hSw'.2.2.1 (P := Try.prog) (src := 28) (dst := 9) Try.underlying28 Try.underlying5 Try.underlying9
            have h2 := IsB.str hSw'.2.2.2.1 (P := Try.prog) (src := 28) (dst := 9) Try.underlying28 Try.underlying5 Try.underlying9
            simp only [List.getElem?_toArray, List.getElem?_cons_zero, List.getElem?_cons_succ] at c0 c1 k0 k1
            go_simp
          simp only [Act.put, List.setIfInBounds_toArray, List.set_cons_zero, List.set_cons_succ]
          refine wpAnyH_take (i := 2) (oi := ⟨some 103, _, _, _, _, _⟩) (v := (.string (bstr X))) rfl (by kernel_rfl) (by kernel_rfl) (by kernel_rfl) (fun _ _ _ h => h) (Or.inl ⟨by rfl, ?_⟩) hSw ?_
          · intro w' hSw'
            have c0 := hSw'.1.cell 0
            have c1 := hSw'.1.cell 1
            have k0 := hSw'.2.1.cell 0
            have k1 := hSw'.2.1.cell 1
            have h1 := IsB.str hSw'.2.2.1 (P := Try.prog) (src := 28) (dst := 9) Try.underlying28 Try.underlying5 Try.underlying9
            have h2 := IsB.str hSw'.2.2.2.1 (P := Try.prog) (src := 28) (dst := 9) Try.underlying28 Try.underlying5 Try.underlying9
            simp only [List.getElem?_toArray, List.getElem?_cons_zero, List.getElem?_cons_succ] at c0 c1 k0 k1
            go_simp
          simp only [Act.put, List.setIfInBounds_toArray, List.set_cons_zero, List.set_cons_succ]
          refine wpAnyH_take (i := 3) (oi := ⟨some 104, _, _, _, _, _⟩) (v := (.slice Y1 ny cy)) rfl (by kernel_rfl) (by kernel_rfl) (by kernel_rfl) (fun _ _ _ h => h) (Or.inl ⟨by rfl, ?_⟩) hSw ?_
          · intro w' hSw'
            have c0 := hSw'.1.cell 0
            have c1 := hSw'.1.cell 1
            have k0 := hSw'.2.1.cell 0
            have k1 := hSw'.2.1.cell 1
            have h1 := IsB.str hSw'.2.2.1 (P := Try.prog) (src := 28) (dst := 9) Try.underlying28 Try.underlying5 Try.underlying9
            have h2 := IsB.str hSw'.2.2.2.1 (P := Try.prog) (src := 28) (dst := 9) Try.underlying28 Try.underlying5 Try.underlying9
            simp only [List.getElem?_toArray, List.getElem?_cons_zero, List.getElem?_cons_succ] at c0 c1 k0 k1
            go_simp
          simp only [Act.put, List.setIfInBounds_toArray, List.set_cons_zero, List.set_cons_succ]
          refine wpAnyH_take (i := 4) (oi := ⟨some 105, _, _, _, _, _⟩) (v := (.string (bstr Y))) rfl (by kernel_rfl) (by kernel_rfl) (by kernel_rfl) (fun _ _ _ h => h) (Or.inl ⟨by rfl, ?_⟩) hSw ?_
          · intro w' hSw'
            have c0 := hSw'.1.cell 0
            have c1 := hSw'.1.cell 1
            have k0 := hSw'.2.1.cell 0
            have k1 := hSw'.2.1.cell 1
            have h1 := IsB.str hSw'.2.2.1 (P := Try.prog) (src := 28) (dst := 9) Try.underlying28 Try.underlying5 Try.underlying9
            have h2 := IsB.str hSw'.2.2.2.1 (P := Try.prog) (src := 28) (dst := 9) Try.underlying28 Try.underlying5 Try.underlying9
            simp only [List.getElem?_toArray, List.getElem?_cons_zero, List.getElem?_cons_succ] at c0 c1 k0 k1
            go_simp
          simp only [Act.put, List.setIfInBounds_toArray, List.set_cons_zero, List.set_cons_succ]
          refine wpAnyH_take (i := 5) (oi := ⟨some 106, _, _, _, _, _⟩) (v := (.bool true)) rfl (by kernel_rfl) (by kernel_rfl) (by kernel_rfl) (fun _ _ _ h => h) (Or.inl ⟨by rfl, ?_⟩) hSw ?_
          · intro w' hSw'
            have c0 := hSw'.1.cell 0
            have c1 := hSw'.1.cell 1
            have k0 := hSw'.2.1.cell 0
            have k1 := hSw'.2.1.cell 1
            have h1 := IsB.str hSw'.2.2.1 (P := Try.prog) (src := 28) (dst := 9) Try.underlying28 Try.underlying5 Try.underlying9
            have h2 := IsB.str hSw'.2.2.2.1 (P := Try.prog) (src := 28) (dst := 9) Try.underlying28 Try.underlying5 Try.underlying9
            simp only [List.getElem?_toArray, List.getElem?_cons_zero, List.getElem?_cons_succ] at c0 c1 k0 k1
            go_simp
          simp only [Act.put, List.setIfInBounds_toArray, List.set_cons_zero, List.set_cons_succ]
          refine wpAnyH_take (i := 6) (oi := ⟨some 107, _, _, _, _, _⟩) (v := (.bool true)) rfl (by kernel_rfl) (by kernel_rfl) (by kernel_rfl) (fun _ _ _ h => h) (Or.inl ⟨by rfl, ?_⟩) hSw ?_
          · intro w' hSw'
            have c0 := hSw'.1.cell 0
            have c1 := hSw'.1.cell 1
            have k0 := hSw'.2.1.cell 0
            have k1 := hSw'.2.1.cell 1
            have h1 := IsB.str hSw'.2.2.1 (P := Try.prog) (src := 28) (dst := 9) Try.underlying28 Try.underlying5 Try.underlying9
            have h2 := IsB.str hSw'.2.2.2.1 (P := Try.prog) (src := 28) (dst := 9) Try.underlying28 Try.underlying5 Try.underlying9
            simp only [List.getElem?_toArray, List.getElem?_cons_zero, List.getElem?_cons_succ] at c0 c1 k0 k1
            go_simp
          simp only [Act.put, List.setIfInBounds_toArray, List.set_cons_zero, List.set_cons_succ]
          refine wpAnyH_take (i := 7) (oi := ⟨some 108, _, _, _, _, _⟩) (v := (.bool true)) rfl (by kernel_rfl) (by kernel_rfl) (by kernel_rfl) (fun _ _ _ h => h) (Or.inl ⟨by rfl, ?_⟩) hSw ?_
          · intro w' hSw'
            have c0 := hSw'.1.cell 0
            have c1 := hSw'.1.cell 1
            have k0 := hSw'.2.1.cell 0
            have k1 := hSw'.2.1.cell 1
            have h1 := IsB.str hSw'.2.2.1 (P := Try.prog) (src := 28) (dst := 9) Try.underlying28 Try.underlying5 Try.underlying9
            have h2 := IsB.str hSw'.2.2.2.1 (P := Try.prog) (src := 28) (dst := 9) Try.underlying28 Try.underlying5 Try.underlying9
            simp only [List.getElem?_toArray, List.getElem?_cons_zero, List.getElem?_cons_succ] at c0 c1 k0 k1
            go_simp
          simp only [Act.put, List.setIfInBounds_toArray, List.set_cons_zero, List.set_cons_succ]
          refine wpAnyH_take (i := 8) (oi := ⟨some 109, _, _, _, _, _⟩) (v := (.bool true)) rfl (by kernel_rfl) (by kernel_rfl) (by kernel_rfl) (fun _ _ _ h => h) (Or.inl ⟨by rfl, ?_⟩) hSw ?_
          · intro w' hSw'
            have c0 := hSw'.1.cell 0
            have c1 := hSw'.1.cell 1
            have k0 := hSw'.2.1.cell 0
            have k1 := hSw'.2.1.cell 1
            have h1 := IsB.str hSw'.2.2.1 (P := Try.prog) (src := 28) (dst := 9) Try.underlying28 Try.underlying5 Try.underlying9
            have h2 := IsB.str hSw'.2.2.2.1 (P := Try.prog) (src := 28) (dst := 9) Try.underlying28 Try.underlying5 Try.underlying9
            simp only [List.getElem?_toArray, List.getElem?_cons_zero, List.getElem?_cons_succ] at c0 c1 k0 k1
            go_simp
          simp only [Act.put, List.setIfInBounds_toArray, List.set_cons_zero, List.set_cons_succ]
          refine wpAnyH_take (i := 9) (oi := ⟨some 110, _, _, _, _, _⟩) (v := (.bool false)) rfl (by kernel_rfl) (by kernel_rfl) (by kernel_rfl) (fun _ _ _ h => h) (Or.inl ⟨by rfl, ?_⟩) hSw ?_
          · intro w' hSw'
            have c0 := hSw'.1.cell 0
            have c1 := hSw'.1.cell 1
            have k0 := hSw'.2.1.cell 0
            have k1 := hSw'.2.1.cell 1
            have h1 := IsB.str hSw'.2.2.1 (P := Try.prog) (src := 28) (dst := 9) Try.underlying28 Try.underlying5 Try.underlying9
            have h2 := IsB.str hSw'.2.2.2.1 (P := Try.prog) (src := 28) (dst := 9) Try.underlying28 Try.underlying5 Try.underlying9
            simp only [List.getElem?_toArray, List.getElem?_cons_zero, List.getElem?_cons_succ] at c0 c1 k0 k1
            go_simp
          simp only [Act.put, List.setIfInBounds_toArray, List.set_cons_zero, List.set_cons_succ]
          refine wpAnyH_take (i := 10) (oi := ⟨some 111, _, _, _, _, _⟩) (v := (.bool false)) rfl (by kernel_rfl) (by kernel_rfl) (by kernel_rfl) (fun _ _ _ h => h) (Or.inl ⟨by rfl, ?_⟩) hSw ?_
          · intro w' hSw'
            have c0 := hSw'.1.cell 0
            have c1 := hSw'.1.cell 1
            have k0 := hSw'.2.1.cell 0
            have k1 := hSw'.2.1.cell 1
            have h1 := IsB.str hSw'.2.2.1 (P := Try.prog) (src := 28) (dst := 9) Try.underlying28 Try.underlying5 Try.underlying9
            have h2 := IsB.str hSw'.2.2.2.1 (P := Try.prog) (src := 28) (dst := 9) Try.underlying28 Try.underlying5 Try.underlying9
            simp only [List.getElem?_toArray, List.getElem?_cons_zero, List.getElem?_cons_succ] at c0 c1 k0 k1
            go_simp
          simp only [Act.put, List.setIfInBounds_toArray, List.set_cons_zero, List.set_cons_succ]
          refine wpAnyH_take (i := 11) (oi := ⟨some 112, _, _, _, _, _⟩) (v := (.agg #[.slice A n c, .slice A' n' c'])) rfl (by kernel_rfl) (by kernel_rfl) (by kernel_rfl) (fun _ _ _ h => h) (Or.inl ⟨by rfl, ?_⟩) hSw ?_
          · intro w' hSw'
            have c0 := hSw'.1.cell 0
            have c1 := hSw'.1.cell 1
            have k0 := hSw'.2.1.cell 0
            have k1 := hSw'.2.1.cell 1
            have h1 := IsB.str hSw'.2.2.1 (P := Try.prog) (src := 28) (dst := 9) Try.underlying28 Try.underlying5 Try.underlying9
            have h2 := IsB.str hSw'.2.2.2.1 (P := Try.prog) (src := 28) (dst := 9) Try.underlying28 Try.underlying5 Try.underlying9
            simp only [List.getElem?_toArray, List.getElem?_cons_zero, List.getElem?_cons_succ] at c0 c1 k0 k1
            go_simp
          simp only [Act.put, List.setIfInBounds_toArray, List.set_cons_zero, List.set_cons_succ]
          refine wpAnyH_take (i := 13) (oi := ⟨some 114, _, _, _, _, _⟩) (v := (.agg #[.slice B m d, .slice B' m' d'])) rfl (by kernel_rfl) (by kernel_rfl) (by kernel_rfl) (fun _ _ _ h => h) (Or.inl ⟨by rfl, ?_⟩) hSw ?_
          · intro w' hSw'
            have c0 := hSw'.1.cell 0
            have c1 := hSw'.1.cell 1
            have k0 := hSw'.2.1.cell 0
            have k1 := hSw'.2.1.cell 1
            have h1 := IsB.str hSw'.2.2.1 (P := Try.prog) (src := 28) (dst := 9) Try.underlying28 Try.underlying5 Try.underlying9
            have h2 := IsB.str hSw'.2.2.2.1 (P := Try.prog) (src := 28) (dst := 9) Try.underlying28 Try.underlying5 Try.underlying9
            simp only [List.getElem?_toArray, List.getElem?_cons_zero, List.getElem?_cons_succ] at c0 c1 k0 k1
            go_simp
          simp only [Act.put, List.setIfInBounds_toArray, List.set_cons_zero, List.set_cons_succ]
          refine wpAnyH_ready (rs := [12]) (by kernel_rfl) (by simp) (AllReadyH.cons (o := ⟨some 113, _, _, _, _, _⟩) rfl (fun K hK => ?_) AllReadyH.nil)
          go_simp
          go_at_call 15
          refine (ID.out _ hSw.2.2.2.2).mono ?_
          rintro e21 w21 ⟨rfl, a21⟩
          dsimp only
          refine hK.out _ _ (⟨hSw.1.below a21 hSw.1.lt, hSw.2.1.below a21 hSw.2.1.lt, IsB.only hSw.2.2.1 (Only.of_below a21) (fun b hb _ hk => by omega), IsB.only hSw.2.2.2.1 (Only.of_below a21) (fun b hb _ hk => by omega), hSw.2.2.2.2.trans (a21.mono hSw.2.2.2.2.size)⟩) ?_
          intro hSw
          clear hK K
          try simp only [Act.put, List.setIfInBounds_toArray, List.set_cons_zero, List.set_cons_succ]
          refine wpAnyH_ready (rs := [14]) (by kernel_rfl) (by simp) (AllReadyH.cons (o := ⟨some 115, _, _, _, _, _⟩) rfl (fun K hK => ?_) AllReadyH.nil)
          go_simp
          go_at_call 15
          refine (ID2.out _ hSw.2.2.2.2).mono ?_
          rintro e22 w22 ⟨rfl, a22⟩
          dsimp only
          refine hK.out _ _ (⟨hSw.1.below a22 hSw.1.lt, hSw.2.1.below a22 hSw.2.1.lt, IsB.only hSw.2.2.1 (Only.of_below a22) (fun b hb _ hk => by omega), IsB.only hSw.2.2.2.1 (Only.of_below a22) (fun b hb _ hk => by omega), hSw.2.2.2.2.trans (a22.mono hSw.2.2.2.2.size)⟩) ?_
          intro hSw
          clear hK K
          try simp only [Act.put, List.setIfInBounds_toArray, List.set_cons_zero, List.set_cons_succ]
          refine wpAnyH_take (i := 15) (oi := ⟨some 116, _, _, _, _, _⟩) (v := (.bool true)) rfl (by kernel_rfl) (by kernel_rfl) (by kernel_rfl) (fun _ _ _ h => h) (Or.inl ⟨by rfl, ?_⟩) hSw ?_
          · intro w' hSw'
            have c0 := hSw'.1.cell 0
            have c1 := hSw'.1.cell 1
            have k0 := hSw'.2.1.cell 0
            have k1 := hSw'.2.1.cell 1
            have h1 := IsB.str hSw'.2.2.1 (P := Try.prog) (src := 28) (dst := 9) Try.underlying28 Try.underlying5 Try.underlying9
            have h2 := IsB.str hSw'.2.2.2.1 (P := Try.prog) (src := 28) (dst := 9) Try.underlying28 Try.underlying5 Try.underlying9
            simp only [List.getElem?_toArray, List.getElem?_cons_zero, List.getElem?_cons_succ] at c0 c1 k0 k1
            go_simp
          simp only [Act.put, List.setIfInBounds_toArray, List.set_cons_zero, List.set_cons_succ]
          refine wpAnyH_take (i := 16) (oi := ⟨some 117, _, _, _, _, _⟩) (v := (.bool true)) rfl (by kernel_rfl) (by kernel_rfl) (by kernel_rfl) (fun _ _ _ h => h) (Or.inl ⟨by rfl, ?_⟩) hSw ?_
          · intro w' hSw'
            have c0 := hSw'.1.cell 0
            have c1 := hSw'.1.cell 1
            have k0 := hSw'.2.1.cell 0
            have k1 := hSw'.2.1.cell 1
            have h1 := IsB.str hSw'.2.2.1 (P := Try.prog) (src := 28) (dst := 9) Try.underlying28 Try.underlying5 Try.underlying9
            have h2 := IsB.str hSw'.2.2.2.1 (P := Try.prog) (src := 28) (dst := 9) Try.underlying28 Try.underlying5 Try.underlying9
            simp only [List.getElem?_toArray, List.getElem?_cons_zero, List.getElem?_cons_succ] at c0 c1 k0 k1
            go_simp
          simp only [Act.put, List.setIfInBounds_toArray, List.set_cons_zero, List.set_cons_succ]
          refine wpAnyH_take (i := 17) (oi := ⟨some 118, _, _, _, _, _⟩) (v := (.bool true)) rfl (by kernel_rfl) (by kernel_rfl) (by kernel_rfl) (fun _ _ _ h => h) (Or.inl ⟨by rfl, ?_⟩) hSw ?_
          · intro w' hSw'
            have c0 := hSw'.1.cell 0
            have c1 := hSw'.1.cell 1
            have k0 := hSw'.2.1.cell 0
            have k1 := hSw'.2.1.cell 1
            have h1 := IsB.str hSw'.2.2.1 (P := Try.prog) (src := 28) (dst := 9) Try.underlying28 Try.underlying5 Try.underlying9
            have h2 := IsB.str hSw'.2.2.2.1 (P := Try.prog) (src := 28) (dst := 9) Try.underlying28 Try.underlying5 Try.underlying9
            simp only [List.getElem?_toArray, List.getElem?_cons_zero, List.getElem?_cons_succ] at c0 c1 k0 k1
            go_simp
          simp only [Act.put, List.setIfInBounds_toArray, List.set_cons_zero, List.set_cons_succ]
          refine wpAnyH_take (i := 18) (oi := ⟨some 4, _, _, _, _, _⟩) (v := (.bool true)) rfl (by kernel_rfl) (by kernel_rfl) (by kernel_rfl) (fun _ _ _ h => h) (Or.inl ⟨by rfl, ?_⟩) hSw ?_
          · intro w' hSw'
            have c0 := hSw'.1.cell 0
            have c1 := hSw'.1.cell 1
            have k0 := hSw'.2.1.cell 0
            have k1 := hSw'.2.1.cell 1
            have h1 := IsB.str hSw'.2.2.1 (P := Try.prog) (src := 28) (dst := 9) Try.underlying28 Try.underlying5 Try.underlying9
            have h2 := IsB.str hSw'.2.2.2.1 (P := Try.prog) (src := 28) (dst := 9) Try.underlying28 Try.underlying5 Try.underlying9
            simp only [List.getElem?_toArray, List.getElem?_cons_zero, List.getElem?_cons_succ] at c0 c1 k0 k1
            go_simp
          simp only [Act.put, List.setIfInBounds_toArray, List.set_cons_zero, List.set_cons_succ]
          refine wpAnyH_done (by kernel_rfl) ?_ _
          go_wp2
          go_ret
          rw [← HG.out]
          exact ⟨rfl, hSw.2.2.2.2⟩
        | false =>
          have hxy := HXY.out
          refine wp_region_held_drew (S := (fun w' => Blk w' g 25 #[.slice A n c, .slice A' n' c'] ∧ Blk w' (g + 1) 25 #[.slice B m d, .slice B' m' d'] ∧ IsB w' (fun _ => True) (.slice X1 nx cx) X ∧ IsB w' (fun _ => True) (.slice Y1 ny cy) Y ∧ Below w.heap.size w w')) (by kernel_rfl) (⟨hSw.1.drew, hSw.2.1.drew, HX.out, HY.out, hSw.2.2.drew⟩) ?_
          intro hSw
          refine wpAnyH_take (i := 0) (oi := ⟨some 101, _, _, _, _, _⟩) (v := (.bool false)) rfl (by kernel_rfl) (by kernel_rfl) (by kernel_rfl) (fun _ _ _ h => h) (Or.inl ⟨by rfl, ?_⟩) hSw ?_
          · intro w' hSw'
            have c0 := hSw'.1.cell 0
            have c1 := hSw'.1.cell 1
            have k0 := hSw'.2.1.cell 0
            have k1 := hSw'.2.1.cell 1
            have h1 := IsB.str hSw'.2.2.1 (P := Try.prog) (src := 28) (dst := 9) Try.underlying28 Try.underlying5 Try.underlying9
            have h2 := IsB.str hSw'.2.2.2.1 (P := Try.prog) (src := 28) (dst := 9) Try.underlying28 Try.underlying5 Try.underlying9
            simp only [List.getElem?_toArray, List.getElem?_cons_zero, List.getElem?_cons_succ] at c0 c1 k0 k1
            go_simp
          simp only [Act.put, List.setIfInBounds_toArray, List.set_cons_zero, List.set_cons_succ]
          refine wpAnyH_take (i := 1) (oi := ⟨some 102, _, _, _, _, _⟩) (v := (.slice X1 nx cx)) rfl (by kernel_rfl) (by kernel_rfl) (by kernel_rfl) (fun _ _ _ h => h) (Or.inl ⟨by rfl, ?_⟩) hSw ?_
          · intro w' hSw'
            have c0 := hSw'.1.cell 0
            have c1 := hSw'.1.cell 1
            have k0 := hSw'.2.1.cell 0
            have k1 := hSw'.2.1.cell 1
            have h1 := IsB.str hSw'.2.2.1 (P := Try.prog) (src := 28) (dst := 9) Try.underlying28 Try.underlying5 Try.underlying9
            have h2 := IsB.str hSw'.2.2.2.1 (P := Try.prog) (src := 28) (dst := 9) Try.underlying28 Try.underlying5 Try.underlying9
            simp only [List.getElem?_toArray, List.getElem?_cons_zero, List.getElem?_cons_succ] at c0 c1 k0 k1
            go_simp
          simp only [Act.put, List.setIfInBounds_toArray, List.set_cons_zero, List.set_cons_succ]
          refine wpAnyH_take (i := 2) (oi := ⟨some 103, _, _, _, _, _⟩) (v := (.string (bstr X))) rfl (by kernel_rfl) (by kernel_rfl) (by kernel_rfl) (fun _ _ _ h => h) (Or.inl ⟨by rfl, ?_⟩) hSw ?_
          · intro w' hSw'
            have c0 := hSw'.1.cell 0
            have c1 := hSw'.1.cell 1
            have k0 := hSw'.2.1.cell 0
            have k1 := hSw'.2.1.cell 1
            have h1 := IsB.str hSw'.2.2.1 (P := Try.prog) (src := 28) (dst := 9) Try.underlying28 Try.underlying5 Try.underlying9
            have h2 := IsB.str hSw'.2.2.2.1 (P := Try.prog) (src := 28) (dst := 9) Try.underlying28 Try.underlying5 Try.underlying9
            simp only [List.getElem?_toArray, List.getElem?_cons_zero, List.getElem?_cons_succ] at c0 c1 k0 k1
            go_simp
          simp only [Act.put, List.setIfInBounds_toArray, List.set_cons_zero, List.set_cons_succ]
          refine wpAnyH_take (i := 3) (oi := ⟨some 104, _, _, _, _, _⟩) (v := (.slice Y1 ny cy)) rfl (by kernel_rfl) (by kernel_rfl) (by kernel_rfl) (fun _ _ _ h => h) (Or.inl ⟨by rfl, ?_⟩) hSw ?_
          · intro w' hSw'
            have c0 := hSw'.1.cell 0
            have c1 := hSw'.1.cell 1
            have k0 := hSw'.2.1.cell 0
            have k1 := hSw'.2.1.cell 1
            have h1 := IsB.str hSw'.2.2.1 (P := Try.prog) (src := 28) (dst := 9) Try.underlying28 Try.underlying5 Try.underlying9
            have h2 := IsB.str hSw'.2.2.2.1 (P := Try.prog) (src := 28) (dst := 9) Try.underlying28 Try.underlying5 Try.underlying9
            simp only [List.getElem?_toArray, List.getElem?_cons_zero, List.getElem?_cons_succ] at c0 c1 k0 k1
            go_simp
          simp only [Act.put, List.setIfInBounds_toArray, List.set_cons_zero, List.set_cons_succ]
          refine wpAnyH_take (i := 4) (oi := ⟨some 105, _, _, _, _, _⟩) (v := (.string (bstr Y))) rfl (by kernel_rfl) (by kernel_rfl) (by kernel_rfl) (fun _ _ _ h => h) (Or.inl ⟨by rfl, ?_⟩) hSw ?_
          · intro w' hSw'
            have c0 := hSw'.1.cell 0
            have c1 := hSw'.1.cell 1
            have k0 := hSw'.2.1.cell 0
            have k1 := hSw'.2.1.cell 1
            have h1 := IsB.str hSw'.2.2.1 (P := Try.prog) (src := 28) (dst := 9) Try.underlying28 Try.underlying5 Try.underlying9
            have h2 := IsB.str hSw'.2.2.2.1 (P := Try.prog) (src := 28) (dst := 9) Try.underlying28 Try.underlying5 Try.underlying9
            simp only [List.getElem?_toArray, List.getElem?_cons_zero, List.getElem?_cons_succ] at c0 c1 k0 k1
            go_simp
          simp only [Act.put, List.setIfInBounds_toArray, List.set_cons_zero, List.set_cons_succ]
          refine wpAnyH_take (i := 5) (oi := ⟨some 106, _, _, _, _, _⟩) (v := (.bool false)) rfl (by kernel_rfl) (by kernel_rfl) (by kernel_rfl) (fun _ _ _ h => h) (Or.inl ⟨by rfl, ?_⟩) hSw ?_
          · intro w' hSw'
            have c0 := hSw'.1.cell 0
            have c1 := hSw'.1.cell 1
            have k0 := hSw'.2.1.cell 0
            have k1 := hSw'.2.1.cell 1
            have h1 := IsB.str hSw'.2.2.1 (P := Try.prog) (src := 28) (dst := 9) Try.underlying28 Try.underlying5 Try.underlying9
            have h2 := IsB.str hSw'.2.2.2.1 (P := Try.prog) (src := 28) (dst := 9) Try.underlying28 Try.underlying5 Try.underlying9
            simp only [List.getElem?_toArray, List.getElem?_cons_zero, List.getElem?_cons_succ] at c0 c1 k0 k1
            go_simp
          simp only [Act.put, List.setIfInBounds_toArray, List.set_cons_zero, List.set_cons_succ]
          refine wpAnyH_take (i := 6) (oi := ⟨some 107, _, _, _, _, _⟩) (v := (.bool true)) rfl (by kernel_rfl) (by kernel_rfl) (by kernel_rfl) (fun _ _ _ h => h) (Or.inl ⟨by rfl, ?_⟩) hSw ?_
          · intro w' hSw'
            have c0 := hSw'.1.cell 0
            have c1 := hSw'.1.cell 1
            have k0 := hSw'.2.1.cell 0
            have k1 := hSw'.2.1.cell 1
            have h1 := IsB.str hSw'.2.2.1 (P := Try.prog) (src := 28) (dst := 9) Try.underlying28 Try.underlying5 Try.underlying9
            have h2 := IsB.str hSw'.2.2.2.1 (P := Try.prog) (src := 28) (dst := 9) Try.underlying28 Try.underlying5 Try.underlying9
            simp only [List.getElem?_toArray, List.getElem?_cons_zero, List.getElem?_cons_succ] at c0 c1 k0 k1
            go_simp
          simp only [Act.put, List.setIfInBounds_toArray, List.set_cons_zero, List.set_cons_succ]
          refine wpAnyH_take (i := 7) (oi := ⟨some 108, _, _, _, _, _⟩) (v := (.bool true)) rfl (by kernel_rfl) (by kernel_rfl) (by kernel_rfl) (fun _ _ _ h => h) (Or.inl ⟨by rfl, ?_⟩) hSw ?_
          · intro w' hSw'
            have c0 := hSw'.1.cell 0
            have c1 := hSw'.1.cell 1
            have k0 := hSw'.2.1.cell 0
            have k1 := hSw'.2.1.cell 1
            have h1 := IsB.str hSw'.2.2.1 (P := Try.prog) (src := 28) (dst := 9) Try.underlying28 Try.underlying5 Try.underlying9
            have h2 := IsB.str hSw'.2.2.2.1 (P := Try.prog) (src := 28) (dst := 9) Try.underlying28 Try.underlying5 Try.underlying9
            simp only [List.getElem?_toArray, List.getElem?_cons_zero, List.getElem?_cons_succ] at c0 c1 k0 k1
            go_simp
          simp only [Act.put, List.setIfInBounds_toArray, List.set_cons_zero, List.set_cons_succ]
          refine wpAnyH_take (i := 8) (oi := ⟨some 109, _, _, _, _, _⟩) (v := (.bool false)) rfl (by kernel_rfl) (by kernel_rfl) (by kernel_rfl) (fun _ _ _ h => h) (Or.inl ⟨by rfl, ?_⟩) hSw ?_
          · intro w' hSw'
            have c0 := hSw'.1.cell 0
            have c1 := hSw'.1.cell 1
            have k0 := hSw'.2.1.cell 0
            have k1 := hSw'.2.1.cell 1
            have h1 := IsB.str hSw'.2.2.1 (P := Try.prog) (src := 28) (dst := 9) Try.underlying28 Try.underlying5 Try.underlying9
            have h2 := IsB.str hSw'.2.2.2.1 (P := Try.prog) (src := 28) (dst := 9) Try.underlying28 Try.underlying5 Try.underlying9
            simp only [List.getElem?_toArray, List.getElem?_cons_zero, List.getElem?_cons_succ] at c0 c1 k0 k1
            go_simp
          simp only [Act.put, List.setIfInBounds_toArray, List.set_cons_zero, List.set_cons_succ]
          refine wpAnyH_take (i := 9) (oi := ⟨some 110, _, _, _, _, _⟩) (v := (.bool true)) rfl (by kernel_rfl) (by kernel_rfl) (by kernel_rfl) (fun _ _ _ h => h) (Or.inl ⟨by rfl, ?_⟩) hSw ?_
          · intro w' hSw'
            have c0 := hSw'.1.cell 0
            have c1 := hSw'.1.cell 1
            have k0 := hSw'.2.1.cell 0
            have k1 := hSw'.2.1.cell 1
            have h1 := IsB.str hSw'.2.2.1 (P := Try.prog) (src := 28) (dst := 9) Try.underlying28 Try.underlying5 Try.underlying9
            have h2 := IsB.str hSw'.2.2.2.1 (P := Try.prog) (src := 28) (dst := 9) Try.underlying28 Try.underlying5 Try.underlying9
            simp only [List.getElem?_toArray, List.getElem?_cons_zero, List.getElem?_cons_succ] at c0 c1 k0 k1
            go_simp
          simp only [Act.put, List.setIfInBounds_toArray, List.set_cons_zero, List.set_cons_succ]
          refine wpAnyH_take (i := 10) (oi := ⟨some 111, _, _, _, _, _⟩) (v := (.bool true)) rfl (by kernel_rfl) (by kernel_rfl) (by kernel_rfl) (fun _ _ _ h => h) (Or.inl ⟨by rfl, ?_⟩) hSw ?_
          · intro w' hSw'
            have c0 := hSw'.1.cell 0
            have c1 := hSw'.1.cell 1
            have k0 := hSw'.2.1.cell 0
            have k1 := hSw'.2.1.cell 1
            have h1 := IsB.str hSw'.2.2.1 (P := Try.prog) (src := 28) (dst := 9) Try.underlying28 Try.underlying5 Try.underlying9
            have h2 := IsB.str hSw'.2.2.2.1 (P := Try.prog) (src := 28) (dst := 9) Try.underlying28 Try.underlying5 Try.underlying9
            simp only [List.getElem?_toArray, List.getElem?_cons_zero, List.getElem?_cons_succ] at c0 c1 k0 k1
            go_simp
          simp only [Act.put, List.setIfInBounds_toArray, List.set_cons_zero, List.set_cons_succ]
          refine wpAnyH_take (i := 11) (oi := ⟨some 112, _, _, _, _, _⟩) (v := undef) rfl (by kernel_rfl) (by kernel_rfl) (by kernel_rfl) (fun _ _ _ h => h) (Or.inr ⟨by rfl, rfl⟩) hSw ?_
          simp only [Act.put, List.setIfInBounds_toArray, List.set_cons_zero, List.set_cons_succ]
          refine wpAnyH_take (i := 12) (oi := ⟨some 113, _, _, _, _, _⟩) (v := undef) rfl (by kernel_rfl) (by kernel_rfl) (by kernel_rfl) (fun _ _ _ h => h) (Or.inr ⟨by rfl, rfl⟩) hSw ?_
          simp only [Act.put, List.setIfInBounds_toArray, List.set_cons_zero, List.set_cons_succ]
          refine wpAnyH_take (i := 13) (oi := ⟨some 114, _, _, _, _, _⟩) (v := undef) rfl (by kernel_rfl) (by kernel_rfl) (by kernel_rfl) (fun _ _ _ h => h) (Or.inr ⟨by rfl, rfl⟩) hSw ?_
          simp only [Act.put, List.setIfInBounds_toArray, List.set_cons_zero, List.set_cons_succ]
          refine wpAnyH_take (i := 14) (oi := ⟨some 115, _, _, _, _, _⟩) (v := undef) rfl (by kernel_rfl) (by kernel_rfl) (by kernel_rfl) (fun _ _ _ h => h) (Or.inr ⟨by rfl, rfl⟩) hSw ?_
          simp only [Act.put, List.setIfInBounds_toArray, List.set_cons_zero, List.set_cons_succ]
          refine wpAnyH_take (i := 15) (oi := ⟨some 116, _, _, _, _, _⟩) (v := undef) rfl (by kernel_rfl) (by kernel_rfl) (by kernel_rfl) (fun _ _ _ h => h) (Or.inr ⟨by rfl, rfl⟩) hSw ?_
          simp only [Act.put, List.setIfInBounds_toArray, List.set_cons_zero, List.set_cons_succ]
          refine wpAnyH_take (i := 16) (oi := ⟨some 117, _, _, _, _, _⟩) (v := (.bool true)) rfl (by kernel_rfl) (by kernel_rfl) (by kernel_rfl) (fun _ _ _ h => h) (Or.inl ⟨by rfl, ?_⟩) hSw ?_
          · intro w' hSw'
            have c0 := hSw'.1.cell 0
            have c1 := hSw'.1.cell 1
            have k0 := hSw'.2.1.cell 0
            have k1 := hSw'.2.1.cell 1
            have h1 := IsB.str hSw'.2.2.1 (P := Try.prog) (src := 28) (dst := 9) Try.underlying28 Try.underlying5 Try.underlying9
            have h2 := IsB.str hSw'.2.2.2.1 (P := Try.prog) (src := 28) (dst := 9) Try.underlying28 Try.underlying5 Try.underlying9
            simp only [List.getElem?_toArray, List.getElem?_cons_zero, List.getElem?_cons_succ] at c0 c1 k0 k1
            go_simp
          simp only [Act.put, List.setIfInBounds_toArray, List.set_cons_zero, List.set_cons_succ]
          refine wpAnyH_take (i := 17) (oi := ⟨some 118, _, _, _, _, _⟩) (v := (.bool true)) rfl (by kernel_rfl) (by kernel_rfl) (by kernel_rfl) (fun _ _ _ h => h) (Or.inl ⟨by rfl, ?_⟩) hSw ?_
          · intro w' hSw'
            have c0 := hSw'.1.cell 0
            have c1 := hSw'.1.cell 1
            have k0 := hSw'.2.1.cell 0
            have k1 := hSw'.2.1.cell 1
            have h1 := IsB.str hSw'.2.2.1 (P := Try.prog) (src := 28) (dst := 9) Try.underlying28 Try.underlying5 Try.underlying9
            have h2 := IsB.str hSw'.2.2.2.1 (P := Try.prog) (src := 28) (dst := 9) Try.underlying28 Try.underlying5 Try.underlying9
            simp only [List.getElem?_toArray, List.getElem?_cons_zero, List.getElem?_cons_succ] at c0 c1 k0 k1
            go_simp
          simp only [Act.put, List.setIfInBounds_toArray, List.set_cons_zero, List.set_cons_succ]
          refine wpAnyH_take (i := 18) (oi := ⟨some 4, _, _, _, _, _⟩) (v := (.bool true)) rfl (by kernel_rfl) (by kernel_rfl) (by kernel_rfl) (fun _ _ _ h => h) (Or.inl ⟨by rfl, ?_⟩) hSw ?_
          · intro w' hSw'
            have c0 := hSw'.1.cell 0
            have c1 := hSw'.1.cell 1
            have k0 := hSw'.2.1.cell 0
            have k1 := hSw'.2.1.cell 1
            have h1 := IsB.str hSw'.2.2.1 (P := Try.prog) (src := 28) (dst := 9) Try.underlying28 Try.underlying5 Try.underlying9
            have h2 := IsB.str hSw'.2.2.2.1 (P := Try.prog) (src := 28) (dst := 9) Try.underlying28 Try.underlying5 Try.underlying9
            simp only [List.getElem?_toArray, List.getElem?_cons_zero, List.getElem?_cons_succ] at c0 c1 k0 k1
            go_simp
          simp only [Act.put, List.setIfInBounds_toArray, List.set_cons_zero, List.set_cons_succ]
          refine wpAnyH_done (by kernel_rfl) ?_ _
          go_wp2
          go_ret
          rw [← HG.out]
          exact ⟨rfl, hSw.2.2.2.2⟩
end Go.Proofs.Ytpcombaecbjmfaa
