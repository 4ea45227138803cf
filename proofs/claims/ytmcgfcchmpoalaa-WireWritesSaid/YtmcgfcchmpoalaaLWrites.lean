/- WireWrites: for every input the law returns true. No conditions. -/
import Derived.Test.YtmcgfcchmpoalaaWk
import Derived.Deep.RegionHeld3
namespace Go.Proofs.Ytmcgfcchmpoalaa
open Go.RowKit Go.WideShapes Go.ChangeShapes Go.ChangeAt
open Go.ChangeMaps (open_string)

set_option maxRecDepth 20000 in
set_option maxHeartbeats 8000000 in
theorem wireWrites_any (vl : Value) (ps : List Part) (w : World) (hl : partsSh.rel w (fun b => b < w.heap.size) [vl] ps) :
    Calls Try.prog 7 #[vl] w fun e w' => e = .returned (.bool true) ∧ Below w.heap.size w w' := by
  obtain ⟨A, d, rfl, h2, h3⟩ := shSlice_form hl
  have HL := Lib.hid hl
  obtain ⟨pn, hpn⟩ : ∃ pn, ps.length = pn := ⟨_, rfl⟩
  rw [hpn] at HL
  have HPN := Lib.hid hpn
  rw [hpn]
  clear h2 h3 hl hpn
  by_cases hlong : pn ≤ 50
  · have dp : decide ((50 : Int) < (pn : Int)) = false := by simp; omega
    have HLONG := Lib.hid hlong
    clear hlong
    go_enter Try.func7, Try.ntmps7
    go_wp2_with fail
    refine (writes_any w).mono ?_
    rintro e1 w1 ⟨rfl, a1⟩
    have A1 := Lib.hid (a1)
    clear a1
    have hwr := IsWr.new w1
    have hB0 := A1.out.alloc A1.out.size (.cells #[.slice none 0 0] 25)
    have hgl : w1.heap.size < (w1.alloc (.cells #[.slice none 0 0] 25)).heap.size := hwr.lt
    go_wp2_with fail
    generalize hW : World.alloc w1 _ = w2
    rw [hW] at hwr hB0 hgl
    obtain ⟨g, hg⟩ : ∃ g, w1.heap.size = g := ⟨_, rfl⟩
    have hwg : w.heap.size ≤ g := hg ▸ A1.out.size
    rw [hg] at hwr hgl ⊢
    clear hW hg A1
    clear w1
    have HWG := Lib.hid hwg
    clear hwg hgl
    go_loopg [4, 19] pn (fun q v4 v19 wr => ∃ (i : Nat) (r : Option Nat) (cur : List UInt8), i + q = pn ∧ v19 = .int .i64 i ∧ v4 = .string (bstr cur) ∧ Hid (cur = (ps.take i).flatMap partB) ∧ Hid (cur.length ≤ 2000 * i) ∧ Hid (∀ p ∈ ps.take i, p.2.2.2.2.1.length ≤ 1000) ∧ Hid (IsWr wr g g r cur) ∧ Hid (Below w.heap.size w wr))
    case atStart => exact ⟨0, none, [], by omega, rfl, rfl, by simp [Hid], by simp [Hid], by simp [Hid], hwr, hB0⟩
    case round =>
      clear hwr hB0
      obtain ⟨i, r, cur, hi, rfl, rfl, HCU, HCL, HGO, HWR, HB⟩ := hrel
      by_cases hlt : i < pn
      · have dlt : decide (i < pn) = true := by simpa using hlt
        obtain ⟨b, o, k, sz, nn, mo, pl, id, v, rfl, hbw, hpe, hbv, hid, hrow, hsz1, hsz2, hn64, hm64⟩ := parts_at (HL.out) (by rw [HPN.out]; exact hlt)
        have hb37 : (partC k sz nn mo v id).length = 37 := partC_len _ _ _ _ _ _ hid
        have hv1 : v.oneCell' = true := by obtain ⟨A', n', c', rfl, _⟩ := hbv; rfl
        have hrow' := hrow.only (Only.of_below HB.out) (fun h => absurd hbw (by omega))
        have hone := partC_one k sz nn mo v id hv1
        have HPE := Lib.hid hpe
        have HBV := Lib.hid hbv
        have HID := Lib.hid hid
        have HROW := Lib.hid hrow'
        have H37 := Lib.hid hb37
        have HONE := Lib.hid hone
        have HSZ := Lib.hid (And.intro hsz1 (And.intro hsz2 (And.intro hn64 hm64)))
        clear hpe hid hrow hrow' hb37 hv1 hone hsz1 hsz2 hn64 hm64 hbv
        go_upto_block 1 with fail
        go_cut [4] (fun v4 wc => ∃ (r' : Option Nat) (cur' : List UInt8), v4 = .string (bstr cur') ∧ Hid (cur' = cur ++ partB (k, sz, nn, mo, pl, id, ())) ∧ Hid (IsWr wc g g r' cur') ∧ Hid (Below w.heap.size w wc) ∧ Hid (pl.length ≤ 1000))
        case first =>
          go_wp2_with (first
            | (with_reducible refine wpList_ld rfl 44 (.tmp 21) rfl b (o + i * 37) rfl (partC k sz nn mo v id) HROW.out _ Try.underlying44 rfl 37 infoPartW H37.out.symm ?_)
            | (with_reducible refine wpList_stb rfl 44 (.tmp 6) (.tmp 22) rfl wr.heap.size 0 _ rfl rfl 44 _ (Blk.new wr _ _) ?h1 ?h2 ?h3 ?_))
          case h1 => simp [H37.out]
          case h2 => rw [infoPartW]; simp [H37.out]
          case h3 => exact HONE.out
          intro w4 b4 o4
          rw [over_all _ _ (by simp [H37.out])] at b4
          have hO4 : Below wr.heap.size wr w4 := (((Only.refl (fun b => wr.heap.size ≤ b) wr).alloc _).trans o4 (fun b _ e => by omega)).below (Nat.le_refl _) (fun b hb h => by omega)
          have hwr4 := HWR.out.only (Only.of_new hO4 (fun _ => False)) (fun h => h) (fun _ _ h => h)
          have PB4 := Lib.hid b4
          have BW4 := Lib.hid (HB.out.trans (hO4.mono HB.out.size))
          have WR4 := Lib.hid hwr4
          have BV4 := Lib.hid (HBV.out.below BW4.out (fun _ _ h => h))
          have GLT := Lib.hid HWR.out.lt
          have RLT := Lib.hid (fun b (h : r = some b) => (HWR.out.row h).2.1)
          have p0 := b4.cell 0
          have p1 := b4.cell 1
          have p2 := b4.cell 2
          have p4 := b4.cell 4
          simp only [partC, List.getElem?_toArray, List.getElem?_cons_zero, List.getElem?_cons_succ] at p0 p1 p2 p4
          clear b4 o4 hO4 hwr4 HROW HB HWR
          obtain ⟨pb, hpb⟩ : ∃ pb, wr.heap.size = pb := ⟨_, rfl⟩
          rw [hpb] at p0 p1 p2 p4 PB4 GLT RLT ⊢
          clear hpb
          obtain ⟨B', n', c', rfl, hn', hnc', hs'⟩ := BV4.out
          clear hs' hnc'
          have HN' := Lib.hid hn'
          clear hn'
          by_cases hbig : 1000 < n'
          · have d1 : decide ((1000 : Int) < (n' : Int)) = true := by simp; omega
            clear hbig
            go_wp2_with fail
            go_ret
            exact ⟨rfl, BW4.out⟩
          · have d1 : decide ((1000 : Int) < (n' : Int)) = false := by simp; omega
            have HBIG := Lib.hid hbig
            clear hbig
            go_upto_block 2 with fail
            clear d1
            have PLEN := Lib.hid (show pl.length ≤ 1000 by have := HN'.out; have := HBIG.out; omega)
            by_cases k0 : k = 0
            · subst k0
              go_wp2_with fail
              refine (put1 g g r cur w4 _ sz nn _ _ rfl _ rfl rfl WR4.out (by have := HCL.out; have := HLONG.out; omega)).mono ?_
              rintro e5 w5 ⟨rfl, r5, a1, a2, a3⟩
              have WR5 := Lib.hid a1
              have BW5 := Lib.hid (BW4.out.trans ((WrS.below WR4.out a3).mono HWG.out))
              have PB5 := Lib.hid (PB4.out.only a3 (fun e => e.elim (fun e => by have := GLT.out; omega) (fun e => Nat.lt_irrefl _ (RLT.out _ e))))
              have BV5 := Lib.hid (HBV.out.below BW5.out (fun _ _ h => h))
              have p15 := PB5.out.cell 1
              have p25 := PB5.out.cell 2
              have p45 := PB5.out.cell 4
              simp only [partC, List.getElem?_toArray, List.getElem?_cons_zero, List.getElem?_cons_succ] at p15 p25 p45
              clear a1 a2 a3 p0 p1 p2 p4
              have hcl : cur.length ≤ 100000 := by have := HCL.out; have := HLONG.out; omega
              have hxl : (les (clamp8 sz) nn).length ≤ 8 := by rw [les_length]; unfold clamp8; omega
              have SZ := Lib.hid (size06_any sz w5.drew)
              have NM := Lib.hid (num06_any ((clamp8 sz : Nat) : Int) nn w5.drew (by unfold clamp8; omega) HSZ.out.2.2.1)
              go_wp2
              go_region_with (first
                | (go_at_call 22; refine SZ.out.mono ?_; rintro e6 w6 ⟨rfl, rfl⟩)
                | (go_at_call 21; refine NM.out.mono ?_; rintro e7 w7 ⟨rfl, a7⟩; have W7 := Lib.hid a7; clear a7))
              all_goals
                go_wp2
                go_meet
                exact ⟨r5, cur ++ le sz nn, by rw [bstr_append]; rfl, by rw [Hid, partB, if_pos rfl]; rfl, WR5.out.only ((Only.refl (fun _ => False) _).drew.then_below W7.out rfl) (fun h => h) (fun _ _ h => h), BW5.out.drew.trans (W7.out.mono BW5.out.size), PLEN⟩
            · by_cases k1 : k = 1
              · subst k1
                clear k0
                go_wp2_with fail
                refine (wcount_any g g r cur w4 nn WR4.out (by have := HCL.out; have := HLONG.out; omega)).mono ?_
                rintro e5 w5 ⟨rfl, r5, a1, a2, a3⟩
                have WR5 := Lib.hid a1
                have BW5 := Lib.hid (BW4.out.trans ((WrS.below WR4.out a3).mono HWG.out))
                have PB5 := Lib.hid (PB4.out.only a3 (fun e => e.elim (fun e => by have := GLT.out; omega) (fun e => Nat.lt_irrefl _ (RLT.out _ e))))
                have BV5 := Lib.hid (HBV.out.below BW5.out (fun _ _ h => h))
                have p15 := PB5.out.cell 1
                have p25 := PB5.out.cell 2
                have p45 := PB5.out.cell 4
                simp only [partC, List.getElem?_toArray, List.getElem?_cons_zero, List.getElem?_cons_succ] at p15 p25 p45
                clear a1 a2 a3 p0 p1 p2 p4
                have hcl : cur.length ≤ 100000 := by have := HCL.out; have := HLONG.out; omega
                have hxl : (countB nn).length ≤ 9 := countB_len nn
                go_wp2_with fail
                refine (count06_any nn w5 HSZ.out.2.2.1).mono ?_
                rintro e7 w7 ⟨rfl, a7⟩
                have W7 := Lib.hid a7
                clear a7
                go_wp2_with fail
                go_meet
                exact ⟨r5, cur ++ countB nn, by rw [bstr_append], by rw [Hid, partB, if_neg (by decide), if_pos rfl]; rfl, WR5.out.only (Only.of_new W7.out (fun _ => False)) (fun h => h) (fun _ _ h => h), BW5.out.trans (W7.out.mono BW5.out.size), PLEN⟩
              · by_cases k2 : k = 2
                · subst k2
                  clear k0 k1
                  go_wp2_with fail
                  refine (wraw_new g g r cur w4 _ _ [.slice B' n' c'] [pl] _ 1 1 _ rfl rfl rfl WR4.out (Each1.one BV4.out) (fun b _ h e => by have := HWG.out; exact e.elim (fun e => by omega) (fun e => by have := (WR4.out.row e).1; omega)) (by simp) (by simp; have := HN'.out; have := HBIG.out; have := HID.out; omega) (by have := HCL.out; have := HLONG.out; omega)).mono ?_
                  rintro e5 w5 ⟨rfl, r5, a1, a2, a3⟩
                  rw [show [pl].flatten = pl by simp] at a1
                  have WR5 := Lib.hid a1
                  have BW5 := Lib.hid (BW4.out.trans ((WrS.below WR4.out a3).mono HWG.out))
                  have PB5 := Lib.hid (PB4.out.only a3 (fun e => e.elim (fun e => by have := GLT.out; omega) (fun e => Nat.lt_irrefl _ (RLT.out _ e))))
                  have BV5 := Lib.hid (HBV.out.below BW5.out (fun _ _ h => h))
                  have p15 := PB5.out.cell 1
                  have p25 := PB5.out.cell 2
                  have p45 := PB5.out.cell 4
                  simp only [partC, List.getElem?_toArray, List.getElem?_cons_zero, List.getElem?_cons_succ] at p15 p25 p45
                  clear a1 a2 a3 p0 p1 p2 p4
                  have hst5 := BV5.out.str (P := Try.prog) (src := 22) (dst := 9) Try.underlying22 Try.underlying5 Try.underlying9
                  have hcl : cur.length ≤ 100000 := by have := HCL.out; have := HLONG.out; omega
                  have hxl : pl.length ≤ 1000 := by have := HN'.out; have := HBIG.out; have := HID.out; omega
                  go_wp2_with fail
                  go_meet
                  exact ⟨r5, cur ++ pl, by rw [bstr_append], by rw [Hid, partB, if_neg (by decide), if_neg (by decide), if_pos rfl], WR5, BW5, PLEN⟩
                · by_cases k3 : k = 3
                  · subst k3
                    clear k0 k1 k2
                    go_wp2_with fail
                    refine (wtext_any g g r cur w4 _ pl _ WR4.out BV4.out (fun b _ h e => by have := HWG.out; exact e.elim (fun e => by omega) (fun e => by have := (WR4.out.row e).1; omega)) (by have := HN'.out; have := HBIG.out; omega) (by have := HCL.out; have := HLONG.out; omega)).mono ?_
                    rintro e5 w5 ⟨rfl, r5, a1, a2, a3⟩
                    have WR5 := Lib.hid a1
                    have BW5 := Lib.hid (BW4.out.trans ((WrS.below WR4.out a3).mono HWG.out))
                    have PB5 := Lib.hid (PB4.out.only a3 (fun e => e.elim (fun e => by have := GLT.out; omega) (fun e => Nat.lt_irrefl _ (RLT.out _ e))))
                    have BV5 := Lib.hid (HBV.out.below BW5.out (fun _ _ h => h))
                    have p15 := PB5.out.cell 1
                    have p25 := PB5.out.cell 2
                    have p45 := PB5.out.cell 4
                    simp only [partC, List.getElem?_toArray, List.getElem?_cons_zero, List.getElem?_cons_succ] at p15 p25 p45
                    clear a1 a2 a3 p0 p1 p2 p4
                    have hst5 := BV5.out.str (P := Try.prog) (src := 22) (dst := 9) Try.underlying22 Try.underlying5 Try.underlying9
                    have hcl : cur.length ≤ 100000 := by have := HCL.out; have := HLONG.out; omega
                    have hxl : pl.length ≤ 1000 := by have := HN'.out; have := HBIG.out; omega
                    have hxm : (countB pl.length).length ≤ 9 := countB_len _
                    have TX := Lib.hid (text06_any pl w5 (by omega))
                    go_wp2_with fail
                    refine TX.out.mono ?_
                    rintro e7 w7 ⟨rfl, a7⟩
                    have W7 := Lib.hid a7
                    clear a7 TX
                    go_wp2_with fail
                    go_meet
                    exact ⟨r5, cur ++ (countB pl.length ++ pl), by rw [bstr_append], by rw [Hid, partB, if_neg (by decide), if_neg (by decide), if_neg (by decide), if_pos rfl], WR5.out.only (Only.of_new W7.out (fun _ => False)) (fun h => h) (fun _ _ h => h), BW5.out.trans (W7.out.mono BW5.out.size), PLEN⟩
                  · by_cases k4 : k = 4
                    · subst k4
                      clear k0 k1 k2 k3
                      go_wp2_with fail
                      refine (wraw_new g g r cur w4 _ _ [.slice (some ⟨pb, 5, none⟩) 32 32] [id] _ 1 1 _ rfl rfl rfl WR4.out (Each1.one (IsB.of_blk5 PB4.out HID.out)) (fun b _ h e => e.elim (fun e => by have := GLT.out; omega) (fun e => by exact Nat.lt_irrefl _ (h ▸ RLT.out _ e))) (by simp) (by simp; have := HN'.out; have := HBIG.out; have := HID.out; omega) (by have := HCL.out; have := HLONG.out; omega)).mono ?_
                      rintro e5 w5 ⟨rfl, r5, a1, a2, a3⟩
                      rw [show [id].flatten = id by simp] at a1
                      have WR5 := Lib.hid a1
                      have BW5 := Lib.hid (BW4.out.trans ((WrS.below WR4.out a3).mono HWG.out))
                      have PB5 := Lib.hid (PB4.out.only a3 (fun e => e.elim (fun e => by have := GLT.out; omega) (fun e => Nat.lt_irrefl _ (RLT.out _ e))))
                      have BV5 := Lib.hid (HBV.out.below BW5.out (fun _ _ h => h))
                      have p15 := PB5.out.cell 1
                      have p25 := PB5.out.cell 2
                      have p45 := PB5.out.cell 4
                      simp only [partC, List.getElem?_toArray, List.getElem?_cons_zero, List.getElem?_cons_succ] at p15 p25 p45
                      clear a1 a2 a3 p0 p1 p2 p4
                      have hst5 := (IsB.of_blk5 PB5.out HID.out).str (P := Try.prog) (src := 22) (dst := 9) Try.underlying22 Try.underlying5 Try.underlying9
                      have hcl : cur.length ≤ 100000 := by have := HCL.out; have := HLONG.out; omega
                      have hxl : id.length ≤ 1000 := by have := HN'.out; have := HBIG.out; have := HID.out; omega
                      go_wp2_with fail
                      go_meet
                      exact ⟨r5, cur ++ id, by rw [bstr_append], by rw [Hid, partB, if_neg (by decide), if_neg (by decide), if_neg (by decide), if_neg (by decide), if_pos rfl], WR5, BW5, PLEN⟩
                    · have n0 : (k == 0) = false := by simpa using k0
                      have n1 : (k == 1) = false := by simpa using k1
                      have n2 : (k == 2) = false := by simpa using k2
                      have n3 : (k == 3) = false := by simpa using k3
                      have n4 : (k == 4) = false := by simpa using k4
                      have hpb : partB (k, sz, ((nn : Nat) : Int), ((mo : Nat) : Int), pl, id, ()) = [] := by rw [partB, if_neg k0, if_neg k1, if_neg k2, if_neg k3, if_neg k4]
                      have HPB := Lib.hid hpb
                      clear hpb k0 k1 k2 k3 k4
                      go_wp2_with fail
                      go_meet
                      exact ⟨r, cur, rfl, by rw [Hid, HPB.out, List.append_nil], WR4, BW4, PLEN⟩
        case rest =>
          obtain ⟨r', cur', rfl, HC2, HWR2, HB2, HPL⟩ := hcut
          have hp50 : pn ≤ 50 := HLONG.out
          have htk := take_snoc ps i (by rw [HPN.out]; exact hlt)
          have HTK := Lib.hid htk
          clear htk
          go_wp2
          go_roundg (pn - 1 - i)
          case measure => omega
          case rel =>
            refine ⟨i + 1, r', cur', by omega, rfl, rfl, ?_, ?_, ?_, HWR2.out, HB2.out⟩
            · rw [Hid, HC2.out, HTK.out, List.flatMap_append, HCU.out, HPE.out]; simp
            · have h1 := partB_len (k, sz, ((nn : Nat) : Int), ((mo : Nat) : Int), pl, id, ()) HPL.out HID.out
              have h2 := HCL.out
              rw [Hid, HC2.out, List.length_append]; omega
            · intro p hp
              rw [HTK.out, List.mem_append] at hp
              rcases hp with hp | hp
              · exact HGO.out p hp
              · simp only [List.mem_singleton] at hp; rw [hp, HPE.out]; exact HPL.out
      · have dlt : decide (i < pn) = false := by simpa using hlt
        have hin : i = pn := by omega
        have hall : ps.take i = ps := by rw [hin, ← HPN.out, List.take_length]
        have hcu := HCU.out
        rw [hall] at hcu
        have hgo := HGO.out
        rw [hall] at hgo
        have hcl : cur.length ≤ 100000 := by have := HCL.out; have := HLONG.out; omega
        have HCU := Lib.hid hcu
        have HGO := Lib.hid hgo
        have BY1 := Lib.hid (wbytes_any g g r cur wr HWR.out (by omega))
        clear hin hall hcu hgo hlt
        go_wp2_with fail
        refine BY1.out.mono ?_
        rintro e5 w5 ⟨A5, n5, c5, rfl, hn5, a1, a2⟩
        clear hn5
        have hst5 : (convert 22 9 (.slice A5 n5 c5)).run Try.prog w5 = .ok (.string (bstr cur)) w5 := (IsB.of_own a2).str (P := Try.prog) (src := 22) (dst := 9) Try.underlying22 Try.underlying5 Try.underlying9
        have WR5 := Lib.hid (HWR.out.only (Only.of_new a1 (fun _ => False)) (fun h => h) (fun _ _ h => h))
        have BW5 := Lib.hid (HB.out.trans (a1.mono HB.out.size))
        clear a1 a2 BY1
        go_wp2_with fail
        refine (wlen_any g g r cur w5 WR5.out).mono ?_
        rintro e6 w6 ⟨rfl, rfl⟩
        have BY2 := Lib.hid (wbytes_any g g r cur w5 WR5.out (by omega))
        go_wp2_with fail
        refine BY2.out.mono ?_
        rintro e7 w7 ⟨A7, n7, c7, rfl, hn7, a1, a2⟩
        have IB7 := Lib.hid (IsB.of_own a2)
        have BW7 := Lib.hid (BW5.out.trans (a1.mono BW5.out.size))
        clear hn7 a1 a2 BY2
        go_wp2_with fail
        refine (read_any w7 _ cur _ IB7.out (by omega)).mono ?_
        rintro e8 w8 ⟨g2, rfl, a3, a4⟩
        have BW8 := Lib.hid (BW7.out.trans (a4.mono BW7.out.size))
        have hwl : w.heap.size ≤ w7.heap.size := BW7.out.size
        have HPN50 := Lib.hid (show pn ≤ 50 from HLONG.out)
        obtain ⟨lo, hlo⟩ : ∃ lo, w7.heap.size = lo := ⟨_, rfl⟩
        obtain ⟨top, htop⟩ : ∃ top, w8.heap.size = top := ⟨_, rfl⟩
        rw [hlo, htop] at a3
        rw [hlo] at hwl
        have HWL := Lib.hid hwl
        have hcu : cur = (ps.drop 0).flatMap partB := HCU.out
        have RD8 := Lib.hid (hcu ▸ a3)
        clear a3 a4 hlo htop hwl hcu hst5 IB7 BW7 WR5 BW5 HWR HB
        clear hcl
        go_wp2_with fail
        go_loopg [103] pn (fun q v103 wr => ∃ (i : Nat), i + q = pn ∧ v103 = .int .i64 i ∧ Hid (IsRd wr lo top g2 ((ps.drop i).flatMap partB) 0) ∧ Hid (Below w.heap.size w wr))
        case atStart => exact ⟨0, by omega, rfl, RD8.out, BW8.out⟩
        case round =>
          clear RD8 BW8
          clear hi dlt
          obtain ⟨i, hi, rfl, HRD, HB⟩ := hrel
          by_cases hlt : i < pn
          · have dlt : decide (i < pn) = true := by simpa using hlt
            obtain ⟨b, o, k, sz, nn, mo, pl, id, v, rfl, hbw, hpe, hbv, hid, hrow, hsz1, hsz2, hn64, hm64⟩ := parts_at (HL.out) (by rw [HPN.out]; exact hlt)
            have hb37 : (partC k sz nn mo v id).length = 37 := partC_len _ _ _ _ _ _ hid
            have hv1 : v.oneCell' = true := by obtain ⟨A', n', c', rfl, _⟩ := hbv; rfl
            have hrow' := hrow.only (Only.of_below HB.out) (fun h => absurd hbw (by omega))
            have hone := partC_one k sz nn mo v id hv1
            have hpl : pl.length ≤ 1000 := by have := HGO.out _ (List.getElem_mem (by rw [HPN.out]; exact hlt : i < ps.length)); rw [hpe] at this; exact this
            have hdr := drop_part ps i (by rw [HPN.out]; exact hlt)
            obtain ⟨R, hR⟩ : ∃ R, (ps.drop (i + 1)).flatMap partB = R := ⟨_, rfl⟩
            rw [hR, hpe] at hdr
            have hrd := HRD.out
            rw [hdr] at hrd
            have HRD2 := Lib.hid hrd
            have HR := Lib.hid hR
            have HPL := Lib.hid hpl
            have HBV := Lib.hid hbv
            have HID := Lib.hid hid
            have HROW := Lib.hid hrow'
            have H37 := Lib.hid hb37
            have HONE := Lib.hid hone
            have HSZ := Lib.hid (And.intro hsz1 (And.intro hsz2 (And.intro hn64 hm64)))
            clear hpe hid hrow hrow' hb37 hv1 hone hsz1 hsz2 hn64 hm64 hbv hpl hdr hrd hR HRD
            go_upto_block 4 with fail
            go_cut [9] (fun _ wc => Hid (IsRd wc lo top g2 R 0) ∧ Hid (Below w.heap.size w wc))
            case first =>
              go_wp2_with (first
                | (with_reducible refine wpList_ld rfl 44 (.tmp 105) rfl b (o + i * 37) rfl (partC k sz nn mo v id) HROW.out _ Try.underlying44 rfl 37 infoPartW H37.out.symm ?_)
                | (with_reducible refine wpList_stb rfl 44 (.tmp 9) (.tmp 106) rfl wr.heap.size 0 _ rfl rfl 44 _ (Blk.new wr _ _) ?h1 ?h2 ?h3 ?_))
              case h1 => simp [H37.out]
              case h2 => rw [infoPartW]; simp [H37.out]
              case h3 => exact HONE.out
              intro w4 b4 o4
              rw [over_all _ _ (by simp [H37.out])] at b4
              have hO4 : Below wr.heap.size wr w4 := (((Only.refl (fun b => wr.heap.size ≤ b) wr).alloc _).trans o4 (fun b _ e => by omega)).below (Nat.le_refl _) (fun b hb h => by omega)
              have RD4 := Lib.hid (HRD2.out.only (Only.of_new hO4 (fun _ => False)) (fun _ _ _ _ h => h))
              have PB4 := Lib.hid b4
              have BW4 := Lib.hid (HB.out.trans (hO4.mono HB.out.size))
              have BV4 := Lib.hid (HBV.out.below BW4.out (fun _ _ h => h))
              have TLT := Lib.hid (show top ≤ wr.heap.size from HRD2.out.hi_le)
              have GMD := Lib.hid HRD2.out.mid
              have p0 := b4.cell 0
              have p1 := b4.cell 1
              have p2 := b4.cell 2
              have p4 := b4.cell 4
              simp only [partC, List.getElem?_toArray, List.getElem?_cons_zero, List.getElem?_cons_succ] at p0 p1 p2 p4
              clear b4 o4 hO4 HROW HB HRD2
              obtain ⟨pb, hpb⟩ : ∃ pb, wr.heap.size = pb := ⟨_, rfl⟩
              rw [hpb] at p0 p1 p2 p4 PB4 TLT ⊢
              clear hpb
              obtain ⟨B', n', c', rfl, hn', hnc', hs'⟩ := BV4.out
              clear hs' hnc'
              have HN' := Lib.hid hn'
              clear hn'
              go_upto_block 5 with fail
              clear hbw hlt dlt
              by_cases k1 : k = 1
              · subst k1
                have hb : partB (1, sz, ((nn : Nat) : Int), ((mo : Nat) : Int), pl, id, ()) = countB nn := by rw [partB, if_neg (by decide), if_pos rfl]; rfl
                have hrd := RD4.out
                rw [hb] at hrd
                have hrc : rcountS (countB nn ++ R) 0 nn = (nn, R, 0) := by rw [rcountS_countB _ _ HSZ.out.2.2.1, if_neg (by simp), if_neg (by omega)]
                have hc := rcount_any w4.drew lo top g2 _ 0 nn hrd
                rw [hrc] at hc
                have RC := Lib.hid hc
                clear hb hrd hrc hc
                go_wp2
                go_region_with (first
                  | (go_at_call 16; refine RC.out.mono ?_; rintro e5 w5 ⟨rfl, a2, a3⟩; have A2 := Lib.hid a2; have A3 := Lib.hid a3; have p25 := (PB4.out.drew.only a3 (by have := GMD.out; have := TLT.out; omega)).cell 2; simp only [partC, List.getElem?_toArray, List.getElem?_cons_zero, List.getElem?_cons_succ] at p25; clear a2 a3))
                all_goals
                  go_wp2
                  go_meet
                  exact ⟨A2.out, BW4.out.drew.trans (A3.out.below (by have := BW4.out.size; exact this) (fun b hb e => by have := GMD.out; have := HWL.out; omega))⟩
              · by_cases k2 : k = 2
                · subst k2
                  have hb : partB (2, sz, ((nn : Nat) : Int), ((mo : Nat) : Int), pl, id, ()) = pl := by rw [partB, if_neg (by decide), if_neg (by decide), if_pos rfl]
                  have hrd := RD4.out
                  rw [hb] at hrd
                  have hc := rraw_any w4.drew lo top g2 _ 0 (n' : Int) hrd
                  rw [rawO_app pl R _ (by rw [HN'.out]), rawL_app pl R _ (by rw [HN'.out]), rawE_app pl R _ _ (by rw [HN'.out])] at hc
                  have RC := Lib.hid hc
                  have hstd := (BV4.out.only (Only.refl (fun _ => False) _).drew (fun _ _ _ h => h)).str (P := Try.prog) (src := 22) (dst := 9) Try.underlying22 Try.underlying5 Try.underlying9
                  clear hb hrd hc
                  go_wp2
                  go_region_with (first
                    | (go_at_call 13; refine RC.out.mono ?_; rintro e5 w5 ⟨v5, rfl, ⟨A5, n5, c5, rfl, hn5, a1⟩, a2, a3⟩; clear hn5; have hst5 : (convert 22 9 (.slice A5 n5 c5)).run Try.prog w5 = .ok (.string (bstr pl)) w5 := (IsB.of_own a1).str (P := Try.prog) (src := 22) (dst := 9) Try.underlying22 Try.underlying5 Try.underlying9; have hstp : (convert 22 9 (.slice B' n' c')).run Try.prog w5 = .ok (.string (bstr pl)) w5 := ((BV4.out.only (Only.refl (fun _ => False) _).drew (fun _ _ _ h => h)).only a3 (fun b _ h e => by have := GMD.out; have := HWL.out; omega)).str (P := Try.prog) (src := 22) (dst := 9) Try.underlying22 Try.underlying5 Try.underlying9; have A2 := Lib.hid a2; have A3 := Lib.hid a3; have p45 := (PB4.out.drew.only a3 (by have := GMD.out; have := TLT.out; omega)).cell 4; simp only [partC, List.getElem?_toArray, List.getElem?_cons_zero, List.getElem?_cons_succ] at p45; clear a1 a2 a3))
                  all_goals
                    go_wp2
                    go_meet
                    exact ⟨A2.out, BW4.out.drew.trans (A3.out.below (by have := BW4.out.size; exact this) (fun b hb e => by have := GMD.out; have := HWL.out; omega))⟩
                · by_cases k3 : k = 3
                  · subst k3
                    have hb : partB (3, sz, ((nn : Nat) : Int), ((mo : Nat) : Int), pl, id, ()) = countB pl.length ++ pl := by rw [partB, if_neg (by decide), if_neg (by decide), if_neg (by decide), if_pos rfl]
                    have hrd := RD4.out
                    rw [hb] at hrd
                    have hc := rtext_any w4.drew lo top g2 _ 0 (n' : Int) hrd (by have := HN'.out; have := HPL.out; omega)
                    rw [textS_app pl R n' HN'.out (by have := HPL.out; omega)] at hc
                    have RC := Lib.hid hc
                    have hstd := (BV4.out.only (Only.refl (fun _ => False) _).drew (fun _ _ _ h => h)).str (P := Try.prog) (src := 22) (dst := 9) Try.underlying22 Try.underlying5 Try.underlying9
                    clear hb hrd hc
                    go_wp2
                    go_region_with (first
                      | (go_at_call 27; refine RC.out.mono ?_; rintro e5 w5 ⟨v5, rfl, ⟨A5, n5, c5, rfl, hn5, a1⟩, a2, a3⟩; clear hn5; have hst5 : (convert 22 9 (.slice A5 n5 c5)).run Try.prog w5 = .ok (.string (bstr pl)) w5 := (IsB.of_own a1).str (P := Try.prog) (src := 22) (dst := 9) Try.underlying22 Try.underlying5 Try.underlying9; have hstp : (convert 22 9 (.slice B' n' c')).run Try.prog w5 = .ok (.string (bstr pl)) w5 := ((BV4.out.only (Only.refl (fun _ => False) _).drew (fun _ _ _ h => h)).only a3 (fun b _ h e => by have := GMD.out; have := HWL.out; omega)).str (P := Try.prog) (src := 22) (dst := 9) Try.underlying22 Try.underlying5 Try.underlying9; have A2 := Lib.hid a2; have A3 := Lib.hid a3; have p45 := (PB4.out.drew.only a3 (by have := GMD.out; have := TLT.out; omega)).cell 4; simp only [partC, List.getElem?_toArray, List.getElem?_cons_zero, List.getElem?_cons_succ] at p45; clear a1 a2 a3))
                    all_goals
                      go_wp2
                      go_meet
                      exact ⟨A2.out, BW4.out.drew.trans (A3.out.below (by have := BW4.out.size; exact this) (fun b hb e => by have := GMD.out; have := HWL.out; omega))⟩
                  · by_cases k4 : k = 4
                    · subst k4
                      have hb : partB (4, sz, ((nn : Nat) : Int), ((mo : Nat) : Int), pl, id, ()) = id := by rw [partB, if_neg (by decide), if_neg (by decide), if_neg (by decide), if_neg (by decide), if_pos rfl]
                      have hrd := RD4.out
                      rw [hb] at hrd
                      have hc := rid_any w4.drew lo top g2 _ 0 hrd
                      rw [rawO_app id R _ (by rw [HID.out]; rfl), rawL_app id R _ (by rw [HID.out]; rfl), rawE_app id R _ _ (by rw [HID.out]; rfl), idS_self' id HID.out] at hc
                      unfold idV at hc
                      have RC := Lib.hid hc
                      have hrow4 : RowAt w4.drew pb 5 (bts id) := row5 PB4.out
                      have EQ := Lib.hid (fun w' => run_eq_arr (P := Try.prog) (t := 42) Try.underlying42 Try.underlying5 (by kernel_rfl) (by kernel_rfl) (by kernel_rfl) id id HID.out HID.out w' 9998)
                      have heqA := EQ.out
                      simp only [beq_self_eq_true] at heqA
                      have HROW4 := Lib.hid hrow4
                      clear hb hrd hc
                      go_wp2
                      have hu4 : Try.prog.underlying 42 = some (.array 32 5) := Try.underlying42
                      have hl4 : (Try.prog.info? 42).map (·.size) = some (bts id).length := by rw [infoID, bts_length, HID.out]
                      have ho4 : ∀ v ∈ bts id, v.oneCell' = true := bts_one id
                      go_region_held3 (fun w' => w'.rangeAt pb 5 (bts id)) (first | exact HROW5.out | go_keep_ranges) (first
                        | (go_at_call 28; refine RC.out.mono ?_; rintro e5 w5 ⟨rfl, a2, a3⟩; have HROW5 := Lib.hid (HROW4.out.only a3 (by have := GMD.out; have := TLT.out; omega)); have A2 := Lib.hid a2; have A3 := Lib.hid a3; clear a2 a3))
                      all_goals
                        go_wp2
                        go_meet
                        exact ⟨A2.out, BW4.out.drew.trans (A3.out.below (by have := BW4.out.size; exact this) (fun b hb e => by have := GMD.out; have := HWL.out; omega))⟩
                    · by_cases k0 : k = 0
                      · subst k0
                        obtain ⟨s, hs⟩ : ∃ s, clamp8 sz = s := ⟨_, rfl⟩
                        have hs8 : s ≤ 8 := by rw [← hs]; unfold clamp8; omega
                        have hb : partB (0, sz, ((nn : Nat) : Int), ((mo : Nat) : Int), pl, id, ()) = les s nn := by rw [partB, if_pos rfl, ← hs]; rfl
                        have hrd := RD4.out
                        rw [hb] at hrd
                        have hc := rnum_any w4 lo top g2 _ 0 ((s : Nat) : Int) hrd
                        rw [rawO_app (les s nn) R _ (by rw [les_length]), rawL_app (les s nn) R _ (by rw [les_length]), rawE_app (les s nn) R _ _ (by rw [les_length]), numOf_les _ _ hs8] at hc
                        have RC := Lib.hid hc
                        have hz := size06_any sz w4
                        rw [hs] at hz
                        have SZ := Lib.hid hz
                        have N64 := Lib.hid HSZ.out.2.2.1
                        clear hb hrd hc hz hs
                        have h9 : s = 0 ∨ s = 1 ∨ s = 2 ∨ s = 3 ∨ s = 4 ∨ s = 5 ∨ s = 6 ∨ s = 7 ∨ s = 8 := by omega
                        clear hs8
                        rcases h9 with rfl | rfl | rfl | rfl | rfl | rfl | rfl | rfl | rfl
                        · have hm : ((0 : Int) != bits BinOp.and IntKind.u64 ((nn : Nat) : Int) 0) = false := by have := and_pow nn 0 N64.out (by omega); simpa [Nat.mod_one] using this
                          go_wp2_with fail
                          refine SZ.out.mono ?_
                          rintro e5 w5 ⟨rfl, rfl⟩
                          go_wp2_with fail
                          refine SZ.out.mono ?_
                          rintro e6 w6 ⟨rfl, rfl⟩
                          go_wp2_with fail
                          refine RC.out.mono ?_
                          rintro e7 w7 ⟨rfl, a2, a3⟩
                          have A2 := Lib.hid a2
                          have A3 := Lib.hid a3
                          clear a2 a3
                          go_wp2_with fail
                          go_meet
                          exact ⟨A2.out, BW4.out.trans (A3.out.below (by have := BW4.out.size; exact this) (fun b hb e => by have := GMD.out; have := HWL.out; omega))⟩
                        · have hm : (((nn : Nat) : Int) % 256 != bits BinOp.and IntKind.u64 ((nn : Nat) : Int) 255) = false := and_pow nn 1 N64.out (by omega)
                          go_wp2_with fail
                          refine SZ.out.mono ?_
                          rintro e5 w5 ⟨rfl, rfl⟩
                          go_wp2_with fail
                          refine SZ.out.mono ?_
                          rintro e6 w6 ⟨rfl, rfl⟩
                          go_wp2_with fail
                          refine RC.out.mono ?_
                          rintro e7 w7 ⟨rfl, a2, a3⟩
                          have A2 := Lib.hid a2
                          have A3 := Lib.hid a3
                          clear a2 a3
                          go_wp2_with fail
                          go_meet
                          exact ⟨A2.out, BW4.out.trans (A3.out.below (by have := BW4.out.size; exact this) (fun b hb e => by have := GMD.out; have := HWL.out; omega))⟩
                        · have hm : (((nn : Nat) : Int) % 65536 != bits BinOp.and IntKind.u64 ((nn : Nat) : Int) 65535) = false := and_pow nn 2 N64.out (by omega)
                          go_wp2_with fail
                          refine SZ.out.mono ?_
                          rintro e5 w5 ⟨rfl, rfl⟩
                          go_wp2_with fail
                          refine SZ.out.mono ?_
                          rintro e6 w6 ⟨rfl, rfl⟩
                          go_wp2_with fail
                          refine RC.out.mono ?_
                          rintro e7 w7 ⟨rfl, a2, a3⟩
                          have A2 := Lib.hid a2
                          have A3 := Lib.hid a3
                          clear a2 a3
                          go_wp2_with fail
                          go_meet
                          exact ⟨A2.out, BW4.out.trans (A3.out.below (by have := BW4.out.size; exact this) (fun b hb e => by have := GMD.out; have := HWL.out; omega))⟩
                        · have hm : (((nn : Nat) : Int) % 16777216 != bits BinOp.and IntKind.u64 ((nn : Nat) : Int) 16777215) = false := and_pow nn 3 N64.out (by omega)
                          go_wp2_with fail
                          refine SZ.out.mono ?_
                          rintro e5 w5 ⟨rfl, rfl⟩
                          go_wp2_with fail
                          refine SZ.out.mono ?_
                          rintro e6 w6 ⟨rfl, rfl⟩
                          go_wp2_with fail
                          refine RC.out.mono ?_
                          rintro e7 w7 ⟨rfl, a2, a3⟩
                          have A2 := Lib.hid a2
                          have A3 := Lib.hid a3
                          clear a2 a3
                          go_wp2_with fail
                          go_meet
                          exact ⟨A2.out, BW4.out.trans (A3.out.below (by have := BW4.out.size; exact this) (fun b hb e => by have := GMD.out; have := HWL.out; omega))⟩
                        · have hm : (((nn : Nat) : Int) % 4294967296 != bits BinOp.and IntKind.u64 ((nn : Nat) : Int) 4294967295) = false := and_pow nn 4 N64.out (by omega)
                          go_wp2_with fail
                          refine SZ.out.mono ?_
                          rintro e5 w5 ⟨rfl, rfl⟩
                          go_wp2_with fail
                          refine SZ.out.mono ?_
                          rintro e6 w6 ⟨rfl, rfl⟩
                          go_wp2_with fail
                          refine RC.out.mono ?_
                          rintro e7 w7 ⟨rfl, a2, a3⟩
                          have A2 := Lib.hid a2
                          have A3 := Lib.hid a3
                          clear a2 a3
                          go_wp2_with fail
                          go_meet
                          exact ⟨A2.out, BW4.out.trans (A3.out.below (by have := BW4.out.size; exact this) (fun b hb e => by have := GMD.out; have := HWL.out; omega))⟩
                        · have hm : (((nn : Nat) : Int) % 1099511627776 != bits BinOp.and IntKind.u64 ((nn : Nat) : Int) 1099511627775) = false := and_pow nn 5 N64.out (by omega)
                          go_wp2_with fail
                          refine SZ.out.mono ?_
                          rintro e5 w5 ⟨rfl, rfl⟩
                          go_wp2_with fail
                          refine SZ.out.mono ?_
                          rintro e6 w6 ⟨rfl, rfl⟩
                          go_wp2_with fail
                          refine RC.out.mono ?_
                          rintro e7 w7 ⟨rfl, a2, a3⟩
                          have A2 := Lib.hid a2
                          have A3 := Lib.hid a3
                          clear a2 a3
                          go_wp2_with fail
                          go_meet
                          exact ⟨A2.out, BW4.out.trans (A3.out.below (by have := BW4.out.size; exact this) (fun b hb e => by have := GMD.out; have := HWL.out; omega))⟩
                        · have hm : (((nn : Nat) : Int) % 281474976710656 != bits BinOp.and IntKind.u64 ((nn : Nat) : Int) 281474976710655) = false := and_pow nn 6 N64.out (by omega)
                          go_wp2_with fail
                          refine SZ.out.mono ?_
                          rintro e5 w5 ⟨rfl, rfl⟩
                          go_wp2_with fail
                          refine SZ.out.mono ?_
                          rintro e6 w6 ⟨rfl, rfl⟩
                          go_wp2_with fail
                          refine RC.out.mono ?_
                          rintro e7 w7 ⟨rfl, a2, a3⟩
                          have A2 := Lib.hid a2
                          have A3 := Lib.hid a3
                          clear a2 a3
                          go_wp2_with fail
                          go_meet
                          exact ⟨A2.out, BW4.out.trans (A3.out.below (by have := BW4.out.size; exact this) (fun b hb e => by have := GMD.out; have := HWL.out; omega))⟩
                        · have hm : (((nn : Nat) : Int) % 72057594037927936 != bits BinOp.and IntKind.u64 ((nn : Nat) : Int) 72057594037927935) = false := and_pow nn 7 N64.out (by omega)
                          go_wp2_with fail
                          refine SZ.out.mono ?_
                          rintro e5 w5 ⟨rfl, rfl⟩
                          go_wp2_with fail
                          refine SZ.out.mono ?_
                          rintro e6 w6 ⟨rfl, rfl⟩
                          go_wp2_with fail
                          refine RC.out.mono ?_
                          rintro e7 w7 ⟨rfl, a2, a3⟩
                          have A2 := Lib.hid a2
                          have A3 := Lib.hid a3
                          clear a2 a3
                          go_wp2_with fail
                          go_meet
                          exact ⟨A2.out, BW4.out.trans (A3.out.below (by have := BW4.out.size; exact this) (fun b hb e => by have := GMD.out; have := HWL.out; omega))⟩
                        · have hm : (((nn : Nat) : Int) % 18446744073709551616 != ((nn : Nat) : Int)) = false := by rw [show ((nn : Nat) : Int) % 18446744073709551616 = ((nn : Nat) : Int) by have := N64.out; omega, bne_self_eq_false]
                          go_wp2_with fail
                          refine SZ.out.mono ?_
                          rintro e5 w5 ⟨rfl, rfl⟩
                          go_wp2_with fail
                          refine SZ.out.mono ?_
                          rintro e6 w6 ⟨rfl, rfl⟩
                          go_wp2_with fail
                          refine RC.out.mono ?_
                          rintro e7 w7 ⟨rfl, a2, a3⟩
                          have A2 := Lib.hid a2
                          have A3 := Lib.hid a3
                          clear a2 a3
                          go_wp2_with fail
                          go_meet
                          exact ⟨A2.out, BW4.out.trans (A3.out.below (by have := BW4.out.size; exact this) (fun b hb e => by have := GMD.out; have := HWL.out; omega))⟩
                      · have n0 : (k == 0) = false := by simpa using k0
                        have n1 : (k == 1) = false := by simpa using k1
                        have n2 : (k == 2) = false := by simpa using k2
                        have n3 : (k == 3) = false := by simpa using k3
                        have n4 : (k == 4) = false := by simpa using k4
                        have hpb : partB (k, sz, ((nn : Nat) : Int), ((mo : Nat) : Int), pl, id, ()) = [] := by rw [partB, if_neg k0, if_neg k1, if_neg k2, if_neg k3, if_neg k4]
                        have hrd := RD4.out
                        rw [hpb, List.nil_append] at hrd
                        have RD5 := Lib.hid hrd
                        clear hpb hrd k0 k1 k2 k3 k4
                        go_wp2_with fail
                        go_meet
                        exact ⟨RD5, BW4⟩
            case rest =>
              obtain ⟨HRD3, HB3⟩ := hcut
              have hp50 : pn ≤ 50 := HPN50.out
              go_wp2
              go_roundg (pn - 1 - i)
              case measure => omega
              case rel => exact ⟨i + 1, by omega, rfl, HR.out ▸ HRD3.out, HB3.out⟩
          · have dlt : decide (i < pn) = false := by simpa using hlt
            have hnil : (ps.drop i).flatMap partB = [] := by rw [List.drop_of_length_le (by rw [HPN.out]; omega)]; rfl
            have hrd := HRD.out
            rw [hnil] at hrd
            have HEN := Lib.hid (rend_any wr lo top g2 [] 0 hrd)
            have HLF := Lib.hid (fun n => rleft_any (wr.drewN n) lo top g2 [] 0 hrd)
            rw [show endS [] 0 = 0 from rfl] at HEN
            clear hlt hnil hrd
            go_wp2_with fail
            refine HEN.out.mono ?_
            rintro e7 w7 ⟨rfl, n7, rfl⟩
            go_wp2_with fail
            refine (HLF.out n7).mono ?_
            rintro e8 w8 ⟨rfl, rfl⟩
            go_wp2
            go_ret
            exact ⟨rfl, below_drewN' HB.out n7⟩
  · have dp : decide ((50 : Int) < (pn : Int)) = true := by simp; omega
    clear hlong
    go_enter Try.func7, Try.ntmps7
    go_wp2_with fail
    refine (writes_any w).mono ?_
    rintro e1 w1 ⟨rfl, a1⟩
    have A1 := Lib.hid a1
    clear a1
    go_wp2
    go_ret
    exact ⟨rfl, A1.out⟩

theorem wireWrites_lifted (os : Os) (started : os.Started) (H : Type) (enc : TypeId × Value → H) :
    ReturnsInHanded {} Try.checked os 7 .any (Rows.wireWritesSpec.pre6 enc Try.prog Try.f7 Rows.wireWritesRow.domain false) (Rows.wireWritesSpec.post enc Try.prog Try.f7 false true false false) := by
  refine law_lift (C := Try.checked) own started (by kernel_rfl) Try.func7
    (ChangeSpec.witness6 (enc := enc) (C := Try.checked) false ⟨#[], #[.slice none 0 0], []⟩ 8 (by kernel_rfl) (by kernel_rfl) (by kernel_rfl) (by kernel_rfl)) rfl Try.underlying4 laidOut ?hread rfl ?hs ?walk
  case hread =>
    intro t ht
    rw [Try.params7] at ht
    simp at ht
    subst ht
    exact ⟨by kernel_rfl, of_decide_eq_true (by kernel_rfl)⟩
  case hs =>
    intro ds hl
    match ds, hl with
    | [d0], _ => exact ⟨rfl, rfl, rfl⟩
  case walk =>
    intro W base args ds p hval hA
    rw [Try.params7] at hA hval
    obtain ⟨v0, vs0, d0, ds0, p0, q0, hargs, rfl, rfl, h0, r0⟩ := trodAll_cons hA
    obtain ⟨rfl, rfl, rfl⟩ := trodAll_nil r0
    obtain rfl : args = #[v0] := by cases args; simp_all
    obtain ⟨a0, ha0⟩ := open_sl Try.underlying40 opens_parts (hval 0 40 v0 rfl rfl) h0
    exact wireWrites_any _ a0 W ha0

theorem wireWrites_over : Rows.wireWritesRow.holds Try.pinned (OpenSpec.ofChange Rows.wireWritesSpec) :=
  OpenClaim.holds_of_wide 7 Try.f7 rfl rfl rfl rfl rfl rfl rfl ⟨rfl, rfl, rfl, rfl, rfl⟩ rfl rfl rfl rfl rfl (by kernel_rfl) Try.func7 (by kernel_rfl)
    (of_decide_eq_true (by kernel_rfl)) (by unfold Func.isWrapper; first | (rw [if_pos (by decide +kernel)]; kernel_rfl) | (rw [if_neg (by decide +kernel)]; exact ⟨rfl, rfl⟩))
    (fun os started H enc _ => wireWrites_lifted os started H enc)

/-- the statement -/
theorem WireWrites_holds : Rows.WireWritesSaid := wireWrites_over
#print axioms WireWrites_holds
end Go.Proofs.Ytmcgfcchmpoalaa
