/- the walk of law12.CheckMoney. -/
import Derived.Test.YtkenkhefpemdmaaAs
import Derived.Test.YtkenkhefpemdmaaRow
namespace Go.Proofs.Ytkenkhefpemdmaa
open Go.RowKit
theorem two_outs {w : World} {g : Nat} {T : TypeId} {a b : Int} (hb : Blk w g T (outC a zid ++ outC b zid).toArray) (ha : (Lit.int .i64 a).wf = true) (hb' : (Lit.int .i64 b).wf = true) (ok : Nat → Prop) (hok : ok g) :
    outsSh.rel w ok [.slice (some ⟨g, 0, none⟩) 2 2] [(a, zid, ()), (b, zid, ())] :=
  ⟨some ⟨g, 0, none⟩, 2, [outC a zid, outC b zid], rfl, by simp, by simp [maxLen], .cons (outM_rel ha) (.cons (outM_rel hb') .nil), by simp [outC, zid]; rfl, fun _ => ⟨g, 0, rfl, hok, by simpa using hb.rowAll⟩⟩
theorem ctx_two (a b : Int) : ctx ([inM], [(a, zid, ()), (b, zid, ())], ()) true = if (csum 0 [(a, zid, ()), (b, zid, ())]).2 then 0 else 121 := by
  have h : cins true [] [inM] = 0 := by decide
  rw [ctx, if_neg (by simp)]
  simp only [h, if_true]
set_option maxRecDepth 20000 in
set_option maxHeartbeats 4000000 in
theorem checkMoney_any (a b : Int) (w : World) (ha : (Lit.int .i64 a).wf = true) (hb : (Lit.int .i64 b).wf = true) :
    Calls Try.prog 7 #[.int .i64 a, .int .i64 b] w fun e w' => e = .returned (.bool true) ∧ Below w.heap.size w w' := by
  have hba := bounds_i64' ha
  have hbb := bounds_i64' hb

  have HA := Lib.hid ha
  have HB := Lib.hid hb
  clear ha hb
  have hcases : (0 ≤ a ∧ 0 ≤ b ∧ a ≤ 1125899906842624 ∧ b ≤ 1125899906842624 - a) ∨ a < 0 ∨ (0 ≤ a ∧ b < 0) ∨ (0 ≤ a ∧ 0 ≤ b ∧ 1125899906842624 < a) ∨ (0 ≤ a ∧ 0 ≤ b ∧ a ≤ 1125899906842624 ∧ 1125899906842624 - a < b) := by omega
  rcases hcases with ⟨k1, k2, k3, k4⟩ | k1 | ⟨k1, k2⟩ | ⟨k1, k2, k3⟩ | ⟨k1, k2, k3, k4⟩
  · have hcs : csum 0 [(a, zid, ()), (b, zid, ())] = (a + b, true) := by rw [csum, if_neg (by simp; omega), if_neg (by simp; omega), csum, if_neg (by simp; omega), if_neg (by simp; omega), csum]; simp
    have wr1 : IntKind.i64.wrap (1125899906842624 - a) = 1125899906842624 - a := w64 _ (by omega)
    have wr2 : IntKind.i64.wrap (a + b) = a + b := w64 _ (by omega)
    have hd1 : decide ((0 : Int) ≤ a) = true := by simp; omega
    have hd2 : decide ((0 : Int) ≤ b) = true := by simp; omega
    have hd3 : decide (a ≤ 1125899906842624) = true := by simp; omega
    have hd4 : decide (b ≤ 1125899906842624 - a) = true := by simp; omega
    have HCS := Lib.hid hcs
    clear hcs
    go_enter Try.func7, Try.ntmps7
    go_wp2_with fail
    refine (asks_any w).mono ?_
    rintro e1 w1 ⟨rfl, a1⟩
    have A1 := Lib.hid a1
    clear a1
    have CS := Lib.hid (csum_any (w1.alloc (.cells (outC a zid ++ outC b zid).toArray 58)) (some ⟨w1.heap.size, 0, none⟩) 2 2 [(a, zid, ()), (b, zid, ())] (fun _ => True) (two_outs (Blk.new w1 _ _) HA.out HB.out _ trivial) rfl)
    rw [HCS.out] at CS
    go_wp2_with fail
    refine CS.out.mono ?_
    rintro e2 w2 ⟨rfl, a2⟩
    have A2 := Lib.hid ((A1.out.alloc A1.out.size (.cells (outC a zid ++ outC b zid).toArray 58)).trans (a2.mono (A1.out.alloc A1.out.size _).size))
    clear a2 CS A1
    go_wp2_with fail
    refine (first_any w2 0).mono ?_
    rintro e3 w3 ⟨p, q, rfl, a3, g1, g2, b1, b2⟩
    have K3 := Lib.hid (show As w2 w3 0 p q from ⟨b1, b2, a3, g1, g2⟩)
    clear a3 g1 g2 b1 b2
    have hn3 := Blk.new w3 25 [slM p, slM q].toArray
    go_wp2_with (with_reducible refine wpList_stb rfl 25 (.tmp 8) (.tmp 36) rfl w3.heap.size 0 _ rfl rfl 25 _ (Blk.new w3 _ _) ?h1 ?h2 ?h3 ?_)
    case h1 => simp
    case h2 => rw [infoTx]; rfl
    case h3 => exact ⟨rfl, rfl⟩
    intro w4 b4 o4
    rw [over_all _ _ (by simp)] at b4
    clear hn3
    have hO4 : Below w3.heap.size w3 w4 := (((Only.refl (fun b => w3.heap.size ≤ b) w3).alloc _).trans o4 (fun b _ e => by omega)).below (Nat.le_refl _) (fun b hb h => by omega)
    have K4 := Lib.hid (K3.out.step hO4)
    have hpl := K3.out.bi.lt
    have hql := K3.out.bo.lt
    obtain ⟨t8, ht8⟩ : ∃ t8, w3.heap.size = t8 := ⟨_, rfl⟩
    rw [ht8] at b4 hpl hql ⊢
    have T4 := Lib.hid b4
    have HPL := Lib.hid hpl
    have HQL := Lib.hid hql
    have HG := Lib.hid (show w2.heap.size ≤ t8 by have := K3.out.below.size; omega)
    clear b4 o4 hO4 K3 ht8 hpl hql
    have hal : Blk (w4.alloc (.cells (outC a zid ++ outC b zid).toArray 58)) t8 25 #[slM p, slM q] := T4.out.alloc _
    have c1 := fun o => (T4.out.alloc o).cell 1
    have f1 := fun o => (T4.out.alloc o).frozen 1
    simp only [List.getElem?_toArray, List.getElem?_cons_zero, List.getElem?_cons_succ] at c1
    have bo2 : Blk (w4.alloc (.cells (outC a zid ++ outC b zid).toArray 58)) w4.heap.size 58 (outC a zid ++ outC b zid).toArray := Blk.new w4 _ _
    have hq4 : q < t8 := HQL.out
    have ha5 : Below w4.heap.size w4 (w4.alloc (.cells (outC a zid ++ outC b zid).toArray 58)) := (Below.refl _ _).alloc (Nat.le_refl _) _
    have ho5 : Only (fun b => b = t8) (w4.alloc (.cells (outC a zid ++ outC b zid).toArray 58)) ((w4.alloc (.cells (outC a zid ++ outC b zid).toArray 58)).setCell ⟨t8, 1, none⟩ (.slice (some ⟨w4.heap.size, 0, none⟩) 2 2)) := (Only.refl (fun b => b = t8) _).setCell (p := ⟨t8, 1, none⟩) (fun _ => rfl) _
    have K5 := Lib.hid ((K4.out.step ha5).only ho5 (by have := HPL.out; omega) (by omega) HG.out)
    have hb5 : Blk ((w4.alloc (.cells (outC a zid ++ outC b zid).toArray 58)).setCell ⟨t8, 1, none⟩ (.slice (some ⟨w4.heap.size, 0, none⟩) 2 2)) t8 25 [slM p, .slice (some ⟨w4.heap.size, 0, none⟩) 2 2].toArray := hal.set_ 1 (.slice (some ⟨w4.heap.size, 0, none⟩) 2 2)
    have bo5 := bo2.only ho5 (by have := T4.out.lt; omega)
    have C1 := Lib.hid (check_tx_any ((w4.alloc (.cells (outC a zid ++ outC b zid).toArray 58)).setCell ⟨t8, 1, none⟩ (.slice (some ⟨w4.heap.size, 0, none⟩) 2 2)) (some ⟨p, 0, none⟩) (some ⟨w4.heap.size, 0, none⟩) 1 2 1 2 [inM] [(a, zid, ()), (b, zid, ())] (fun _ => True) true (K5.out.ins _ trivial) (two_outs bo5 HA.out HB.out _ trivial) rfl rfl)
    rw [ctx_two, HCS.out] at C1
    have HR5 := Lib.hid hb5.rowAll
    have A5 := Lib.hid (A2.out.trans (K5.out.below.mono A2.out.size))
    clear ha5 ho5 hb5 bo5 bo2 hal K4 K5 hq4
    go_wp2_with (refine wpList_ldg2 (by rfl) 25 (.tmp 8) rfl t8 0 rfl [slM p, .slice (some ⟨w4.heap.size, 0, none⟩) 2 2] HR5.out _ Try.underlying25 rfl 2 infoTx rfl ?_)
    refine C1.out.mono ?_
    rintro e6 w6 ⟨rfl, a6⟩
    have A6 := Lib.hid (A5.out.trans (a6.mono A5.out.size))
    clear a6 C1 c1 f1 HR5
    go_wp2
    go_ret
    exact ⟨rfl, A6.out⟩
  · have hcs : csum 0 [(a, zid, ()), (b, zid, ())] = (0, false) := by
      rw [csum]
      split
      · rfl
      · split
        · rfl
        · rw [csum]
          split
          · rfl
          · split
            · rfl
            · exfalso; simp at *; omega
    have hd1 : decide ((0 : Int) ≤ a) = false := by simp; omega
    have hn1 : ¬ ((0 : Int) ≤ a) := by omega
    have HCS := Lib.hid hcs
    clear hcs
    go_enter Try.func7, Try.ntmps7
    go_wp2_with fail
    refine (asks_any w).mono ?_
    rintro e1 w1 ⟨rfl, a1⟩
    have A1 := Lib.hid a1
    clear a1
    have CS := Lib.hid (csum_any (w1.alloc (.cells (outC a zid ++ outC b zid).toArray 58)) (some ⟨w1.heap.size, 0, none⟩) 2 2 [(a, zid, ()), (b, zid, ())] (fun _ => True) (two_outs (Blk.new w1 _ _) HA.out HB.out _ trivial) rfl)
    rw [HCS.out] at CS
    go_wp2_with fail
    refine CS.out.mono ?_
    rintro e2 w2 ⟨rfl, a2⟩
    have A2 := Lib.hid ((A1.out.alloc A1.out.size (.cells (outC a zid ++ outC b zid).toArray 58)).trans (a2.mono (A1.out.alloc A1.out.size _).size))
    clear a2 CS A1
    go_wp2_with fail
    refine (first_any w2 0).mono ?_
    rintro e3 w3 ⟨p, q, rfl, a3, g1, g2, b1, b2⟩
    have K3 := Lib.hid (show As w2 w3 0 p q from ⟨b1, b2, a3, g1, g2⟩)
    clear a3 g1 g2 b1 b2
    have hn3 := Blk.new w3 25 [slM p, slM q].toArray
    go_wp2_with (with_reducible refine wpList_stb rfl 25 (.tmp 8) (.tmp 36) rfl w3.heap.size 0 _ rfl rfl 25 _ (Blk.new w3 _ _) ?h1 ?h2 ?h3 ?_)
    case h1 => simp
    case h2 => rw [infoTx]; rfl
    case h3 => exact ⟨rfl, rfl⟩
    intro w4 b4 o4
    rw [over_all _ _ (by simp)] at b4
    clear hn3
    have hO4 : Below w3.heap.size w3 w4 := (((Only.refl (fun b => w3.heap.size ≤ b) w3).alloc _).trans o4 (fun b _ e => by omega)).below (Nat.le_refl _) (fun b hb h => by omega)
    have K4 := Lib.hid (K3.out.step hO4)
    have hpl := K3.out.bi.lt
    have hql := K3.out.bo.lt
    obtain ⟨t8, ht8⟩ : ∃ t8, w3.heap.size = t8 := ⟨_, rfl⟩
    rw [ht8] at b4 hpl hql ⊢
    have T4 := Lib.hid b4
    have HPL := Lib.hid hpl
    have HQL := Lib.hid hql
    have HG := Lib.hid (show w2.heap.size ≤ t8 by have := K3.out.below.size; omega)
    clear b4 o4 hO4 K3 ht8 hpl hql
    have hal : Blk (w4.alloc (.cells (outC a zid ++ outC b zid).toArray 58)) t8 25 #[slM p, slM q] := T4.out.alloc _
    have c1 := fun o => (T4.out.alloc o).cell 1
    have f1 := fun o => (T4.out.alloc o).frozen 1
    simp only [List.getElem?_toArray, List.getElem?_cons_zero, List.getElem?_cons_succ] at c1
    have bo2 : Blk (w4.alloc (.cells (outC a zid ++ outC b zid).toArray 58)) w4.heap.size 58 (outC a zid ++ outC b zid).toArray := Blk.new w4 _ _
    have hq4 : q < t8 := HQL.out
    have ha5 : Below w4.heap.size w4 (w4.alloc (.cells (outC a zid ++ outC b zid).toArray 58)) := (Below.refl _ _).alloc (Nat.le_refl _) _
    have ho5 : Only (fun b => b = t8) (w4.alloc (.cells (outC a zid ++ outC b zid).toArray 58)) ((w4.alloc (.cells (outC a zid ++ outC b zid).toArray 58)).setCell ⟨t8, 1, none⟩ (.slice (some ⟨w4.heap.size, 0, none⟩) 2 2)) := (Only.refl (fun b => b = t8) _).setCell (p := ⟨t8, 1, none⟩) (fun _ => rfl) _
    have K5 := Lib.hid ((K4.out.step ha5).only ho5 (by have := HPL.out; omega) (by omega) HG.out)
    have hb5 : Blk ((w4.alloc (.cells (outC a zid ++ outC b zid).toArray 58)).setCell ⟨t8, 1, none⟩ (.slice (some ⟨w4.heap.size, 0, none⟩) 2 2)) t8 25 [slM p, .slice (some ⟨w4.heap.size, 0, none⟩) 2 2].toArray := hal.set_ 1 (.slice (some ⟨w4.heap.size, 0, none⟩) 2 2)
    have bo5 := bo2.only ho5 (by have := T4.out.lt; omega)
    have C1 := Lib.hid (check_tx_any ((w4.alloc (.cells (outC a zid ++ outC b zid).toArray 58)).setCell ⟨t8, 1, none⟩ (.slice (some ⟨w4.heap.size, 0, none⟩) 2 2)) (some ⟨p, 0, none⟩) (some ⟨w4.heap.size, 0, none⟩) 1 2 1 2 [inM] [(a, zid, ()), (b, zid, ())] (fun _ => True) true (K5.out.ins _ trivial) (two_outs bo5 HA.out HB.out _ trivial) rfl rfl)
    rw [ctx_two, HCS.out] at C1
    have HR5 := Lib.hid hb5.rowAll
    have A5 := Lib.hid (A2.out.trans (K5.out.below.mono A2.out.size))
    clear ha5 ho5 hb5 bo5 bo2 hal K4 K5 hq4
    go_wp2_with (refine wpList_ldg2 (by rfl) 25 (.tmp 8) rfl t8 0 rfl [slM p, .slice (some ⟨w4.heap.size, 0, none⟩) 2 2] HR5.out _ Try.underlying25 rfl 2 infoTx rfl ?_)
    refine C1.out.mono ?_
    rintro e6 w6 ⟨rfl, a6⟩
    have A6 := Lib.hid (A5.out.trans (a6.mono A5.out.size))
    clear a6 C1 c1 f1 HR5
    go_wp2
    go_ret
    exact ⟨rfl, A6.out⟩
  · have hcs : csum 0 [(a, zid, ()), (b, zid, ())] = (0, false) := by
      rw [csum]
      split
      · rfl
      · split
        · rfl
        · rw [csum]
          split
          · rfl
          · split
            · rfl
            · exfalso; simp at *; omega
    have hd1 : decide ((0 : Int) ≤ a) = true := by simp; omega
    have hd2 : decide ((0 : Int) ≤ b) = false := by simp; omega
    have hn2 : ¬ ((0 : Int) ≤ b) := by omega
    have HCS := Lib.hid hcs
    clear hcs
    go_enter Try.func7, Try.ntmps7
    go_wp2_with fail
    refine (asks_any w).mono ?_
    rintro e1 w1 ⟨rfl, a1⟩
    have A1 := Lib.hid a1
    clear a1
    have CS := Lib.hid (csum_any (w1.alloc (.cells (outC a zid ++ outC b zid).toArray 58)) (some ⟨w1.heap.size, 0, none⟩) 2 2 [(a, zid, ()), (b, zid, ())] (fun _ => True) (two_outs (Blk.new w1 _ _) HA.out HB.out _ trivial) rfl)
    rw [HCS.out] at CS
    go_wp2_with fail
    refine CS.out.mono ?_
    rintro e2 w2 ⟨rfl, a2⟩
    have A2 := Lib.hid ((A1.out.alloc A1.out.size (.cells (outC a zid ++ outC b zid).toArray 58)).trans (a2.mono (A1.out.alloc A1.out.size _).size))
    clear a2 CS A1
    go_wp2_with fail
    refine (first_any w2 0).mono ?_
    rintro e3 w3 ⟨p, q, rfl, a3, g1, g2, b1, b2⟩
    have K3 := Lib.hid (show As w2 w3 0 p q from ⟨b1, b2, a3, g1, g2⟩)
    clear a3 g1 g2 b1 b2
    have hn3 := Blk.new w3 25 [slM p, slM q].toArray
    go_wp2_with (with_reducible refine wpList_stb rfl 25 (.tmp 8) (.tmp 36) rfl w3.heap.size 0 _ rfl rfl 25 _ (Blk.new w3 _ _) ?h1 ?h2 ?h3 ?_)
    case h1 => simp
    case h2 => rw [infoTx]; rfl
    case h3 => exact ⟨rfl, rfl⟩
    intro w4 b4 o4
    rw [over_all _ _ (by simp)] at b4
    clear hn3
    have hO4 : Below w3.heap.size w3 w4 := (((Only.refl (fun b => w3.heap.size ≤ b) w3).alloc _).trans o4 (fun b _ e => by omega)).below (Nat.le_refl _) (fun b hb h => by omega)
    have K4 := Lib.hid (K3.out.step hO4)
    have hpl := K3.out.bi.lt
    have hql := K3.out.bo.lt
    obtain ⟨t8, ht8⟩ : ∃ t8, w3.heap.size = t8 := ⟨_, rfl⟩
    rw [ht8] at b4 hpl hql ⊢
    have T4 := Lib.hid b4
    have HPL := Lib.hid hpl
    have HQL := Lib.hid hql
    have HG := Lib.hid (show w2.heap.size ≤ t8 by have := K3.out.below.size; omega)
    clear b4 o4 hO4 K3 ht8 hpl hql
    have hal : Blk (w4.alloc (.cells (outC a zid ++ outC b zid).toArray 58)) t8 25 #[slM p, slM q] := T4.out.alloc _
    have c1 := fun o => (T4.out.alloc o).cell 1
    have f1 := fun o => (T4.out.alloc o).frozen 1
    simp only [List.getElem?_toArray, List.getElem?_cons_zero, List.getElem?_cons_succ] at c1
    have bo2 : Blk (w4.alloc (.cells (outC a zid ++ outC b zid).toArray 58)) w4.heap.size 58 (outC a zid ++ outC b zid).toArray := Blk.new w4 _ _
    have hq4 : q < t8 := HQL.out
    have ha5 : Below w4.heap.size w4 (w4.alloc (.cells (outC a zid ++ outC b zid).toArray 58)) := (Below.refl _ _).alloc (Nat.le_refl _) _
    have ho5 : Only (fun b => b = t8) (w4.alloc (.cells (outC a zid ++ outC b zid).toArray 58)) ((w4.alloc (.cells (outC a zid ++ outC b zid).toArray 58)).setCell ⟨t8, 1, none⟩ (.slice (some ⟨w4.heap.size, 0, none⟩) 2 2)) := (Only.refl (fun b => b = t8) _).setCell (p := ⟨t8, 1, none⟩) (fun _ => rfl) _
    have K5 := Lib.hid ((K4.out.step ha5).only ho5 (by have := HPL.out; omega) (by omega) HG.out)
    have hb5 : Blk ((w4.alloc (.cells (outC a zid ++ outC b zid).toArray 58)).setCell ⟨t8, 1, none⟩ (.slice (some ⟨w4.heap.size, 0, none⟩) 2 2)) t8 25 [slM p, .slice (some ⟨w4.heap.size, 0, none⟩) 2 2].toArray := hal.set_ 1 (.slice (some ⟨w4.heap.size, 0, none⟩) 2 2)
    have bo5 := bo2.only ho5 (by have := T4.out.lt; omega)
    have C1 := Lib.hid (check_tx_any ((w4.alloc (.cells (outC a zid ++ outC b zid).toArray 58)).setCell ⟨t8, 1, none⟩ (.slice (some ⟨w4.heap.size, 0, none⟩) 2 2)) (some ⟨p, 0, none⟩) (some ⟨w4.heap.size, 0, none⟩) 1 2 1 2 [inM] [(a, zid, ()), (b, zid, ())] (fun _ => True) true (K5.out.ins _ trivial) (two_outs bo5 HA.out HB.out _ trivial) rfl rfl)
    rw [ctx_two, HCS.out] at C1
    have HR5 := Lib.hid hb5.rowAll
    have A5 := Lib.hid (A2.out.trans (K5.out.below.mono A2.out.size))
    clear ha5 ho5 hb5 bo5 bo2 hal K4 K5 hq4
    go_wp2_with (refine wpList_ldg2 (by rfl) 25 (.tmp 8) rfl t8 0 rfl [slM p, .slice (some ⟨w4.heap.size, 0, none⟩) 2 2] HR5.out _ Try.underlying25 rfl 2 infoTx rfl ?_)
    refine C1.out.mono ?_
    rintro e6 w6 ⟨rfl, a6⟩
    have A6 := Lib.hid (A5.out.trans (a6.mono A5.out.size))
    clear a6 C1 c1 f1 HR5
    go_wp2
    go_ret
    exact ⟨rfl, A6.out⟩
  · have hcs : csum 0 [(a, zid, ()), (b, zid, ())] = (0, false) := by
      rw [csum]
      split
      · rfl
      · split
        · rfl
        · rw [csum]
          split
          · rfl
          · split
            · rfl
            · exfalso; simp at *; omega
    have hd1 : decide ((0 : Int) ≤ a) = true := by simp; omega
    have hd2 : decide ((0 : Int) ≤ b) = true := by simp; omega
    have hd3 : decide (a ≤ 1125899906842624) = false := by simp; omega
    have hn3 : ¬ (a ≤ 1125899906842624) := by omega
    have HCS := Lib.hid hcs
    clear hcs
    go_enter Try.func7, Try.ntmps7
    go_wp2_with fail
    refine (asks_any w).mono ?_
    rintro e1 w1 ⟨rfl, a1⟩
    have A1 := Lib.hid a1
    clear a1
    have CS := Lib.hid (csum_any (w1.alloc (.cells (outC a zid ++ outC b zid).toArray 58)) (some ⟨w1.heap.size, 0, none⟩) 2 2 [(a, zid, ()), (b, zid, ())] (fun _ => True) (two_outs (Blk.new w1 _ _) HA.out HB.out _ trivial) rfl)
    rw [HCS.out] at CS
    go_wp2_with fail
    refine CS.out.mono ?_
    rintro e2 w2 ⟨rfl, a2⟩
    have A2 := Lib.hid ((A1.out.alloc A1.out.size (.cells (outC a zid ++ outC b zid).toArray 58)).trans (a2.mono (A1.out.alloc A1.out.size _).size))
    clear a2 CS A1
    go_wp2_with fail
    refine (first_any w2 0).mono ?_
    rintro e3 w3 ⟨p, q, rfl, a3, g1, g2, b1, b2⟩
    have K3 := Lib.hid (show As w2 w3 0 p q from ⟨b1, b2, a3, g1, g2⟩)
    clear a3 g1 g2 b1 b2
    have hn3 := Blk.new w3 25 [slM p, slM q].toArray
    go_wp2_with (with_reducible refine wpList_stb rfl 25 (.tmp 8) (.tmp 36) rfl w3.heap.size 0 _ rfl rfl 25 _ (Blk.new w3 _ _) ?h1 ?h2 ?h3 ?_)
    case h1 => simp
    case h2 => rw [infoTx]; rfl
    case h3 => exact ⟨rfl, rfl⟩
    intro w4 b4 o4
    rw [over_all _ _ (by simp)] at b4
    clear hn3
    have hO4 : Below w3.heap.size w3 w4 := (((Only.refl (fun b => w3.heap.size ≤ b) w3).alloc _).trans o4 (fun b _ e => by omega)).below (Nat.le_refl _) (fun b hb h => by omega)
    have K4 := Lib.hid (K3.out.step hO4)
    have hpl := K3.out.bi.lt
    have hql := K3.out.bo.lt
    obtain ⟨t8, ht8⟩ : ∃ t8, w3.heap.size = t8 := ⟨_, rfl⟩
    rw [ht8] at b4 hpl hql ⊢
    have T4 := Lib.hid b4
    have HPL := Lib.hid hpl
    have HQL := Lib.hid hql
    have HG := Lib.hid (show w2.heap.size ≤ t8 by have := K3.out.below.size; omega)
    clear b4 o4 hO4 K3 ht8 hpl hql
    have hal : Blk (w4.alloc (.cells (outC a zid ++ outC b zid).toArray 58)) t8 25 #[slM p, slM q] := T4.out.alloc _
    have c1 := fun o => (T4.out.alloc o).cell 1
    have f1 := fun o => (T4.out.alloc o).frozen 1
    simp only [List.getElem?_toArray, List.getElem?_cons_zero, List.getElem?_cons_succ] at c1
    have bo2 : Blk (w4.alloc (.cells (outC a zid ++ outC b zid).toArray 58)) w4.heap.size 58 (outC a zid ++ outC b zid).toArray := Blk.new w4 _ _
    have hq4 : q < t8 := HQL.out
    have ha5 : Below w4.heap.size w4 (w4.alloc (.cells (outC a zid ++ outC b zid).toArray 58)) := (Below.refl _ _).alloc (Nat.le_refl _) _
    have ho5 : Only (fun b => b = t8) (w4.alloc (.cells (outC a zid ++ outC b zid).toArray 58)) ((w4.alloc (.cells (outC a zid ++ outC b zid).toArray 58)).setCell ⟨t8, 1, none⟩ (.slice (some ⟨w4.heap.size, 0, none⟩) 2 2)) := (Only.refl (fun b => b = t8) _).setCell (p := ⟨t8, 1, none⟩) (fun _ => rfl) _
    have K5 := Lib.hid ((K4.out.step ha5).only ho5 (by have := HPL.out; omega) (by omega) HG.out)
    have hb5 : Blk ((w4.alloc (.cells (outC a zid ++ outC b zid).toArray 58)).setCell ⟨t8, 1, none⟩ (.slice (some ⟨w4.heap.size, 0, none⟩) 2 2)) t8 25 [slM p, .slice (some ⟨w4.heap.size, 0, none⟩) 2 2].toArray := hal.set_ 1 (.slice (some ⟨w4.heap.size, 0, none⟩) 2 2)
    have bo5 := bo2.only ho5 (by have := T4.out.lt; omega)
    have C1 := Lib.hid (check_tx_any ((w4.alloc (.cells (outC a zid ++ outC b zid).toArray 58)).setCell ⟨t8, 1, none⟩ (.slice (some ⟨w4.heap.size, 0, none⟩) 2 2)) (some ⟨p, 0, none⟩) (some ⟨w4.heap.size, 0, none⟩) 1 2 1 2 [inM] [(a, zid, ()), (b, zid, ())] (fun _ => True) true (K5.out.ins _ trivial) (two_outs bo5 HA.out HB.out _ trivial) rfl rfl)
    rw [ctx_two, HCS.out] at C1
    have HR5 := Lib.hid hb5.rowAll
    have A5 := Lib.hid (A2.out.trans (K5.out.below.mono A2.out.size))
    clear ha5 ho5 hb5 bo5 bo2 hal K4 K5 hq4
    go_wp2_with (refine wpList_ldg2 (by rfl) 25 (.tmp 8) rfl t8 0 rfl [slM p, .slice (some ⟨w4.heap.size, 0, none⟩) 2 2] HR5.out _ Try.underlying25 rfl 2 infoTx rfl ?_)
    refine C1.out.mono ?_
    rintro e6 w6 ⟨rfl, a6⟩
    have A6 := Lib.hid (A5.out.trans (a6.mono A5.out.size))
    clear a6 C1 c1 f1 HR5
    go_wp2
    go_ret
    exact ⟨rfl, A6.out⟩
  · have hcs : csum 0 [(a, zid, ()), (b, zid, ())] = (0, false) := by
      rw [csum]
      split
      · rfl
      · split
        · rfl
        · rw [csum]
          split
          · rfl
          · split
            · rfl
            · exfalso; simp at *; omega
    have wr1 : IntKind.i64.wrap (1125899906842624 - a) = 1125899906842624 - a := w64 _ (by omega)
    have hd1 : decide ((0 : Int) ≤ a) = true := by simp; omega
    have hd2 : decide ((0 : Int) ≤ b) = true := by simp; omega
    have hd3 : decide (a ≤ 1125899906842624) = true := by simp; omega
    have hd4 : decide (b ≤ 1125899906842624 - a) = false := by simp; omega
    have hn4 : ¬ (b ≤ 1125899906842624 - a) := by omega
    have HCS := Lib.hid hcs
    clear hcs
    go_enter Try.func7, Try.ntmps7
    go_wp2_with fail
    refine (asks_any w).mono ?_
    rintro e1 w1 ⟨rfl, a1⟩
    have A1 := Lib.hid a1
    clear a1
    have CS := Lib.hid (csum_any (w1.alloc (.cells (outC a zid ++ outC b zid).toArray 58)) (some ⟨w1.heap.size, 0, none⟩) 2 2 [(a, zid, ()), (b, zid, ())] (fun _ => True) (two_outs (Blk.new w1 _ _) HA.out HB.out _ trivial) rfl)
    rw [HCS.out] at CS
    go_wp2_with fail
    refine CS.out.mono ?_
    rintro e2 w2 ⟨rfl, a2⟩
    have A2 := Lib.hid ((A1.out.alloc A1.out.size (.cells (outC a zid ++ outC b zid).toArray 58)).trans (a2.mono (A1.out.alloc A1.out.size _).size))
    clear a2 CS A1
    go_wp2_with fail
    refine (first_any w2 0).mono ?_
    rintro e3 w3 ⟨p, q, rfl, a3, g1, g2, b1, b2⟩
    have K3 := Lib.hid (show As w2 w3 0 p q from ⟨b1, b2, a3, g1, g2⟩)
    clear a3 g1 g2 b1 b2
    have hn3 := Blk.new w3 25 [slM p, slM q].toArray
    go_wp2_with (with_reducible refine wpList_stb rfl 25 (.tmp 8) (.tmp 36) rfl w3.heap.size 0 _ rfl rfl 25 _ (Blk.new w3 _ _) ?h1 ?h2 ?h3 ?_)
    case h1 => simp
    case h2 => rw [infoTx]; rfl
    case h3 => exact ⟨rfl, rfl⟩
    intro w4 b4 o4
    rw [over_all _ _ (by simp)] at b4
    clear hn3
    have hO4 : Below w3.heap.size w3 w4 := (((Only.refl (fun b => w3.heap.size ≤ b) w3).alloc _).trans o4 (fun b _ e => by omega)).below (Nat.le_refl _) (fun b hb h => by omega)
    have K4 := Lib.hid (K3.out.step hO4)
    have hpl := K3.out.bi.lt
    have hql := K3.out.bo.lt
    obtain ⟨t8, ht8⟩ : ∃ t8, w3.heap.size = t8 := ⟨_, rfl⟩
    rw [ht8] at b4 hpl hql ⊢
    have T4 := Lib.hid b4
    have HPL := Lib.hid hpl
    have HQL := Lib.hid hql
    have HG := Lib.hid (show w2.heap.size ≤ t8 by have := K3.out.below.size; omega)
    clear b4 o4 hO4 K3 ht8 hpl hql
    have hal : Blk (w4.alloc (.cells (outC a zid ++ outC b zid).toArray 58)) t8 25 #[slM p, slM q] := T4.out.alloc _
    have c1 := fun o => (T4.out.alloc o).cell 1
    have f1 := fun o => (T4.out.alloc o).frozen 1
    simp only [List.getElem?_toArray, List.getElem?_cons_zero, List.getElem?_cons_succ] at c1
    have bo2 : Blk (w4.alloc (.cells (outC a zid ++ outC b zid).toArray 58)) w4.heap.size 58 (outC a zid ++ outC b zid).toArray := Blk.new w4 _ _
    have hq4 : q < t8 := HQL.out
    have ha5 : Below w4.heap.size w4 (w4.alloc (.cells (outC a zid ++ outC b zid).toArray 58)) := (Below.refl _ _).alloc (Nat.le_refl _) _
    have ho5 : Only (fun b => b = t8) (w4.alloc (.cells (outC a zid ++ outC b zid).toArray 58)) ((w4.alloc (.cells (outC a zid ++ outC b zid).toArray 58)).setCell ⟨t8, 1, none⟩ (.slice (some ⟨w4.heap.size, 0, none⟩) 2 2)) := (Only.refl (fun b => b = t8) _).setCell (p := ⟨t8, 1, none⟩) (fun _ => rfl) _
    have K5 := Lib.hid ((K4.out.step ha5).only ho5 (by have := HPL.out; omega) (by omega) HG.out)
    have hb5 : Blk ((w4.alloc (.cells (outC a zid ++ outC b zid).toArray 58)).setCell ⟨t8, 1, none⟩ (.slice (some ⟨w4.heap.size, 0, none⟩) 2 2)) t8 25 [slM p, .slice (some ⟨w4.heap.size, 0, none⟩) 2 2].toArray := hal.set_ 1 (.slice (some ⟨w4.heap.size, 0, none⟩) 2 2)
    have bo5 := bo2.only ho5 (by have := T4.out.lt; omega)
    have C1 := Lib.hid (check_tx_any ((w4.alloc (.cells (outC a zid ++ outC b zid).toArray 58)).setCell ⟨t8, 1, none⟩ (.slice (some ⟨w4.heap.size, 0, none⟩) 2 2)) (some ⟨p, 0, none⟩) (some ⟨w4.heap.size, 0, none⟩) 1 2 1 2 [inM] [(a, zid, ()), (b, zid, ())] (fun _ => True) true (K5.out.ins _ trivial) (two_outs bo5 HA.out HB.out _ trivial) rfl rfl)
    rw [ctx_two, HCS.out] at C1
    have HR5 := Lib.hid hb5.rowAll
    have A5 := Lib.hid (A2.out.trans (K5.out.below.mono A2.out.size))
    clear ha5 ho5 hb5 bo5 bo2 hal K4 K5 hq4
    go_wp2_with (refine wpList_ldg2 (by rfl) 25 (.tmp 8) rfl t8 0 rfl [slM p, .slice (some ⟨w4.heap.size, 0, none⟩) 2 2] HR5.out _ Try.underlying25 rfl 2 infoTx rfl ?_)
    refine C1.out.mono ?_
    rintro e6 w6 ⟨rfl, a6⟩
    have A6 := Lib.hid (A5.out.trans (a6.mono A5.out.size))
    clear a6 C1 c1 f1 HR5
    go_wp2
    go_ret
    exact ⟨rfl, A6.out⟩
end Go.Proofs.Ytkenkhefpemdmaa
