/- coins.Set.Disconnect. -/
import Derived.Test.YtlbpeihdedhjiaaPut
namespace Go.Proofs.Ytlbpeihdedhjiaa
open Go.RowKit
theorem flat_at {α : Type} {w : World} {b o k : Nat} {f : α → List Value} {l : List α} (h : RowAt w b o (l.flatMap f)) (hk : ∀ x ∈ l, (f x).length = k) {j : Nat} (hj : j < l.length) : RowAt w b (o + j * k) (f (l[j]'hj)) := by
  have hd := h.drop (j * k)
  have e : l.flatMap f = (l.take j).flatMap f ++ (f (l[j]'hj) ++ (l.drop (j + 1)).flatMap f) := by
    conv => lhs; rw [← List.take_append_drop j l, List.drop_eq_getElem_cons hj]
    rw [List.flatMap_append, List.flatMap_cons]
  have hlen : ∀ (m : List α), (∀ x ∈ m, (f x).length = k) → (m.flatMap f).length = m.length * k := by
    intro m
    induction m with
    | nil => intro _; simp
    | cons x m ih => intro hm; rw [List.flatMap_cons, List.length_append, hm x (by simp), ih (fun y hy => hm y (by simp [hy])), List.length_cons, Nat.succ_mul]; omega
  have hl : ((l.take j).flatMap f).length = j * k := by
    rw [hlen _ (fun x hx => hk x (List.mem_of_mem_take hx)), List.length_take, Nat.min_eq_left (by omega)]
  rw [e, List.drop_left' hl] at hd
  intro i u hu
  exact hd i u (by rw [List.getElem?_append_left (List.getElem?_eq_some_iff.1 hu).1]; exact hu)
theorem insN_snoc (l : List TxT) (t : TxT) : insN (l ++ [t]) = insN l + t.1.length := by simp [insN]
theorem drop1_snoc {txs : List TxT} {i : Nat} (h0 : 0 < i) (hi : i < txs.length) : (txs.take (i + 1)).drop 1 = (txs.take i).drop 1 ++ [txs[i]] := by
  rw [take_snoc' txs i hi, List.drop_append_of_le_length (by rw [List.length_take]; omega)]
set_option maxRecDepth 20000 in
set_option maxHeartbeats 16000000 in
set_option linter.unusedSimpArgs false in
theorem disc_any (w : World) (B gs : Nat) (p : Option Nat) (L : CoL) (v t b n0 : Nat) (prev root : List UInt8) (A : Option Addr) (m c : Nat) (txs : List TxT) (A1 A2 : Option Addr) (c1 c2 n : Nat) (U : CoL) (h1 : prev.length = 32) (h2 : root.length = 32)
    (hset : Blk w gs 42 [Value.map p].toArray) (hmap : MapAt w B p L) (hB : B ≤ w.heap.size)
    (ht : txsSh.rel w (fun b => b < w.heap.size) [.slice A m c] txs) (hm : txs.length = m) (hf : ∀ t ∈ txs, TxFit t) (hm2 : m ≤ 100) (hm1 : 0 < m)
    (hu1 : Sl w (fun b => b < w.heap.size) 33 A1 n (ptsC U)) (hu2 : Sl w (fun b => b < w.heap.size) 34 A2 n (cosC U)) (hn : U.length = n) (hok : ∀ x ∈ U, PtOk x.1 ∧ CoOk x.2) (hcnt : insN (txs.drop 1) = n) :
    Calls Try.prog 21 #[.pointer (some ⟨gs, 0, none⟩), .agg (blkC v prev root t b n0 (.slice A m c)).toArray, .agg #[.slice A1 n c1, .slice A2 n c2]] w fun e w' => e = .returned (.int .i64 0) ∧ Only (fun k => k = gs) w w' ∧
      ∃ p', Blk w' gs 42 [Value.map p'].toArray ∧ MapAt w' B p' (discM txs U L) := by
  obtain ⟨FIN, hFIN⟩ : ∃ FIN, discM txs U L = FIN := ⟨_, rfl⟩
  rw [hFIN]
  have HFIN := Lib.hid hFIN
  have HT := Lib.hid (fun W (a : Below w.heap.size w W) => txsSh.below ht a (fun _ h _ => h))
  have HM := Lib.hid hm
  have HF := Lib.hid hf
  have HM2 := Lib.hid (And.intro hm1 hm2)
  have HSET := Lib.hid hset
  have HMAP := Lib.hid hmap
  have HBW := Lib.hid hB
  have HU1 := Lib.hid (fun W (a : Below w.heap.size w W) => hu1.below a (fun _ h _ => h) (by decide))
  have HU2 := Lib.hid (fun W (a : Below w.heap.size w W) => hu2.below a (fun _ h _ => h) (by decide))
  have HN := Lib.hid hn
  have HOK := Lib.hid hok
  have HCN := Lib.hid hcnt
  have HINS := Lib.hid (show ∀ l : List TxT, (∀ t ∈ l, t ∈ txs) → insN l ≤ 1000 * l.length by
    intro l
    induction l with
    | nil => intro _; simp [insN]
    | cons x l ih =>
      intro hl
      have q1 := ih (fun y hy => hl y (by simp [hy]))
      have q2 := (hf x (hl x (by simp))).1
      simp only [insN, List.map_cons, List.sum_cons, List.length_cons] at q1 ⊢
      omega)
  clear hFIN ht hm hf hm1 hm2 hset hmap hB hu1 hu2 hn hok hcnt
  go_enter Try.func21, Try.ntmps21
  go_upto_region 1 with fail
  obtain ⟨W1, hW1⟩ : ∃ W1, w.alloc (.cells (blkC v prev root t b n0 (.slice A m c)).toArray 54) = W1 := ⟨_, rfl⟩
  have z1 : W1.heap.size = w.heap.size + 1 := by rw [← hW1]; simp
  have l1 : Below w.heap.size w W1 := by rw [← hW1]; exact (Below.refl _ _).alloc (Nat.le_refl _) _
  have k1 : Blk W1 w.heap.size 54 (blkC v prev root t b n0 (.slice A m c)).toArray := by rw [← hW1]; exact Blk.new _ _ _
  rw [hW1]
  clear hW1
  obtain ⟨W2, hW2⟩ : ∃ W2, W1.alloc (.cells #[.slice A1 n c1, .slice A2 n c2] 46) = W2 := ⟨_, rfl⟩
  have z2 : W2.heap.size = w.heap.size + 2 := by rw [← hW2]; simp [z1]
  have l2 : Below W1.heap.size W1 W2 := by rw [← hW2]; exact (Below.refl _ _).alloc (Nat.le_refl _) _
  have k2 : Blk W2 W1.heap.size 46 [Value.slice A1 n c1, Value.slice A2 n c2].toArray := by rw [← hW2]; exact Blk.new _ _ _
  rw [hW2]
  clear hW2
  have hbl : Below w.heap.size w W2 := l1.trans (l2.mono (by omega))
  have hk1 : Blk W2 w.heap.size 54 (blkC v prev root t b n0 (.slice A m c)).toArray := k1.below l2 (by omega)
  have hgl := HSET.out.lt
  obtain ⟨q5, hq5⟩ : ∃ q5, W1.heap.size = q5 := ⟨_, rfl⟩
  obtain ⟨q, hq⟩ : ∃ q, w.heap.size = q := ⟨_, rfl⟩
  have HQ := Lib.hid (show q5 = q + 1 ∧ W2.heap.size = q + 2 ∧ gs < q ∧ w.heap.size = q by omega)
  have HBL := Lib.hid hbl
  rw [hq5] at k2
  rw [hq] at hk1 ⊢
  rw [show q + 1 = q5 by have := HQ.out; omega]
  have HB := Lib.hid hk1
  have HB5 := Lib.hid k2
  clear z1 l1 k1 z2 l2 k2 hbl hk1 hq5 hgl hq
  have HQB := Lib.hid (fun W (a : Below W2.heap.size W2 W) => HB.out.below a HB.out.lt)
  have H5B := Lib.hid (fun W (a : Below W2.heap.size W2 W) => HB5.out.below a HB5.out.lt)
  have HBL0 := Lib.hid HBL.out
  have HSTB := Lib.hid (fun W (a : Below W2.heap.size W2 W) => (HSET.out.below HBL0.out HSET.out.lt).below a (by have := HQ.out; omega))
  have HMPB := Lib.hid (fun W (a : Below W2.heap.size W2 W) => (HMAP.out.new HBL0.out).new a)
  have HWB := Lib.hid (fun W (a : Below W2.heap.size W2 W) => HBL0.out.trans (a.mono HBL0.out.size))
  have c68 := blk_cell68 HB.out h1 h2
  go_wp2_with fail
  clear c68
  go_loopg [7, 15] m (fun k v7 v15 wr => ∃ (j acc : Nat), j + k = m ∧ v7 = .int .i64 (acc : Int) ∧ v15 = .int .i64 j ∧ Hid (acc = insN ((txs.take j).drop 1)) ∧ Hid (Below w.heap.size w wr) ∧ Hid (Below W2.heap.size W2 wr) ∧ Hid (Blk wr q 54 (blkC v prev root t b n0 (.slice A m c)).toArray) ∧ Hid (Blk wr q5 46 [Value.slice A1 n c1, Value.slice A2 n c2].toArray))
  case atStart => exact ⟨0, 0, by omega, rfl, rfl, by simp [Hid, insN], HBL, Below.refl _ _, HB, HB5⟩
  case round =>
    clear HBL HB HB5
    obtain ⟨j, acc, hj, rfl, rfl, HAC, HBL, HW2, HB, HB5⟩ := hrel
    have hacb : acc ≤ 100000 := by
      have q1 := HINS.out ((txs.take j).drop 1) (fun t ht => List.mem_of_mem_take (List.mem_of_mem_drop ht))
      have q2 := HAC.out
      have q3 := HM2.out.2
      rw [List.length_drop, List.length_take] at q1
      omega
    have HACB := Lib.hid hacb
    clear hacb
    by_cases hlt : j < m
    · obtain ⟨b', o, cs, rfl, hb, hcs, hrow⟩ := txs_at (HT.out _ HBL.out) (by rw [HM.out]; exact hlt)
      obtain ⟨ins, outs, A3, A4, c3, c4, het, rfl, hi, ho⟩ := tx_cells hcs
      have HET := Lib.hid het
      have HROW := Lib.hid hrow
      obtain ⟨n1, hn1⟩ : ∃ n1, ins.length = n1 := ⟨_, rfl⟩
      rw [hn1] at HROW
      have HN1 := Lib.hid hn1
      have HN1B := Lib.hid (show n1 ≤ 1000 by
        have := (HF.out _ (List.getElem_mem (by rw [HM.out]; exact hlt : j < txs.length))).1
        rw [het] at this
        simp only at this
        omega)
      clear hcs het hi ho hrow hb hn1
      go_wp2_with (first
        | (with_reducible refine wpList_ld rfl 39 (.tmp 18) rfl b' (o + j * 2) rfl ([.slice A3 n1 c3, .slice A4 outs.length c4]) HROW.out _ Try.underlying39 rfl 2 infoTx rfl ?_)
        | (with_reducible refine wpList_stb rfl 39 (.tmp 9) (.tmp 19) rfl wr.heap.size 0 _ rfl rfl 39 _ (Blk.new wr _ _) ?e4a ?e4b ?e4c ?_))
      case e4a => simp
      case e4b => rw [infoTx]; rfl
      case e4c => exact ⟨rfl, rfl⟩
      intro w4 b4 o4
      rw [over_all _ _ (by simp [])] at b4
      have hO4 : Below wr.heap.size wr w4 := (((Only.refl (fun b => wr.heap.size ≤ b) wr).alloc _).trans o4 (fun b _ e => by omega)).below (Nat.le_refl _) (fun b hb h => by omega)
      have HBL4 := Lib.hid (HBL.out.trans (hO4.mono HBL.out.size))
      have HW4 := Lib.hid (HW2.out.trans (hO4.mono HW2.out.size))
      have HB4 := Lib.hid (HB.out.below hO4 HB.out.lt)
      have HB54 := Lib.hid (HB5.out.below hO4 HB5.out.lt)
      have c0 := b4.cell 0
      simp only [List.getElem?_toArray, List.getElem?_cons_zero] at c0
      obtain ⟨p9, hp9⟩ : ∃ p9, wr.heap.size = p9 := ⟨_, rfl⟩
      rw [hp9] at c0 ⊢
      clear b4 o4 hO4 HROW HBL HW2 HB HB5 hp9
      by_cases hj0 : j = 0
      · subst hj0
        have d1 : decide ((0 : Int) < 0) = false := by decide
        have hac0 : acc = 0 := by rw [HAC.out]; simp [insN]
        subst hac0
        go_wp2
        go_roundg (m - 1)
        case measure => omega
        case rel => exact ⟨1, 0, by omega, rfl, by first | rfl | (rw [IntWalk.wrap64_in _ (by omega)]; rfl), by
          rw [Hid, insN]
          have : (txs.take 1).drop 1 = [] := List.eq_nil_of_length_eq_zero (by rw [List.length_drop, List.length_take]; omega)
          rw [this]
          rfl, HBL4.out, HW4.out, HB4.out, HB54.out⟩
      · have d1 : decide ((0 : Int) < (j : Int)) = true := by simp; omega
        have d1' : decide (0 < j) = true := by simp; omega
        have hac := HACB.out
        have hn1b := HN1B.out
        have hww : wrap64 ((acc : Int) + (n1 : Int)) = (((acc + n1 : Nat)) : Int) := by rw [IntWalk.wrap64_in _ (by omega)]; omega
        have hHA := Lib.hid (show acc + n1 = insN ((txs.take (j + 1)).drop 1) by
          rw [drop1_snoc (by omega) (by rw [HM.out]; exact hlt), insN_snoc, HET.out, ← HAC.out, ← HN1.out])
        have hm2 := HM2.out.2
        go_wp2
        go_roundg (m - 1 - j)
        case measure => omega
        case rel => exact ⟨j + 1, acc + n1, by omega, by first | (rw [hww]) | (rw [Int.natCast_add]), by first | rfl | (rw [IntWalk.wrap64_in _ (by omega)]; rfl), hHA.out, HBL4.out, HW4.out, HB4.out, HB54.out⟩
    · obtain rfl : j = m := by omega
      have hacn : acc = n := by rw [HAC.out, List.take_of_length_le (by rw [HM.out]; exact Nat.le_refl _), HCN.out]
      subst hacn
      have c68 := blk_cell68 HB.out h1 h2
      have c0 := HB5.out.cell 0
      have c1' := HB5.out.cell 1
      simp only [List.getElem?_toArray, List.getElem?_cons_zero, List.getElem?_cons_succ] at c0 c1'
      have g1 : ((j : Int) == 0) = false := by have := HM2.out.1; simp; omega
      have g2 : (j == 0) = false := by have := HM2.out.1; simp; omega
      go_wp2_with fail
      clear c68 c0 c1' g1 g2
      refine (clone_any wr B gs p L (HSTB.out _ HW2.out) (HMPB.out _ HW2.out)).mono ?_
      rintro e3 w3 ⟨gc, pc, rfl, a3, hgc, hsc, hmc⟩
      have HGC := Lib.hid (show W2.heap.size ≤ gc by have := HW2.out.size; omega)
      have HSC := Lib.hid hsc
      have HMC := Lib.hid hmc
      have HW3 := Lib.hid (HW2.out.trans (a3.mono HW2.out.size))
      have HWR := Lib.hid HW2.out.size
      clear a3 hgc hsc hmc HBL HW2 HB HB5 HMPB
      have hq := run_eql_map_nil_sl (P := Try.prog) w3 40 28 61 pc Try.underlying40
      have c0 := HSC.out.cell 0
      simp only [List.getElem?_toArray, List.getElem?_cons_zero] at c0
      go_upto_if 52 with fail
      go_cut [] (fun wc => ∃ bm : Nat, Hid (Blk wc gc 42 [Value.map (some bm)].toArray) ∧ Hid (IsCM wc bm L) ∧ Hid (W2.heap.size ≤ bm) ∧ Hid (Below W2.heap.size W2 wc))
      · cases pc with
        | some bm =>
          clear hq
          go_wp2
          go_meet
          exact ⟨bm, HSC, HMC.out.2, by have := HMC.out.1; have := HWR.out; simp only [Hid]; omega, HW3⟩
        | none =>
          clear hq
          have f0 := HSC.out.frozen 0
          have hmk : ∀ w : World, (Instr.makeMap 40 none).run Try.prog w = .ok (.map (some w.heap.size)) (w.alloc (.map #[] 0)) := fun _ => by kernel_rfl
          have hal : Below w3.heap.size w3 (w3.alloc (.map #[] 0)) := (Below.refl _ _).alloc (Nat.le_refl _) _
          have hs1 := HSC.out.below hal HSC.out.lt
          have hm1' : IsCM (w3.alloc (.map #[] 0)) w3.heap.size [] := IsCM.made w3
          have c1' := hs1.cell 0
          have f1 := hs1.frozen 0
          simp only [List.getElem?_toArray, List.getElem?_cons_zero] at c1'
          have ho1 : Only (fun b => b = gc) (w3.alloc (.map #[] 0)) ((w3.alloc (.map #[] 0)).setCell ⟨gc, 0, none⟩ (.map (some w3.heap.size))) := (Only.refl (fun b => b = gc) _).setCell (p := ⟨gc, 0, none⟩) (fun _ => rfl) _
          have hl0 : L = [] := HMC.out
          have HST := Lib.hid (show Blk ((w3.alloc (.map #[] 0)).setCell ⟨gc, 0, none⟩ (.map (some w3.heap.size))) gc 42 [Value.map (some w3.heap.size)].toArray from hs1.set_ 0 _)
          have HM3 := Lib.hid (show IsCM ((w3.alloc (.map #[] 0)).setCell ⟨gc, 0, none⟩ (.map (some w3.heap.size))) w3.heap.size L by rw [hl0]; exact hm1'.only ho1 (fun e => cm_blk_ne hm1' hs1 e))
          have HW4 := Lib.hid (HW3.out.trans ((hal.mono HW3.out.size).trans (ho1.below (Nat.le_trans HW3.out.size hal.size) (fun b hb e => by have := HGC.out; omega))))
          have HZ3 := Lib.hid HW3.out.size
          clear hal hs1 hm1' ho1 hl0
          go_wp2
          go_meet
          exact ⟨_, HST, HM3, HZ3, HW4⟩
      case rest =>
        clear HSC HMC HW3 c0 hq
        obtain ⟨bm, HSC, HMC, HBM, HW3⟩ := hcut
        obtain ⟨b', o, cs, hA', hb, hcs, hrow⟩ := txs_at (HT.out _ (HWB.out _ HW3.out)) (show 0 < txs.length by rw [HM.out]; exact HM2.out.1)
        subst hA'
        obtain ⟨ins, outs, A3, A4, c3, c4, het, rfl, hi, ho⟩ := tx_cells hcs
        have hrow0 : RowAt wc b' o [.slice A3 ins.length c3, .slice A4 outs.length c4] := by simpa using hrow
        have HR0 := Lib.hid hrow0
        have HBO := Lib.hid hb
        have hft : TxFit (ins, outs, ()) := by have := HF.out _ (List.getElem_mem (show 0 < txs.length by rw [HM.out]; exact HM2.out.1)); rwa [het] at this
        have htx : txs = (ins, outs, ()) :: txs.drop 1 := by
          have := List.drop_eq_getElem_cons (show 0 < txs.length by rw [HM.out]; exact HM2.out.1)
          rw [List.drop_zero, het] at this
          exact this
        have TK := take_any wc gc bm L A3 A4 ins.length c3 outs.length c4 ins outs HSC.out HMC.out (weak_slice weak_in13 _ _ (fun b => b < wc.heap.size) _ _ hi (fun b hb2 _ => hb2)) (weak_slice weak_out13 _ _ (fun b => b < wc.heap.size) _ _ ho (fun b hb2 _ => hb2)) rfl rfl hft
        have HFN := Lib.hid (show discR U (txs.drop 1).reverse acc (takC (txX (ins, outs, ())) outs.length L) = FIN by
          have := HFIN.out
          rw [htx] at this
          rw [← this, discM, HN.out])
        obtain ⟨L1, hL1⟩ : ∃ L1, takC (txX (ins, outs, ())) outs.length L = L1 := ⟨_, rfl⟩
        rw [hL1] at TK HFN
        have c68 := blk_cell68 (HQB.out _ HW3.out) h1 h2
        have i1 : (0 : Int) < (j : Int) := by have := HM2.out.1; omega
        have i2 : 0 < j := HM2.out.1
        clear hL1 hcs het hi ho hrow hb hrow0 hft htx
        go_wp2_with (with_reducible refine wpList_ld rfl 39 (.tmp 60) rfl b' o rfl [.slice A3 ins.length c3, .slice A4 outs.length c4] HR0.out _ Try.underlying39 rfl 2 infoTx rfl ?_)
        refine TK.mono ?_
        clear TK
        rintro e4 w4 ⟨rfl, o4, hs4, hm4⟩
        have HS4 := Lib.hid hs4
        have HM4 := Lib.hid hm4
        have HW4 := Lib.hid (HW3.out.trans (o4.below HW3.out.size (fun b hb e => by have := HBM.out; omega)))
        clear o4 hs4 hm4 HSC HMC HW3 HR0 c68 i1
        have c68 := blk_cell68 (HQB.out _ HW4.out) h1 h2
        have hm2 := HM2.out.2
        have hww : wrap64 ((j : Int) - 1) = ((j - 1 : Nat) : Int) := by rw [IntWalk.wrap64_in _ (by omega)]; omega
        go_wp2_with fail
        clear c68 hww i2
        have hst0 : acc = insN ((txs.take (j - 1 + 1)).drop 1) := by rw [show j - 1 + 1 = j by have := HM2.out.1; omega, List.take_of_length_le (by rw [HM.out]; exact Nat.le_refl _), HCN.out]
        have hdr0 : discR U ((txs.take (j - 1 + 1)).drop 1).reverse acc L1 = FIN := by rw [show j - 1 + 1 = j by have := HM2.out.1; omega, List.take_of_length_le (by rw [HM.out]; exact Nat.le_refl _), HFN.out]
        have HST0 := Lib.hid hst0
        have HDR0 := Lib.hid hdr0
        clear hst0 hdr0 HFN
        have HNB := Lib.hid (show acc ≤ 100000 from HACB.out)
        go_loopg [7, 11] (j - 1) (fun k v7 v11 wr => ∃ (i nn : Nat) (LL : CoL), k = i ∧ i < j ∧ v7 = .int .i64 (nn : Int) ∧ v11 = .int .i64 (i : Int) ∧ Hid (nn ≤ acc) ∧ Hid (nn = insN ((txs.take (i + 1)).drop 1)) ∧ Hid (discR U ((txs.take (i + 1)).drop 1).reverse nn LL = FIN) ∧ Hid (Blk wr gc 42 [Value.map (some bm)].toArray) ∧ Hid (IsCM wr bm LL) ∧ Hid (Below W2.heap.size W2 wr))
        case atStart => exact ⟨j - 1, acc, L1, rfl, by have := HM2.out.1; omega, rfl, by have := HM2.out.1; congr 1; omega, Nat.le_refl _, HST0, HDR0, HS4, HM4, HW4⟩
        case round =>
          clear HST0 HDR0 HS4 HM4 HW4
          obtain ⟨i, nn, LL, hk, hij, rfl, rfl, HNA, HIN, HDR, HS4, HM4, HW4⟩ := hrel
          by_cases hi0 : 0 < i
          · have d1 : decide ((0 : Int) < (i : Int)) = true := by simp; omega
            have d1' : decide (0 < i) = true := by simp; omega
            obtain ⟨b2, o2, cs, hA2, hb, hcs, hrow⟩ := txs_at (HT.out _ (HWB.out _ HW4.out)) (show i < txs.length by rw [HM.out]; exact hij)
            obtain ⟨rfl, rfl⟩ : b' = b2 ∧ o = o2 := by
              have := Option.some.inj hA2
              injection this with e1 e2
              exact ⟨e1, e2⟩
            obtain ⟨ins, outs, A3, A4, c3, c4, het, rfl, hi, ho⟩ := tx_cells hcs
            have HROW := Lib.hid hrow
            have hft : TxFit (ins, outs, ()) := by have := HF.out _ (List.getElem_mem (show i < txs.length by rw [HM.out]; exact hij)); rwa [het] at this
            have TK := take_any wr gc bm LL A3 A4 ins.length c3 outs.length c4 ins outs HS4.out HM4.out (weak_slice weak_in13 _ _ (fun b => b < wr.heap.size) _ _ hi (fun b hb2 _ => hb2)) (weak_slice weak_out13 _ _ (fun b => b < wr.heap.size) _ _ ho (fun b hb2 _ => hb2)) rfl rfl hft
            have hsn : (txs.take (i + 1)).drop 1 = (txs.take i).drop 1 ++ [(ins, outs, ())] := by rw [drop1_snoc hi0 (by rw [HM.out]; exact hij), het]
            obtain ⟨L2, hL2⟩ : ∃ L2, takC (txX (ins, outs, ())) outs.length LL = L2 := ⟨_, rfl⟩
            rw [hL2] at TK
            obtain ⟨n1, hn1⟩ : ∃ n1, ins.length = n1 := ⟨_, rfl⟩
            have HN1B := Lib.hid (show n1 ≤ 1000 by have := hft.1; simp only at this; omega)
            have hnn : nn = insN ((txs.take i).drop 1) + n1 := by rw [HIN.out, hsn, insN_snoc, ← hn1]
            have HNN := Lib.hid hnn
            have HFN := Lib.hid (show discR U ((txs.take i).drop 1).reverse (nn - n1) (unsp U n1 nn L2) = FIN by
              have := HDR.out
              rw [hsn, List.reverse_append, List.reverse_singleton, List.singleton_append, discR] at this
              rw [← this, ← hL2, hn1])
            obtain ⟨LT, hLT⟩ : ∃ LT, unsp U n1 nn L2 = LT := ⟨_, rfl⟩
            rw [hLT] at HFN
            have HLT := Lib.hid hLT
            rw [hn1] at HROW TK
            have c68 := blk_cell68 (HQB.out _ HW4.out) h1 h2
            have i1 : (0 : Int) ≤ (i : Int) := by omega
            have i2 : (i : Int) < (j : Int) := by omega
            clear hL2 hLT hcs het hi ho hrow hb hft hsn hnn hA2 hn1 HDR HIN
            go_wp2_with (with_reducible refine wpList_ld rfl 39 (.tmp 75) rfl b' (o + i * 2) rfl [.slice A3 n1 c3, .slice A4 outs.length c4] HROW.out _ Try.underlying39 rfl 2 infoTx rfl ?_)
            refine TK.mono ?_
            clear TK c68
            rintro e5 w5 ⟨rfl, o5, hs5, hm5⟩
            have HS5 := Lib.hid hs5
            have HM5 := Lib.hid hm5
            have HW5 := Lib.hid (HW4.out.trans (o5.below HW4.out.size (fun b hb e => by have := HBM.out; omega)))
            have HOK' := Lib.hid (fun W (a : Below w.heap.size w W) => HT.out W a)
            have c68 := blk_cell68 (HQB.out _ HW5.out) h1 h2
            obtain ⟨b3, o3, cs, hA3, hb, hcs, hrow⟩ := txs_at (HT.out _ (HWB.out _ HW5.out)) (show i < txs.length by rw [HM.out]; exact hij)
            have hrow5 : RowAt w5 b' (o + i * 2) [.slice A3 n1 c3, .slice A4 outs.length c4] := RowAt.only HROW.out o5 (by have := HBO.out; have := HBM.out; have := HQ.out; omega)
            have q0 : w5.cell? ⟨b', o + i * 2, none⟩ = some (Value.slice A3 n1 c3) := by
              have := hrow5 0 _ rfl
              simpa using this
            have HU0 := Lib.hid (show unsp U (n1 - 0) (nn - 0) L2 = LT from HLT.out)
            clear o5 hs5 hm5 hrow hcs hb hrow5 hA3 HS4 HM4 HW4 HLT d1 d1'
            go_wp2_with fail
            clear c68 q0 i1 i2
            go_loopg [7, 85] n1 (fun k v7 v85 wr => ∃ (a : Nat) (LC : CoL), a + k = n1 ∧ v7 = .int .i64 ((nn - a : Nat) : Int) ∧ v85 = .int .i64 (a : Int) ∧ Hid (unsp U (n1 - a) (nn - a) LC = LT) ∧ Hid (Blk wr gc 42 [Value.map (some bm)].toArray) ∧ Hid (IsCM wr bm LC) ∧ Hid (Below W2.heap.size W2 wr))
            case atStart => exact ⟨0, L2, by omega, rfl, rfl, HU0, HS5, HM5, HW5⟩
            case round =>
              clear HS5 HM5 HW5 HU0
              obtain ⟨a, LC, hak, rfl, rfl, HUU, HS5, HM5, HW5⟩ := hrel
              by_cases hlta : a < n1
              · obtain ⟨x, hx⟩ : ∃ x, nn - a = x := ⟨_, rfl⟩
                obtain ⟨y, hy⟩ : ∃ y, x - 1 = y := ⟨_, rfl⟩
                have hxp : 1 ≤ x ∧ x ≤ acc := by have := HNN.out; have := HNA.out; omega
                have hyb : y < acc := by omega
                have hyU : y < U.length := by rw [HN.out]; exact hyb
                rw [hx]
                have HXY := Lib.hid (show x = y + 1 by omega)
                have HXA := Lib.hid hx
                obtain ⟨⟨⟨id, ix⟩, amt, lock, hgt⟩, hUy⟩ : ∃ e, U[y] = e := ⟨_, rfl⟩
                have hoky := HOK.out _ (List.getElem_mem hyU)
                rw [hUy] at hoky
                have HOY := Lib.hid hoky
                have HUN := Lib.hid (show unsp U (n1 - (a + 1)) (nn - (a + 1)) (putC LC (id, ix) (amt, lock, hgt)) = LT by
                  have := HUU.out
                  rw [show n1 - a = (n1 - (a + 1)) + 1 by omega, unsp, hx, hy, List.getD_eq_getElem?_getD, List.getElem?_eq_getElem hyU, hUy] at this
                  rw [show nn - (a + 1) = y by omega]
                  exact this)
                obtain ⟨bp, op, hAp, hbp, hrp⟩ := (HU1.out _ (HWB.out _ HW5.out)).2 (by omega)
                obtain ⟨bc, oc, hAc, hbc, hrc⟩ := (HU2.out _ (HWB.out _ HW5.out)).2 (by omega)
                subst hAp hAc
                have HBP := Lib.hid hbp
                have HBC := Lib.hid hbc
                have r1 : RowAt wr bp (op + y * 33) (ptC id ix) := by
                  have := flat_at (k := 33) hrp (fun x hx => ptC_len _ _ (HOK.out x hx).1.1) hyU
                  rw [hUy] at this
                  exact this
                have r2 : RowAt wr bc (oc + y * 34) (coinC (amt, lock, hgt)) := by
                  have := flat_at (k := 34) hrc (fun x hx => coinC_len _ (HOK.out x hx).2.1) hyU
                  rw [hUy] at this
                  exact this
                have HR1 := Lib.hid r1
                have HR2 := Lib.hid r2
                have hacb := HNB.out
                have f1 : wrap64 ((x : Int) - 1) = (y : Int) := by rw [IntWalk.wrap64_in _ (by omega)]; omega
                have j1 : (0 : Int) ≤ (y : Int) := by omega
                have j2 : (y : Int) < (acc : Int) := by omega
                clear hx hy hxp hyU hUy hoky hrp hrc r1 r2 hbp hbc HUU
                go_wp2_with fail
                have HM9 := Lib.hid (show IsCM wr.drew bm LC from HM5.out)
                have HW9 := Lib.hid (show Below W2.heap.size W2 wr.drew from HW5.out.drew)
                refine wp_region_held_drew (S := (fun w' => Blk w' gc 42 [Value.map (some bm)].toArray ∧ Blk w' q5 46 [Value.slice (some ⟨bp, op, none⟩) acc c1, Value.slice (some ⟨bc, oc, none⟩) acc c2].toArray ∧ RowAt w' bp (op + y * 33) (ptC id ix) ∧ RowAt w' bc (oc + y * 34) (coinC (amt, lock, hgt)))) (by kernel_rfl) (⟨HS5.out.drew, (H5B.out _ HW5.out).drew, HR1.out, HR2.out⟩) ?_
                intro hSw
                refine wpAnyH_take (i := 0) (oi := ⟨some 89, _, _, _, _, _⟩) (v := (.pointer (some ⟨gc, 0, none⟩))) rfl (by kernel_rfl) (by kernel_rfl) (by kernel_rfl) (fun _ _ _ h => h) (Or.inl ⟨by rfl, ?_⟩) hSw ?_
                · intro w' hSw'
                  have c0 := hSw'.1.cell 0
                  have u0 := hSw'.2.1.cell 0
                  have u1 := hSw'.2.1.cell 1
                  simp only [List.getElem?_toArray, List.getElem?_cons_zero, List.getElem?_cons_succ] at c0 u0 u1
                  go_simp
                simp only [Act.put, List.setIfInBounds_toArray, List.set_cons_zero, List.set_cons_succ]
                refine wpAnyH_take (i := 1) (oi := ⟨some 90, _, _, _, _, _⟩) (v := (.pointer (some ⟨gc, 0, none⟩))) rfl (by kernel_rfl) (by kernel_rfl) (by kernel_rfl) (fun _ _ _ h => h) (Or.inl ⟨by rfl, ?_⟩) hSw ?_
                · intro w' hSw'
                  have c0 := hSw'.1.cell 0
                  have u0 := hSw'.2.1.cell 0
                  have u1 := hSw'.2.1.cell 1
                  simp only [List.getElem?_toArray, List.getElem?_cons_zero, List.getElem?_cons_succ] at c0 u0 u1
                  go_simp
                simp only [Act.put, List.setIfInBounds_toArray, List.set_cons_zero, List.set_cons_succ]
                refine wpAnyH_take (i := 2) (oi := ⟨some 91, _, _, _, _, _⟩) (v := (.pointer (some ⟨gc, 0, none⟩))) rfl (by kernel_rfl) (by kernel_rfl) (by kernel_rfl) (fun _ _ _ h => h) (Or.inl ⟨by rfl, ?_⟩) hSw ?_
                · intro w' hSw'
                  have c0 := hSw'.1.cell 0
                  have u0 := hSw'.2.1.cell 0
                  have u1 := hSw'.2.1.cell 1
                  simp only [List.getElem?_toArray, List.getElem?_cons_zero, List.getElem?_cons_succ] at c0 u0 u1
                  go_simp
                simp only [Act.put, List.setIfInBounds_toArray, List.set_cons_zero, List.set_cons_succ]
                refine wpAnyH_take (i := 3) (oi := ⟨some 92, _, _, _, _, _⟩) (v := (.map (some bm))) rfl (by kernel_rfl) (by kernel_rfl) (by kernel_rfl) (fun _ _ _ h => h) (Or.inl ⟨by rfl, ?_⟩) hSw ?_
                · intro w' hSw'
                  have c0 := hSw'.1.cell 0
                  have u0 := hSw'.2.1.cell 0
                  have u1 := hSw'.2.1.cell 1
                  simp only [List.getElem?_toArray, List.getElem?_cons_zero, List.getElem?_cons_succ] at c0 u0 u1
                  go_simp
                simp only [Act.put, List.setIfInBounds_toArray, List.set_cons_zero, List.set_cons_succ]
                refine wpAnyH_take (i := 4) (oi := ⟨some 93, _, _, _, _, _⟩) (v := (.pointer (some ⟨q5, 0, none⟩))) rfl (by kernel_rfl) (by kernel_rfl) (by kernel_rfl) (fun _ _ _ h => h) (Or.inl ⟨by rfl, ?_⟩) hSw ?_
                · intro w' hSw'
                  have c0 := hSw'.1.cell 0
                  have u0 := hSw'.2.1.cell 0
                  have u1 := hSw'.2.1.cell 1
                  simp only [List.getElem?_toArray, List.getElem?_cons_zero, List.getElem?_cons_succ] at c0 u0 u1
                  go_simp
                simp only [Act.put, List.setIfInBounds_toArray, List.set_cons_zero, List.set_cons_succ]
                refine wpAnyH_take (i := 5) (oi := ⟨some 94, _, _, _, _, _⟩) (v := (.slice (some ⟨bp, op, none⟩) acc c1)) rfl (by kernel_rfl) (by kernel_rfl) (by kernel_rfl) (fun _ _ _ h => h) (Or.inl ⟨by rfl, ?_⟩) hSw ?_
                · intro w' hSw'
                  have c0 := hSw'.1.cell 0
                  have u0 := hSw'.2.1.cell 0
                  have u1 := hSw'.2.1.cell 1
                  simp only [List.getElem?_toArray, List.getElem?_cons_zero, List.getElem?_cons_succ] at c0 u0 u1
                  go_simp
                simp only [Act.put, List.setIfInBounds_toArray, List.set_cons_zero, List.set_cons_succ]
                refine wpAnyH_take (i := 6) (oi := ⟨some 95, _, _, _, _, _⟩) (v := (.int .i64 (y : Int))) rfl (by kernel_rfl) (by kernel_rfl) (by kernel_rfl) (fun _ _ _ h => h) (Or.inl ⟨by rfl, ?_⟩) hSw ?_
                · intro w' hSw'
                  have c0 := hSw'.1.cell 0
                  have u0 := hSw'.2.1.cell 0
                  have u1 := hSw'.2.1.cell 1
                  simp only [List.getElem?_toArray, List.getElem?_cons_zero, List.getElem?_cons_succ] at c0 u0 u1
                  go_simp
                simp only [Act.put, List.setIfInBounds_toArray, List.set_cons_zero, List.set_cons_succ]
                refine wpAnyH_take (i := 7) (oi := ⟨some 96, _, _, _, _, _⟩) (v := (.pointer (some ⟨bp, op + y * 33, none⟩))) rfl (by kernel_rfl) (by kernel_rfl) (by kernel_rfl) (fun _ _ _ h => h) (Or.inl ⟨by rfl, ?_⟩) hSw ?_
                · intro w' hSw'
                  have c0 := hSw'.1.cell 0
                  have u0 := hSw'.2.1.cell 0
                  have u1 := hSw'.2.1.cell 1
                  simp only [List.getElem?_toArray, List.getElem?_cons_zero, List.getElem?_cons_succ] at c0 u0 u1
                  go_simp
                simp only [Act.put, List.setIfInBounds_toArray, List.set_cons_zero, List.set_cons_succ]
                refine wpAnyH_take (i := 8) (oi := ⟨some 97, _, _, _, _, _⟩) (v := .agg (ptC id ix).toArray) rfl (by kernel_rfl) (by kernel_rfl) (by kernel_rfl) (fun _ _ _ h => h) (yieldsIf_load_mid (by rfl) _ _ rfl bp (op + y * 33) rfl (ptC id ix) _ (fun _ h => h.2.2.1) Try.underlying28 rfl (by rw [ptC_len _ _ HOY.out.1.1]; exact infoPt)) hSw ?_
                simp only [Act.put, List.setIfInBounds_toArray, List.set_cons_zero, List.set_cons_succ]
                refine wpAnyH_take (i := 9) (oi := ⟨some 98, _, _, _, _, _⟩) (v := (.pointer (some ⟨q5, 1, none⟩))) rfl (by kernel_rfl) (by kernel_rfl) (by kernel_rfl) (fun _ _ _ h => h) (Or.inl ⟨by rfl, ?_⟩) hSw ?_
                · intro w' hSw'
                  have c0 := hSw'.1.cell 0
                  have u0 := hSw'.2.1.cell 0
                  have u1 := hSw'.2.1.cell 1
                  simp only [List.getElem?_toArray, List.getElem?_cons_zero, List.getElem?_cons_succ] at c0 u0 u1
                  go_simp
                simp only [Act.put, List.setIfInBounds_toArray, List.set_cons_zero, List.set_cons_succ]
                refine wpAnyH_take (i := 10) (oi := ⟨some 99, _, _, _, _, _⟩) (v := (.slice (some ⟨bc, oc, none⟩) acc c2)) rfl (by kernel_rfl) (by kernel_rfl) (by kernel_rfl) (fun _ _ _ h => h) (Or.inl ⟨by rfl, ?_⟩) hSw ?_
                · intro w' hSw'
                  have c0 := hSw'.1.cell 0
                  have u0 := hSw'.2.1.cell 0
                  have u1 := hSw'.2.1.cell 1
                  simp only [List.getElem?_toArray, List.getElem?_cons_zero, List.getElem?_cons_succ] at c0 u0 u1
                  go_simp
                simp only [Act.put, List.setIfInBounds_toArray, List.set_cons_zero, List.set_cons_succ]
                refine wpAnyH_take (i := 11) (oi := ⟨some 100, _, _, _, _, _⟩) (v := (.int .i64 (y : Int))) rfl (by kernel_rfl) (by kernel_rfl) (by kernel_rfl) (fun _ _ _ h => h) (Or.inl ⟨by rfl, ?_⟩) hSw ?_
                · intro w' hSw'
                  have c0 := hSw'.1.cell 0
                  have u0 := hSw'.2.1.cell 0
                  have u1 := hSw'.2.1.cell 1
                  simp only [List.getElem?_toArray, List.getElem?_cons_zero, List.getElem?_cons_succ] at c0 u0 u1
                  go_simp
                simp only [Act.put, List.setIfInBounds_toArray, List.set_cons_zero, List.set_cons_succ]
                refine wpAnyH_take (i := 12) (oi := ⟨some 101, _, _, _, _, _⟩) (v := (.pointer (some ⟨bc, oc + y * 34, none⟩))) rfl (by kernel_rfl) (by kernel_rfl) (by kernel_rfl) (fun _ _ _ h => h) (Or.inl ⟨by rfl, ?_⟩) hSw ?_
                · intro w' hSw'
                  have c0 := hSw'.1.cell 0
                  have u0 := hSw'.2.1.cell 0
                  have u1 := hSw'.2.1.cell 1
                  simp only [List.getElem?_toArray, List.getElem?_cons_zero, List.getElem?_cons_succ] at c0 u0 u1
                  go_simp
                simp only [Act.put, List.setIfInBounds_toArray, List.set_cons_zero, List.set_cons_succ]
                refine wpAnyH_take (i := 13) (oi := ⟨some 102, _, _, _, _, _⟩) (v := .agg (coinC (amt, lock, hgt)).toArray) rfl (by kernel_rfl) (by kernel_rfl) (by kernel_rfl) (fun _ _ _ h => h) (yieldsIf_load_mid (by rfl) _ _ rfl bc (oc + y * 34) rfl (coinC (amt, lock, hgt)) _ (fun _ h => h.2.2.2) Try.underlying61 rfl (by rw [coinC_len (amt, lock, hgt) HOY.out.2.1]; exact infoCo)) hSw ?_
                simp only [Act.put, List.setIfInBounds_toArray, List.set_cons_zero, List.set_cons_succ]
                refine wpAnyH_ready (rs := [14]) (by kernel_rfl) (by simp) (AllReadyH.cons (o := ⟨none, _, _, _, _, _⟩) rfl (fun K hK => ?_) AllReadyH.nil)
                obtain ⟨w7, hput, hcm, ho7⟩ := cm_put2 HM9.out (id, ix) (amt, lock, hgt) HOY.out.1 HOY.out.2
                unfold pV ptV coinV at hput
                have hbn := HM9.out
                have t1 := hSw.1.only ho7 (fun e => cm_blk_ne hbn hSw.1 e.symm)
                have t2 := hSw.2.1.only ho7 (fun e => cm_blk_ne hbn hSw.2.1 e.symm)
                have t3 := RowAt.only hSw.2.2.1 ho7 (by have := HBP.out; have := HBM.out; have := HQ.out; omega)
                have t4 := RowAt.only hSw.2.2.2 ho7 (by have := HBC.out; have := HBM.out; have := HQ.out; omega)
                have HM7 := Lib.hid hcm
                have HW7 := Lib.hid (HW9.out.trans (ho7.below HW9.out.size (fun k _ e => by have := HBM.out; omega)))
                clear HM9 HW9 hcm ho7 hbn HS5 HM5 HW5
                go_simp
                clear hput
                refine hK.out _ _ (⟨t1, t2, t3, t4⟩) ?_
                intro hSw
                clear hK K
                try simp only [Act.put, List.setIfInBounds_toArray, List.set_cons_zero, List.set_cons_succ]
                refine wpAnyH_done (by kernel_rfl) ?_ _
                have HS7 := Lib.hid hSw.1
                have hn1b := HN1B.out
                clear hSw t1 t2 t3 t4 f1 j1 j2
                go_wp2
                go_roundg (n1 - 1 - a)
                case measure => omega
                case rel => exact ⟨a + 1, putC LC (id, ix) (amt, lock, hgt), by omega, by have := HXA.out; have := HXY.out; congr 1; omega, by first | rfl | (rw [IntWalk.wrap64_in _ (by omega)]; rfl), HUN.out, HS7.out, HM7.out, HW7.out⟩
              · obtain rfl : a = n1 := by omega
                have hLC : LC = LT := by have := HUU.out; rwa [Nat.sub_self, unsp] at this
                have HLC := Lib.hid hLC
                have HFN2 := Lib.hid (show discR U ((txs.take (i - 1 + 1)).drop 1).reverse (nn - a) LC = FIN by rw [hLC, show i - 1 + 1 = i by omega]; exact HFN.out)
                have HIN2 := Lib.hid (show nn - a = insN ((txs.take (i - 1 + 1)).drop 1) by rw [show i - 1 + 1 = i by omega, HNN.out]; omega)
                have hww : wrap64 ((i : Int) - 1) = ((i - 1 : Nat) : Int) := by rw [IntWalk.wrap64_in _ (by omega)]; omega
                have hna := HNA.out
                clear hLC
                go_wp2
                go_roundg (i - 1)
                case measure => omega
                case rel => exact ⟨i - 1, nn - a, LC, rfl, by omega, rfl, by first | rfl | (congr 1; omega), by simp only [Hid]; omega, HIN2.out, HFN2.out, HS5.out, HM5.out, HW5.out⟩
          · have d1 : decide ((0 : Int) < (i : Int)) = false := by simp; omega
            obtain rfl : i = 0 := by omega
            have hfin : LL = FIN := by
              have := HDR.out
              have e0 : (txs.take (0 + 1)).drop 1 = [] := List.eq_nil_of_length_eq_zero (by rw [List.length_drop, List.length_take]; omega)
              rw [e0] at this
              simpa [discR] using this
            have HFE := Lib.hid hfin
            clear hfin
            have c0 := HS4.out.cell 0
            simp only [List.getElem?_toArray, List.getElem?_cons_zero] at c0
            have d0 := (HSTB.out _ HW4.out).cell 0
            have f0 := (HSTB.out _ HW4.out).frozen 0
            simp only [List.getElem?_toArray, List.getElem?_cons_zero] at d0
            have hst := HSTB.out _ HW4.out
            have ho6 : Only (fun k => k = gs) wr (wr.setCell ⟨gs, 0, none⟩ (.map (some bm))) := (Only.refl (fun b => b = gs) wr).setCell (p := ⟨gs, 0, none⟩) (fun _ => rfl) _
            have HS6 := Lib.hid (show Blk (wr.setCell ⟨gs, 0, none⟩ (.map (some bm))) gs 42 [Value.map (some bm)].toArray from hst.set_ 0 _)
            have HM6 := Lib.hid (HM4.out.only ho6 (fun e => by have := HBM.out; have := HQ.out; omega))
            have HF6 := Lib.hid ((Only.of_new (HWB.out _ HW4.out) (fun k => k = gs)).trans ho6 (fun b _ e => e))
            have HBX := Lib.hid (show B ≤ bm by have := HBW.out; have := HBM.out; have := HQ.out; omega)
            clear hst ho6
            go_wp2
            go_ret
            exact ⟨rfl, HF6.out, some bm, HS6.out, HBX.out, by rw [← HFE.out]; exact HM6.out⟩
end Go.Proofs.Ytlbpeihdedhjiaa
