/- TxBytes, walked. -/
import Derived.Test.YtpcombaecbjmfaaSa
import Derived.Test.YtpcombaecbjmfaaSm
import Derived.Test.YtpcombaecbjmfaaTrd
namespace Go.Proofs.Ytpcombaecbjmfaa
open Go.RowKit
theorem step_newg {P : Program} {ops : Array Oper} {o : Oper} {ac : Act} {w : World} {Q : Exit → Act → World → Prop} {K : Act → World → Prop} {E : Prop} (hw : Region.wanted o (yielded ops ac.tmps) = true) (ob : Obj) (v : Nat → Value) (hr : (execOp ac.eval o).run P w = .ok (.value (v w.heap.size)) (w.alloc ob))
    (h : ∀ N w', N = w.heap.size → w' = w.alloc ob → Below w.heap.size w w' → K (ac.put o.dst (v N)) w') : if Region.wanted o (yielded ops ac.tmps) = true then Oper.wp P o ac w K Q else E := by
  rw [if_pos hw]
  unfold Oper.wp
  rw [hr]
  exact h _ _ rfl rfl ((Below.refl _ _).alloc (Nat.le_refl _) _)
set_option maxRecDepth 20000 in
set_option maxHeartbeats 4000000 in
set_option linter.unusedSimpArgs false in
theorem txBytes_any (w : World) (A A' : Option Addr) (n n' c c' : Nat) (ins : List InT) (outs : List OutT) (ok : Nat → Prop)
    (hi0 : insSh.rel w ok [.slice A n c] ins) (ho0 : outsSh.rel w ok [.slice A' n' c'] outs) (hn : ins.length = n) (hn' : outs.length = n') :
    Calls Try.prog 3 #[.agg #[.slice A n c, .slice A' n' c']] w fun e w' => e = .returned (.bool true) ∧ Below w.heap.size w w' := by
  have hi := weak_slice weak_in3 _ _ (fun b => b < w.heap.size) _ _ hi0 (fun b hb _ => hb)
  have ho := weak_slice weak_out3 _ _ (fun b => b < w.heap.size) _ _ ho0 (fun b hb _ => hb)
  have HTO := Lib.hid (tx_ok hi ho)
  have INS := Lib.hid (fun W (a : Below w.heap.size w W) => insSh.below hi a (fun _ h _ => h))
  have OUTS := Lib.hid (fun W (a : Below w.heap.size w W) => outsSh.below ho a (fun _ h _ => h))
  have HN := Lib.hid hn
  have HN' := Lib.hid hn'
  clear hi ho hi0 ho0 hn hn'
  go_enter Try.func3, Try.ntmps3
  go_wp2_with fail
  generalize hW : World.alloc w _ = W
  have hb : Blk W w.heap.size 25 #[.slice A n c, .slice A' n' c'] := by rw [← hW]; exact Blk.new _ _ _
  have hbl : Below w.heap.size w W := by rw [← hW]; exact (Below.refl _ _).alloc (Nat.le_refl _) _
  clear hW
  obtain ⟨g, hg⟩ : ∃ g, w.heap.size = g := ⟨_, rfl⟩
  rw [hg] at hb ⊢
  have HG := Lib.hid hg
  refine (writes7_any W).mono ?_
  rintro e1 w1 ⟨rfl, a1⟩
  have HB := Lib.hid (hb.below a1 hb.lt)
  have HBL := Lib.hid (hbl.trans (a1.mono hbl.size))
  clear hg hb hbl a1
  have c0 := HB.out.cell 0
  have c1 := HB.out.cell 1
  simp only [List.getElem?_toArray, List.getElem?_cons_zero, List.getElem?_cons_succ] at c0 c1
  go_wp2_with fail
  refine (fits7_any w1 A A' n n' c c' ins outs _ (INS.out _ HBL.out) HN.out HN'.out).mono ?_
  rintro e2 w2 ⟨rfl, a2⟩
  replace HB := Lib.hid (HB.out.below a2 HB.out.lt)
  replace HBL := Lib.hid (HBL.out.trans (a2.mono HBL.out.size))
  clear a2 c0 c1
  have c0 := HB.out.cell 0
  have c1 := HB.out.cell 1
  simp only [List.getElem?_toArray, List.getElem?_cons_zero, List.getElem?_cons_succ] at c0 c1
  cases hfit : fitsB (ins, outs, ())
  · clear hfit
    go_wp2
    go_ret
    exact ⟨rfl, HBL.out⟩
  have HF := Lib.hid (fits_fit hfit)
  clear hfit
  have HLEN := Lib.hid (txB_len (INS.out _ HBL.out) (OUTS.out _ HBL.out) HF.out)
  have BY := Lib.hid (fun W (a : Below w.heap.size w W) => tx_bytes_any W A A' n n' c c' ins outs _ (INS.out _ a) (OUTS.out _ a) HN.out HN'.out (fun b hb => by have := a.size; omega) HF.out)
  have ID := Lib.hid (fun W (a : Below w.heap.size w W) => tx_id_any W A A' n n' c c' ins outs _ (INS.out _ a) (OUTS.out _ a) HN.out HN'.out (fun b hb => by have := a.size; omega) HF.out)
  have RB := Lib.hid (fun W (a : Below w.heap.size w W) => bytes07_any W A A' n n' c c' ins outs _ (INS.out _ a) (OUTS.out _ a) HN.out HN'.out HF.out)
  have SM := Lib.hid (fun W (a : Below w.heap.size w W) B B' m m' d d' ok2 hi2 ho2 hm hm' => same7_any W A A' B B' n n' c c' m m' d d' ins ins outs outs _ ok2 (INS.out _ a) (OUTS.out _ a) HN.out HN'.out HF.out hi2 ho2 hm hm' HF.out)
  have HGD := Lib.hid (txE_good _ HTO.out)
  have HLG := Lib.hid (txE_long _ HTO.out HF.out)
  obtain ⟨X, hX⟩ : ∃ X, txB (ins, outs, ()) = X := ⟨_, rfl⟩
  rw [hX] at HLEN HGD HLG
  simp only [hX] at BY RB SM ID
  clear hX
  go_wp2_with fail
  refine (BY.out _ HBL.out).mono ?_
  rintro e4 w4 ⟨B1, n1, c1', rfl, hn1, a4, o4⟩
  have HN1 := Lib.hid hn1
  replace HB := Lib.hid (show Blk w4.drew g 25 #[.slice A n c, .slice A' n' c'] from (HB.out.below a4 HB.out.lt).drew)
  replace HBL := Lib.hid ((HBL.out.trans (a4.mono HBL.out.size)).drew)
  have HOW := Lib.hid (show IsB w4.drew (fun b => w2.heap.size ≤ b ∧ b < w4.heap.size) (.slice B1 n1 c1') X from IsB.of_own o4)
  clear hn1 a4 o4 c0 c1
  go_upto_region 6 with fail
  obtain ⟨R, hR⟩ : ∃ R, sha2 X = R := ⟨_, rfl⟩
  have hR32 : R.length = 32 := by rw [← hR]; exact sha2_len _
  rw [hR] at ID
  unfold idV at ID
  have HR := Lib.hid hR
  have heqA : ∀ w', (Op.equalIn 10000 32 (.agg (bts R).toArray) (.agg (bts R).toArray)).run Try.prog w' = .ok true w' := fun w' => by rw [run_eq_id R R hR32 hR32 w']; simp
  have HTW := Lib.hid (fun (W : World) (L : Option Addr) (ok1 ok2 : Nat → Prop) (hL : Sl W ok1 1 L 1 [.slice B1 n1 c1']) (hp : IsB W ok2 (.slice B1 n1 c1') X) => htwice_any W L 1 1 _ [X] ok1 ok2 hL (Each1.one hp) (by omega) (fun p hp => by rw [List.mem_singleton] at hp; rw [hp]; have := HLEN.out; omega))
  simp only [show [X].flatten = X from by simp, hR] at HTW
  unfold idV at HTW
  clear hR hR32
  have hxx : (X == X) = true := by simp
  have hxn : (X != X) = false := by simp
  refine wp_region_held_drew (S := (fun w' => Blk w' g 25 #[.slice A n c, .slice A' n' c'] ∧ IsB w' (fun b => w2.heap.size ≤ b ∧ b < w4.heap.size) (.slice B1 n1 c1') X ∧ Below w.heap.size w w')) (by kernel_rfl) (⟨HB.out, HOW.out, HBL.out⟩) ?_
  intro hSw
  refine wpAnyH_take (i := 0) (oi := ⟨some 13, _, _, _, _, _⟩) (v := (.slice B1 n1 c1')) rfl (by kernel_rfl) (by kernel_rfl) (by kernel_rfl) (fun _ _ _ h => h) (Or.inl ⟨by rfl, ?_⟩) hSw ?_
  · intro w' hSw'
    have c0 := hSw'.1.cell 0
    have c1 := hSw'.1.cell 1
    have hst := IsB.str hSw'.2.1 (P := Try.prog) (src := 28) (dst := 9) Try.underlying28 Try.underlying5 Try.underlying9
    simp only [List.getElem?_toArray, List.getElem?_cons_zero, List.getElem?_cons_succ] at c0 c1
    go_simp
  simp only [Act.put, List.setIfInBounds_toArray, List.set_cons_zero, List.set_cons_succ]
  refine wpAnyH_take (i := 1) (oi := ⟨some 14, _, _, _, _, _⟩) (v := (.string (bstr X))) rfl (by kernel_rfl) (by kernel_rfl) (by kernel_rfl) (fun _ _ _ h => h) (Or.inl ⟨by rfl, ?_⟩) hSw ?_
  · intro w' hSw'
    have c0 := hSw'.1.cell 0
    have c1 := hSw'.1.cell 1
    have hst := IsB.str hSw'.2.1 (P := Try.prog) (src := 28) (dst := 9) Try.underlying28 Try.underlying5 Try.underlying9
    simp only [List.getElem?_toArray, List.getElem?_cons_zero, List.getElem?_cons_succ] at c0 c1
    go_simp
  simp only [Act.put, List.setIfInBounds_toArray, List.set_cons_zero, List.set_cons_succ]
  refine wpAnyH_take (i := 2) (oi := ⟨some 15, _, _, _, _, _⟩) (v := (.agg #[.slice A n c, .slice A' n' c'])) rfl (by kernel_rfl) (by kernel_rfl) (by kernel_rfl) (fun _ _ _ h => h) (Or.inl ⟨by rfl, ?_⟩) hSw ?_
  · intro w' hSw'
    have c0 := hSw'.1.cell 0
    have c1 := hSw'.1.cell 1
    have hst := IsB.str hSw'.2.1 (P := Try.prog) (src := 28) (dst := 9) Try.underlying28 Try.underlying5 Try.underlying9
    simp only [List.getElem?_toArray, List.getElem?_cons_zero, List.getElem?_cons_succ] at c0 c1
    go_simp
  simp only [Act.put, List.setIfInBounds_toArray, List.set_cons_zero, List.set_cons_succ]
  refine wpAnyH_ready (rs := [3]) (by kernel_rfl) (by simp) (AllReadyH.cons (o := ⟨some 16, _, _, _, _, _⟩) rfl (fun K hK => ?_) AllReadyH.nil)
  go_simp
  go_at_call 14
  refine (RB.out _ hSw.2.2).mono ?_
  rintro e7 w7 ⟨rfl, a7⟩
  dsimp only
  refine hK.out _ _ (⟨hSw.1.below a7 hSw.1.lt, IsB.new hSw.2.1 a7, hSw.2.2.trans (a7.mono hSw.2.2.size)⟩) ?_
  intro hSw
  clear hK K
  try simp only [Act.put, List.setIfInBounds_toArray, List.set_cons_zero, List.set_cons_succ]
  refine wpAnyH_take (i := 4) (oi := ⟨some 17, _, _, _, _, _⟩) (v := (.bool false)) rfl (by kernel_rfl) (by kernel_rfl) (by kernel_rfl) (fun _ _ _ h => h) (Or.inl ⟨by rfl, ?_⟩) hSw ?_
  · intro w' hSw'
    have c0 := hSw'.1.cell 0
    have c1 := hSw'.1.cell 1
    have hst := IsB.str hSw'.2.1 (P := Try.prog) (src := 28) (dst := 9) Try.underlying28 Try.underlying5 Try.underlying9
    simp only [List.getElem?_toArray, List.getElem?_cons_zero, List.getElem?_cons_succ] at c0 c1
    go_simp
  simp only [Act.put, List.setIfInBounds_toArray, List.set_cons_zero, List.set_cons_succ]
  refine wpAnyH_take (i := 5) (oi := ⟨some 18, _, _, _, _, _⟩) (v := (.bool false)) rfl (by kernel_rfl) (by kernel_rfl) (by kernel_rfl) (fun _ _ _ h => h) (Or.inl ⟨by rfl, ?_⟩) hSw ?_
  · intro w' hSw'
    have c0 := hSw'.1.cell 0
    have c1 := hSw'.1.cell 1
    have hst := IsB.str hSw'.2.1 (P := Try.prog) (src := 28) (dst := 9) Try.underlying28 Try.underlying5 Try.underlying9
    simp only [List.getElem?_toArray, List.getElem?_cons_zero, List.getElem?_cons_succ] at c0 c1
    go_simp
  simp only [Act.put, List.setIfInBounds_toArray, List.set_cons_zero, List.set_cons_succ]
  refine wpAnyH_take (i := 6) (oi := ⟨some 19, _, _, _, _, _⟩) (v := (.agg #[.slice A n c, .slice A' n' c'])) rfl (by kernel_rfl) (by kernel_rfl) (by kernel_rfl) (fun _ _ _ h => h) (Or.inl ⟨by rfl, ?_⟩) hSw ?_
  · intro w' hSw'
    have c0 := hSw'.1.cell 0
    have c1 := hSw'.1.cell 1
    have hst := IsB.str hSw'.2.1 (P := Try.prog) (src := 28) (dst := 9) Try.underlying28 Try.underlying5 Try.underlying9
    simp only [List.getElem?_toArray, List.getElem?_cons_zero, List.getElem?_cons_succ] at c0 c1
    go_simp
  simp only [Act.put, List.setIfInBounds_toArray, List.set_cons_zero, List.set_cons_succ]
  refine wpAnyH_take (i := 8) (oi := ⟨some 21, _, _, _, _, _⟩) (v := (.slice B1 n1 c1')) rfl (by kernel_rfl) (by kernel_rfl) (by kernel_rfl) (fun _ _ _ h => h) (Or.inl ⟨by rfl, ?_⟩) hSw ?_
  · intro w' hSw'
    have c0 := hSw'.1.cell 0
    have c1 := hSw'.1.cell 1
    have hst := IsB.str hSw'.2.1 (P := Try.prog) (src := 28) (dst := 9) Try.underlying28 Try.underlying5 Try.underlying9
    simp only [List.getElem?_toArray, List.getElem?_cons_zero, List.getElem?_cons_succ] at c0 c1
    go_simp
  simp only [Act.put, List.setIfInBounds_toArray, List.set_cons_zero, List.set_cons_succ]
  refine wpAnyH_ready (rs := [7, 9]) (by kernel_rfl) (by simp) (AllReadyH.cons (o := ⟨some 20, _, _, _, _, _⟩) rfl (fun K hK => ?_) (AllReadyH.cons (o := ⟨some 22, _, _, _, _, _⟩) rfl (fun K hK => ?_) AllReadyH.nil))
  · skip
    go_simp
    go_at_call 15
    refine (ID.out _ hSw.2.2).mono ?_
    rintro e8 w8 ⟨rfl, a8⟩
    try replace M1 := Lib.hid (M1.out.below a8 M1.out.lt)
    dsimp only
    refine hK.out _ _ (⟨hSw.1.below a8 hSw.1.lt, IsB.new hSw.2.1 a8, hSw.2.2.trans (a8.mono hSw.2.2.size)⟩) ?_
    intro hSw
    clear hK K
    try simp only [Act.put, List.setIfInBounds_toArray, List.set_cons_zero, List.set_cons_succ]
    refine wpAnyH_ready (rs := [9]) (by kernel_rfl) (by simp) (AllReadyH.cons (o := ⟨some 22, _, _, _, _, _⟩) rfl (fun K hK => ?_) AllReadyH.nil)
    refine step_newg (by rfl) (.cells #[.slice B1 n1 c1'] 28) (fun N => .slice (some ⟨N, 0, none⟩) 1 1) (by show _ = _; kernel_rfl) ?_
    intro N9 w9 hN9 hw9 a9
    have M1 := Lib.hid (show Blk w9 N9 28 [.slice B1 n1 c1'].toArray by rw [hN9, hw9]; exact Blk.new _ _ _)
    clear hN9 hw9
    refine hK.out _ _ (⟨hSw.1.below a9 hSw.1.lt, IsB.new hSw.2.1 a9, hSw.2.2.trans (a9.mono hSw.2.2.size)⟩) ?_
    intro hSw
    clear hK K
    try simp only [Act.put, List.setIfInBounds_toArray, List.set_cons_zero, List.set_cons_succ]
    refine wpAnyH_ready (rs := [10]) (by kernel_rfl) (by simp) (AllReadyH.cons (o := ⟨some 23, _, _, _, _, _⟩) rfl (fun K hK => ?_) AllReadyH.nil)
    go_simp
    go_at_call 16
    refine (HTW.out _ (some ⟨N9, 0, none⟩) (fun _ => True) _ ⟨rfl, fun _ => ⟨N9, 0, rfl, trivial, M1.out.rowAll⟩⟩ hSw.2.1).mono ?_
    rintro e10 w10 ⟨rfl, a10⟩
    dsimp only
    refine hK.out _ _ (⟨hSw.1.below a10 hSw.1.lt, IsB.new hSw.2.1 a10, hSw.2.2.trans (a10.mono hSw.2.2.size)⟩) ?_
    intro hSw
    clear hK K
    try simp only [Act.put, List.setIfInBounds_toArray, List.set_cons_zero, List.set_cons_succ]
    refine wpAnyH_take (i := 11) (oi := ⟨some 24, _, _, _, _, _⟩) (v := (.bool false)) rfl (by kernel_rfl) (by kernel_rfl) (by kernel_rfl) (fun _ _ _ h => h) (Or.inl ⟨by rfl, ?_⟩) hSw ?_
    · intro w' hSw'
      have c0 := hSw'.1.cell 0
      have c1 := hSw'.1.cell 1
      have hst := IsB.str hSw'.2.1 (P := Try.prog) (src := 28) (dst := 9) Try.underlying28 Try.underlying5 Try.underlying9
      simp only [List.getElem?_toArray, List.getElem?_cons_zero, List.getElem?_cons_succ] at c0 c1
      go_simp
    simp only [Act.put, List.setIfInBounds_toArray, List.set_cons_zero, List.set_cons_succ]
    refine wpAnyH_take (i := 12) (oi := ⟨some 25, _, _, _, _, _⟩) (v := (.bool false)) rfl (by kernel_rfl) (by kernel_rfl) (by kernel_rfl) (fun _ _ _ h => h) (Or.inl ⟨by rfl, ?_⟩) hSw ?_
    · intro w' hSw'
      have c0 := hSw'.1.cell 0
      have c1 := hSw'.1.cell 1
      have hst := IsB.str hSw'.2.1 (P := Try.prog) (src := 28) (dst := 9) Try.underlying28 Try.underlying5 Try.underlying9
      simp only [List.getElem?_toArray, List.getElem?_cons_zero, List.getElem?_cons_succ] at c0 c1
      go_simp
    simp only [Act.put, List.setIfInBounds_toArray, List.set_cons_zero, List.set_cons_succ]
    refine wpAnyH_done (by kernel_rfl) ?_ _
    clear heqA HTW M1 hxx hxn
    go_wp2_with fail
    refine (tx_Read_any _ _ _ _ hSw.2.1 (by have := HLEN.out; omega)).mono ?_
    rintro e11 w11 ⟨A2, n2, c2, A3, n3, c3, rfl, r1, r2, _, _, a11⟩
    have HI := Lib.hid r1
    have HO := Lib.hid r2
    replace HB := Lib.hid (hSw.1.below a11 hSw.1.lt)
    replace HBL := Lib.hid (hSw.2.2.trans (a11.mono hSw.2.2.size))
    obtain ⟨E, hE⟩ : ∃ E, txE X = E := ⟨_, rfl⟩
    rw [hE]
    have HE := Lib.hid hE
    clear hE r1 r2 a11 hSw
    go_wp2_with (with_reducible refine wpList_stb rfl 25 (.tmp 4) (.tmp 29) rfl w11.heap.size 0 _ rfl rfl 25 _ (Blk.new w11 _ _) ?h1 ?h2 ?h3 ?_)
    case h1 => simp
    case h2 => rw [infoTx7]; rfl
    case h3 => exact ⟨rfl, rfl⟩
    intro w12 b12 o12
    rw [over_all _ _ (by simp)] at b12
    have hO12 : Below w11.heap.size w11 w12 := (((Only.refl (fun b => w11.heap.size ≤ b) w11).alloc _).trans o12 (fun b _ e => by omega)).below (Nat.le_refl _) (fun b hb h => by omega)
    replace HI := Lib.hid (insSh.below HI.out hO12 (fun _ h _ => h))
    replace HO := Lib.hid (outsSh.below HO.out hO12 (fun _ h _ => h))
    replace HB := Lib.hid (HB.out.below hO12 HB.out.lt)
    replace HBL := Lib.hid (HBL.out.trans (hO12.mono HBL.out.size))
    have U := Lib.hid b12
    obtain ⟨u, hu⟩ : ∃ u, w11.heap.size = u := ⟨_, rfl⟩
    rw [hu] at U ⊢
    clear hu b12 o12 hO12
    have c0' := HB.out.cell 0
    have c1'' := HB.out.cell 1
    simp only [List.getElem?_toArray, List.getElem?_cons_zero, List.getElem?_cons_succ] at c0' c1''
    go_wp2_with fail
    clear c0' c1''
    refine (good7_any w12 A A' n n' c c' ins outs _ (INS.out _ HBL.out) HN.out HN'.out (by have := HF.out.1; have := HN.out; simp only at *; omega)).mono ?_
    rintro e13 w13 ⟨rfl, a13⟩
    replace HI := Lib.hid (insSh.below HI.out a13 (fun _ h _ => h))
    replace HO := Lib.hid (outsSh.below HO.out a13 (fun _ h _ => h))
    replace HB := Lib.hid (HB.out.below a13 HB.out.lt)
    replace HBL := Lib.hid (HBL.out.trans (a13.mono HBL.out.size))
    replace U := Lib.hid (U.out.below a13 U.out.lt)
    clear a13
    have k0 := HB.out.cell 0
    have k1 := HB.out.cell 1
    have k2 := U.out.cell 0
    have k3 := U.out.cell 1
    simp only [List.getElem?_toArray, List.getElem?_cons_zero, List.getElem?_cons_succ] at k0 k1 k2 k3
    cases hgood : goodB (ins, outs, ())
    · have hE2 := HLG.out hgood
      obtain rfl : E = 2 := by rw [← HE.out]; exact hE2
      have hG := txG_no (l := X) (by rw [hE2]; decide)
      rw [hG] at HI HO
      obtain rfl := ins_n HI.out
      obtain rfl := outs_n HO.out
      clear hgood hE2 hG
      go_wp2
      go_ret
      exact ⟨rfl, HBL.out⟩
    · obtain ⟨hE2, hR2⟩ := HGD.out hgood
      obtain rfl : E = 0 := by rw [← HE.out]; exact hE2
      have hG : txG X = (ins, outs, ()) := by rw [txG, if_pos hE2, hR2]
      rw [hG] at HI HO
      have hm := ins_n HI.out
      have hm' := outs_n HO.out
      clear hgood hE2 hG hR2
      have SX := Lib.hid (SM.out _ HBL.out A2 A3 n2 n3 c2 c3 _ HI.out HO.out hm.symm hm'.symm)
      clear hm hm'
      go_wp2_with fail
      refine SX.out.mono ?_
      rintro e14 w14 ⟨rfl, a14⟩
      rw [beq_self_eq_true]
      replace HBL := Lib.hid (HBL.out.trans (a14.mono HBL.out.size))
      clear a14 SX k0 k1 k2 k3
      go_wp2
      go_ret
      exact ⟨rfl, HBL.out⟩
  · skip
    refine step_newg (by rfl) (.cells #[.slice B1 n1 c1'] 28) (fun N => .slice (some ⟨N, 0, none⟩) 1 1) (by show _ = _; kernel_rfl) ?_
    intro N9 w9 hN9 hw9 a9
    have M1 := Lib.hid (show Blk w9 N9 28 [.slice B1 n1 c1'].toArray by rw [hN9, hw9]; exact Blk.new _ _ _)
    clear hN9 hw9
    refine hK.out _ _ (⟨hSw.1.below a9 hSw.1.lt, IsB.new hSw.2.1 a9, hSw.2.2.trans (a9.mono hSw.2.2.size)⟩) ?_
    intro hSw
    clear hK K
    try simp only [Act.put, List.setIfInBounds_toArray, List.set_cons_zero, List.set_cons_succ]
    refine wpAnyH_ready (rs := [7]) (by kernel_rfl) (by simp) (AllReadyH.cons (o := ⟨some 20, _, _, _, _, _⟩) rfl (fun K hK => ?_) AllReadyH.nil)
    go_simp
    go_at_call 15
    refine (ID.out _ hSw.2.2).mono ?_
    rintro e8 w8 ⟨rfl, a8⟩
    try replace M1 := Lib.hid (M1.out.below a8 M1.out.lt)
    dsimp only
    refine hK.out _ _ (⟨hSw.1.below a8 hSw.1.lt, IsB.new hSw.2.1 a8, hSw.2.2.trans (a8.mono hSw.2.2.size)⟩) ?_
    intro hSw
    clear hK K
    try simp only [Act.put, List.setIfInBounds_toArray, List.set_cons_zero, List.set_cons_succ]
    refine wpAnyH_ready (rs := [10]) (by kernel_rfl) (by simp) (AllReadyH.cons (o := ⟨some 23, _, _, _, _, _⟩) rfl (fun K hK => ?_) AllReadyH.nil)
    go_simp
    go_at_call 16
    refine (HTW.out _ (some ⟨N9, 0, none⟩) (fun _ => True) _ ⟨rfl, fun _ => ⟨N9, 0, rfl, trivial, M1.out.rowAll⟩⟩ hSw.2.1).mono ?_
    rintro e10 w10 ⟨rfl, a10⟩
    dsimp only
    refine hK.out _ _ (⟨hSw.1.below a10 hSw.1.lt, IsB.new hSw.2.1 a10, hSw.2.2.trans (a10.mono hSw.2.2.size)⟩) ?_
    intro hSw
    clear hK K
    try simp only [Act.put, List.setIfInBounds_toArray, List.set_cons_zero, List.set_cons_succ]
    refine wpAnyH_take (i := 11) (oi := ⟨some 24, _, _, _, _, _⟩) (v := (.bool false)) rfl (by kernel_rfl) (by kernel_rfl) (by kernel_rfl) (fun _ _ _ h => h) (Or.inl ⟨by rfl, ?_⟩) hSw ?_
    · intro w' hSw'
      have c0 := hSw'.1.cell 0
      have c1 := hSw'.1.cell 1
      have hst := IsB.str hSw'.2.1 (P := Try.prog) (src := 28) (dst := 9) Try.underlying28 Try.underlying5 Try.underlying9
      simp only [List.getElem?_toArray, List.getElem?_cons_zero, List.getElem?_cons_succ] at c0 c1
      go_simp
    simp only [Act.put, List.setIfInBounds_toArray, List.set_cons_zero, List.set_cons_succ]
    refine wpAnyH_take (i := 12) (oi := ⟨some 25, _, _, _, _, _⟩) (v := (.bool false)) rfl (by kernel_rfl) (by kernel_rfl) (by kernel_rfl) (fun _ _ _ h => h) (Or.inl ⟨by rfl, ?_⟩) hSw ?_
    · intro w' hSw'
      have c0 := hSw'.1.cell 0
      have c1 := hSw'.1.cell 1
      have hst := IsB.str hSw'.2.1 (P := Try.prog) (src := 28) (dst := 9) Try.underlying28 Try.underlying5 Try.underlying9
      simp only [List.getElem?_toArray, List.getElem?_cons_zero, List.getElem?_cons_succ] at c0 c1
      go_simp
    simp only [Act.put, List.setIfInBounds_toArray, List.set_cons_zero, List.set_cons_succ]
    refine wpAnyH_done (by kernel_rfl) ?_ _
    clear heqA HTW M1 hxx hxn
    go_wp2_with fail
    refine (tx_Read_any _ _ _ _ hSw.2.1 (by have := HLEN.out; omega)).mono ?_
    rintro e11 w11 ⟨A2, n2, c2, A3, n3, c3, rfl, r1, r2, _, _, a11⟩
    have HI := Lib.hid r1
    have HO := Lib.hid r2
    replace HB := Lib.hid (hSw.1.below a11 hSw.1.lt)
    replace HBL := Lib.hid (hSw.2.2.trans (a11.mono hSw.2.2.size))
    obtain ⟨E, hE⟩ : ∃ E, txE X = E := ⟨_, rfl⟩
    rw [hE]
    have HE := Lib.hid hE
    clear hE r1 r2 a11 hSw
    go_wp2_with (with_reducible refine wpList_stb rfl 25 (.tmp 4) (.tmp 29) rfl w11.heap.size 0 _ rfl rfl 25 _ (Blk.new w11 _ _) ?h1 ?h2 ?h3 ?_)
    case h1 => simp
    case h2 => rw [infoTx7]; rfl
    case h3 => exact ⟨rfl, rfl⟩
    intro w12 b12 o12
    rw [over_all _ _ (by simp)] at b12
    have hO12 : Below w11.heap.size w11 w12 := (((Only.refl (fun b => w11.heap.size ≤ b) w11).alloc _).trans o12 (fun b _ e => by omega)).below (Nat.le_refl _) (fun b hb h => by omega)
    replace HI := Lib.hid (insSh.below HI.out hO12 (fun _ h _ => h))
    replace HO := Lib.hid (outsSh.below HO.out hO12 (fun _ h _ => h))
    replace HB := Lib.hid (HB.out.below hO12 HB.out.lt)
    replace HBL := Lib.hid (HBL.out.trans (hO12.mono HBL.out.size))
    have U := Lib.hid b12
    obtain ⟨u, hu⟩ : ∃ u, w11.heap.size = u := ⟨_, rfl⟩
    rw [hu] at U ⊢
    clear hu b12 o12 hO12
    have c0' := HB.out.cell 0
    have c1'' := HB.out.cell 1
    simp only [List.getElem?_toArray, List.getElem?_cons_zero, List.getElem?_cons_succ] at c0' c1''
    go_wp2_with fail
    clear c0' c1''
    refine (good7_any w12 A A' n n' c c' ins outs _ (INS.out _ HBL.out) HN.out HN'.out (by have := HF.out.1; have := HN.out; simp only at *; omega)).mono ?_
    rintro e13 w13 ⟨rfl, a13⟩
    replace HI := Lib.hid (insSh.below HI.out a13 (fun _ h _ => h))
    replace HO := Lib.hid (outsSh.below HO.out a13 (fun _ h _ => h))
    replace HB := Lib.hid (HB.out.below a13 HB.out.lt)
    replace HBL := Lib.hid (HBL.out.trans (a13.mono HBL.out.size))
    replace U := Lib.hid (U.out.below a13 U.out.lt)
    clear a13
    have k0 := HB.out.cell 0
    have k1 := HB.out.cell 1
    have k2 := U.out.cell 0
    have k3 := U.out.cell 1
    simp only [List.getElem?_toArray, List.getElem?_cons_zero, List.getElem?_cons_succ] at k0 k1 k2 k3
    cases hgood : goodB (ins, outs, ())
    · have hE2 := HLG.out hgood
      obtain rfl : E = 2 := by rw [← HE.out]; exact hE2
      have hG := txG_no (l := X) (by rw [hE2]; decide)
      rw [hG] at HI HO
      obtain rfl := ins_n HI.out
      obtain rfl := outs_n HO.out
      clear hgood hE2 hG
      go_wp2
      go_ret
      exact ⟨rfl, HBL.out⟩
    · obtain ⟨hE2, hR2⟩ := HGD.out hgood
      obtain rfl : E = 0 := by rw [← HE.out]; exact hE2
      have hG : txG X = (ins, outs, ()) := by rw [txG, if_pos hE2, hR2]
      rw [hG] at HI HO
      have hm := ins_n HI.out
      have hm' := outs_n HO.out
      clear hgood hE2 hG hR2
      have SX := Lib.hid (SM.out _ HBL.out A2 A3 n2 n3 c2 c3 _ HI.out HO.out hm.symm hm'.symm)
      clear hm hm'
      go_wp2_with fail
      refine SX.out.mono ?_
      rintro e14 w14 ⟨rfl, a14⟩
      rw [beq_self_eq_true]
      replace HBL := Lib.hid (HBL.out.trans (a14.mono HBL.out.size))
      clear a14 SX k0 k1 k2 k3
      go_wp2
      go_ret
      exact ⟨rfl, HBL.out⟩
end Go.Proofs.Ytpcombaecbjmfaa
