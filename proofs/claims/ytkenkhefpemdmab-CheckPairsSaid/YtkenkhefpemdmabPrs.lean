/- the walk of law12.CheckPairs. -/
import Derived.Test.YtkenkhefpemdmabPp
import Derived.Test.YtkenkhefpemdmabBd
import Derived.Test.YtkenkhefpemdmabAs
import Derived.Test.YtkenkhefpemdmabRt
namespace Go.Proofs.Ytkenkhefpemdmab
open Go.RowKit
theorem Blk.setB {w : World} {g : Nat} {t : TypeId} {l : List UInt8} (h : Blk w g t (bts l).toArray) (i : Nat) (x : UInt8) : Blk (w.setCell ⟨g, i, none⟩ (Bt x)) g t (bts (l.set i x)).toArray := by
  have := h.set_ i (Bt x)
  rw [List.setIfInBounds_toArray] at this
  rwa [show (bts l).set i (Bt x) = bts (l.set i x) by simp [bts, List.map_set]] at this
theorem bts_at (l : List UInt8) (i : Nat) (h : i < l.length) : (bts l).toArray[i]? = some (Bt l[i]) := by rw [List.getElem?_toArray, bts_get l i h]
section
variable {P : Program} {ops : Array Oper} {o : Oper} {ac : Act} {w : World} {Q : Exit → Act → World → Prop} {K : Act → World → Prop}
theorem step_stb {E : Prop} (hgd : o.guard = none) (ty : TypeId) (x y : Operand) (ho : o.op = .store ty x y) (g oo : Nat) (cells : Array Value) (hx : ac.eval x = .pointer (some ⟨g, oo, none⟩)) (hy : ac.eval y = .agg cells)
    (t : TypeId) (L : List Value) (hb : Blk w g t L.toArray) (hl : oo + cells.size ≤ L.length) (hi : (P.info? ty).map (·.size) = some cells.size) (h1 : ∀ v ∈ cells.toList, v.oneCell' = true)
    (h : ∀ w', Blk w' g t (over L oo cells.toList).toArray → Only (fun b => b = g) w w' → K (ac.put o.dst undef) w') : if Region.wanted o (yielded ops ac.tmps) = true then Oper.wp P o ac w K Q else E := by
  have hw : Region.wanted o (yielded ops ac.tmps) = true := by simp [Region.wanted, hgd]
  rw [if_pos hw]
  refine wp_store_mid ty x y ho g oo cells hx hy (hb.there hl) hi (Array.all_eq_true_iff_forall_mem.2 (fun v hv => h1 v (by simpa using hv))) ?_
  obtain ⟨h2, h3⟩ := hb.setCells (cs := cells.toList) (o := oo) (by simpa using hl)
  exact h _ h2 h3
theorem step_new {E : Prop} (hgd : o.guard = none) (ob : Obj) (v : Nat → Value) (hr : (execOp ac.eval o).run P w = .ok (.value (v w.heap.size)) (w.alloc ob))
    (h : ∀ N w', N = w.heap.size → w' = w.alloc ob → Below w.heap.size w w' → K (ac.put o.dst (v N)) w') : if Region.wanted o (yielded ops ac.tmps) = true then Oper.wp P o ac w K Q else E := by
  have hw : Region.wanted o (yielded ops ac.tmps) = true := by simp [Region.wanted, hgd]
  rw [if_pos hw]
  unfold Oper.wp
  rw [hr]
  exact h _ _ rfl rfl ((Below.refl _ _).alloc (Nat.le_refl _) _)
end
theorem id_sl {w : World} {q : Nat} {l : List UInt8} (h : Blk w q 23 (bts l).toArray) (hl : l.length = 32) : Sl w (fun b => b = q) 1 (some ⟨q, 0, none⟩) 32 (bts l) := by
  obtain ⟨A, n, c, e, _, _, hs⟩ := IsB.of_id h hl
  injection e with e1 e2 e3
  subst e1 e2
  exact hs
theorem Sl.row_new (w : World) (e : TypeId) (vs : List Value) (size n : Nat) (hv : vs.length = n * size) : Sl (w.alloc (.cells vs.toArray e)) (fun b => b = w.heap.size) size (some ⟨w.heap.size, 0, none⟩) n vs :=
  ⟨hv, fun _ => ⟨_, _, rfl, rfl, (Blk.new w e vs.toArray).rowAll⟩⟩
theorem cblk_ne2 (v t b n : Nat) (prev root : List UInt8) (txs : List TxT) (h : croot root txs = 40) : cblk v prev root t b n txs ≠ 0 := by
  rw [cblk]
  split
  · decide
  · split
    · split
      · decide
      · rw [h]; decide
    · assumption
theorem ctx_noouts (i : InT) (first : Bool) : ctx ([i], [], ()) first = 120 := by rw [ctx, if_pos]; simp
set_option linter.unusedSimpArgs false in
set_option maxRecDepth 20000 in
set_option maxHeartbeats 4000000 in
theorem checkPairs_any (w : World) (a0 b0 : List UInt8) (ha0 : a0.length = 32) (hb0 : b0.length = 32) :
    Calls Try.prog 3 #[.agg (bts a0).toArray, .agg (bts b0).toArray] w fun e w' => e = .returned (.bool true) ∧ Below w.heap.size w w' := by
  go_enter Try.func3, Try.ntmps3
  go_wp2_with fail
  generalize hW : World.alloc (World.alloc w _) _ = W
  have ha : Blk W w.heap.size 23 (bts a0).toArray := by rw [← hW]; exact (Blk.new _ _ _).alloc _
  have hb : Blk W (w.heap.size + 1) 23 (bts b0).toArray := by rw [← hW]; exact Blk.newS w _ _ _
  have hbl : Below w.heap.size w W := by rw [← hW]; exact ((Below.refl _ _).alloc (Nat.le_refl _) _).alloc (by simp) _
  clear hW
  obtain ⟨q, hq⟩ : ∃ q, w.heap.size = q := ⟨_, rfl⟩
  rw [hq] at ha hb ⊢
  have HQ := Lib.hid hq
  have HA := Lib.hid ha
  have HB := Lib.hid hb
  have HBL := Lib.hid hbl
  clear hq ha hb hbl
  refine (asks_any W).mono ?_
  rintro e1 w1 ⟨rfl, a1⟩
  replace HA := Lib.hid (HA.out.below a1 HA.out.lt)
  replace HB := Lib.hid (HB.out.below a1 HB.out.lt)
  replace HBL := Lib.hid (HBL.out.trans (a1.mono HBL.out.size))
  clear a1
  have c0 := HA.out.cell 0
  have c5 := HB.out.cell 5
  have c31 := HB.out.cell 31
  rw [bts_at _ _ (by omega)] at c0 c5 c31
  have f0 := HA.out.frozen 0
  have f5 := HB.out.frozen 5
  have f31 := HB.out.frozen 31
  go_upto_region 4 with fail
  have ho1 : Only (fun b => b = q) w1 (w1.setCell ⟨q, 0, none⟩ (.int .u8 1)) := (Only.refl (fun b => b = q) _).setCell (p := ⟨q, 0, none⟩) (fun _ => rfl) _
  have ho2 : Only (fun b => b = q + 1) (w1.setCell ⟨q, 0, none⟩ (.int .u8 1)) (((w1.setCell ⟨q, 0, none⟩ (.int .u8 1)).setCell ⟨q + 1, 5, none⟩ (.int .u8 25)).setCell ⟨q + 1, 31, none⟩ (.int .u8 0)) :=
    ((Only.refl (fun b => b = q + 1) _).setCell (p := ⟨q + 1, 5, none⟩) (fun _ => rfl) _).setCell (p := ⟨q + 1, 31, none⟩) (fun _ => rfl) _
  have hA2 : Blk (((w1.setCell ⟨q, 0, none⟩ (.int .u8 1)).setCell ⟨q + 1, 5, none⟩ (.int .u8 25)).setCell ⟨q + 1, 31, none⟩ (.int .u8 0)) q 23 (bts (a0.set 0 1)).toArray := (HA.out.setB 0 1).only ho2 (by omega)
  have hB2 : Blk (((w1.setCell ⟨q, 0, none⟩ (.int .u8 1)).setCell ⟨q + 1, 5, none⟩ (.int .u8 25)).setCell ⟨q + 1, 31, none⟩ (.int .u8 0)) (q + 1) 23 (bts ((b0.set 5 25).set 31 0)).toArray := Blk.setB (Blk.setB (HB.out.only ho1 (by omega)) 5 25) 31 0
  have hbl2 := HBL.out.trans ((ho1.mono (S' := fun b => q ≤ b) (fun b _ e => by omega)).trans (ho2.mono (S' := fun b => q ≤ b) (fun b _ e => by omega)) (fun _ _ h => h) |>.below (B := w.heap.size) HBL.out.size (fun b hb e => by have := HQ.out; omega))
  clear ho1 ho2 c0 c5 c31 f0 f5 f31 HA HB HBL
  generalize ((w1.setCell ⟨q, 0, none⟩ (.int .u8 1)).setCell ⟨q + 1, 5, none⟩ (.int .u8 25)).setCell ⟨q + 1, 31, none⟩ (.int .u8 0) = w2 at hA2 hB2 hbl2 ⊢
  obtain ⟨a, haa⟩ : ∃ a, a0.set 0 1 = a := ⟨_, rfl⟩
  obtain ⟨b, hbb⟩ : ∃ b, (b0.set 5 25).set 31 0 = b := ⟨_, rfl⟩
  have ha32 : a.length = 32 := by rw [← haa]; simp [ha0]
  have hb32 : b.length = 32 := by rw [← hbb]; simp [hb0]
  obtain ⟨it, hit, hio, hik⟩ := pair_tx a b ha32 hb32 (by rw [← haa]; simp [ha0]) (by rw [← hbb]; simp [hb0]) (by rw [← hbb]; simp [hb0])
  rw [haa] at hA2
  rw [hbb] at hB2
  have HA := Lib.hid hA2
  have HB := Lib.hid hB2
  have HBL := Lib.hid hbl2
  obtain ⟨hE0, hG0⟩ := pairs_read (a ++ b) it hit hio hik
  have HE0 := Lib.hid hE0
  have HG0 := Lib.hid hG0
  have HIT := Lib.hid hit
  clear haa hbb hA2 hB2 hbl2 hio hit hE0 hG0 ha0 hb0
  obtain ⟨B, hB⟩ : ∃ B, w2.heap.size = B := ⟨_, rfl⟩
  have hqB : q + 1 < B := by rw [← hB]; exact HB.out.lt
  have HBS := Lib.hid (show B ≤ w2.heap.size by omega)
  clear hB
  go_cut [5, 6] (fun v5 v6 wc => ∃ (p5 : Nat) (A5 A6 : Option Addr) (c5 c6 : Nat), v5 = .pointer (some ⟨p5, 0, none⟩) ∧ v6 = .int .i64 0 ∧ Hid (Blk wc q 23 (bts a).toArray) ∧ Hid (Blk wc (q + 1) 23 (bts b).toArray) ∧ Hid (Blk wc p5 28 #[.slice A5 1 c5, .slice A6 0 c6]) ∧ Hid (insSh.rel wc (fun _ => True) [.slice A5 1 c5] [it]) ∧ Hid (outsSh.rel wc (fun _ => True) [.slice A6 0 c6] []) ∧ Hid (Below w.heap.size w wc))
  · have hwq : w.heap.size = q := HQ.out
    refine wp_region_held_drew (S := (fun w' => Blk w' q 23 (bts a).toArray ∧ Blk w' (q + 1) 23 (bts b).toArray ∧ Below w.heap.size w w' ∧ B ≤ w'.heap.size)) (by kernel_rfl) (⟨HA.out.drew, HB.out.drew, HBL.out.drew, HBS.out⟩) ?_
    intro hSw
    refine wpAnyH_take (i := 1) (oi := ⟨some 19, _, _, _, _, _⟩) (v := (.slice (some ⟨q, 0, none⟩) 32 32)) rfl (by kernel_rfl) (by kernel_rfl) (by kernel_rfl) (fun _ _ _ h => h) (Or.inl ⟨by rfl, ?_⟩) hSw ?_
    · intro w' hSw'
      go_simp
    simp only [Act.put, List.setIfInBounds_toArray, List.set_cons_zero, List.set_cons_succ]
    refine wpAnyH_take (i := 3) (oi := ⟨some 21, _, _, _, _, _⟩) (v := (.slice (some ⟨q + 1, 0, none⟩) 32 32)) rfl (by kernel_rfl) (by kernel_rfl) (by kernel_rfl) (fun _ _ _ h => h) (Or.inl ⟨by rfl, ?_⟩) hSw ?_
    · intro w' hSw'
      go_simp
    simp only [Act.put, List.setIfInBounds_toArray, List.set_cons_zero, List.set_cons_succ]
    refine wpAnyH_ready (rs := [0, 9]) (by kernel_rfl) (by simp) (AllReadyH.cons (o := ⟨some 18, _, _, _, _, _⟩) rfl (fun K hK => ?_) (AllReadyH.cons (o := ⟨some 5, _, _, _, _, _⟩) rfl (fun K hK => ?_) AllReadyH.nil))
    · skip
      refine step_new rfl (.cells #[] 5) (fun N => .slice (some ⟨N, 0, none⟩) 0 0) (by show _ = _; kernel_rfl) ?_
      intro N0 wn0 hN0 hw0 a0
      have HOW := Lib.hid (show wn0.ownsRow B 5 1 (.slice (some ⟨N0, 0, none⟩) 0 0) 0 [] by rw [hN0, hw0]; exact World.ownsRow_lit _ #[] 0 hSw.2.2.2 (by decide) rfl)
      try replace H5 := Lib.hid (And.intro (H5.out.1.below a0 H5.out.1.lt) H5.out.2)
      clear hN0 hw0
      refine hK.out _ _ (⟨hSw.1.below a0 hSw.1.lt, hSw.2.1.below a0 hSw.2.1.lt, hSw.2.2.1.trans (a0.mono hSw.2.2.1.size), Nat.le_trans hSw.2.2.2 a0.size⟩) ?_
      intro hSw
      clear hK K
      try simp only [Act.put, List.setIfInBounds_toArray, List.set_cons_zero, List.set_cons_succ]
      refine wpAnyH_ready (rs := [2, 9]) (by kernel_rfl) (by simp) (AllReadyH.cons (o := ⟨some 20, _, _, _, _, _⟩) rfl (fun K hK => ?_) (AllReadyH.cons (o := ⟨some 5, _, _, _, _, _⟩) rfl (fun K hK => ?_) AllReadyH.nil))
      · skip
        refine step_app rfl (.tmp 18) (.tmp 19) 32 rfl B 5 _ 1 1 Try.underlying32 infoU8 rfl (by decide) (some ⟨N0, 0, none⟩) 0 0 rfl (some ⟨q, 0, none⟩) 32 32 rfl [] HOW.out _ _ (id_sl hSw.1 ha32) (bts_one _) (by decide) (by decide) hSw.2.2.2 ?_
        intro A1 cc1 wa hown hoo hat
        have ho8 := hoo.mono (S' := fun b => B ≤ b) (fun b hb e => own_ge HOW.out e)
        try replace H5 := Lib.hid (And.intro (H5.out.1.only hoo (fun e => own_blk_ne HOW.out H5.out.1 (by decide) e)) H5.out.2)
        replace HOW := Lib.hid hown
        clear hown hoo hat
        refine hK.out _ _ (⟨hSw.1.only ho8 (by omega), hSw.2.1.only ho8 (by omega), hSw.2.2.1.trans (ho8.below hSw.2.2.1.size (fun b hb e => by omega)), Nat.le_trans hSw.2.2.2 ho8.size⟩) ?_
        intro hSw
        clear hK K
        try simp only [Act.put, List.setIfInBounds_toArray, List.set_cons_zero, List.set_cons_succ]
        refine wpAnyH_ready (rs := [4, 9]) (by kernel_rfl) (by simp) (AllReadyH.cons (o := ⟨some 22, _, _, _, _, _⟩) rfl (fun K hK => ?_) (AllReadyH.cons (o := ⟨some 5, _, _, _, _, _⟩) rfl (fun K hK => ?_) AllReadyH.nil))
        · skip
          refine step_app rfl (.tmp 20) (.tmp 21) 32 rfl B 5 _ 1 1 Try.underlying32 infoU8 rfl (by decide) A1 32 cc1 rfl (some ⟨q + 1, 0, none⟩) 32 32 rfl _ HOW.out _ _ (id_sl hSw.2.1 hb32) (bts_one _) (by decide) (by decide) hSw.2.2.2 ?_
          intro A2 cc2 wb hown hoo hat
          have ho8 := hoo.mono (S' := fun b => B ≤ b) (fun b hb e => own_ge HOW.out e)
          try replace H5 := Lib.hid (And.intro (H5.out.1.only hoo (fun e => own_blk_ne HOW.out H5.out.1 (by decide) e)) H5.out.2)
          replace HOW := Lib.hid hown
          clear hown hoo hat
          refine hK.out _ _ (⟨hSw.1.only ho8 (by omega), hSw.2.1.only ho8 (by omega), hSw.2.2.1.trans (ho8.below hSw.2.2.1.size (fun b hb e => by omega)), Nat.le_trans hSw.2.2.2 ho8.size⟩) ?_
          intro hSw
          clear hK K
          try simp only [Act.put, List.setIfInBounds_toArray, List.set_cons_zero, List.set_cons_succ]
          refine wpAnyH_ready (rs := [5, 9]) (by kernel_rfl) (by simp) (AllReadyH.cons (o := ⟨some 23, _, _, _, _, _⟩) rfl (fun K hK => ?_) (AllReadyH.cons (o := ⟨some 5, _, _, _, _, _⟩) rfl (fun K hK => ?_) AllReadyH.nil))
          · skip
            have hob := HOW.out
            rw [List.nil_append, ← bts_append] at hob
            have RX := tx_Read_any _ (.slice A2 64 cc2) (a ++ b) _ (IsB.of_own hob) (by simp [ha32, hb32])
            rw [HE0.out, HG0.out] at RX
            replace RX := Lib.hid RX
            clear hob
            go_simp
            go_at_call 5
            refine RX.out.mono ?_
            rintro e7 w7 ⟨A5, n5, c5, A6, n6, c6, rfl, ri, ro, _, _, a7⟩
            obtain ⟨_, hn5, _⟩ := shSlice_open ri
            obtain ⟨_, hn6, _⟩ := shSlice_open ro
            simp only [List.length_cons, List.length_nil, Nat.zero_add] at hn5 hn6
            subst hn5 hn6
            first
              | (have hx := H5; clear hx; have HRI := Lib.hid (weak_slice weak_in3 _ _ (fun b => b ≠ N5) _ _ ri (fun b _ hb => by have := H5.out.1.lt; omega)))
              | (have HRI := Lib.hid ri)
            first
              | (have hx := H5; clear hx; have HRO := Lib.hid (weak_slice weak_out3 _ _ (fun b => b ≠ N5) _ _ ro (fun b _ hb => by have := H5.out.1.lt; omega)))
              | (have HRO := Lib.hid ro)
            try replace H5 := Lib.hid (And.intro (H5.out.1.below a7 H5.out.1.lt) H5.out.2)
            clear ri ro RX HOW
            dsimp only
            refine hK.out _ _ (⟨hSw.1.below a7 hSw.1.lt, hSw.2.1.below a7 hSw.2.1.lt, hSw.2.2.1.trans (a7.mono hSw.2.2.1.size), Nat.le_trans hSw.2.2.2 a7.size⟩) ?_
            intro hSw
            clear hK K
            try simp only [Act.put, List.setIfInBounds_toArray, List.set_cons_zero, List.set_cons_succ]
            refine wpAnyH_take (i := 6) (oi := ⟨some 17, _, _, _, _, _⟩) (v := (.tuple #[.agg #[.slice A5 1 c5, .slice A6 0 c6], .int .i64 0])) rfl (by kernel_rfl) (by kernel_rfl) (by kernel_rfl) (fun _ _ _ h => h) (Or.inl ⟨by rfl, ?_⟩) hSw ?_
            · intro w' hSw'
              go_simp
            simp only [Act.put, List.setIfInBounds_toArray, List.set_cons_zero, List.set_cons_succ]
            refine wpAnyH_take (i := 7) (oi := ⟨some 24, _, _, _, _, _⟩) (v := (.agg #[.slice A5 1 c5, .slice A6 0 c6])) rfl (by kernel_rfl) (by kernel_rfl) (by kernel_rfl) (fun _ _ _ h => h) (Or.inl ⟨by rfl, ?_⟩) hSw ?_
            · intro w' hSw'
              go_simp
            simp only [Act.put, List.setIfInBounds_toArray, List.set_cons_zero, List.set_cons_succ]
            refine wpAnyH_take (i := 8) (oi := ⟨some 25, _, _, _, _, _⟩) (v := (.int .i64 0)) rfl (by kernel_rfl) (by kernel_rfl) (by kernel_rfl) (fun _ _ _ h => h) (Or.inl ⟨by rfl, ?_⟩) hSw ?_
            · intro w' hSw'
              go_simp
            simp only [Act.put, List.setIfInBounds_toArray, List.set_cons_zero, List.set_cons_succ]
            refine wpAnyH_ready (rs := [9]) (by kernel_rfl) (by simp) (AllReadyH.cons (o := ⟨some 5, _, _, _, _, _⟩) rfl (fun K hK => ?_) AllReadyH.nil)
            refine step_new rfl (.cells #[.slice none 0 0, .slice none 0 0] 28) (fun N => .pointer (some ⟨N, 0, none⟩)) (by show _ = _; kernel_rfl) ?_
            intro N5 wn5 hN5 hw5 a9
            have H5 := Lib.hid (show Blk wn5 N5 28 [.slice none 0 0, .slice none 0 0].toArray ∧ B ≤ N5 by rw [hN5, hw5]; exact ⟨Blk.new _ _ _, hSw.2.2.2⟩)
            try replace HOW := Lib.hid (own_only HOW.out (Only.of_new a9 (fun _ => False)) (fun _ _ h => h))
            try (have hx := HRI; clear hx; have hy := weak_slice (hs := by decide) weak_in3 _ _ (fun b => b ≠ N5) _ _ HRI.out (fun b hb _ => by omega); replace HRI := Lib.hid (insSh.below hy a9 (fun _ h _ => h)); clear hy)
            try (have hx := HRO; clear hx; have hy := weak_slice (hs := by decide) weak_out3 _ _ (fun b => b ≠ N5) _ _ HRO.out (fun b hb _ => by omega); replace HRO := Lib.hid (outsSh.below hy a9 (fun _ h _ => h)); clear hy)
            clear hN5 hw5
            refine hK.out _ _ (⟨hSw.1.below a9 hSw.1.lt, hSw.2.1.below a9 hSw.2.1.lt, hSw.2.2.1.trans (a9.mono hSw.2.2.1.size), Nat.le_trans hSw.2.2.2 a9.size⟩) ?_
            intro hSw
            clear hK K
            try simp only [Act.put, List.setIfInBounds_toArray, List.set_cons_zero, List.set_cons_succ]
            refine wpAnyH_ready (rs := [10]) (by kernel_rfl) (by simp) (AllReadyH.cons (o := ⟨none, _, _, _, _, _⟩) rfl (fun K hK => ?_) AllReadyH.nil)
            refine step_stb rfl 28 (.tmp 5) (.tmp 24) rfl N5 0 _ rfl rfl 28 [.slice none 0 0, .slice none 0 0] H5.out.1 (by simp) (by rw [infoTx]; rfl) (by simp [Value.oneCell']) ?_
            intro w8 b8 o8
            rw [over_all _ _ (by simp)] at b8
            have hp5 := H5.out.2
            replace H5 := Lib.hid b8
            replace HRI := Lib.hid (insSh.only HRI.out o8 (fun b _ hb e => hb e))
            replace HRO := Lib.hid (outsSh.only HRO.out o8 (fun b _ hb e => hb e))
            refine hK.out _ _ (⟨hSw.1.only o8 (by omega), hSw.2.1.only o8 (by omega), hSw.2.2.1.trans (o8.below hSw.2.2.1.size (fun b hb e => by omega)), Nat.le_trans hSw.2.2.2 o8.size⟩) ?_
            intro hSw
            clear hK K
            try simp only [Act.put, List.setIfInBounds_toArray, List.set_cons_zero, List.set_cons_succ]
            refine wpAnyH_take (i := 11) (oi := ⟨some 6, _, _, _, _, _⟩) (v := (.int .i64 0)) rfl (by kernel_rfl) (by kernel_rfl) (by kernel_rfl) (fun _ _ _ h => h) (Or.inl ⟨by rfl, ?_⟩) hSw ?_
            · intro w' hSw'
              go_simp
            simp only [Act.put, List.setIfInBounds_toArray, List.set_cons_zero, List.set_cons_succ]
            refine wpAnyH_done (by kernel_rfl) ?_ _
            go_wp2_with fail
            go_meet
            exact ⟨_, A5, A6, c5, c6, rfl, rfl, hSw.1, hSw.2.1, H5.out, weak_slice weak_in3 _ _ (fun _ => True) _ _ HRI.out (fun _ _ _ => trivial), weak_slice weak_out3 _ _ (fun _ => True) _ _ HRO.out (fun _ _ _ => trivial), hSw.2.2.1⟩
          · skip
            refine step_new rfl (.cells #[.slice none 0 0, .slice none 0 0] 28) (fun N => .pointer (some ⟨N, 0, none⟩)) (by show _ = _; kernel_rfl) ?_
            intro N5 wn5 hN5 hw5 a9
            have H5 := Lib.hid (show Blk wn5 N5 28 [.slice none 0 0, .slice none 0 0].toArray ∧ B ≤ N5 by rw [hN5, hw5]; exact ⟨Blk.new _ _ _, hSw.2.2.2⟩)
            try replace HOW := Lib.hid (own_only HOW.out (Only.of_new a9 (fun _ => False)) (fun _ _ h => h))
            try (have hx := HRI; clear hx; have hy := weak_slice (hs := by decide) weak_in3 _ _ (fun b => b ≠ N5) _ _ HRI.out (fun b hb _ => by omega); replace HRI := Lib.hid (insSh.below hy a9 (fun _ h _ => h)); clear hy)
            try (have hx := HRO; clear hx; have hy := weak_slice (hs := by decide) weak_out3 _ _ (fun b => b ≠ N5) _ _ HRO.out (fun b hb _ => by omega); replace HRO := Lib.hid (outsSh.below hy a9 (fun _ h _ => h)); clear hy)
            clear hN5 hw5
            refine hK.out _ _ (⟨hSw.1.below a9 hSw.1.lt, hSw.2.1.below a9 hSw.2.1.lt, hSw.2.2.1.trans (a9.mono hSw.2.2.1.size), Nat.le_trans hSw.2.2.2 a9.size⟩) ?_
            intro hSw
            clear hK K
            try simp only [Act.put, List.setIfInBounds_toArray, List.set_cons_zero, List.set_cons_succ]
            refine wpAnyH_ready (rs := [5]) (by kernel_rfl) (by simp) (AllReadyH.cons (o := ⟨some 23, _, _, _, _, _⟩) rfl (fun K hK => ?_) AllReadyH.nil)
            have hob := HOW.out
            rw [List.nil_append, ← bts_append] at hob
            have RX := tx_Read_any _ (.slice A2 64 cc2) (a ++ b) _ (IsB.of_own hob) (by simp [ha32, hb32])
            rw [HE0.out, HG0.out] at RX
            replace RX := Lib.hid RX
            clear hob
            go_simp
            go_at_call 5
            refine RX.out.mono ?_
            rintro e7 w7 ⟨A5, n5, c5, A6, n6, c6, rfl, ri, ro, _, _, a7⟩
            obtain ⟨_, hn5, _⟩ := shSlice_open ri
            obtain ⟨_, hn6, _⟩ := shSlice_open ro
            simp only [List.length_cons, List.length_nil, Nat.zero_add] at hn5 hn6
            subst hn5 hn6
            first
              | (have hx := H5; clear hx; have HRI := Lib.hid (weak_slice weak_in3 _ _ (fun b => b ≠ N5) _ _ ri (fun b _ hb => by have := H5.out.1.lt; omega)))
              | (have HRI := Lib.hid ri)
            first
              | (have hx := H5; clear hx; have HRO := Lib.hid (weak_slice weak_out3 _ _ (fun b => b ≠ N5) _ _ ro (fun b _ hb => by have := H5.out.1.lt; omega)))
              | (have HRO := Lib.hid ro)
            try replace H5 := Lib.hid (And.intro (H5.out.1.below a7 H5.out.1.lt) H5.out.2)
            clear ri ro RX HOW
            dsimp only
            refine hK.out _ _ (⟨hSw.1.below a7 hSw.1.lt, hSw.2.1.below a7 hSw.2.1.lt, hSw.2.2.1.trans (a7.mono hSw.2.2.1.size), Nat.le_trans hSw.2.2.2 a7.size⟩) ?_
            intro hSw
            clear hK K
            try simp only [Act.put, List.setIfInBounds_toArray, List.set_cons_zero, List.set_cons_succ]
            refine wpAnyH_take (i := 6) (oi := ⟨some 17, _, _, _, _, _⟩) (v := (.tuple #[.agg #[.slice A5 1 c5, .slice A6 0 c6], .int .i64 0])) rfl (by kernel_rfl) (by kernel_rfl) (by kernel_rfl) (fun _ _ _ h => h) (Or.inl ⟨by rfl, ?_⟩) hSw ?_
            · intro w' hSw'
              go_simp
            simp only [Act.put, List.setIfInBounds_toArray, List.set_cons_zero, List.set_cons_succ]
            refine wpAnyH_take (i := 7) (oi := ⟨some 24, _, _, _, _, _⟩) (v := (.agg #[.slice A5 1 c5, .slice A6 0 c6])) rfl (by kernel_rfl) (by kernel_rfl) (by kernel_rfl) (fun _ _ _ h => h) (Or.inl ⟨by rfl, ?_⟩) hSw ?_
            · intro w' hSw'
              go_simp
            simp only [Act.put, List.setIfInBounds_toArray, List.set_cons_zero, List.set_cons_succ]
            refine wpAnyH_take (i := 8) (oi := ⟨some 25, _, _, _, _, _⟩) (v := (.int .i64 0)) rfl (by kernel_rfl) (by kernel_rfl) (by kernel_rfl) (fun _ _ _ h => h) (Or.inl ⟨by rfl, ?_⟩) hSw ?_
            · intro w' hSw'
              go_simp
            simp only [Act.put, List.setIfInBounds_toArray, List.set_cons_zero, List.set_cons_succ]
            refine wpAnyH_ready (rs := [10]) (by kernel_rfl) (by simp) (AllReadyH.cons (o := ⟨none, _, _, _, _, _⟩) rfl (fun K hK => ?_) AllReadyH.nil)
            refine step_stb rfl 28 (.tmp 5) (.tmp 24) rfl N5 0 _ rfl rfl 28 [.slice none 0 0, .slice none 0 0] H5.out.1 (by simp) (by rw [infoTx]; rfl) (by simp [Value.oneCell']) ?_
            intro w8 b8 o8
            rw [over_all _ _ (by simp)] at b8
            have hp5 := H5.out.2
            replace H5 := Lib.hid b8
            replace HRI := Lib.hid (insSh.only HRI.out o8 (fun b _ hb e => hb e))
            replace HRO := Lib.hid (outsSh.only HRO.out o8 (fun b _ hb e => hb e))
            refine hK.out _ _ (⟨hSw.1.only o8 (by omega), hSw.2.1.only o8 (by omega), hSw.2.2.1.trans (o8.below hSw.2.2.1.size (fun b hb e => by omega)), Nat.le_trans hSw.2.2.2 o8.size⟩) ?_
            intro hSw
            clear hK K
            try simp only [Act.put, List.setIfInBounds_toArray, List.set_cons_zero, List.set_cons_succ]
            refine wpAnyH_take (i := 11) (oi := ⟨some 6, _, _, _, _, _⟩) (v := (.int .i64 0)) rfl (by kernel_rfl) (by kernel_rfl) (by kernel_rfl) (fun _ _ _ h => h) (Or.inl ⟨by rfl, ?_⟩) hSw ?_
            · intro w' hSw'
              go_simp
            simp only [Act.put, List.setIfInBounds_toArray, List.set_cons_zero, List.set_cons_succ]
            refine wpAnyH_done (by kernel_rfl) ?_ _
            go_wp2_with fail
            go_meet
            exact ⟨_, A5, A6, c5, c6, rfl, rfl, hSw.1, hSw.2.1, H5.out, weak_slice weak_in3 _ _ (fun _ => True) _ _ HRI.out (fun _ _ _ => trivial), weak_slice weak_out3 _ _ (fun _ => True) _ _ HRO.out (fun _ _ _ => trivial), hSw.2.2.1⟩
        · skip
          refine step_new rfl (.cells #[.slice none 0 0, .slice none 0 0] 28) (fun N => .pointer (some ⟨N, 0, none⟩)) (by show _ = _; kernel_rfl) ?_
          intro N5 wn5 hN5 hw5 a9
          have H5 := Lib.hid (show Blk wn5 N5 28 [.slice none 0 0, .slice none 0 0].toArray ∧ B ≤ N5 by rw [hN5, hw5]; exact ⟨Blk.new _ _ _, hSw.2.2.2⟩)
          try replace HOW := Lib.hid (own_only HOW.out (Only.of_new a9 (fun _ => False)) (fun _ _ h => h))
          try (have hx := HRI; clear hx; have hy := weak_slice (hs := by decide) weak_in3 _ _ (fun b => b ≠ N5) _ _ HRI.out (fun b hb _ => by omega); replace HRI := Lib.hid (insSh.below hy a9 (fun _ h _ => h)); clear hy)
          try (have hx := HRO; clear hx; have hy := weak_slice (hs := by decide) weak_out3 _ _ (fun b => b ≠ N5) _ _ HRO.out (fun b hb _ => by omega); replace HRO := Lib.hid (outsSh.below hy a9 (fun _ h _ => h)); clear hy)
          clear hN5 hw5
          refine hK.out _ _ (⟨hSw.1.below a9 hSw.1.lt, hSw.2.1.below a9 hSw.2.1.lt, hSw.2.2.1.trans (a9.mono hSw.2.2.1.size), Nat.le_trans hSw.2.2.2 a9.size⟩) ?_
          intro hSw
          clear hK K
          try simp only [Act.put, List.setIfInBounds_toArray, List.set_cons_zero, List.set_cons_succ]
          refine wpAnyH_ready (rs := [4]) (by kernel_rfl) (by simp) (AllReadyH.cons (o := ⟨some 22, _, _, _, _, _⟩) rfl (fun K hK => ?_) AllReadyH.nil)
          refine step_app rfl (.tmp 20) (.tmp 21) 32 rfl B 5 _ 1 1 Try.underlying32 infoU8 rfl (by decide) A1 32 cc1 rfl (some ⟨q + 1, 0, none⟩) 32 32 rfl _ HOW.out _ _ (id_sl hSw.2.1 hb32) (bts_one _) (by decide) (by decide) hSw.2.2.2 ?_
          intro A2 cc2 wb hown hoo hat
          have ho8 := hoo.mono (S' := fun b => B ≤ b) (fun b hb e => own_ge HOW.out e)
          try replace H5 := Lib.hid (And.intro (H5.out.1.only hoo (fun e => own_blk_ne HOW.out H5.out.1 (by decide) e)) H5.out.2)
          replace HOW := Lib.hid hown
          clear hown hoo hat
          refine hK.out _ _ (⟨hSw.1.only ho8 (by omega), hSw.2.1.only ho8 (by omega), hSw.2.2.1.trans (ho8.below hSw.2.2.1.size (fun b hb e => by omega)), Nat.le_trans hSw.2.2.2 ho8.size⟩) ?_
          intro hSw
          clear hK K
          try simp only [Act.put, List.setIfInBounds_toArray, List.set_cons_zero, List.set_cons_succ]
          refine wpAnyH_ready (rs := [5]) (by kernel_rfl) (by simp) (AllReadyH.cons (o := ⟨some 23, _, _, _, _, _⟩) rfl (fun K hK => ?_) AllReadyH.nil)
          have hob := HOW.out
          rw [List.nil_append, ← bts_append] at hob
          have RX := tx_Read_any _ (.slice A2 64 cc2) (a ++ b) _ (IsB.of_own hob) (by simp [ha32, hb32])
          rw [HE0.out, HG0.out] at RX
          replace RX := Lib.hid RX
          clear hob
          go_simp
          go_at_call 5
          refine RX.out.mono ?_
          rintro e7 w7 ⟨A5, n5, c5, A6, n6, c6, rfl, ri, ro, _, _, a7⟩
          obtain ⟨_, hn5, _⟩ := shSlice_open ri
          obtain ⟨_, hn6, _⟩ := shSlice_open ro
          simp only [List.length_cons, List.length_nil, Nat.zero_add] at hn5 hn6
          subst hn5 hn6
          first
            | (have hx := H5; clear hx; have HRI := Lib.hid (weak_slice weak_in3 _ _ (fun b => b ≠ N5) _ _ ri (fun b _ hb => by have := H5.out.1.lt; omega)))
            | (have HRI := Lib.hid ri)
          first
            | (have hx := H5; clear hx; have HRO := Lib.hid (weak_slice weak_out3 _ _ (fun b => b ≠ N5) _ _ ro (fun b _ hb => by have := H5.out.1.lt; omega)))
            | (have HRO := Lib.hid ro)
          try replace H5 := Lib.hid (And.intro (H5.out.1.below a7 H5.out.1.lt) H5.out.2)
          clear ri ro RX HOW
          dsimp only
          refine hK.out _ _ (⟨hSw.1.below a7 hSw.1.lt, hSw.2.1.below a7 hSw.2.1.lt, hSw.2.2.1.trans (a7.mono hSw.2.2.1.size), Nat.le_trans hSw.2.2.2 a7.size⟩) ?_
          intro hSw
          clear hK K
          try simp only [Act.put, List.setIfInBounds_toArray, List.set_cons_zero, List.set_cons_succ]
          refine wpAnyH_take (i := 6) (oi := ⟨some 17, _, _, _, _, _⟩) (v := (.tuple #[.agg #[.slice A5 1 c5, .slice A6 0 c6], .int .i64 0])) rfl (by kernel_rfl) (by kernel_rfl) (by kernel_rfl) (fun _ _ _ h => h) (Or.inl ⟨by rfl, ?_⟩) hSw ?_
          · intro w' hSw'
            go_simp
          simp only [Act.put, List.setIfInBounds_toArray, List.set_cons_zero, List.set_cons_succ]
          refine wpAnyH_take (i := 7) (oi := ⟨some 24, _, _, _, _, _⟩) (v := (.agg #[.slice A5 1 c5, .slice A6 0 c6])) rfl (by kernel_rfl) (by kernel_rfl) (by kernel_rfl) (fun _ _ _ h => h) (Or.inl ⟨by rfl, ?_⟩) hSw ?_
          · intro w' hSw'
            go_simp
          simp only [Act.put, List.setIfInBounds_toArray, List.set_cons_zero, List.set_cons_succ]
          refine wpAnyH_take (i := 8) (oi := ⟨some 25, _, _, _, _, _⟩) (v := (.int .i64 0)) rfl (by kernel_rfl) (by kernel_rfl) (by kernel_rfl) (fun _ _ _ h => h) (Or.inl ⟨by rfl, ?_⟩) hSw ?_
          · intro w' hSw'
            go_simp
          simp only [Act.put, List.setIfInBounds_toArray, List.set_cons_zero, List.set_cons_succ]
          refine wpAnyH_ready (rs := [10]) (by kernel_rfl) (by simp) (AllReadyH.cons (o := ⟨none, _, _, _, _, _⟩) rfl (fun K hK => ?_) AllReadyH.nil)
          refine step_stb rfl 28 (.tmp 5) (.tmp 24) rfl N5 0 _ rfl rfl 28 [.slice none 0 0, .slice none 0 0] H5.out.1 (by simp) (by rw [infoTx]; rfl) (by simp [Value.oneCell']) ?_
          intro w8 b8 o8
          rw [over_all _ _ (by simp)] at b8
          have hp5 := H5.out.2
          replace H5 := Lib.hid b8
          replace HRI := Lib.hid (insSh.only HRI.out o8 (fun b _ hb e => hb e))
          replace HRO := Lib.hid (outsSh.only HRO.out o8 (fun b _ hb e => hb e))
          refine hK.out _ _ (⟨hSw.1.only o8 (by omega), hSw.2.1.only o8 (by omega), hSw.2.2.1.trans (o8.below hSw.2.2.1.size (fun b hb e => by omega)), Nat.le_trans hSw.2.2.2 o8.size⟩) ?_
          intro hSw
          clear hK K
          try simp only [Act.put, List.setIfInBounds_toArray, List.set_cons_zero, List.set_cons_succ]
          refine wpAnyH_take (i := 11) (oi := ⟨some 6, _, _, _, _, _⟩) (v := (.int .i64 0)) rfl (by kernel_rfl) (by kernel_rfl) (by kernel_rfl) (fun _ _ _ h => h) (Or.inl ⟨by rfl, ?_⟩) hSw ?_
          · intro w' hSw'
            go_simp
          simp only [Act.put, List.setIfInBounds_toArray, List.set_cons_zero, List.set_cons_succ]
          refine wpAnyH_done (by kernel_rfl) ?_ _
          go_wp2_with fail
          go_meet
          exact ⟨_, A5, A6, c5, c6, rfl, rfl, hSw.1, hSw.2.1, H5.out, weak_slice weak_in3 _ _ (fun _ => True) _ _ HRI.out (fun _ _ _ => trivial), weak_slice weak_out3 _ _ (fun _ => True) _ _ HRO.out (fun _ _ _ => trivial), hSw.2.2.1⟩
      · skip
        refine step_new rfl (.cells #[.slice none 0 0, .slice none 0 0] 28) (fun N => .pointer (some ⟨N, 0, none⟩)) (by show _ = _; kernel_rfl) ?_
        intro N5 wn5 hN5 hw5 a9
        have H5 := Lib.hid (show Blk wn5 N5 28 [.slice none 0 0, .slice none 0 0].toArray ∧ B ≤ N5 by rw [hN5, hw5]; exact ⟨Blk.new _ _ _, hSw.2.2.2⟩)
        try replace HOW := Lib.hid (own_only HOW.out (Only.of_new a9 (fun _ => False)) (fun _ _ h => h))
        try (have hx := HRI; clear hx; have hy := weak_slice (hs := by decide) weak_in3 _ _ (fun b => b ≠ N5) _ _ HRI.out (fun b hb _ => by omega); replace HRI := Lib.hid (insSh.below hy a9 (fun _ h _ => h)); clear hy)
        try (have hx := HRO; clear hx; have hy := weak_slice (hs := by decide) weak_out3 _ _ (fun b => b ≠ N5) _ _ HRO.out (fun b hb _ => by omega); replace HRO := Lib.hid (outsSh.below hy a9 (fun _ h _ => h)); clear hy)
        clear hN5 hw5
        refine hK.out _ _ (⟨hSw.1.below a9 hSw.1.lt, hSw.2.1.below a9 hSw.2.1.lt, hSw.2.2.1.trans (a9.mono hSw.2.2.1.size), Nat.le_trans hSw.2.2.2 a9.size⟩) ?_
        intro hSw
        clear hK K
        try simp only [Act.put, List.setIfInBounds_toArray, List.set_cons_zero, List.set_cons_succ]
        refine wpAnyH_ready (rs := [2]) (by kernel_rfl) (by simp) (AllReadyH.cons (o := ⟨some 20, _, _, _, _, _⟩) rfl (fun K hK => ?_) AllReadyH.nil)
        refine step_app rfl (.tmp 18) (.tmp 19) 32 rfl B 5 _ 1 1 Try.underlying32 infoU8 rfl (by decide) (some ⟨N0, 0, none⟩) 0 0 rfl (some ⟨q, 0, none⟩) 32 32 rfl [] HOW.out _ _ (id_sl hSw.1 ha32) (bts_one _) (by decide) (by decide) hSw.2.2.2 ?_
        intro A1 cc1 wa hown hoo hat
        have ho8 := hoo.mono (S' := fun b => B ≤ b) (fun b hb e => own_ge HOW.out e)
        try replace H5 := Lib.hid (And.intro (H5.out.1.only hoo (fun e => own_blk_ne HOW.out H5.out.1 (by decide) e)) H5.out.2)
        replace HOW := Lib.hid hown
        clear hown hoo hat
        refine hK.out _ _ (⟨hSw.1.only ho8 (by omega), hSw.2.1.only ho8 (by omega), hSw.2.2.1.trans (ho8.below hSw.2.2.1.size (fun b hb e => by omega)), Nat.le_trans hSw.2.2.2 ho8.size⟩) ?_
        intro hSw
        clear hK K
        try simp only [Act.put, List.setIfInBounds_toArray, List.set_cons_zero, List.set_cons_succ]
        refine wpAnyH_ready (rs := [4]) (by kernel_rfl) (by simp) (AllReadyH.cons (o := ⟨some 22, _, _, _, _, _⟩) rfl (fun K hK => ?_) AllReadyH.nil)
        refine step_app rfl (.tmp 20) (.tmp 21) 32 rfl B 5 _ 1 1 Try.underlying32 infoU8 rfl (by decide) A1 32 cc1 rfl (some ⟨q + 1, 0, none⟩) 32 32 rfl _ HOW.out _ _ (id_sl hSw.2.1 hb32) (bts_one _) (by decide) (by decide) hSw.2.2.2 ?_
        intro A2 cc2 wb hown hoo hat
        have ho8 := hoo.mono (S' := fun b => B ≤ b) (fun b hb e => own_ge HOW.out e)
        try replace H5 := Lib.hid (And.intro (H5.out.1.only hoo (fun e => own_blk_ne HOW.out H5.out.1 (by decide) e)) H5.out.2)
        replace HOW := Lib.hid hown
        clear hown hoo hat
        refine hK.out _ _ (⟨hSw.1.only ho8 (by omega), hSw.2.1.only ho8 (by omega), hSw.2.2.1.trans (ho8.below hSw.2.2.1.size (fun b hb e => by omega)), Nat.le_trans hSw.2.2.2 ho8.size⟩) ?_
        intro hSw
        clear hK K
        try simp only [Act.put, List.setIfInBounds_toArray, List.set_cons_zero, List.set_cons_succ]
        refine wpAnyH_ready (rs := [5]) (by kernel_rfl) (by simp) (AllReadyH.cons (o := ⟨some 23, _, _, _, _, _⟩) rfl (fun K hK => ?_) AllReadyH.nil)
        have hob := HOW.out
        rw [List.nil_append, ← bts_append] at hob
        have RX := tx_Read_any _ (.slice A2 64 cc2) (a ++ b) _ (IsB.of_own hob) (by simp [ha32, hb32])
        rw [HE0.out, HG0.out] at RX
        replace RX := Lib.hid RX
        clear hob
        go_simp
        go_at_call 5
        refine RX.out.mono ?_
        rintro e7 w7 ⟨A5, n5, c5, A6, n6, c6, rfl, ri, ro, _, _, a7⟩
        obtain ⟨_, hn5, _⟩ := shSlice_open ri
        obtain ⟨_, hn6, _⟩ := shSlice_open ro
        simp only [List.length_cons, List.length_nil, Nat.zero_add] at hn5 hn6
        subst hn5 hn6
        first
          | (have hx := H5; clear hx; have HRI := Lib.hid (weak_slice weak_in3 _ _ (fun b => b ≠ N5) _ _ ri (fun b _ hb => by have := H5.out.1.lt; omega)))
          | (have HRI := Lib.hid ri)
        first
          | (have hx := H5; clear hx; have HRO := Lib.hid (weak_slice weak_out3 _ _ (fun b => b ≠ N5) _ _ ro (fun b _ hb => by have := H5.out.1.lt; omega)))
          | (have HRO := Lib.hid ro)
        try replace H5 := Lib.hid (And.intro (H5.out.1.below a7 H5.out.1.lt) H5.out.2)
        clear ri ro RX HOW
        dsimp only
        refine hK.out _ _ (⟨hSw.1.below a7 hSw.1.lt, hSw.2.1.below a7 hSw.2.1.lt, hSw.2.2.1.trans (a7.mono hSw.2.2.1.size), Nat.le_trans hSw.2.2.2 a7.size⟩) ?_
        intro hSw
        clear hK K
        try simp only [Act.put, List.setIfInBounds_toArray, List.set_cons_zero, List.set_cons_succ]
        refine wpAnyH_take (i := 6) (oi := ⟨some 17, _, _, _, _, _⟩) (v := (.tuple #[.agg #[.slice A5 1 c5, .slice A6 0 c6], .int .i64 0])) rfl (by kernel_rfl) (by kernel_rfl) (by kernel_rfl) (fun _ _ _ h => h) (Or.inl ⟨by rfl, ?_⟩) hSw ?_
        · intro w' hSw'
          go_simp
        simp only [Act.put, List.setIfInBounds_toArray, List.set_cons_zero, List.set_cons_succ]
        refine wpAnyH_take (i := 7) (oi := ⟨some 24, _, _, _, _, _⟩) (v := (.agg #[.slice A5 1 c5, .slice A6 0 c6])) rfl (by kernel_rfl) (by kernel_rfl) (by kernel_rfl) (fun _ _ _ h => h) (Or.inl ⟨by rfl, ?_⟩) hSw ?_
        · intro w' hSw'
          go_simp
        simp only [Act.put, List.setIfInBounds_toArray, List.set_cons_zero, List.set_cons_succ]
        refine wpAnyH_take (i := 8) (oi := ⟨some 25, _, _, _, _, _⟩) (v := (.int .i64 0)) rfl (by kernel_rfl) (by kernel_rfl) (by kernel_rfl) (fun _ _ _ h => h) (Or.inl ⟨by rfl, ?_⟩) hSw ?_
        · intro w' hSw'
          go_simp
        simp only [Act.put, List.setIfInBounds_toArray, List.set_cons_zero, List.set_cons_succ]
        refine wpAnyH_ready (rs := [10]) (by kernel_rfl) (by simp) (AllReadyH.cons (o := ⟨none, _, _, _, _, _⟩) rfl (fun K hK => ?_) AllReadyH.nil)
        refine step_stb rfl 28 (.tmp 5) (.tmp 24) rfl N5 0 _ rfl rfl 28 [.slice none 0 0, .slice none 0 0] H5.out.1 (by simp) (by rw [infoTx]; rfl) (by simp [Value.oneCell']) ?_
        intro w8 b8 o8
        rw [over_all _ _ (by simp)] at b8
        have hp5 := H5.out.2
        replace H5 := Lib.hid b8
        replace HRI := Lib.hid (insSh.only HRI.out o8 (fun b _ hb e => hb e))
        replace HRO := Lib.hid (outsSh.only HRO.out o8 (fun b _ hb e => hb e))
        refine hK.out _ _ (⟨hSw.1.only o8 (by omega), hSw.2.1.only o8 (by omega), hSw.2.2.1.trans (o8.below hSw.2.2.1.size (fun b hb e => by omega)), Nat.le_trans hSw.2.2.2 o8.size⟩) ?_
        intro hSw
        clear hK K
        try simp only [Act.put, List.setIfInBounds_toArray, List.set_cons_zero, List.set_cons_succ]
        refine wpAnyH_take (i := 11) (oi := ⟨some 6, _, _, _, _, _⟩) (v := (.int .i64 0)) rfl (by kernel_rfl) (by kernel_rfl) (by kernel_rfl) (fun _ _ _ h => h) (Or.inl ⟨by rfl, ?_⟩) hSw ?_
        · intro w' hSw'
          go_simp
        simp only [Act.put, List.setIfInBounds_toArray, List.set_cons_zero, List.set_cons_succ]
        refine wpAnyH_done (by kernel_rfl) ?_ _
        go_wp2_with fail
        go_meet
        exact ⟨_, A5, A6, c5, c6, rfl, rfl, hSw.1, hSw.2.1, H5.out, weak_slice weak_in3 _ _ (fun _ => True) _ _ HRI.out (fun _ _ _ => trivial), weak_slice weak_out3 _ _ (fun _ => True) _ _ HRO.out (fun _ _ _ => trivial), hSw.2.2.1⟩
    · skip
      refine step_new rfl (.cells #[.slice none 0 0, .slice none 0 0] 28) (fun N => .pointer (some ⟨N, 0, none⟩)) (by show _ = _; kernel_rfl) ?_
      intro N5 wn5 hN5 hw5 a9
      have H5 := Lib.hid (show Blk wn5 N5 28 [.slice none 0 0, .slice none 0 0].toArray ∧ B ≤ N5 by rw [hN5, hw5]; exact ⟨Blk.new _ _ _, hSw.2.2.2⟩)
      try replace HOW := Lib.hid (own_only HOW.out (Only.of_new a9 (fun _ => False)) (fun _ _ h => h))
      try (have hx := HRI; clear hx; have hy := weak_slice (hs := by decide) weak_in3 _ _ (fun b => b ≠ N5) _ _ HRI.out (fun b hb _ => by omega); replace HRI := Lib.hid (insSh.below hy a9 (fun _ h _ => h)); clear hy)
      try (have hx := HRO; clear hx; have hy := weak_slice (hs := by decide) weak_out3 _ _ (fun b => b ≠ N5) _ _ HRO.out (fun b hb _ => by omega); replace HRO := Lib.hid (outsSh.below hy a9 (fun _ h _ => h)); clear hy)
      clear hN5 hw5
      refine hK.out _ _ (⟨hSw.1.below a9 hSw.1.lt, hSw.2.1.below a9 hSw.2.1.lt, hSw.2.2.1.trans (a9.mono hSw.2.2.1.size), Nat.le_trans hSw.2.2.2 a9.size⟩) ?_
      intro hSw
      clear hK K
      try simp only [Act.put, List.setIfInBounds_toArray, List.set_cons_zero, List.set_cons_succ]
      refine wpAnyH_ready (rs := [0]) (by kernel_rfl) (by simp) (AllReadyH.cons (o := ⟨some 18, _, _, _, _, _⟩) rfl (fun K hK => ?_) AllReadyH.nil)
      refine step_new rfl (.cells #[] 5) (fun N => .slice (some ⟨N, 0, none⟩) 0 0) (by show _ = _; kernel_rfl) ?_
      intro N0 wn0 hN0 hw0 a0
      have HOW := Lib.hid (show wn0.ownsRow B 5 1 (.slice (some ⟨N0, 0, none⟩) 0 0) 0 [] by rw [hN0, hw0]; exact World.ownsRow_lit _ #[] 0 hSw.2.2.2 (by decide) rfl)
      try replace H5 := Lib.hid (And.intro (H5.out.1.below a0 H5.out.1.lt) H5.out.2)
      clear hN0 hw0
      refine hK.out _ _ (⟨hSw.1.below a0 hSw.1.lt, hSw.2.1.below a0 hSw.2.1.lt, hSw.2.2.1.trans (a0.mono hSw.2.2.1.size), Nat.le_trans hSw.2.2.2 a0.size⟩) ?_
      intro hSw
      clear hK K
      try simp only [Act.put, List.setIfInBounds_toArray, List.set_cons_zero, List.set_cons_succ]
      refine wpAnyH_ready (rs := [2]) (by kernel_rfl) (by simp) (AllReadyH.cons (o := ⟨some 20, _, _, _, _, _⟩) rfl (fun K hK => ?_) AllReadyH.nil)
      refine step_app rfl (.tmp 18) (.tmp 19) 32 rfl B 5 _ 1 1 Try.underlying32 infoU8 rfl (by decide) (some ⟨N0, 0, none⟩) 0 0 rfl (some ⟨q, 0, none⟩) 32 32 rfl [] HOW.out _ _ (id_sl hSw.1 ha32) (bts_one _) (by decide) (by decide) hSw.2.2.2 ?_
      intro A1 cc1 wa hown hoo hat
      have ho8 := hoo.mono (S' := fun b => B ≤ b) (fun b hb e => own_ge HOW.out e)
      try replace H5 := Lib.hid (And.intro (H5.out.1.only hoo (fun e => own_blk_ne HOW.out H5.out.1 (by decide) e)) H5.out.2)
      replace HOW := Lib.hid hown
      clear hown hoo hat
      refine hK.out _ _ (⟨hSw.1.only ho8 (by omega), hSw.2.1.only ho8 (by omega), hSw.2.2.1.trans (ho8.below hSw.2.2.1.size (fun b hb e => by omega)), Nat.le_trans hSw.2.2.2 ho8.size⟩) ?_
      intro hSw
      clear hK K
      try simp only [Act.put, List.setIfInBounds_toArray, List.set_cons_zero, List.set_cons_succ]
      refine wpAnyH_ready (rs := [4]) (by kernel_rfl) (by simp) (AllReadyH.cons (o := ⟨some 22, _, _, _, _, _⟩) rfl (fun K hK => ?_) AllReadyH.nil)
      refine step_app rfl (.tmp 20) (.tmp 21) 32 rfl B 5 _ 1 1 Try.underlying32 infoU8 rfl (by decide) A1 32 cc1 rfl (some ⟨q + 1, 0, none⟩) 32 32 rfl _ HOW.out _ _ (id_sl hSw.2.1 hb32) (bts_one _) (by decide) (by decide) hSw.2.2.2 ?_
      intro A2 cc2 wb hown hoo hat
      have ho8 := hoo.mono (S' := fun b => B ≤ b) (fun b hb e => own_ge HOW.out e)
      try replace H5 := Lib.hid (And.intro (H5.out.1.only hoo (fun e => own_blk_ne HOW.out H5.out.1 (by decide) e)) H5.out.2)
      replace HOW := Lib.hid hown
      clear hown hoo hat
      refine hK.out _ _ (⟨hSw.1.only ho8 (by omega), hSw.2.1.only ho8 (by omega), hSw.2.2.1.trans (ho8.below hSw.2.2.1.size (fun b hb e => by omega)), Nat.le_trans hSw.2.2.2 ho8.size⟩) ?_
      intro hSw
      clear hK K
      try simp only [Act.put, List.setIfInBounds_toArray, List.set_cons_zero, List.set_cons_succ]
      refine wpAnyH_ready (rs := [5]) (by kernel_rfl) (by simp) (AllReadyH.cons (o := ⟨some 23, _, _, _, _, _⟩) rfl (fun K hK => ?_) AllReadyH.nil)
      have hob := HOW.out
      rw [List.nil_append, ← bts_append] at hob
      have RX := tx_Read_any _ (.slice A2 64 cc2) (a ++ b) _ (IsB.of_own hob) (by simp [ha32, hb32])
      rw [HE0.out, HG0.out] at RX
      replace RX := Lib.hid RX
      clear hob
      go_simp
      go_at_call 5
      refine RX.out.mono ?_
      rintro e7 w7 ⟨A5, n5, c5, A6, n6, c6, rfl, ri, ro, _, _, a7⟩
      obtain ⟨_, hn5, _⟩ := shSlice_open ri
      obtain ⟨_, hn6, _⟩ := shSlice_open ro
      simp only [List.length_cons, List.length_nil, Nat.zero_add] at hn5 hn6
      subst hn5 hn6
      first
        | (have hx := H5; clear hx; have HRI := Lib.hid (weak_slice weak_in3 _ _ (fun b => b ≠ N5) _ _ ri (fun b _ hb => by have := H5.out.1.lt; omega)))
        | (have HRI := Lib.hid ri)
      first
        | (have hx := H5; clear hx; have HRO := Lib.hid (weak_slice weak_out3 _ _ (fun b => b ≠ N5) _ _ ro (fun b _ hb => by have := H5.out.1.lt; omega)))
        | (have HRO := Lib.hid ro)
      try replace H5 := Lib.hid (And.intro (H5.out.1.below a7 H5.out.1.lt) H5.out.2)
      clear ri ro RX HOW
      dsimp only
      refine hK.out _ _ (⟨hSw.1.below a7 hSw.1.lt, hSw.2.1.below a7 hSw.2.1.lt, hSw.2.2.1.trans (a7.mono hSw.2.2.1.size), Nat.le_trans hSw.2.2.2 a7.size⟩) ?_
      intro hSw
      clear hK K
      try simp only [Act.put, List.setIfInBounds_toArray, List.set_cons_zero, List.set_cons_succ]
      refine wpAnyH_take (i := 6) (oi := ⟨some 17, _, _, _, _, _⟩) (v := (.tuple #[.agg #[.slice A5 1 c5, .slice A6 0 c6], .int .i64 0])) rfl (by kernel_rfl) (by kernel_rfl) (by kernel_rfl) (fun _ _ _ h => h) (Or.inl ⟨by rfl, ?_⟩) hSw ?_
      · intro w' hSw'
        go_simp
      simp only [Act.put, List.setIfInBounds_toArray, List.set_cons_zero, List.set_cons_succ]
      refine wpAnyH_take (i := 7) (oi := ⟨some 24, _, _, _, _, _⟩) (v := (.agg #[.slice A5 1 c5, .slice A6 0 c6])) rfl (by kernel_rfl) (by kernel_rfl) (by kernel_rfl) (fun _ _ _ h => h) (Or.inl ⟨by rfl, ?_⟩) hSw ?_
      · intro w' hSw'
        go_simp
      simp only [Act.put, List.setIfInBounds_toArray, List.set_cons_zero, List.set_cons_succ]
      refine wpAnyH_take (i := 8) (oi := ⟨some 25, _, _, _, _, _⟩) (v := (.int .i64 0)) rfl (by kernel_rfl) (by kernel_rfl) (by kernel_rfl) (fun _ _ _ h => h) (Or.inl ⟨by rfl, ?_⟩) hSw ?_
      · intro w' hSw'
        go_simp
      simp only [Act.put, List.setIfInBounds_toArray, List.set_cons_zero, List.set_cons_succ]
      refine wpAnyH_ready (rs := [10]) (by kernel_rfl) (by simp) (AllReadyH.cons (o := ⟨none, _, _, _, _, _⟩) rfl (fun K hK => ?_) AllReadyH.nil)
      refine step_stb rfl 28 (.tmp 5) (.tmp 24) rfl N5 0 _ rfl rfl 28 [.slice none 0 0, .slice none 0 0] H5.out.1 (by simp) (by rw [infoTx]; rfl) (by simp [Value.oneCell']) ?_
      intro w8 b8 o8
      rw [over_all _ _ (by simp)] at b8
      have hp5 := H5.out.2
      replace H5 := Lib.hid b8
      replace HRI := Lib.hid (insSh.only HRI.out o8 (fun b _ hb e => hb e))
      replace HRO := Lib.hid (outsSh.only HRO.out o8 (fun b _ hb e => hb e))
      refine hK.out _ _ (⟨hSw.1.only o8 (by omega), hSw.2.1.only o8 (by omega), hSw.2.2.1.trans (o8.below hSw.2.2.1.size (fun b hb e => by omega)), Nat.le_trans hSw.2.2.2 o8.size⟩) ?_
      intro hSw
      clear hK K
      try simp only [Act.put, List.setIfInBounds_toArray, List.set_cons_zero, List.set_cons_succ]
      refine wpAnyH_take (i := 11) (oi := ⟨some 6, _, _, _, _, _⟩) (v := (.int .i64 0)) rfl (by kernel_rfl) (by kernel_rfl) (by kernel_rfl) (fun _ _ _ h => h) (Or.inl ⟨by rfl, ?_⟩) hSw ?_
      · intro w' hSw'
        go_simp
      simp only [Act.put, List.setIfInBounds_toArray, List.set_cons_zero, List.set_cons_succ]
      refine wpAnyH_done (by kernel_rfl) ?_ _
      go_wp2_with fail
      go_meet
      exact ⟨_, A5, A6, c5, c6, rfl, rfl, hSw.1, hSw.2.1, H5.out, weak_slice weak_in3 _ _ (fun _ => True) _ _ HRI.out (fun _ _ _ => trivial), weak_slice weak_out3 _ _ (fun _ => True) _ _ HRO.out (fun _ _ _ => trivial), hSw.2.2.1⟩
  case rest =>
    clear HA HB HBL HBS hqB
    obtain ⟨p5, A5, A6, c5, c6, rfl, rfl, HA, HB, H5, HI, HO, HBL⟩ := hcut
    have c0 := H5.out.cell 0
    have c1 := H5.out.cell 1
    simp only [List.getElem?_toArray, List.getElem?_cons_zero, List.getElem?_cons_succ] at c0 c1
    have hl2 : [a, b].length = 2 := rfl
    have h322 : ∀ x ∈ [a, b], List.length x = 32 := by
      intro x hx
      simp only [List.mem_cons, List.not_mem_nil, or_false] at hx
      rcases hx with h | h
      · rw [h]; exact ha32
      · rw [h]; exact hb32
    have hfm : [a, b].flatMap bts = bts a ++ bts b := by simp
    have hsl2 := Sl.row_new wc 23 (bts a ++ bts b) 32 2 (by simp [ha32, hb32])
    rw [← hfm] at hsl2
    have hmk := merkle_any 2 (by omega)
    unfold MerkleOk at hmk
    have MK := hmk _ _ 2 [a, b] _ hl2 h322 hsl2
    rw [hfm] at MK
    clear hmk hl2 h322 hfm hsl2
    rw [mroot_two] at MK
    obtain ⟨r, hr⟩ : ∃ r, sha2 (a ++ b) = r := ⟨_, rfl⟩
    have hr32 : r.length = 32 := by rw [← hr]; exact sha2_len _
    rw [hr] at MK
    unfold idV at MK
    dsimp only at MK
    obtain ⟨eab, heab⟩ : ∃ eab, (a == b) = eab := ⟨_, rfl⟩
    rw [heab] at MK
    replace MK := Lib.hid MK
    have HR := Lib.hid hr
    have heqab : ∀ w', (Op.equalIn 10000 23 (.agg (bts a).toArray) (.agg (bts b).toArray)).run Try.prog w' = .ok eab w' := fun w' => by rw [← heab]; exact run_eq_id a b ha32 hb32 w'
    clear hr heab
    go_wp2_with (first
      | (with_reducible refine wpList_ld rfl 23 (.tmp 2) rfl q 0 rfl (bts a) HA.out.rowAll _ Try.underlying23 rfl 32 infoID (by rw [bts_length, ha32]) ?_)
      | (with_reducible refine wpList_ld rfl 23 (.tmp 3) rfl (q + 1) 0 rfl (bts b) HB.out.rowAll _ Try.underlying23 rfl 32 infoID (by rw [bts_length, hb32]) ?_)
      | (with_reducible refine wpList_bsl rfl 55 2 _ rfl #[(0, .agg (bts a).toArray), (1, .agg (bts b).toArray)] _ (run_two a b ha32 hb32 wc) (by simp [Act.eval, Act.put]) ?_))
    refine MK.out.mono ?_
    rintro e3 w3 ⟨rfl, a3⟩
    have hO3 : Below wc.heap.size wc w3 := ((Below.refl wc.heap.size wc).alloc (Nat.le_refl _) (.cells (bts a ++ bts b).toArray 23)).trans (a3.mono (by simp))
    replace HA := Lib.hid (HA.out.below hO3 HA.out.lt)
    replace HB := Lib.hid (HB.out.below hO3 HB.out.lt)
    replace H5 := Lib.hid (H5.out.below hO3 H5.out.lt)
    replace HI := Lib.hid (insSh.below HI.out hO3 (fun _ h _ => h))
    replace HO := Lib.hid (outsSh.below HO.out hO3 (fun _ h _ => h))
    replace HBL := Lib.hid (HBL.out.trans (hO3.mono HBL.out.size))
    clear a3 hO3 MK c0 c1
    go_wp2_with (with_reducible refine wpList_stb rfl 23 (.tmp 7) (.tmp 45) rfl w3.heap.size 0 _ rfl rfl 23 _ (Blk.new w3 _ _) ?h1 ?h2 ?h3 ?_)
    case h1 => simp [hr32]
    case h2 => rw [infoID]; simp [hr32]
    case h3 => exact bts_one _
    intro w4 b4 o4
    rw [over_all _ _ (by simp [hr32])] at b4
    have hO4 : Below w3.heap.size w3 w4 := (((Only.refl (fun b => w3.heap.size ≤ b) w3).alloc _).trans o4 (fun b _ e => by omega)).below (Nat.le_refl _) (fun b hb h => by omega)
    replace HA := Lib.hid (HA.out.below hO4 HA.out.lt)
    replace HB := Lib.hid (HB.out.below hO4 HB.out.lt)
    replace H5 := Lib.hid (H5.out.below hO4 H5.out.lt)
    replace HI := Lib.hid (insSh.below HI.out hO4 (fun _ h _ => h))
    replace HO := Lib.hid (outsSh.below HO.out hO4 (fun _ h _ => h))
    replace HBL := Lib.hid (HBL.out.trans (hO4.mono HBL.out.size))
    have H7 := Lib.hid b4
    clear b4 o4 hO4
    generalize w3.heap.size = p7 at H7 ⊢
    have c0 := H5.out.cell 0
    have c1 := H5.out.cell 1
    simp only [List.getElem?_toArray, List.getElem?_cons_zero, List.getElem?_cons_succ] at c0 c1
    have hzv : ∀ w : World, (zeroValue 40).run Try.prog w = .ok (.agg #[.int .u32 0, .int .u8 0, .int .u8 0, .int .u8 0, .int .u8 0, .int .u8 0, .int .u8 0, .int .u8 0, .int .u8 0, .int .u8 0, .int .u8 0, .int .u8 0, .int .u8 0, .int .u8 0, .int .u8 0, .int .u8 0, .int .u8 0, .int .u8 0, .int .u8 0, .int .u8 0, .int .u8 0, .int .u8 0, .int .u8 0, .int .u8 0, .int .u8 0, .int .u8 0, .int .u8 0, .int .u8 0, .int .u8 0, .int .u8 0, .int .u8 0, .int .u8 0, .int .u8 0, .int .u8 0, .int .u8 0, .int .u8 0, .int .u8 0, .int .u8 0, .int .u8 0, .int .u8 0, .int .u8 0, .int .u8 0, .int .u8 0, .int .u8 0, .int .u8 0, .int .u8 0, .int .u8 0, .int .u8 0, .int .u8 0, .int .u8 0, .int .u8 0, .int .u8 0, .int .u8 0, .int .u8 0, .int .u8 0, .int .u8 0, .int .u8 0, .int .u8 0, .int .u8 0, .int .u8 0, .int .u8 0, .int .u8 0, .int .u8 0, .int .u8 0, .int .u8 0, .int .u32 0, .int .u32 0, .int .u32 0, .slice none 0 0]) w := fun _ => by kernel_rfl
    go_wp2_with (first
      | (with_reducible refine wpList_ld rfl 23 (.tmp 7) rfl p7 0 rfl (bts r) H7.out.rowAll _ Try.underlying23 rfl 32 infoID (by rw [bts_length, hr32]) ?_)
      | (with_reducible refine wpList_bld rfl 37 _ rfl [(2, .agg (bts r).toArray)] _ (built_hdr2 r hr32) (by simp [Act.eval, Act.put]) ?_)
      | (with_reducible refine wpList_bld rfl 40 _ rfl [(0, .agg (hdrC 0 zid r 0 0 0).toArray), (1, .slice (some ⟨w4.heap.size, 0, none⟩) 1 1)] _ (built_blk r (some ⟨w4.heap.size, 0, none⟩) 1 1 hr32) (by simp [Act.eval, Act.put]) ?_)
      | (with_reducible refine wpList_stb rfl 40 (.tmp 9) (.tmp 51) rfl (w4.heap.size + 1) 0 _ rfl rfl 40 _ (Blk.newS w4 _ _ _) ?g1 ?g2 ?g3 ?_))
    case g2 => first | (rw [infoBlk]; simp [blkC_len _ _ _ _ _ _ _ zid_len hr32]; done) | simpa [blkC_len _ _ _ _ _ _ _ zid_len hr32] using infoBlk
    case g3 => exact blkC_one _ _ _ _ _ _ _ rfl
    case g1 => simp [blkC_len _ _ _ _ _ _ _ zid_len hr32]
    intro w5 b5 o5
    rw [over_all _ _ (by simp [blkC_len _ _ _ _ _ _ _ zid_len hr32])] at b5
    clear hzv c0 c1
    have hO5 : Below w4.heap.size w4 w5 := ((((Only.refl (fun b => w4.heap.size ≤ b) w4).alloc _).alloc _).trans o5 (fun b _ e => by omega)).below (Nat.le_refl _) (fun b hb h => by omega)
    have h50 : Blk w5 w4.heap.size 28 #[.slice A5 1 c5, .slice A6 0 c6] := ((Blk.new w4 28 #[.slice A5 1 c5, .slice A6 0 c6]).alloc _).only o5 (by omega)
    replace HA := Lib.hid (HA.out.below hO5 HA.out.lt)
    replace HB := Lib.hid (HB.out.below hO5 HB.out.lt)
    replace H5 := Lib.hid (H5.out.below hO5 H5.out.lt)
    replace H7 := Lib.hid (H7.out.below hO5 H7.out.lt)
    replace HI := Lib.hid (insSh.below HI.out hO5 (fun _ h _ => h))
    replace HO := Lib.hid (outsSh.below HO.out hO5 (fun _ h _ => h))
    replace HBL := Lib.hid (HBL.out.trans (hO5.mono HBL.out.size))
    have H9 := Lib.hid (show Blk w5 (w4.heap.size + 1) 40 (blkC 0 zid r 0 0 0 (.slice (some ⟨w4.heap.size, 0, none⟩) 1 1)).toArray from b5)
    have H50 := Lib.hid h50
    clear b5 o5 hO5 h50
    generalize w4.heap.size = p50 at H9 H50 ⊢
    have c0 := H5.out.cell 0
    have c1 := H5.out.cell 1
    simp only [List.getElem?_toArray, List.getElem?_cons_zero, List.getElem?_cons_succ] at c0 c1
    have hO6 : Below w5.heap.size w5 (w5.alloc (.cells #[.slice A5 1 c5, .slice A6 0 c6] 28)) := (Below.refl _ _).alloc (Nat.le_refl _) _
    have h53 := Blk.new w5 28 #[.slice A5 1 c5, .slice A6 0 c6]
    replace HA := Lib.hid (HA.out.below hO6 HA.out.lt)
    replace HB := Lib.hid (HB.out.below hO6 HB.out.lt)
    replace H5 := Lib.hid (H5.out.below hO6 H5.out.lt)
    replace H7 := Lib.hid (H7.out.below hO6 H7.out.lt)
    replace H9 := Lib.hid (H9.out.below hO6 H9.out.lt)
    replace H50 := Lib.hid (H50.out.below hO6 H50.out.lt)
    replace HI := Lib.hid (insSh.below HI.out hO6 (fun _ h _ => h))
    replace HO := Lib.hid (outsSh.below HO.out hO6 (fun _ h _ => h))
    replace HBL := Lib.hid (HBL.out.trans (hO6.mono HBL.out.size))
    have htx : ∀ W : World, insSh.rel W (fun _ => True) [.slice A5 1 c5] [it] → outsSh.rel W (fun _ => True) [.slice A6 0 c6] [] → ∀ g, Blk W g 28 #[.slice A5 1 c5, .slice A6 0 c6] → txsSh.rel W (fun b => b < W.heap.size) [.slice (some ⟨g, 0, none⟩) 1 1] [([it], [], ())] := by
      intro W h1 h2 g h3
      exact one_sl (cs := [.slice A5 1 c5, .slice A6 0 c6]) h3.rowAll h3.lt ⟨[.slice A5 1 c5], [.slice A6 0 c6], rfl, weak_slice weak_in3 _ _ _ _ _ h1 (fun b hb _ => hb), ⟨[.slice A6 0 c6], [], rfl, weak_slice weak_out3 _ _ _ _ _ h2 (fun b hb _ => hb), rfl⟩⟩
    have HTX := Lib.hid htx
    have hfit : ∀ t ∈ [(([it], [], ()) : TxT)], TxFit t := by
      intro t ht
      rw [List.mem_singleton.1 ht]
      exact ⟨by simp, by simp, fun x hx => by rw [List.mem_singleton.1 hx]; omega⟩
    have HFIT := Lib.hid hfit
    clear htx hfit
    have hids : txIds [(([it], [], ()) : TxT)] = [r] := by rw [txIds, List.map_singleton, ← HIT.out, HR.out]
    have TR := tx_root_any 1 merkle1 (w5.alloc (.cells #[.slice A5 1 c5, .slice A6 0 c6] 28)) (some ⟨w5.heap.size, 0, none⟩) 1 [([it], [], ())] _ (HTX.out _ HI.out HO.out _ h53) rfl (fun _ h => h) HFIT.out (by omega)
    have hids2 := hids
    unfold txIds at hids2
    rw [hids2, mroot_one] at TR
    unfold idV at TR
    dsimp only at TR
    replace TR := Lib.hid TR
    have HIDS := Lib.hid hids
    clear hids hids2 h53 hO6
    go_wp2_with fail
    refine TR.out.mono ?_
    rintro e6 w6 ⟨rfl, a6⟩
    replace HA := Lib.hid (HA.out.below a6 HA.out.lt)
    replace HB := Lib.hid (HB.out.below a6 HB.out.lt)
    replace H5 := Lib.hid (H5.out.below a6 H5.out.lt)
    replace H7 := Lib.hid (H7.out.below a6 H7.out.lt)
    replace H9 := Lib.hid (H9.out.below a6 H9.out.lt)
    replace H50 := Lib.hid (H50.out.below a6 H50.out.lt)
    replace HI := Lib.hid (insSh.below HI.out a6 (fun _ h _ => h))
    replace HO := Lib.hid (outsSh.below HO.out a6 (fun _ h _ => h))
    replace HBL := Lib.hid (HBL.out.trans (a6.mono HBL.out.size))
    clear a6 TR c0 c1
    go_wp2_with (with_reducible refine wpList_stb rfl 23 (.tmp 10) (.tmp 56) rfl w6.heap.size 0 _ rfl rfl 23 _ (Blk.new w6 _ _) ?h1 ?h2 ?h3 ?_)
    case h1 => simp [hr32]
    case h2 => rw [infoID]; simp [hr32]
    case h3 => exact bts_one _
    intro w7 b7 o7
    rw [over_all _ _ (by simp [hr32])] at b7
    have hO7 : Below w6.heap.size w6 w7 := (((Only.refl (fun b => w6.heap.size ≤ b) w6).alloc _).trans o7 (fun b _ e => by omega)).below (Nat.le_refl _) (fun b hb h => by omega)
    replace HA := Lib.hid (HA.out.below hO7 HA.out.lt)
    replace HB := Lib.hid (HB.out.below hO7 HB.out.lt)
    replace H7 := Lib.hid (H7.out.below hO7 H7.out.lt)
    replace H9 := Lib.hid (H9.out.below hO7 H9.out.lt)
    replace H50 := Lib.hid (H50.out.below hO7 H50.out.lt)
    replace HI := Lib.hid (insSh.below HI.out hO7 (fun _ h _ => h))
    replace HO := Lib.hid (outsSh.below HO.out hO7 (fun _ h _ => h))
    replace HBL := Lib.hid (HBL.out.trans (hO7.mono HBL.out.size))
    have H10 := Lib.hid b7
    clear b7 o7 hO7
    generalize w6.heap.size = p10 at H10 ⊢
    have heqr : ∀ w', (Op.equalIn 10000 23 (.agg (bts r).toArray) (.agg (bts r).toArray)).run Try.prog w' = .ok true w' := fun w' => by rw [run_eq_id r r hr32 hr32 w']; simp
    have hl64 : (txB ([it], [], ())).length = 64 := by rw [← HIT.out]; simp [ha32, hb32]
    have hco : croot r [([it], [], ())] = 40 := by rw [croot, if_pos]; simp [pairT, hl64]
    have hne := cblk_ne2 0 0 0 0 zid r [([it], [], ())] hco
    have CR := check_root_any w7 0 0 0 0 zid r (some ⟨p50, 0, none⟩) 1 1 [([it], [], ())] _ zid_len hr32 merkle1 (HTX.out _ HI.out HO.out _ H50.out) rfl (fun _ h => h) HFIT.out (by omega)
    rw [hco] at CR
    replace CR := Lib.hid CR
    have HNE := Lib.hid hne
    have hl69 := blkC_len 0 zid r 0 0 0 (.slice (some ⟨p50, 0, none⟩) 1 1) zid_len hr32
    clear hl64 hco hne
    go_wp2_with (first
      | (with_reducible refine wpList_ld rfl 23 (.tmp 10) rfl p10 0 rfl (bts r) H10.out.rowAll _ Try.underlying23 rfl 32 infoID (by rw [bts_length, hr32]) ?_)
      | (with_reducible refine wpList_ld rfl 23 (.tmp 7) rfl p7 0 rfl (bts r) H7.out.rowAll _ Try.underlying23 rfl 32 infoID (by rw [bts_length, hr32]) ?_)
      | (refine wpList_ldg2 (by rfl) 23 (.tmp 2) rfl q 0 rfl (bts a) HA.out.rowAll _ Try.underlying23 rfl 32 infoID (by rw [bts_length, ha32]) ?_)
      | (refine wpList_ldg2 (by rfl) 23 (.tmp 3) rfl (q + 1) 0 rfl (bts b) HB.out.rowAll _ Try.underlying23 rfl 32 infoID (by rw [bts_length, hb32]) ?_)
      | (refine wpList_ldg2 (by rfl) 40 (.tmp 9) rfl (p50 + 1) 0 rfl (blkC 0 zid r 0 0 0 (.slice (some ⟨p50, 0, none⟩) 1 1)) H9.out.rowAll _ Try.underlying40 rfl 69 infoBlk hl69.symm ?_))
    refine CR.out.mono ?_
    rintro e8 w8 ⟨rfl, a8⟩
    replace H9 := Lib.hid (H9.out.below a8 H9.out.lt)
    replace H50 := Lib.hid (H50.out.below a8 H50.out.lt)
    replace HI := Lib.hid (insSh.below HI.out a8 (fun _ h _ => h))
    replace HO := Lib.hid (outsSh.below HO.out a8 (fun _ h _ => h))
    replace HBL := Lib.hid (HBL.out.trans (a8.mono HBL.out.size))
    clear a8 CR
    have CB := check_block_any w8 0 0 0 0 zid r (some ⟨p50, 0, none⟩) 1 1 [([it], [], ())] _ zid_len hr32 merkle1 (HTX.out _ HI.out HO.out _ H50.out) rfl (fun _ h => h) HFIT.out
    obtain ⟨E, hEE⟩ : ∃ E, cblk 0 zid r 0 0 0 [([it], [], ())] = E := ⟨_, rfl⟩
    have hne := HNE.out
    rw [hEE] at CB hne
    have ez : (E == 0) = false := by simpa using hne
    have ez2 : (E != 0) = true := by simpa using hne
    replace CB := Lib.hid CB
    clear hEE hne
    go_wp2_with (refine wpList_ldg2 (by rfl) 40 (.tmp 9) rfl (p50 + 1) 0 rfl (blkC 0 zid r 0 0 0 (.slice (some ⟨p50, 0, none⟩) 1 1)) H9.out.rowAll _ Try.underlying40 rfl 69 infoBlk hl69.symm ?_)
    refine CB.out.mono ?_
    rintro e9 w9 ⟨rfl, a9⟩
    replace HBL := Lib.hid (HBL.out.trans (a9.mono HBL.out.size))
    clear a9 CB
    go_wp2
    go_ret
    exact ⟨rfl, HBL.out⟩
end Go.Proofs.Ytkenkhefpemdmab
