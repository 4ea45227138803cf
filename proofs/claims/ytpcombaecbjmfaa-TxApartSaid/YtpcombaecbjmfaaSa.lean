/- law07.same. -/
import Derived.Test.YtpcombaecbjmfaaBy
import Derived.Test.YtpcombaecbjmfaaAw
namespace Go.Proofs.Ytpcombaecbjmfaa
open Go.RowKit
set_option maxRecDepth 20000 in
set_option maxHeartbeats 4000000 in
set_option linter.unusedSimpArgs false in
theorem same7_any (w : World) (A A' B B' : Option Addr) (n n' c c' m m' d d' : Nat) (ins ins2 : List InT) (outs outs2 : List OutT) (ok ok2 : Nat → Prop)
    (hi : insSh.rel w ok [.slice A n c] ins) (ho : outsSh.rel w ok [.slice A' n' c'] outs) (hn : ins.length = n) (hn' : outs.length = n') (hf : TxFit (ins, outs, ()))
    (hi2 : insSh.rel w ok2 [.slice B m d] ins2) (ho2 : outsSh.rel w ok2 [.slice B' m' d'] outs2) (hm : ins2.length = m) (hm' : outs2.length = m') (hf2 : TxFit (ins2, outs2, ())) :
    Calls Try.prog 19 #[.agg #[.slice A n c, .slice A' n' c'], .agg #[.slice B m d, .slice B' m' d']] w fun e w' => e = .returned (.bool (txB (ins, outs, ()) == txB (ins2, outs2, ()))) ∧ Below w.heap.size w w' := by
  have B1 := Lib.hid (fun W (a : Below w.heap.size w W) => bytes07_any W A A' n n' c c' ins outs ok (insSh.below hi a (fun _ h _ => h)) (outsSh.below ho a (fun _ h _ => h)) hn hn' hf)
  have B2 := Lib.hid (fun W (a : Below w.heap.size w W) => bytes07_any W B B' m m' d d' ins2 outs2 ok2 (insSh.below hi2 a (fun _ h _ => h)) (outsSh.below ho2 a (fun _ h _ => h)) hm hm' hf2)
  clear hi ho hn hn' hf hi2 ho2 hm hm' hf2
  obtain ⟨X, hX⟩ : ∃ X, txB (ins, outs, ()) = X := ⟨_, rfl⟩
  obtain ⟨Y, hY⟩ : ∃ Y, txB (ins2, outs2, ()) = Y := ⟨_, rfl⟩
  rw [hX] at B1 ⊢
  rw [hY] at B2 ⊢
  clear hX hY
  obtain ⟨q, hQ⟩ : ∃ q, (X == Y) = q := ⟨_, rfl⟩
  rw [hQ]
  go_enter Try.func19, Try.ntmps19
  go_upto_region 1 with fail
  generalize hW : World.alloc (World.alloc w _) _ = W
  have hb1 : Blk W w.heap.size 25 #[.slice A n c, .slice A' n' c'] := by rw [← hW]; exact (Blk.new _ _ _).alloc _
  have hb2 : Blk W (w.heap.size + 1) 25 #[.slice B m d, .slice B' m' d'] := by rw [← hW]; exact Blk.newS w _ _ _
  have hbl : Below w.heap.size w W := by rw [← hW]; exact ((Below.refl _ _).alloc (Nat.le_refl _) _).alloc (by simp) _
  clear hW
  refine wp_region_held_drew (S := (fun w' => Blk w' w.heap.size 25 #[.slice A n c, .slice A' n' c'] ∧ Blk w' (w.heap.size + 1) 25 #[.slice B m d, .slice B' m' d'] ∧ Below w.heap.size w w')) (by kernel_rfl) (⟨hb1.drew, hb2.drew, hbl.drew⟩) ?_
  intro hSw
  refine wpAnyH_take (i := 0) (oi := ⟨some 5, _, _, _, _, _⟩) (v := (.agg #[.slice A n c, .slice A' n' c'])) rfl (by kernel_rfl) (by kernel_rfl) (by kernel_rfl) (fun _ _ _ h => h) (Or.inl ⟨by rfl, ?_⟩) hSw ?_
  · intro w' hSw'
    have c0 := hSw'.1.cell 0
    have c1 := hSw'.1.cell 1
    have c2 := hSw'.2.1.cell 0
    have c3 := hSw'.2.1.cell 1
    simp only [List.getElem?_toArray, List.getElem?_cons_zero, List.getElem?_cons_succ] at c0 c1 c2 c3
    go_simp
  simp only [Act.put, List.setIfInBounds_toArray, List.set_cons_zero, List.set_cons_succ]
  refine wpAnyH_take (i := 2) (oi := ⟨some 7, _, _, _, _, _⟩) (v := (.agg #[.slice B m d, .slice B' m' d'])) rfl (by kernel_rfl) (by kernel_rfl) (by kernel_rfl) (fun _ _ _ h => h) (Or.inl ⟨by rfl, ?_⟩) hSw ?_
  · intro w' hSw'
    have c0 := hSw'.1.cell 0
    have c1 := hSw'.1.cell 1
    have c2 := hSw'.2.1.cell 0
    have c3 := hSw'.2.1.cell 1
    simp only [List.getElem?_toArray, List.getElem?_cons_zero, List.getElem?_cons_succ] at c0 c1 c2 c3
    go_simp
  simp only [Act.put, List.setIfInBounds_toArray, List.set_cons_zero, List.set_cons_succ]
  refine wpAnyH_ready (rs := [1]) (by kernel_rfl) (by simp) (AllReadyH.cons (o := ⟨some 6, _, _, _, _, _⟩) rfl (fun K hK => ?_) AllReadyH.nil)
  go_simp
  go_at_call 14
  refine (B1.out _ hSw.2.2).mono ?_
  rintro e5 w5 ⟨rfl, a5⟩
  dsimp only
  refine hK.out _ _ (⟨hSw.1.below a5 hSw.1.lt, hSw.2.1.below a5 hSw.2.1.lt, hSw.2.2.trans (a5.mono hSw.2.2.size)⟩) ?_
  intro hSw
  clear hK K
  try simp only [Act.put, List.setIfInBounds_toArray, List.set_cons_zero, List.set_cons_succ]
  refine wpAnyH_ready (rs := [3]) (by kernel_rfl) (by simp) (AllReadyH.cons (o := ⟨some 8, _, _, _, _, _⟩) rfl (fun K hK => ?_) AllReadyH.nil)
  go_simp
  go_at_call 14
  refine (B2.out _ hSw.2.2).mono ?_
  rintro e6 w6 ⟨rfl, a6⟩
  dsimp only
  refine hK.out _ _ (⟨hSw.1.below a6 hSw.1.lt, hSw.2.1.below a6 hSw.2.1.lt, hSw.2.2.trans (a6.mono hSw.2.2.size)⟩) ?_
  intro hSw
  clear hK K
  try simp only [Act.put, List.setIfInBounds_toArray, List.set_cons_zero, List.set_cons_succ]
  refine wpAnyH_take (i := 4) (oi := ⟨some 9, _, _, _, _, _⟩) (v := (.bool q)) rfl (by kernel_rfl) (by kernel_rfl) (by kernel_rfl) (fun _ _ _ h => h) (Or.inl ⟨by rfl, ?_⟩) hSw ?_
  · intro w' hSw'
    have c0 := hSw'.1.cell 0
    have c1 := hSw'.1.cell 1
    have c2 := hSw'.2.1.cell 0
    have c3 := hSw'.2.1.cell 1
    simp only [List.getElem?_toArray, List.getElem?_cons_zero, List.getElem?_cons_succ] at c0 c1 c2 c3
    go_simp
  simp only [Act.put, List.setIfInBounds_toArray, List.set_cons_zero, List.set_cons_succ]
  refine wpAnyH_take (i := 5) (oi := ⟨some 4, _, _, _, _, _⟩) (v := (.bool q)) rfl (by kernel_rfl) (by kernel_rfl) (by kernel_rfl) (fun _ _ _ h => h) (Or.inl ⟨by rfl, ?_⟩) hSw ?_
  · intro w' hSw'
    have c0 := hSw'.1.cell 0
    have c1 := hSw'.1.cell 1
    have c2 := hSw'.2.1.cell 0
    have c3 := hSw'.2.1.cell 1
    simp only [List.getElem?_toArray, List.getElem?_cons_zero, List.getElem?_cons_succ] at c0 c1 c2 c3
    go_simp
  simp only [Act.put, List.setIfInBounds_toArray, List.set_cons_zero, List.set_cons_succ]
  refine wpAnyH_done (by kernel_rfl) ?_ _
  go_wp2
  go_ret
  exact ⟨rfl, hSw.2.2⟩
end Go.Proofs.Ytpcombaecbjmfaa
