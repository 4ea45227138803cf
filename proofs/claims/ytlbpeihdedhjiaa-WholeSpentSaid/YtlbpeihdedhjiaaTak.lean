/- coins.Set.take. -/
import Derived.Test.YtlbpeihdedhjiaaCln
namespace Go.Proofs.Ytlbpeihdedhjiaa
open Go.RowKit
/-- a transaction's outputs are taken out -/
def takC (x : List UInt8) : Nat → CoL → CoL
  | 0, L => L
  | n + 1, L => delC (takC x n L) (x, n)
set_option maxRecDepth 20000 in
set_option maxHeartbeats 8000000 in
set_option linter.unusedSimpArgs false in
theorem take_any (w : World) (gs b : Nat) (L : CoL) (A A' : Option Addr) (n c n' c' : Nat) (ins : List InT) (outs : List OutT)
    (hs : Blk w gs 42 [Value.map (some b)].toArray) (hm : IsCM w b L) (hi : insSh.rel w (fun b => b < w.heap.size) [.slice A n c] ins) (ho : outsSh.rel w (fun b => b < w.heap.size) [.slice A' n' c'] outs) (hn : ins.length = n) (hn' : outs.length = n') (hf : TxFit (ins, outs, ())) :
    Calls Try.prog 34 #[.pointer (some ⟨gs, 0, none⟩), .agg #[.slice A n c, .slice A' n' c']] w fun e w' => e = .returned (.tuple #[]) ∧ Only (fun k => k = b) w w' ∧ Blk w' gs 42 [Value.map (some b)].toArray ∧ IsCM w' b (takC (txX (ins, outs, ())) n' L) := by
  have hx32 : (txX (ins, outs, ())).length = 32 := sha_len _
  have HIDC := Lib.hid (fun W (a : Below w.heap.size w W) => tx_id_any W A A' n n' c c' ins outs (fun b => b < w.heap.size) (insSh.below hi a (fun b h _ => h)) (outsSh.below ho a (fun b h _ => h)) hn hn' (fun b hb => Nat.lt_of_lt_of_le hb a.size) hf)
  have HN2 := Lib.hid (show n' ≤ 1000 by have := hf.2.1; rw [← hn']; exact this)
  have hxx : sha2 (txB (ins, outs, ())) = txX (ins, outs, ()) := rfl
  obtain ⟨x, hx⟩ : ∃ x, txX (ins, outs, ()) = x := ⟨_, rfl⟩
  rw [hxx] at HIDC
  rw [hx] at hx32 HIDC ⊢
  have HX32 := Lib.hid hx32
  have HS := Lib.hid hs
  have HM := Lib.hid hm
  clear hx hx32 hs hm hi ho hn hn' hf hxx
  go_enter Try.func34, Try.ntmps34
  go_upto_region 1 with fail
  generalize hW : World.alloc w _ = W
  have hb : Blk W w.heap.size 39 #[.slice A n c, .slice A' n' c'] := by rw [← hW]; exact Blk.new _ _ _
  have hbl : Below w.heap.size w W := by rw [← hW]; exact (Below.refl _ _).alloc (Nat.le_refl _) _
  clear hW
  replace HS := Lib.hid (HS.out.below hbl HS.out.lt)
  replace HM := Lib.hid (HM.out.new hbl)
  obtain ⟨q, hqq⟩ : ∃ q, w.heap.size = q := ⟨_, rfl⟩
  have HBL := Lib.hid (Only.of_new hbl (fun k => k = b))
  have HBW := Lib.hid hbl
  rw [hqq] at hb ⊢
  have HB := Lib.hid hb
  clear hqq hb hbl
  go_wp2_with (with_reducible refine wpList_ld rfl 39 (.tmp 3) rfl q 0 rfl [.slice A n c, .slice A' n' c'] HB.out.rowAll _ Try.underlying39 rfl 2 infoTx rfl ?_)
  refine (HIDC.out _ HBW.out).mono ?_
  rintro e3 w3 ⟨rfl, a3⟩
  replace HS := Lib.hid (HS.out.below a3 HS.out.lt)
  replace HM := Lib.hid (HM.out.new a3)
  replace HB := Lib.hid (HB.out.below a3 HB.out.lt)
  replace HBL := Lib.hid (onew HBL.out a3)
  clear a3 HIDC HBW
  unfold idV
  go_wp2_with (with_reducible refine wpList_stb rfl 25 (.tmp 4) (.tmp 7) rfl w3.heap.size 0 _ rfl rfl 25 _ (Blk.new w3 _ _) ?s1 ?s2 ?s3 ?_)
  case s1 => simp [HX32.out]
  case s2 => rw [infoID]; simp [HX32.out]
  case s3 => exact bts_one _
  intro w4 b4 o4
  rw [over_all _ _ (by simp [HX32.out])] at b4
  have hO4 : Below w3.heap.size w3 w4 := (((Only.refl (fun b => w3.heap.size ≤ b) w3).alloc _).trans o4 (fun b _ e => by omega)).below (Nat.le_refl _) (fun b hb h => by omega)
  replace HBL := Lib.hid (onew HBL.out hO4)
  replace HS := Lib.hid (HS.out.below hO4 HS.out.lt)
  replace HM := Lib.hid (HM.out.new hO4)
  replace HB := Lib.hid (HB.out.below hO4 HB.out.lt)
  have HID7 := Lib.hid b4
  obtain ⟨p7, hp7⟩ : ∃ p7, w3.heap.size = p7 := ⟨_, rfl⟩
  rw [hp7] at HID7 ⊢
  clear b4 o4 hO4 hp7
  have c1' := HB.out.cell 1
  simp only [List.getElem?_toArray, List.getElem?_cons_zero, List.getElem?_cons_succ] at c1'
  go_wp2_with fail
  clear c1'
  go_loopg [11] n' (fun k v11 wr => ∃ (j : Nat), j + k = n' ∧ v11 = .int .i64 j ∧ Hid (Blk wr gs 42 [Value.map (some b)].toArray) ∧ Hid (IsCM wr b (takC x j L)) ∧ Hid (Blk wr p7 25 (bts x).toArray) ∧ Hid (Only (fun k => k = b) w wr))
  case atStart => exact ⟨0, by omega, rfl, HS, HM, HID7, HBL⟩
  case round =>
    clear HS HM HID7 HBL HB
    obtain ⟨j, hj, rfl, HS, HM, HID7, HBL⟩ := hrel
    by_cases hlt : j < n'
    · have hj32 : j < 4294967296 := by have := HN2.out; omega
      have HQK := Lib.hid (show PtOk (x, j) from ⟨HX32.out, hj32⟩)
      have hw32 : IntKind.u32.wrap ((j : Nat) : Int) = ((j : Nat) : Int) := by rw [IntKind.wrap_u32]; omega
      clear hj32
      go_wp2_with fail
      have HM9 := Lib.hid (show IsCM wr.drew b (takC x j L) from HM.out)
      have HB9 := Lib.hid (show Only (fun k => k = b) w wr.drew from HBL.out.drew)
      refine wp_region_held_drew (S := (fun w' => Blk w' gs 42 [Value.map (some b)].toArray ∧ Blk w' p7 25 (bts x).toArray)) (by kernel_rfl) (⟨HS.out.drew, HID7.out.drew⟩) ?_
      intro hSw
      refine wpAnyH_take (i := 0) (oi := ⟨some 14, _, _, _, _, _⟩) (v := (.pointer (some ⟨gs, 0, none⟩))) rfl (by kernel_rfl) (by kernel_rfl) (by kernel_rfl) (fun _ _ _ h => h) (Or.inl ⟨by rfl, ?_⟩) hSw ?_
      · intro w' hSw'
        have c0 := hSw'.1.cell 0
        simp only [List.getElem?_toArray, List.getElem?_cons_zero] at c0
        go_simp
      simp only [Act.put, List.setIfInBounds_toArray, List.set_cons_zero, List.set_cons_succ]
      refine wpAnyH_take (i := 1) (oi := ⟨some 15, _, _, _, _, _⟩) (v := (.pointer (some ⟨gs, 0, none⟩))) rfl (by kernel_rfl) (by kernel_rfl) (by kernel_rfl) (fun _ _ _ h => h) (Or.inl ⟨by rfl, ?_⟩) hSw ?_
      · intro w' hSw'
        have c0 := hSw'.1.cell 0
        simp only [List.getElem?_toArray, List.getElem?_cons_zero] at c0
        go_simp
      simp only [Act.put, List.setIfInBounds_toArray, List.set_cons_zero, List.set_cons_succ]
      refine wpAnyH_take (i := 2) (oi := ⟨some 16, _, _, _, _, _⟩) (v := (.pointer (some ⟨gs, 0, none⟩))) rfl (by kernel_rfl) (by kernel_rfl) (by kernel_rfl) (fun _ _ _ h => h) (Or.inl ⟨by rfl, ?_⟩) hSw ?_
      · intro w' hSw'
        have c0 := hSw'.1.cell 0
        simp only [List.getElem?_toArray, List.getElem?_cons_zero] at c0
        go_simp
      simp only [Act.put, List.setIfInBounds_toArray, List.set_cons_zero, List.set_cons_succ]
      refine wpAnyH_take (i := 3) (oi := ⟨some 17, _, _, _, _, _⟩) (v := (.map (some b))) rfl (by kernel_rfl) (by kernel_rfl) (by kernel_rfl) (fun _ _ _ h => h) (Or.inl ⟨by rfl, ?_⟩) hSw ?_
      · intro w' hSw'
        have c0 := hSw'.1.cell 0
        simp only [List.getElem?_toArray, List.getElem?_cons_zero] at c0
        go_simp
      simp only [Act.put, List.setIfInBounds_toArray, List.set_cons_zero, List.set_cons_succ]
      refine wpAnyH_take (i := 4) (oi := ⟨some 18, _, _, _, _, _⟩) (v := .agg (bts x).toArray) rfl (by kernel_rfl) (by kernel_rfl) (by kernel_rfl) (fun _ _ _ h => h) (yieldsIf_load_mid (by rfl) _ _ rfl p7 (0) rfl (bts x) _ (fun _ h => h.2.rowAll) Try.underlying25 rfl (by rw [bts_length, HX32.out]; exact infoID)) hSw ?_
      simp only [Act.put, List.setIfInBounds_toArray, List.set_cons_zero, List.set_cons_succ]
      refine wpAnyH_take (i := 5) (oi := ⟨some 19, _, _, _, _, _⟩) (v := (.int .i64 (j : Int))) rfl (by kernel_rfl) (by kernel_rfl) (by kernel_rfl) (fun _ _ _ h => h) (Or.inl ⟨by rfl, ?_⟩) hSw ?_
      · intro w' hSw'
        have c0 := hSw'.1.cell 0
        simp only [List.getElem?_toArray, List.getElem?_cons_zero] at c0
        go_simp
      simp only [Act.put, List.setIfInBounds_toArray, List.set_cons_zero, List.set_cons_succ]
      refine wpAnyH_take (i := 6) (oi := ⟨some 20, _, _, _, _, _⟩) (v := (.int .u32 (j : Int))) rfl (by kernel_rfl) (by kernel_rfl) (by kernel_rfl) (fun _ _ _ h => h) (Or.inl ⟨by rfl, ?_⟩) hSw ?_
      · intro w' hSw'
        have c0 := hSw'.1.cell 0
        simp only [List.getElem?_toArray, List.getElem?_cons_zero] at c0
        go_simp
      simp only [Act.put, List.setIfInBounds_toArray, List.set_cons_zero, List.set_cons_succ]
      refine wpAnyH_take (i := 7) (oi := ⟨some 21, _, _, _, _, _⟩) (v := (.agg (ptC x j).toArray)) rfl (by kernel_rfl) (by kernel_rfl) (by kernel_rfl) (fun _ _ _ h => h) (Or.inl ⟨by rfl, ?_⟩) hSw ?_
      · intro w' hSw'
        exact exec_buildc rfl (by simp [Act.eval]) (built_ptc x j HX32.out)
      simp only [Act.put, List.setIfInBounds_toArray, List.set_cons_zero, List.set_cons_succ]
      refine wpAnyH_ready (rs := [8]) (by kernel_rfl) (by simp) (AllReadyH.cons (o := ⟨none, _, _, _, _, _⟩) rfl (fun K hK => ?_) AllReadyH.nil)
      obtain ⟨w7, hdel, hcm, ho7⟩ := cm_del HM9.out (x, j) HQK.out
      unfold pV ptV at hdel
      have hbn := HM9.out
      have t1 := hSw.1.only ho7 (fun e => cm_blk_ne hbn hSw.1 e.symm)
      have t2 := hSw.2.only ho7 (fun e => cm_blk_ne hbn hSw.2 e.symm)
      have HM7 := Lib.hid (show IsCM w7 b (takC x (j + 1) L) from hcm)
      have HB7 := Lib.hid (HB9.out.trans ho7 (fun k _ e => e))
      clear HM9 HB9 hcm ho7 hbn HS HM HID7 HBL
      go_simp
      clear hdel
      refine hK.out _ _ (⟨t1, t2⟩) ?_
      intro hSw
      clear hK K
      try simp only [Act.put, List.setIfInBounds_toArray, List.set_cons_zero, List.set_cons_succ]
      refine wpAnyH_done (by kernel_rfl) ?_ _
      have HS7 := Lib.hid hSw.1
      have HI7 := Lib.hid hSw.2
      have hn2 := HN2.out
      clear hSw t1 t2 hw32
      go_wp2
      go_roundg (n' - 1 - j)
      case measure => omega
      case rel => exact ⟨j + 1, by omega, by first | rfl | (rw [IntWalk.wrap64_in _ (by omega)]; rfl), HS7.out, HM7.out, HI7.out, HB7.out⟩
    · obtain rfl : j = n' := by omega
      go_wp2
      go_end0
      exact ⟨rfl, HBL.out, HS.out, HM.out⟩
end Go.Proofs.Ytlbpeihdedhjiaa
