/- coins.Set.lay. -/
import Derived.Test.YtlbpeihdedhjiaaSet
import Derived.Test.YtlbpeihdedhjiaaTb
import Derived.Shelf.SlMaps.Clone
namespace Go.Proofs.Ytlbpeihdedhjiaa
open Go.RowKit
def layE (L : CoL) (x : List UInt8) (n : Nat) : Bool := (List.range n).any fun i => (getC L (x, i)).isSome
def layC (x : List UInt8) (h : Int) (outs : List OutT) : CoL := outs.zipIdx.map fun p => ((x, p.2), (p.1.1, p.1.2.1, h))
theorem layC_snoc (x : List UInt8) (h : Int) (outs : List OutT) (o : OutT) : layC x h (outs ++ [o]) = layC x h outs ++ [((x, outs.length), (o.1, o.2.1, h))] := by
  simp [layC, List.zipIdx_append]
theorem layC_mem {x : List UInt8} {h : Int} {outs : List OutT} {y : PtT × CoT} (hy : y ∈ layC x h outs) : y.1.1 = x ∧ y.1.2 < outs.length := by
  obtain ⟨p, hp, rfl⟩ := List.mem_map.1 hy
  refine ⟨rfl, ?_⟩
  have := List.mem_zipIdx hp
  simpa using this.2.1
theorem get_app_none {L M : CoL} {p : PtT} (h : getC L p = none) (hm : ∀ y ∈ M, y.1 ≠ p) : getC (L ++ M) p = none := by
  refine get_none fun y hy => ?_
  rcases List.mem_append.1 hy with hy | hy
  · exact get_not h y hy
  · exact hm y hy
theorem built_ptc (id : List UInt8) (ix : Nat) (h : id.length = 32) : Try.prog.built 28 [(0, .agg (bts id).toArray), (1, .int .u32 ((ix : Nat) : Int))] = some (ptC id ix).toArray := by
    match id, h with
    | [_, _, _, _, _, _, _, _, _, _, _, _, _, _, _, _, _, _, _, _, _, _, _, _, _, _, _, _, _, _, _, _], _ => (show _ = _; kernel_rfl)
theorem built_co (amt h : Int) (id : List UInt8) (hl : id.length = 32) : Try.prog.built 61 [(0, .agg (outC amt id).toArray), (1, .int .i64 h)] = some (coinC (amt, id, h)).toArray := by
    match id, hl with
    | [_, _, _, _, _, _, _, _, _, _, _, _, _, _, _, _, _, _, _, _, _, _, _, _, _, _, _, _, _, _, _, _], _ => (show _ = _; kernel_rfl)
set_option maxRecDepth 20000 in
set_option maxHeartbeats 8000000 in
set_option linter.unusedSimpArgs false in
theorem lay_any (w : World) (B gs : Nat) (p : Option Nat) (L : CoL) (gu : Nat) (U : CoL) (A1 : Option Addr) (c1 : Nat) (A2 : Option Addr) (c2 : Nat) (A A' : Option Addr) (n c n' c' : Nat) (ins : List InT) (outs : List OutT) (h : Int)
    (hsp : SpI B gs p L gu U A1 c1 A2 c2 w) (hi : insSh.rel w (fun b => b < B) [.slice A n c] ins) (ho : outsSh.rel w (fun b => b < B) [.slice A' n' c'] outs) (hn : ins.length = n) (hn' : outs.length = n') (hf : TxFit (ins, outs, ())) :
    Calls Try.prog 45 #[.pointer (some ⟨gs, 0, none⟩), .agg #[.slice A n c, .slice A' n' c'], .int .i64 h] w fun e w' => e = .returned (.int .i64 (if layE L (sha2 (txB (ins, outs, ()))) n' = true then 5 else 0)) ∧ Only (fun k => B ≤ k ∧ (k = gs ∨ p = some k)) w w' ∧
      ∃ b, SpI B gs (some b) (if layE L (sha2 (txB (ins, outs, ()))) n' = true then L else L ++ layC (sha2 (txB (ins, outs, ()))) h outs) gu U A1 c1 A2 c2 w' := by
  have hx32 : (sha2 (txB (ins, outs, ()))).length = 32 := sha_len _
  have HIDC := Lib.hid (fun W (a : Only (fun k => B ≤ k ∧ (k = gs ∨ p = some k)) w W) => tx_id_any W A A' n n' c c' ins outs (fun b => b < B) (insSh.only hi a (fun b _ h e => by have := e.1; omega)) (outsSh.only ho a (fun b _ h e => by have := e.1; omega)) hn hn' (fun b hb => Nat.lt_of_lt_of_le hb (Nat.le_trans hsp.hB a.size)) hf)
  obtain ⟨x, hx⟩ : ∃ x, sha2 (txB (ins, outs, ())) = x := ⟨_, rfl⟩
  rw [hx] at hx32 HIDC ⊢
  have HX32 := Lib.hid hx32
  obtain ⟨r, hr⟩ : ∃ r : Int, (if layE L x n' = true then (5 : Int) else 0) = r := ⟨_, rfl⟩
  obtain ⟨LL, hLL⟩ : ∃ LL : CoL, (if layE L x n' = true then L else L ++ layC x h outs) = LL := ⟨_, rfl⟩
  rw [hr, hLL]
  have HRR := Lib.hid hr
  have HLL := Lib.hid hLL
  have HSP := Lib.hid hsp
  have HO := Lib.hid (fun W (a : Only (fun k => B ≤ k ∧ (k = gs ∨ p = some k)) w W) => outsSh.only ho a (fun b _ h e => by have := e.1; omega))
  have HN := Lib.hid hn'
  have HN2 := Lib.hid (show n' ≤ 1000 by have := hf.2.1; rw [← hn']; exact this)
  have hq := fun w => run_eql_map_nil_sl (P := Try.prog) w 40 28 61 p Try.underlying40
  have HQ := Lib.hid hq
  clear hx hx32 hsp hi ho hn hn' hf hq hr hLL
  go_enter Try.func45, Try.ntmps45
  go_upto_region 1 with fail
  generalize hW : World.alloc w _ = W
  have hb : Blk W w.heap.size 39 #[.slice A n c, .slice A' n' c'] := by rw [← hW]; exact Blk.new _ _ _
  have hbl : Below w.heap.size w W := by rw [← hW]; exact (Below.refl _ _).alloc (Nat.le_refl _) _
  clear hW
  have HSZ := Lib.hid HSP.out.hB
  replace HSP := Lib.hid (HSP.out.new hbl)
  obtain ⟨q, hqq⟩ : ∃ q, w.heap.size = q := ⟨_, rfl⟩
  have HBQ := Lib.hid (show B ≤ q by have := HSZ.out; omega)
  have HBL := Lib.hid (Only.of_new hbl (fun k => B ≤ k ∧ (k = gs ∨ p = some k)))
  have HW := Lib.hid hqq
  rw [hqq] at hb ⊢
  have HB := Lib.hid hb
  clear hqq hb hbl
  have c0 := HSP.out.set.cell 0
  simp only [List.getElem?_toArray, List.getElem?_cons_zero] at c0
  have hq := HQ.out W
  go_upto_if 17 with fail
  go_cut [] (fun wc => ∃ b : Nat, Hid (SpI B gs (some b) L gu U A1 c1 A2 c2 wc) ∧ Hid (Blk wc q 39 #[.slice A n c, .slice A' n' c']) ∧ Hid (Only (fun k => B ≤ k ∧ (k = gs ∨ p = some k)) w wc) ∧ Hid (∀ k, k < w.heap.size → b = k → p = some k))
  · cases p with
    | some b =>
      clear hq
      go_wp2
      go_meet
      exact ⟨b, HSP, HB, HBL, fun k _ e => by rw [e]⟩
    | none =>
      clear hq
      have f0 := HSP.out.set.frozen 0
      have hmk : ∀ w : World, (Instr.makeMap 40 none).run Try.prog w = .ok (.map (some w.heap.size)) (w.alloc (.map #[] 0)) := fun _ => by kernel_rfl
      have hal : Below W.heap.size W (W.alloc (.map #[] 0)) := (Below.refl _ _).alloc (Nat.le_refl _) _
      have hs1 := HSP.out.new hal
      have hm1 : IsCM (W.alloc (.map #[] 0)) W.heap.size [] := IsCM.made W
      have c1' := hs1.set.cell 0
      have f1 := hs1.set.frozen 0
      simp only [List.getElem?_toArray, List.getElem?_cons_zero] at c1'
      have ho1 : Only (fun b => b = gs) (W.alloc (.map #[] 0)) ((W.alloc (.map #[] 0)).setCell ⟨gs, 0, none⟩ (.map (some W.heap.size))) := (Only.refl (fun b => b = gs) _).setCell (p := ⟨gs, 0, none⟩) (fun _ => rfl) _
      have hl0 : L = [] := HSP.out.map
      have hst : SpI B gs (some W.heap.size) L gu U A1 c1 A2 c2 ((W.alloc (.map #[] 0)).setCell ⟨gs, 0, none⟩ (.map (some W.heap.size))) := by
        refine ⟨hs1.hs, hs1.hu, Nat.le_trans hs1.hB ho1.size, hs1.set.set_ 0 _, ⟨HSP.out.hB, ?_⟩, hs1.undo.only ho1 (fun e => Blk.ne_ hs1.undo hs1.set (by decide) e), own_only hs1.r1 ho1 (fun k hk e => own_blk_ne hs1.r1 hs1.set (by decide) (by rw [hk, e])), own_only hs1.r2 ho1 (fun k hk e => own_blk_ne hs1.r2 hs1.set (by decide) (by rw [hk, e]))⟩
        rw [hl0]
        exact hm1.only ho1 (fun e => cm_blk_ne hm1 hs1.set e)
      have HST := Lib.hid hst
      have HB3 := Lib.hid (((HB.out.below hal HB.out.lt)).only ho1 (fun e => Blk.ne_ (HB.out.below hal HB.out.lt) hs1.set (by decide) e))
      have HBL3 := Lib.hid ((onew HBL.out hal).trans ho1 (fun b hb e => ⟨by rw [e]; exact hs1.hs, .inl e⟩))
      have HWS := Lib.hid HBL.out.size
      clear hal hs1 hm1 ho1 hl0 hst
      go_wp2
      go_meet
      exact ⟨_, HST, HB3, HBL3, fun k hk e => by have := HWS.out; omega⟩
  case rest =>
    clear HSP HB HBL
    obtain ⟨b, HSP, HB, HBL, HPB⟩ := hcut
    clear c0 hq HQ HSZ
    go_wp2_with (with_reducible refine wpList_ld rfl 39 (.tmp 4) rfl q 0 rfl [.slice A n c, .slice A' n' c'] HB.out.rowAll _ Try.underlying39 rfl 2 infoTx rfl ?_)
    refine (HIDC.out _ HBL.out).mono ?_
    rintro e3 w3 ⟨rfl, a3⟩
    replace HSP := Lib.hid (HSP.out.new a3)
    replace HB := Lib.hid (HB.out.below a3 HB.out.lt)
    replace HBL := Lib.hid (onew HBL.out a3)
    clear a3 HIDC
    unfold idV
    go_wp2_with (with_reducible refine wpList_stb rfl 25 (.tmp 7) (.tmp 23) rfl w3.heap.size 0 _ rfl rfl 25 _ (Blk.new w3 _ _) ?s1 ?s2 ?s3 ?_)
    case s1 => simp [HX32.out]
    case s2 => rw [infoID]; simp [HX32.out]
    case s3 => exact bts_one _
    intro w4 b4 o4
    rw [over_all _ _ (by simp [HX32.out])] at b4
    have hO4 : Below w3.heap.size w3 w4 := (((Only.refl (fun b => w3.heap.size ≤ b) w3).alloc _).trans o4 (fun b _ e => by omega)).below (Nat.le_refl _) (fun b hb h => by omega)
    have HAP := Lib.hid (HSP.out.apart (x := w3.heap.size) (Nat.le_refl _))
    replace HBL := Lib.hid (onew HBL.out hO4)
    replace HSP := Lib.hid (HSP.out.new hO4)
    replace HB := Lib.hid (HB.out.below hO4 HB.out.lt)
    have HID7 := Lib.hid b4
    obtain ⟨p7, hp7⟩ : ∃ p7, w3.heap.size = p7 := ⟨_, rfl⟩
    rw [hp7] at HID7 HAP ⊢
    clear b4 o4 hO4 hp7
    have c1' := HB.out.cell 1
    simp only [List.getElem?_toArray, List.getElem?_cons_zero, List.getElem?_cons_succ] at c1'
    go_wp2_with fail
    clear c1'
    go_loopg [27] n' (fun k v27 wr => ∃ (j : Nat), j + k = n' ∧ v27 = .int .i64 j ∧ Hid (∀ i, i < j → getC L (x, i) = none) ∧ Hid (SpI B gs (some b) L gu U A1 c1 A2 c2 wr) ∧ Hid (Blk wr q 39 #[.slice A n c, .slice A' n' c']) ∧ Hid (Blk wr p7 25 (bts x).toArray) ∧ Hid (Only (fun k => B ≤ k ∧ (k = gs ∨ p = some k)) w wr))
    case atStart => exact ⟨0, by omega, rfl, fun i hi => by omega, HSP, HB, HID7, HBL⟩
    case round =>
      clear HSP HB HID7 HBL
      obtain ⟨j, hj, rfl, HNO, HSP, HB, HID7, HBL⟩ := hrel
      by_cases hlt : j < n'
      · obtain ⟨g, hg⟩ : ∃ g, getC L (x, j) = g := ⟨_, rfl⟩
        have HG := Lib.hid hg
        have hj32 : j < 4294967296 := by have := HN2.out; omega
        have HQK := Lib.hid (show PtOk (x, j) from ⟨HX32.out, hj32⟩)
        have HGL := Lib.hid (show (orZero g).2.1.length = 32 by
          cases g with
          | none => rfl
          | some c => exact (HSP.out.map.ok _ (get_mem hg)).2.1)
        have hw32 : IntKind.u32.wrap ((j : Nat) : Int) = ((j : Nat) : Int) := by rw [IntKind.wrap_u32]; omega
        clear hg hj32
        go_wp2_with fail
        refine wp_region_held_drew (S := (fun w' => SpI B gs (some b) L gu U A1 c1 A2 c2 w' ∧ Blk w' q 39 #[.slice A n c, .slice A' n' c'] ∧ Blk w' p7 25 (bts x).toArray ∧ Only (fun k => B ≤ k ∧ (k = gs ∨ p = some k)) w w')) (by kernel_rfl) (⟨HSP.out.drew, HB.out.drew, HID7.out.drew, HBL.out.drew⟩) ?_
        intro hSw
        refine wpAnyH_take (i := 0) (oi := ⟨some 31, _, _, _, _, _⟩) (v := (.pointer (some ⟨gs, 0, none⟩))) rfl (by kernel_rfl) (by kernel_rfl) (by kernel_rfl) (fun _ _ _ h => h) (Or.inl ⟨by rfl, ?_⟩) hSw ?_
        · intro w' hSw'
          have c0 := hSw'.1.set.cell 0
          simp only [List.getElem?_toArray, List.getElem?_cons_zero] at c0
          have k1 := ma_look hSw'.1.map x j HQK.out
          rw [HG.out] at k1
          go_simp
        simp only [Act.put, List.setIfInBounds_toArray, List.set_cons_zero, List.set_cons_succ]
        refine wpAnyH_take (i := 1) (oi := ⟨some 32, _, _, _, _, _⟩) (v := (.pointer (some ⟨gs, 0, none⟩))) rfl (by kernel_rfl) (by kernel_rfl) (by kernel_rfl) (fun _ _ _ h => h) (Or.inl ⟨by rfl, ?_⟩) hSw ?_
        · intro w' hSw'
          have c0 := hSw'.1.set.cell 0
          simp only [List.getElem?_toArray, List.getElem?_cons_zero] at c0
          have k1 := ma_look hSw'.1.map x j HQK.out
          rw [HG.out] at k1
          go_simp
        simp only [Act.put, List.setIfInBounds_toArray, List.set_cons_zero, List.set_cons_succ]
        refine wpAnyH_take (i := 2) (oi := ⟨some 33, _, _, _, _, _⟩) (v := (.pointer (some ⟨gs, 0, none⟩))) rfl (by kernel_rfl) (by kernel_rfl) (by kernel_rfl) (fun _ _ _ h => h) (Or.inl ⟨by rfl, ?_⟩) hSw ?_
        · intro w' hSw'
          have c0 := hSw'.1.set.cell 0
          simp only [List.getElem?_toArray, List.getElem?_cons_zero] at c0
          have k1 := ma_look hSw'.1.map x j HQK.out
          rw [HG.out] at k1
          go_simp
        simp only [Act.put, List.setIfInBounds_toArray, List.set_cons_zero, List.set_cons_succ]
        refine wpAnyH_take (i := 3) (oi := ⟨some 34, _, _, _, _, _⟩) (v := (.map (some b))) rfl (by kernel_rfl) (by kernel_rfl) (by kernel_rfl) (fun _ _ _ h => h) (Or.inl ⟨by rfl, ?_⟩) hSw ?_
        · intro w' hSw'
          have c0 := hSw'.1.set.cell 0
          simp only [List.getElem?_toArray, List.getElem?_cons_zero] at c0
          have k1 := ma_look hSw'.1.map x j HQK.out
          rw [HG.out] at k1
          go_simp
        simp only [Act.put, List.setIfInBounds_toArray, List.set_cons_zero, List.set_cons_succ]
        refine wpAnyH_take (i := 4) (oi := ⟨some 35, _, _, _, _, _⟩) (v := .agg (bts x).toArray) rfl (by kernel_rfl) (by kernel_rfl) (by kernel_rfl) (fun _ _ _ h => h) (yieldsIf_load_mid (by rfl) _ _ rfl p7 (0) rfl (bts x) _ (fun _ h => h.2.2.1.rowAll) Try.underlying25 rfl (by rw [bts_length, HX32.out]; exact infoID)) hSw ?_
        simp only [Act.put, List.setIfInBounds_toArray, List.set_cons_zero, List.set_cons_succ]
        refine wpAnyH_take (i := 5) (oi := ⟨some 36, _, _, _, _, _⟩) (v := (.int .i64 (j : Int))) rfl (by kernel_rfl) (by kernel_rfl) (by kernel_rfl) (fun _ _ _ h => h) (Or.inl ⟨by rfl, ?_⟩) hSw ?_
        · intro w' hSw'
          have c0 := hSw'.1.set.cell 0
          simp only [List.getElem?_toArray, List.getElem?_cons_zero] at c0
          have k1 := ma_look hSw'.1.map x j HQK.out
          rw [HG.out] at k1
          go_simp
        simp only [Act.put, List.setIfInBounds_toArray, List.set_cons_zero, List.set_cons_succ]
        refine wpAnyH_take (i := 6) (oi := ⟨some 37, _, _, _, _, _⟩) (v := (.int .u32 (j : Int))) rfl (by kernel_rfl) (by kernel_rfl) (by kernel_rfl) (fun _ _ _ h => h) (Or.inl ⟨by rfl, ?_⟩) hSw ?_
        · intro w' hSw'
          have c0 := hSw'.1.set.cell 0
          simp only [List.getElem?_toArray, List.getElem?_cons_zero] at c0
          have k1 := ma_look hSw'.1.map x j HQK.out
          rw [HG.out] at k1
          go_simp
        simp only [Act.put, List.setIfInBounds_toArray, List.set_cons_zero, List.set_cons_succ]
        refine wpAnyH_take (i := 7) (oi := ⟨some 38, _, _, _, _, _⟩) (v := (.agg (ptC x j).toArray)) rfl (by kernel_rfl) (by kernel_rfl) (by kernel_rfl) (fun _ _ _ h => h) (Or.inl ⟨by rfl, ?_⟩) hSw ?_
        · intro w' hSw'
          exact exec_buildc rfl (by simp [Act.eval]) (built_ptc x j HX32.out)
        simp only [Act.put, List.setIfInBounds_toArray, List.set_cons_zero, List.set_cons_succ]
        refine wpAnyH_take (i := 8) (oi := ⟨some 39, _, _, _, _, _⟩) (v := (.tuple #[.agg (coinC (orZero g)).toArray, .bool g.isSome])) rfl (by kernel_rfl) (by kernel_rfl) (by kernel_rfl) (fun _ _ _ h => h) (Or.inl ⟨by rfl, ?_⟩) hSw ?_
        · intro w' hSw'
          have c0 := hSw'.1.set.cell 0
          simp only [List.getElem?_toArray, List.getElem?_cons_zero] at c0
          have k1 := ma_look hSw'.1.map x j HQK.out
          rw [HG.out] at k1
          go_simp
        simp only [Act.put, List.setIfInBounds_toArray, List.set_cons_zero, List.set_cons_succ]
        refine wpAnyH_take (i := 9) (oi := ⟨some 30, _, _, _, _, _⟩) (v := (.tuple #[.agg (coinC (orZero g)).toArray, .bool g.isSome])) rfl (by kernel_rfl) (by kernel_rfl) (by kernel_rfl) (fun _ _ _ h => h) (Or.inl ⟨by rfl, ?_⟩) hSw ?_
        · intro w' hSw'
          have c0 := hSw'.1.set.cell 0
          simp only [List.getElem?_toArray, List.getElem?_cons_zero] at c0
          have k1 := ma_look hSw'.1.map x j HQK.out
          rw [HG.out] at k1
          go_simp
        simp only [Act.put, List.setIfInBounds_toArray, List.set_cons_zero, List.set_cons_succ]
        refine wpAnyH_take (i := 10) (oi := ⟨some 40, _, _, _, _, _⟩) (v := (.agg (coinC (orZero g)).toArray)) rfl (by kernel_rfl) (by kernel_rfl) (by kernel_rfl) (fun _ _ _ h => h) (Or.inl ⟨by rfl, ?_⟩) hSw ?_
        · intro w' hSw'
          have c0 := hSw'.1.set.cell 0
          simp only [List.getElem?_toArray, List.getElem?_cons_zero] at c0
          have k1 := ma_look hSw'.1.map x j HQK.out
          rw [HG.out] at k1
          go_simp
        simp only [Act.put, List.setIfInBounds_toArray, List.set_cons_zero, List.set_cons_succ]
        refine wpAnyH_take (i := 11) (oi := ⟨some 41, _, _, _, _, _⟩) (v := (.bool g.isSome)) rfl (by kernel_rfl) (by kernel_rfl) (by kernel_rfl) (fun _ _ _ h => h) (Or.inl ⟨by rfl, ?_⟩) hSw ?_
        · intro w' hSw'
          have c0 := hSw'.1.set.cell 0
          simp only [List.getElem?_toArray, List.getElem?_cons_zero] at c0
          have k1 := ma_look hSw'.1.map x j HQK.out
          rw [HG.out] at k1
          go_simp
        simp only [Act.put, List.setIfInBounds_toArray, List.set_cons_zero, List.set_cons_succ]
        refine wpAnyH_ready (rs := [12]) (by kernel_rfl) (by simp) (AllReadyH.cons (o := ⟨some 9, _, _, _, _, _⟩) rfl (fun K hK => ?_) AllReadyH.nil)
        refine step_newc (by rfl) (.cells (coinC zeroCo).toArray 61) (fun N => .pointer (some ⟨N, 0, none⟩)) (by show _ = _; kernel_rfl) ?_
        intro p11 wn11 hN11 hw11 a11
        have H11 := Lib.hid (show Blk wn11 p11 61 (coinC zeroCo).toArray by rw [hN11, hw11]; exact Blk.new _ _ _)
        have HN11 := Lib.hid (And.intro (hSw.1.apart (x := p11) (by omega)) (show q ≠ p11 ∧ p7 ≠ p11 ∧ w.heap.size ≤ p11 by have h3 := hSw.2.1.lt; have h4 := hSw.2.2.1.lt; have := hSw.2.2.2.size; omega))
        clear hN11 hw11
        refine hK.out _ _ (⟨hSw.1.new a11, hSw.2.1.below a11 hSw.2.1.lt, hSw.2.2.1.below a11 hSw.2.2.1.lt, onew hSw.2.2.2 a11⟩) ?_
        intro hSw
        clear hK K
        try simp only [Act.put, List.setIfInBounds_toArray, List.set_cons_zero, List.set_cons_succ]
        refine wpAnyH_ready (rs := [13]) (by kernel_rfl) (by simp) (AllReadyH.cons (o := ⟨none, _, _, _, _, _⟩) rfl (fun K hK => ?_) AllReadyH.nil)
        refine step_stbc rfl 61 (.tmp 9) (.tmp 40) rfl p11 0 _ rfl rfl 61 (coinC zeroCo) H11.out (by simp [coinC_len _ HGL.out]; decide) (by rw [infoCo]; simp [coinC_len _ HGL.out]) (coinC_one _) ?_
        intro w5 b5 o5
        have hap := HN11.out.1
        have hpp := HN11.out.2
        have hB5 := hSw.1.hB
        clear H11 b5
        refine hK.out _ _ (⟨hSw.1.other o5 hap.s hap.u hap.m hap.o1 hap.o2, hSw.2.1.only o5 hpp.1, hSw.2.2.1.only o5 hpp.2.1, hSw.2.2.2.trans o5 (fun b hb e => by omega)⟩) ?_
        intro hSw
        clear hK K
        try simp only [Act.put, List.setIfInBounds_toArray, List.set_cons_zero, List.set_cons_succ]
        refine wpAnyH_take (i := 14) (oi := ⟨some 10, _, _, _, _, _⟩) (v := (.bool g.isSome)) rfl (by kernel_rfl) (by kernel_rfl) (by kernel_rfl) (fun _ _ _ h => h) (Or.inl ⟨by rfl, ?_⟩) hSw ?_
        · intro w' hSw'
          have c0 := hSw'.1.set.cell 0
          simp only [List.getElem?_toArray, List.getElem?_cons_zero] at c0
          have k1 := ma_look hSw'.1.map x j HQK.out
          rw [HG.out] at k1
          go_simp
        simp only [Act.put, List.setIfInBounds_toArray, List.set_cons_zero, List.set_cons_succ]
        refine wpAnyH_done (by kernel_rfl) ?_ _
        have HSP5 := Lib.hid hSw.1
        have HB5 := Lib.hid hSw.2.1
        have HI5 := Lib.hid hSw.2.2.1
        have HBL5 := Lib.hid hSw.2.2.2
        clear HSP HB HBL HID7 hSw a11 o5 hap hpp hB5 hw32
        cases g with
        | some co =>
          have hE : layE L x n' = true := List.any_eq_true.2 ⟨j, List.mem_range.2 hlt, by rw [HG.out]; rfl⟩
          go_wp2
          go_ret
          have h1 := HRR.out
          have h2 := HLL.out
          rw [if_pos hE] at h1 h2
          subst h1 h2
          exact ⟨rfl, HBL5.out, b, HSP5.out⟩
        | none =>
          have hno : ∀ i, i < j + 1 → getC L (x, i) = none := fun i hi => by
            rcases Nat.lt_or_ge i j with h | h
            · exact HNO.out i h
            · obtain rfl : i = j := by omega
              exact HG.out
          have HNO2 := Lib.hid hno
          have hn2 := HN2.out
          clear hno
          go_wp2
          go_roundg (n' - 1 - j)
          case measure => omega
          case rel => exact ⟨j + 1, by omega, by first | rfl | (rw [IntWalk.wrap64_in _ (by omega)]; rfl), HNO2.out, HSP5.out, HB5.out, HI5.out, HBL5.out⟩
      · obtain rfl : j = n' := by omega
        have hE : layE L x j = false := by
          rw [layE, List.any_eq_false]
          intro i hi
          rw [HNO.out i (List.mem_range.1 hi)]
          simp
        have HE := Lib.hid hE
        clear hE
        have c1' := HB.out.cell 1
        simp only [List.getElem?_toArray, List.getElem?_cons_zero, List.getElem?_cons_succ] at c1'
        go_wp2_with fail
        clear c1'
        go_loopg [47] j (fun k v47 wr => ∃ (i : Nat), i + k = j ∧ v47 = .int .i64 i ∧ Hid (SpI B gs (some b) (L ++ layC x h (outs.take i)) gu U A1 c1 A2 c2 wr) ∧ Hid (Blk wr p7 25 (bts x).toArray) ∧ Hid (Only (fun k => B ≤ k ∧ (k = gs ∨ p = some k)) w wr))
        case atStart => exact ⟨0, by omega, rfl, by simpa [Hid, layC] using HSP.out, HID7, HBL⟩
        case round =>
          clear HSP HB HID7 HBL
          obtain ⟨i, hi, rfl, HSP, HID7, HBL⟩ := hrel
          by_cases hlt2 : i < j
          · obtain ⟨bo, oo, amt, lock, rfl, hbo, hij, hrow, hlk, ham0, ham1⟩ := outs_at (HO.out _ HBL.out) (by rw [HN.out]; exact hlt2)
            have HROW := Lib.hid hrow
            have HLK := Lib.hid hlk
            have HAM := Lib.hid (And.intro ham0 ham1)
            have HIJ := Lib.hid hij
            clear hrow hlk ham0 ham1 hij hbo
            go_wp2_with (first
              | (with_reducible refine wpList_ld rfl 36 (.tmp 50) rfl bo (oo + i * 33) rfl (outC amt lock) HROW.out _ Try.underlying36 rfl 33 infoOut (by simp [outC_len _ _ HLK.out]) ?_)
              | (with_reducible refine wpList_stb rfl 36 (.tmp 12) (.tmp 51) rfl wr.heap.size 0 _ rfl rfl 36 _ (Blk.new wr _ _) ?e6a ?e6b ?e6c ?_))
            case e6a => simp [outC_len _ _ HLK.out]
            case e6b => rw [infoOut]; simp [outC_len _ _ HLK.out]
            case e6c => exact outC_one _ _
            intro w6 b6 o6
            rw [over_all _ _ (by simp [outC_len _ _ HLK.out])] at b6
            have hO6 : Below wr.heap.size wr w6 := (((Only.refl (fun b => wr.heap.size ≤ b) wr).alloc _).trans o6 (fun b _ e => by omega)).below (Nat.le_refl _) (fun b hb h => by omega)
            have HB6 := Lib.hid (onew HBL.out hO6)
            have HSP6 := Lib.hid (HSP.out.new hO6)
            have HI6 := Lib.hid (HID7.out.below hO6 HID7.out.lt)
            have HP := Lib.hid b6
            obtain ⟨p12, hp12⟩ : ∃ p12, wr.heap.size = p12 := ⟨_, rfl⟩
            rw [hp12] at HP ⊢
            clear b6 o6 hO6 hp12 HROW HSP HID7
            have hj32 : i < 4294967296 := by have := HN2.out; omega
            have HQK := Lib.hid (show PtOk (x, i) from ⟨HX32.out, hj32⟩)
            have hw32 : IntKind.u32.wrap ((i : Nat) : Int) = ((i : Nat) : Int) := by rw [IntKind.wrap_u32]; omega
            have hgn : getC (L ++ layC x h (outs.take i)) (x, i) = none := get_app_none (HNO.out i hlt2) (fun y hy e => by
              have := (layC_mem hy).2
              rw [e, List.length_take] at this
              simp only at this
              omega)
            have HGN := Lib.hid hgn
            clear hgn hj32
            go_wp2_with fail
            have HS9 := Lib.hid HSP6.out.drew
            have HB9 := Lib.hid HB6.out.drew
            have HI9 := Lib.hid HI6.out.drew
            refine wp_region_held_drew (S := (fun w' => Blk w' gs 42 [Value.map (some b)].toArray ∧ Blk w' p7 25 (bts x).toArray ∧ Blk w' p12 36 (outC amt lock).toArray)) (by kernel_rfl) (⟨HSP6.out.drew.set, HI6.out.drew, HP.out.drew⟩) ?_
            intro hSw
            refine wpAnyH_take (i := 0) (oi := ⟨some 52, _, _, _, _, _⟩) (v := (.pointer (some ⟨gs, 0, none⟩))) rfl (by kernel_rfl) (by kernel_rfl) (by kernel_rfl) (fun _ _ _ h => h) (Or.inl ⟨by rfl, ?_⟩) hSw ?_
            · intro w' hSw'
              have c0 := hSw'.1.cell 0
              simp only [List.getElem?_toArray, List.getElem?_cons_zero] at c0
              go_simp
            simp only [Act.put, List.setIfInBounds_toArray, List.set_cons_zero, List.set_cons_succ]
            refine wpAnyH_take (i := 1) (oi := ⟨some 53, _, _, _, _, _⟩) (v := (.pointer (some ⟨gs, 0, none⟩))) rfl (by kernel_rfl) (by kernel_rfl) (by kernel_rfl) (fun _ _ _ h => h) (Or.inl ⟨by rfl, ?_⟩) hSw ?_
            · intro w' hSw'
              have c0 := hSw'.1.cell 0
              simp only [List.getElem?_toArray, List.getElem?_cons_zero] at c0
              go_simp
            simp only [Act.put, List.setIfInBounds_toArray, List.set_cons_zero, List.set_cons_succ]
            refine wpAnyH_take (i := 2) (oi := ⟨some 54, _, _, _, _, _⟩) (v := (.pointer (some ⟨gs, 0, none⟩))) rfl (by kernel_rfl) (by kernel_rfl) (by kernel_rfl) (fun _ _ _ h => h) (Or.inl ⟨by rfl, ?_⟩) hSw ?_
            · intro w' hSw'
              have c0 := hSw'.1.cell 0
              simp only [List.getElem?_toArray, List.getElem?_cons_zero] at c0
              go_simp
            simp only [Act.put, List.setIfInBounds_toArray, List.set_cons_zero, List.set_cons_succ]
            refine wpAnyH_take (i := 3) (oi := ⟨some 55, _, _, _, _, _⟩) (v := (.map (some b))) rfl (by kernel_rfl) (by kernel_rfl) (by kernel_rfl) (fun _ _ _ h => h) (Or.inl ⟨by rfl, ?_⟩) hSw ?_
            · intro w' hSw'
              have c0 := hSw'.1.cell 0
              simp only [List.getElem?_toArray, List.getElem?_cons_zero] at c0
              go_simp
            simp only [Act.put, List.setIfInBounds_toArray, List.set_cons_zero, List.set_cons_succ]
            refine wpAnyH_take (i := 4) (oi := ⟨some 56, _, _, _, _, _⟩) (v := .agg (bts x).toArray) rfl (by kernel_rfl) (by kernel_rfl) (by kernel_rfl) (fun _ _ _ h => h) (yieldsIf_load_mid (by rfl) _ _ rfl p7 (0) rfl (bts x) _ (fun _ h => h.2.1.rowAll) Try.underlying25 rfl (by rw [bts_length, HX32.out]; exact infoID)) hSw ?_
            simp only [Act.put, List.setIfInBounds_toArray, List.set_cons_zero, List.set_cons_succ]
            refine wpAnyH_take (i := 5) (oi := ⟨some 57, _, _, _, _, _⟩) (v := (.int .i64 (i : Int))) rfl (by kernel_rfl) (by kernel_rfl) (by kernel_rfl) (fun _ _ _ h => h) (Or.inl ⟨by rfl, ?_⟩) hSw ?_
            · intro w' hSw'
              have c0 := hSw'.1.cell 0
              simp only [List.getElem?_toArray, List.getElem?_cons_zero] at c0
              go_simp
            simp only [Act.put, List.setIfInBounds_toArray, List.set_cons_zero, List.set_cons_succ]
            refine wpAnyH_take (i := 6) (oi := ⟨some 58, _, _, _, _, _⟩) (v := (.int .u32 (i : Int))) rfl (by kernel_rfl) (by kernel_rfl) (by kernel_rfl) (fun _ _ _ h => h) (Or.inl ⟨by rfl, ?_⟩) hSw ?_
            · intro w' hSw'
              have c0 := hSw'.1.cell 0
              simp only [List.getElem?_toArray, List.getElem?_cons_zero] at c0
              go_simp
            simp only [Act.put, List.setIfInBounds_toArray, List.set_cons_zero, List.set_cons_succ]
            refine wpAnyH_take (i := 7) (oi := ⟨some 59, _, _, _, _, _⟩) (v := (.agg (ptC x i).toArray)) rfl (by kernel_rfl) (by kernel_rfl) (by kernel_rfl) (fun _ _ _ h => h) (Or.inl ⟨by rfl, ?_⟩) hSw ?_
            · intro w' hSw'
              exact exec_buildc rfl (by simp [Act.eval]) (built_ptc x i HX32.out)
            simp only [Act.put, List.setIfInBounds_toArray, List.set_cons_zero, List.set_cons_succ]
            refine wpAnyH_take (i := 8) (oi := ⟨some 60, _, _, _, _, _⟩) (v := .agg (outC amt lock).toArray) rfl (by kernel_rfl) (by kernel_rfl) (by kernel_rfl) (fun _ _ _ h => h) (yieldsIf_load_mid (by rfl) _ _ rfl p12 (0) rfl (outC amt lock) _ (fun _ h => h.2.2.rowAll) Try.underlying36 rfl (by rw [outC_len _ _ HLK.out]; exact infoOut)) hSw ?_
            simp only [Act.put, List.setIfInBounds_toArray, List.set_cons_zero, List.set_cons_succ]
            refine wpAnyH_take (i := 9) (oi := ⟨some 61, _, _, _, _, _⟩) (v := (.int .i64 h)) rfl (by kernel_rfl) (by kernel_rfl) (by kernel_rfl) (fun _ _ _ h => h) (Or.inl ⟨by rfl, ?_⟩) hSw ?_
            · intro w' hSw'
              have c0 := hSw'.1.cell 0
              simp only [List.getElem?_toArray, List.getElem?_cons_zero] at c0
              go_simp
            simp only [Act.put, List.setIfInBounds_toArray, List.set_cons_zero, List.set_cons_succ]
            refine wpAnyH_take (i := 10) (oi := ⟨some 62, _, _, _, _, _⟩) (v := (.agg (coinC (amt, lock, h)).toArray)) rfl (by kernel_rfl) (by kernel_rfl) (by kernel_rfl) (fun _ _ _ h => h) (Or.inl ⟨by rfl, ?_⟩) hSw ?_
            · intro w' hSw'
              exact exec_buildc rfl (by simp [Act.eval]) (built_co amt h lock HLK.out)
            simp only [Act.put, List.setIfInBounds_toArray, List.set_cons_zero, List.set_cons_succ]
            refine wpAnyH_ready (rs := [11]) (by kernel_rfl) (by simp) (AllReadyH.cons (o := ⟨none, _, _, _, _, _⟩) rfl (fun K hK => ?_) AllReadyH.nil)
            obtain ⟨w7, hput, hcm, ho7⟩ := cm_put HS9.out.map.2 (x, i) (amt, lock, h) HQK.out ⟨HLK.out, HAM.out⟩ HGN.out
            unfold pV ptV coinV at hput
            have hbn := HS9.out.map.2
            have hbm := HS9.out.map.1
            have HSP7 := Lib.hid (HS9.out.mapped hcm ho7)
            have HI7 := Lib.hid (HI9.out.only ho7 (fun e => cm_blk_ne hbn HI9.out e.symm))
            have HP7 := Lib.hid (hSw.2.2.only ho7 (fun e => cm_blk_ne hbn hSw.2.2 e.symm))
            have HB7 := Lib.hid (HB9.out.trans ho7 (fun k hk e => ⟨by rw [e]; exact hbm, .inr (HPB.out k hk e.symm)⟩))
            clear HS9 HB9 HI9 hcm ho7 hbn hbm HSP6 HB6 HI6 HP
            go_simp
            clear hput
            refine hK.out _ _ (⟨HSP7.out.set, HI7.out, HP7.out⟩) ?_
            intro hSw
            clear hK K
            try simp only [Act.put, List.setIfInBounds_toArray, List.set_cons_zero, List.set_cons_succ]
            refine wpAnyH_done (by kernel_rfl) ?_ _
            clear hSw hw32
            have HSP8 := Lib.hid (show SpI B gs (some b) (L ++ layC x h (outs.take (i + 1))) gu U A1 c1 A2 c2 w7 by
              have := HSP7.out
              rw [take_snoc' outs i (by rw [HN.out]; exact hlt2), layC_snoc, HIJ.out, List.length_take, Nat.min_eq_left (by rw [HN.out]; omega), ← List.append_assoc]
              exact this)
            have hn2 := HN2.out
            clear HSP7
            go_wp2
            go_roundg (j - 1 - i)
            case measure => omega
            case rel => exact ⟨i + 1, by omega, by first | rfl | (rw [IntWalk.wrap64_in _ (by omega)]; rfl), HSP8.out, HI7.out, HB7.out⟩
          · obtain rfl : i = j := by omega
            go_wp2
            go_ret
            have h1 := HRR.out
            have h2 := HLL.out
            rw [if_neg (by rw [HE.out]; decide)] at h1 h2
            subst h1 h2
            exact ⟨rfl, HBL.out, b, by have := HSP.out; rwa [List.take_of_length_le (by rw [HN.out]; exact Nat.le_refl _)] at this⟩
end Go.Proofs.Ytlbpeihdedhjiaa
