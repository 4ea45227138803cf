/- TxReads, walked. -/
import Derived.Test.YtpcombaecbjmfaaAw
import Derived.Test.YtpcombaecbjmfaaRn
namespace Go.Proofs.Ytpcombaecbjmfaa
open Go.RowKit
theorem mem_flat_le {α : Type} {f : α → List UInt8} {x : α} {l : List α} (h : x ∈ l) : (f x).length ≤ (l.flatMap f).length := by
  induction l with
  | nil => cases h
  | cons y l ih =>
    rw [List.flatMap_cons, List.length_append]
    rcases List.mem_cons.1 h with rfl | h
    · omega
    · have := ih h; omega
/-- what is read of bytes that are a transaction -/
theorem txG_ok {l : List UInt8} (h : txE l = 0) : txB (txG l) = l ∧ (txG l).1.length ≤ 32 ∧ (txG l).2.1.length ≤ 32 := by
  have e : txG l = (txR (l, 0)).1 := by rw [txG, if_pos h]
  refine ⟨by rw [e]; exact (txE_zero h).symm, ?_, ?_⟩
  · rw [e]
    simp only [txR, txI, many_len]
    exact cnt_le _ _
  · rw [e]
    simp only [txR, txO, many_len]
    exact cnt_le _ _
theorem key_le {t : TxT} {i : InT} (h : i ∈ t.1) : i.2.1.length ≤ (txB t).length := by
  have h1 := mem_flat_le (f := inB) h
  have h2 : i.2.1.length ≤ (inB i).length := by simp only [inB, List.length_append]; omega
  simp only [txB, List.length_append]
  omega
theorem txG_fit {l : List UInt8} (h : txE l = 0) (hl : l.length ≤ 10000) : TxFit (txG l) := by
  obtain ⟨h1, h2, h3⟩ := txG_ok h
  refine ⟨by omega, by omega, fun i hi => ?_⟩
  have := key_le hi
  rw [h1] at this
  omega
theorem txG_no {l : List UInt8} (h : ¬ txE l = 0) : txG l = ([], [], ()) := by rw [txG, if_neg h]
theorem ins_n {w : World} {ok : Nat → Prop} {A : Option Addr} {n c : Nat} {l : List InT} (h : insSh.rel w ok [.slice A n c] l) : n = l.length := by
  obtain ⟨_, h1, _⟩ := shSlice_open h; exact h1.symm
theorem outs_n {w : World} {ok : Nat → Prop} {A : Option Addr} {n c : Nat} {l : List OutT} (h : outsSh.rel w ok [.slice A n c] l) : n = l.length := by
  obtain ⟨_, h1, _⟩ := shSlice_open h; exact h1.symm
set_option maxRecDepth 20000 in
set_option maxHeartbeats 4000000 in
set_option linter.unusedSimpArgs false in
theorem txReads_any (w : World) (v : Value) (l : List UInt8) (hv : IsB w (fun b => b < w.heap.size) v l) :
    Calls Try.prog 4 #[v] w fun e w' => e = .returned (.bool true) ∧ Below w.heap.size w w' := by
  obtain ⟨Av, nv, cv, rfl, hn, hc, hs⟩ := hv
  have HV := Lib.hid (show IsB w (fun b => b < w.heap.size) (.slice Av nv cv) l from ⟨Av, nv, cv, rfl, hn, hc, hs⟩)
  clear hs hc
  go_enter Try.func4, Try.ntmps4
  go_wp2_with fail
  refine (writes7_any w).mono ?_
  rintro e1 w1 ⟨rfl, a1⟩
  replace HV := Lib.hid (IsB.only HV.out (Only.of_below a1) (fun b _ h hk => by omega))
  have HBL := Lib.hid a1
  clear a1
  by_cases hbig : 5000 < nv
  · have d1 : decide ((5000 : Int) < (nv : Int)) = true := by simp; omega
    clear hbig hn
    go_wp2
    go_ret
    exact ⟨rfl, HBL.out⟩
  have d1 : decide ((5000 : Int) < (nv : Int)) = false := by simp; omega
  have HL := Lib.hid (show l.length ≤ 5000 by omega)
  clear hbig hn
  go_wp2_with fail
  clear d1
  refine (tx_Read_any w1 _ _ _ HV.out (by have := HL.out; omega)).mono ?_
  rintro e2 w2 ⟨A2, n2, c2, A3, n3, c3, rfl, r1, r2, hn2, hn3, a2⟩
  have HI := Lib.hid r1
  have HO := Lib.hid r2
  replace HV := Lib.hid (IsB.only HV.out (Only.of_below a2) (fun b _ h hk => by have := HBL.out.size; omega))
  replace HBL := Lib.hid (HBL.out.trans (a2.mono HBL.out.size))
  clear r1 r2 hn2 hn3 a2
  obtain ⟨E, hE⟩ : ∃ E, txE l = E := ⟨_, rfl⟩
  rw [hE]
  have HE := Lib.hid hE
  clear hE
  go_wp2_with (with_reducible refine wpList_stb rfl 25 (.tmp 3) (.tmp 13) rfl w2.heap.size 0 _ rfl rfl 25 _ (Blk.new w2 _ _) ?h1 ?h2 ?h3 ?_)
  case h1 => simp
  case h2 => rw [infoTx7]; rfl
  case h3 => exact ⟨rfl, rfl⟩
  intro w4 b4 o4
  rw [over_all _ _ (by simp)] at b4
  have hO4 : Below w2.heap.size w2 w4 := (((Only.refl (fun b => w2.heap.size ≤ b) w2).alloc _).trans o4 (fun b _ e => by omega)).below (Nat.le_refl _) (fun b hb h => by omega)
  replace HI := Lib.hid (insSh.only HI.out (Only.of_below hO4) (fun b hb _ hk => by omega))
  replace HO := Lib.hid (outsSh.only HO.out (Only.of_below hO4) (fun b hb _ hk => by omega))
  replace HV := Lib.hid (IsB.only HV.out (Only.of_below hO4) (fun b _ h hk => by have := HBL.out.size; omega))
  have U4 := Lib.hid b4
  obtain ⟨u, hu⟩ : ∃ u, w2.heap.size = u := ⟨_, rfl⟩
  have HU := Lib.hid (show w.heap.size ≤ u by have := HBL.out.size; omega)
  replace HBL := Lib.hid (HBL.out.trans (hO4.mono HBL.out.size))
  rw [hu] at U4 ⊢
  clear hu b4 o4 hO4
  have c0 := U4.out.cell 0
  have c1 := U4.out.cell 1
  simp only [List.getElem?_toArray, List.getElem?_cons_zero, List.getElem?_cons_succ] at c0 c1
  have hst := IsB.str HV.out (P := Try.prog) (src := 28) (dst := 9) Try.underlying28 Try.underlying5 Try.underlying9
  go_wp2_with fail
  clear hst c0 c1
  have RD := reads07_any l w4 (by have := HL.out; omega)
  rw [HE.out] at RD
  refine RD.mono ?_
  rintro e5 w5 ⟨rfl, a5⟩
  replace U4 := Lib.hid (U4.out.below a5 U4.out.lt)
  replace HI := Lib.hid (insSh.below HI.out a5 (fun _ h _ => h))
  replace HO := Lib.hid (outsSh.below HO.out a5 (fun _ h _ => h))
  replace HV := Lib.hid (IsB.only HV.out (Only.of_below a5) (fun b _ h hk => by have := HBL.out.size; omega))
  replace HBL := Lib.hid (HBL.out.trans (a5.mono HBL.out.size))
  clear RD a5
  have c0 := U4.out.cell 0
  have c1 := U4.out.cell 1
  simp only [List.getElem?_toArray, List.getElem?_cons_zero, List.getElem?_cons_succ] at c0 c1
  have d2 : (E != E) = false := by simp
  by_cases he : E = 0
  · have d3 : (E != 0) = false := by simpa using he
    have HG := Lib.hid (txG_ok (HE.out.trans he))
    have HF := Lib.hid (txG_fit (HE.out.trans he) (by have := HL.out; omega))
    clear he
    go_upto_region 10 with fail
    clear d2 d3
    generalize hT : txG l = T at HI HO HG HF
    clear hT
    obtain ⟨ins, outs, un⟩ := T
    have hn2 := ins_n HI.out
    have hn3 := outs_n HO.out
    have HVd := Lib.hid (show IsB w5.drew (fun b => b < w.heap.size) (.slice Av nv cv) l from HV.out)
    have hst := IsB.str HVd.out (P := Try.prog) (src := 28) (dst := 9) Try.underlying28 Try.underlying5 Try.underlying9
    have BC := Lib.hid (tx_bytes_any w5.drew A2 A3 n2 n3 c2 c3 ins outs (fun b => w1.heap.size ≤ b ∧ b < w5.heap.size) (weak_slice weak_in3 _ _ _ _ _ HI.out (fun b hb h => ⟨h, hb⟩)) (weak_slice weak_out3 _ _ _ _ _ HO.out (fun b hb h => ⟨h, hb⟩)) hn2.symm hn3.symm (fun b h => h.2) HF.out)
    clear hn2 hn3
    have c0 := U4.out.drew.cell 0
    have c1 := U4.out.drew.cell 1
    simp only [List.getElem?_toArray, List.getElem?_cons_zero, List.getElem?_cons_succ] at c0 c1
    go_region_with (go_at_call 13; refine BC.out.mono ?_; rintro e6 w6 ⟨A6, n6, c6, rfl, hn6, a6, o6⟩; clear hn6; rw [HG.out.1] at o6; have hs6 := (IsB.of_own o6).str (P := Try.prog) (src := 28) (dst := 9) Try.underlying28 Try.underlying5 Try.underlying9; have hs7 := IsB.str (IsB.only HVd.out (Only.of_below a6) (fun b hb h hk => by omega)) (P := Try.prog) (src := 28) (dst := 9) Try.underlying28 Try.underlying5 Try.underlying9; have G1 := Lib.hid a6; clear a6 o6)
    all_goals
      go_wp2
      go_ret
      exact ⟨rfl, HBL.out.drew.trans (G1.out.mono HBL.out.drew.size)⟩
  · have d3 : (E != 0) = true := by simpa using he
    have hG := txG_no (fun h => he (HE.out.symm.trans h))
    rw [hG] at HI HO
    obtain rfl := ins_n HI.out
    obtain rfl := outs_n HO.out
    clear he hG
    go_wp2
    go_ret
    exact ⟨rfl, HBL.out⟩
end Go.Proofs.Ytpcombaecbjmfaa
