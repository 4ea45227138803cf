/- TxOwn, walked. -/
import Derived.Test.YtpcombaecbjmfaaSa
import Derived.Test.YtpcombaecbjmfaaSm
import Derived.Test.YtpcombaecbjmfaaTrd
namespace Go.Proofs.Ytpcombaecbjmfaa
open Go.RowKit
theorem byte_up (x : UInt8) : Value.int .u8 (((x.toNat : Int) + 1) % 256) = Bt (x + 1) := by
  unfold Bt
  rw [UInt8.toNat_add]
  rfl
theorem bts_set (l : List UInt8) (j : Nat) (x : UInt8) : (bts l).set j (Bt x) = bts (l.set j x) := by simp [bts, List.map_set]
/-- a byte of an own row is turned -/
theorem own_up {w : World} {base n c : Nat} {A : Option Addr} {l : List UInt8} {j : Nat} (h : w.ownsRow base 5 1 (.slice A n c) n (bts l)) (hj : j < n) :
    ∃ g x, A = some ⟨g, 0, none⟩ ∧ w.cell? ⟨g, j, none⟩ = some (.int .u8 (x.toNat : Int)) ∧ w.frozen? ⟨g, j, none⟩ = false ∧
      (w.setCell ⟨g, j, none⟩ (.int .u8 (((x.toNat : Int) + 1) % 256))).ownsRow base 5 1 (.slice A n c) n (bts (l.set j (x + 1))) ∧
      Only (fun b => (Value.slice A n c).ownBlock = some b) w (w.setCell ⟨g, j, none⟩ (.int .u8 (((x.toNat : Int) + 1) % 256))) := by
  obtain ⟨g, cap, hv, _, _⟩ := h.form (by omega)
  injection hv with h1 h2 h3
  subst h1 h3
  have hl : l.length = n := by have := h.1; simpa using this
  refine ⟨g, l[j]'(by omega), rfl, ?_, h.frozenAt j, ?_, ?_⟩
  · rw [h.cellAt j (by omega), bts_get l j (by omega)]
    rfl
  · rw [byte_up, ← bts_set]
    exact (h.stored j _).1
  · exact Only.setCell (S := fun b => (Value.slice (some ⟨g, 0, none⟩) n c).ownBlock = some b) (p := ⟨g, j, none⟩) (Only.refl _ _) (fun _ => rfl) _

set_option maxRecDepth 20000 in
set_option maxHeartbeats 4000000 in
set_option linter.unusedSimpArgs false in
theorem txOwn_any (w : World) (A A' : Option Addr) (n n' c c' : Nat) (ins : List InT) (outs : List OutT) (ok : Nat → Prop)
    (hi0 : insSh.rel w ok [.slice A n c] ins) (ho0 : outsSh.rel w ok [.slice A' n' c'] outs) (hn : ins.length = n) (hn' : outs.length = n') :
    Calls Try.prog 9 #[.agg #[.slice A n c, .slice A' n' c']] w fun e w' => e = .returned (.bool true) ∧ Below w.heap.size w w' := by
  have hi := weak_slice weak_in3 _ _ (fun b => b < w.heap.size) _ _ hi0 (fun b hb _ => hb)
  have ho := weak_slice weak_out3 _ _ (fun b => b < w.heap.size) _ _ ho0 (fun b hb _ => hb)
  have HTO := Lib.hid (tx_ok hi ho)
  have INS := Lib.hid (fun W (a : Below w.heap.size w W) => insSh.below hi a (fun _ h _ => h))
  have OUTS := Lib.hid (fun W (a : Below w.heap.size w W) => outsSh.below ho a (fun _ h _ => h))
  have HN := Lib.hid hn
  have HN' := Lib.hid hn'
  clear hi ho hi0 ho0 hn hn'
  go_enter Try.func9, Try.ntmps9
  go_wp2_with fail
  generalize hW : World.alloc w _ = W
  have hb : Blk W w.heap.size 25 #[.slice A n c, .slice A' n' c'] := by rw [← hW]; exact Blk.new _ _ _
  have hbl : Below w.heap.size w W := by rw [← hW]; exact (Below.refl _ _).alloc (Nat.le_refl _) _
  clear hW
  obtain ⟨g, hg⟩ : ∃ g, w.heap.size = g := ⟨_, rfl⟩
  rw [hg] at hb ⊢
  have HG := Lib.hid hg
  refine (writes7_any W).mono ?_
  rintro e1 w1 ⟨rfl, a1⟩
  have HB := Lib.hid (hb.below a1 hb.lt)
  have HBL := Lib.hid (hbl.trans (a1.mono hbl.size))
  clear hg hb hbl a1
  have c0 := HB.out.cell 0
  have c1 := HB.out.cell 1
  simp only [List.getElem?_toArray, List.getElem?_cons_zero, List.getElem?_cons_succ] at c0 c1
  go_wp2_with fail
  refine (fits7_any w1 A A' n n' c c' ins outs _ (INS.out _ HBL.out) HN.out HN'.out).mono ?_
  rintro e2 w2 ⟨rfl, a2⟩
  replace HB := Lib.hid (HB.out.below a2 HB.out.lt)
  replace HBL := Lib.hid (HBL.out.trans (a2.mono HBL.out.size))
  clear a2 c0 c1
  have c0 := HB.out.cell 0
  have c1 := HB.out.cell 1
  simp only [List.getElem?_toArray, List.getElem?_cons_zero, List.getElem?_cons_succ] at c0 c1
  cases hfit : fitsB (ins, outs, ())
  · clear hfit
    go_wp2
    go_ret
    exact ⟨rfl, HBL.out⟩
  have HF := Lib.hid (fits_fit hfit)
  clear hfit
  go_wp2_with fail
  refine (good7_any w2 A A' n n' c c' ins outs _ (INS.out _ HBL.out) HN.out HN'.out (by have := HF.out.1; have := HN.out; simp only at *; omega)).mono ?_
  rintro e3 w3 ⟨rfl, a3⟩
  replace HB := Lib.hid (HB.out.below a3 HB.out.lt)
  replace HBL := Lib.hid (HBL.out.trans (a3.mono HBL.out.size))
  clear a3 c0 c1
  have c0 := HB.out.cell 0
  have c1 := HB.out.cell 1
  simp only [List.getElem?_toArray, List.getElem?_cons_zero, List.getElem?_cons_succ] at c0 c1
  cases hgood : goodB (ins, outs, ())
  · clear hgood
    go_wp2
    go_ret
    exact ⟨rfl, HBL.out⟩
  have HE := Lib.hid (txE_good _ HTO.out hgood)
  clear hgood
  have HLEN := Lib.hid (txB_len (INS.out _ HBL.out) (OUTS.out _ HBL.out) HF.out)
  have BY := Lib.hid (fun W (a : Below w.heap.size w W) => tx_bytes_any W A A' n n' c c' ins outs _ (INS.out _ a) (OUTS.out _ a) HN.out HN'.out (fun b hb => by have := a.size; omega) HF.out)
  have RB := Lib.hid (fun W (a : Below w.heap.size w W) => bytes07_any W A A' n n' c c' ins outs _ (INS.out _ a) (OUTS.out _ a) HN.out HN'.out HF.out)
  have SM := Lib.hid (fun W (a : Below w.heap.size w W) B B' m m' d d' ok2 hi2 ho2 hm hm' => same7_any W A A' B B' n n' c c' m m' d d' ins ins outs outs _ ok2 (INS.out _ a) (OUTS.out _ a) HN.out HN'.out HF.out hi2 ho2 hm hm' HF.out)
  obtain ⟨X, hX⟩ : ∃ X, txB (ins, outs, ()) = X := ⟨_, rfl⟩
  rw [hX] at HE HLEN
  simp only [hX] at BY RB SM
  have HG7 := Lib.hid (show txG X = (ins, outs, ()) by rw [txG, if_pos HE.out.1, HE.out.2])
  clear hX
  go_wp2_with fail
  refine (BY.out _ HBL.out).mono ?_
  rintro e4 w4 ⟨B1, n1, c1', rfl, hn1, a4, o4⟩
  have HSZ := Lib.hid (show w.heap.size ≤ w3.heap.size from HBL.out.size)
  have HGL := Lib.hid (show g < w3.heap.size from HB.out.lt)
  replace HB := Lib.hid (HB.out.below a4 HB.out.lt)
  replace HBL := Lib.hid (HBL.out.trans (a4.mono HBL.out.size))
  have HN1 := Lib.hid hn1
  have HOW := Lib.hid o4
  have HKL := Lib.hid (show ∀ k, (Value.slice B1 n1 c1').ownBlock = some k → w3.heap.size ≤ k ∧ k < w4.heap.size from fun k e => o4.lt k e)
  clear hn1 a4 o4 c0 c1
  go_wp2_with fail
  refine (tx_Read_any w4 _ _ _ (IsB.of_own HOW.out) (by have := HLEN.out; omega)).mono ?_
  rintro e5 w5 ⟨A2, n2, c2, A3, n3, c3, rfl, r1, r2, hn2, hn3, a5⟩
  rw [HG7.out] at r1 r2
  rw [HE.out.1]
  replace HB := Lib.hid (HB.out.below a5 HB.out.lt)
  replace HBL := Lib.hid (HBL.out.trans (a5.mono HBL.out.size))
  replace HOW := Lib.hid (own_only HOW.out (Only.of_new a5 (fun _ => False)) (fun _ _ h => h))
  have HSZ4 := Lib.hid a5.size
  have HI := Lib.hid r1
  have HO := Lib.hid r2
  clear r1 r2 hn2 hn3 a5
  go_wp2_with (with_reducible refine wpList_stb rfl 25 (.tmp 4) (.tmp 22) rfl w5.heap.size 0 _ rfl rfl 25 _ (Blk.new w5 _ _) ?h1 ?h2 ?h3 ?_)
  case h1 => simp
  case h2 => rw [infoTx7]; rfl
  case h3 => exact ⟨rfl, rfl⟩
  intro w6 b6 o6
  rw [over_all _ _ (by simp)] at b6
  have hO6 : Below w5.heap.size w5 w6 := (((Only.refl (fun b => w5.heap.size ≤ b) w5).alloc _).trans o6 (fun b _ e => by omega)).below (Nat.le_refl _) (fun b hb h => by omega)
  replace HB := Lib.hid (HB.out.below hO6 HB.out.lt)
  replace HBL := Lib.hid (HBL.out.trans (hO6.mono HBL.out.size))
  replace HOW := Lib.hid (own_only HOW.out (Only.of_new hO6 (fun _ => False)) (fun _ _ h => h))
  replace HI := Lib.hid (insSh.below HI.out hO6 (fun _ h _ => h))
  replace HO := Lib.hid (outsSh.below HO.out hO6 (fun _ h _ => h))
  have U := Lib.hid b6
  obtain ⟨u, hu⟩ : ∃ u, w5.heap.size = u := ⟨_, rfl⟩
  have HU := Lib.hid (show w4.heap.size ≤ u by have := HSZ4.out; omega)
  rw [hu] at U ⊢
  clear hu b6 o6 hO6
  have hm1 : n1 ≤ 10200000 := by have := HN1.out; have := HLEN.out; omega
  have HM1 := Lib.hid hm1
  clear hm1
  go_wp2
  go_loopg [6, 26] n1 (fun q _ i wr => ∃ (j : Nat) (l' : List UInt8), j + q = n1 ∧ i = .int .i64 j ∧ Hid (wr.ownsRow w3.heap.size 5 1 (.slice B1 n1 c1') n1 (bts l')) ∧ Hid (Only (fun b => (Value.slice B1 n1 c1').ownBlock = some b) w6 wr))
  case atStart => exact ⟨0, X, by omega, rfl, HOW.out, Only.refl _ _⟩
  case round =>
    obtain ⟨j, l', hj, rfl, how, hon⟩ := hrel
    by_cases hlt : j < n1
    · obtain ⟨gb, x, rfl, hc, hf, hw', ho'⟩ := own_up how.out hlt
      have HW' := Lib.hid hw'
      have HO' := Lib.hid ho'
      clear hw' ho'
      go_wp2
      go_roundg (n1 - 1 - j)
      case measure => omega
      case rel => exact ⟨j + 1, _, by omega, by have := HM1.out; first | rfl | (rw [IntWalk.wrap64_in _ (by omega)]; rfl), HW'.out, hon.out.trans HO'.out (fun _ _ h => h)⟩
    · have F1 := Lib.hid (show Blk wr.drew g 25 #[.slice A n c, .slice A' n' c'] from (HB.out.only hon.out (fun e => by have := (HKL.out _ e).1; have := HGL.out; omega)).drew)
      have F2 := Lib.hid (show Blk wr.drew u 25 #[.slice A2 n2 c2, .slice A3 n3 c3] from (U.out.only hon.out (fun e => by have := (HKL.out _ e).2; have := HU.out; omega)).drew)
      have F3 := Lib.hid (show insSh.rel wr.drew (fun b => w4.heap.size ≤ b) [.slice A2 n2 c2] ins from insSh.only HI.out hon.out.drew (fun b hb h e => by have := (HKL.out _ e).2; omega))
      have F4 := Lib.hid (show outsSh.rel wr.drew (fun b => w4.heap.size ≤ b) [.slice A3 n3 c3] outs from outsSh.only HO.out hon.out.drew (fun b hb h e => by have := (HKL.out _ e).2; omega))
      have F5 := Lib.hid (show Below w.heap.size w wr.drew from (HBL.out.trans (hon.out.below HBL.out.size (fun b hb e => by have := (HKL.out _ e).1; have := HSZ.out; omega))).drew)
      go_upto_region 12 with fail
      clear how hon HOW HB HBL HI HO U
      have c0 := F1.out.cell 0
      have c1 := F1.out.cell 1
      have k2 := F2.out.cell 0
      have k3 := F2.out.cell 1
      simp only [List.getElem?_toArray, List.getElem?_cons_zero, List.getElem?_cons_succ] at c0 c1 k2 k3
      go_region_with (first
        | (go_at_call 19; refine (SM.out _ F5.out A2 A3 n2 n3 c2 c3 _ F3.out F4.out (ins_n F3.out).symm (outs_n F4.out).symm).mono ?_; rintro e7 w7 ⟨rfl, a7⟩; rw [beq_self_eq_true]; have G1 := Lib.hid (F1.out.below a7 F1.out.lt); have G5 := Lib.hid (F5.out.trans (a7.mono F5.out.size)); clear a7 c0 c1 k2 k3; have c0 := G1.out.cell 0; have c1 := G1.out.cell 1; simp only [List.getElem?_toArray, List.getElem?_cons_zero, List.getElem?_cons_succ] at c0 c1)
        | (go_at_call 13; refine (BY.out _ G5.out).mono ?_; rintro e8 w8 ⟨B8, n8, c8, rfl, hn8, a8, o8⟩; clear hn8; have hs8 := (IsB.of_own o8).str (P := Try.prog) (src := 28) (dst := 9) Try.underlying28 Try.underlying5 Try.underlying9; have G8 := Lib.hid (IsB.of_own o8); have K1 := Lib.hid (G1.out.below a8 G1.out.lt); have K5 := Lib.hid (G5.out.trans (a8.mono G5.out.size)); clear a8 o8 c0 c1; have c0 := K1.out.cell 0; have c1 := K1.out.cell 1; simp only [List.getElem?_toArray, List.getElem?_cons_zero, List.getElem?_cons_succ] at c0 c1)
        | (go_at_call 14; refine (RB.out _ K5.out).mono ?_; rintro e9 w9 ⟨rfl, a9⟩; have hs9 := (G8.out.new a9).str (P := Try.prog) (src := 28) (dst := 9) Try.underlying28 Try.underlying5 Try.underlying9; have L5 := Lib.hid (K5.out.trans (a9.mono K5.out.size)); clear a9 c0 c1))
      all_goals
        go_wp2
        go_ret
        exact ⟨rfl, L5.out⟩
end Go.Proofs.Ytpcombaecbjmfaa
