/- check.Maker, check.Sum. -/
import Derived.Test.YtlbpeihdedhjiaaPt
import Derived.Test.YtlbpeihdedhjiaaHa
import Derived.Test.YtlbpeihdedhjiaaWh
namespace Go.Proofs.Ytlbpeihdedhjiaa
open Go.RowKit
def zid : List UInt8 := List.replicate 32 0
theorem infoPt : (Try.prog.info? 28).map (·.size) = some 33 := by kernel_rfl
set_option maxRecDepth 20000 in
set_option maxHeartbeats 4000000 in
theorem maker_any (w : World) : Calls Try.prog 10 #[] w fun e w' => e = .returned (ptV zid 4294967295) ∧ Below w.heap.size w w' := by
  go_enter Try.func10, Try.ntmps10
  go_wp2_with (with_reducible refine wpList_stb rfl 28 (.tmp 0) (.tmp 1) rfl w.heap.size 0 _ rfl rfl 28 _ (Blk.new w _ _) ?h1 ?h2 ?h3 ?_)
  case h1 => simp
  case h2 => rw [infoPt]; rfl
  case h3 => exact ⟨rfl, rfl⟩
  intro w4 b4 o4
  rw [over_all _ _ (by simp)] at b4
  have HB := Lib.hid b4
  have HO := Lib.hid o4
  clear b4 o4
  go_wp2
  refine bodyPost_ret (results_cell_row rfl _ _ w.heap.size 28 (ptC zid 4294967295).toArray (0, 0) _ rfl HB.out Try.underlying28 rfl (by rw [infoPt]; rfl)) rfl ?_
  exact ⟨rfl, (((Only.refl (fun b => w.heap.size ≤ b) w).alloc _).trans HO.out (fun b _ e => by omega)).below (Nat.le_refl _) (fun b hb h => by omega)⟩
/-- outputs' amounts, added up -/
def csum (n : Int) : List OutT → Int × Bool
  | [] => (n, true)
  | o :: r => if o.1 < 0 ∨ 1125899906842624 < o.1 then (0, false) else if 1125899906842624 < n + o.1 then (0, false) else csum (n + o.1) r
set_option maxRecDepth 20000 in
set_option maxHeartbeats 4000000 in
theorem csum_any (w : World) (A : Option Addr) (n c : Nat) (outs : List OutT) (ok : Nat → Prop) (ho : outsSh.rel w ok [.slice A n c] outs) (hn : outs.length = n) :
    Calls Try.prog 30 #[.slice A n c] w fun e w' => e = .returned (.tuple #[.int .i64 (csum 0 outs).1, .bool (csum 0 outs).2]) ∧ Below w.heap.size w w' := by
  have HMX := Lib.hid (show n ≤ maxLen by obtain ⟨A', c', h1, h2, h3⟩ := shSlice_form ho; rw [hn] at h2; omega)
  have HO := Lib.hid ho
  have HN := Lib.hid hn
  clear ho hn
  go_enter Try.func30, Try.ntmps30
  go_wp2_with fail
  go_loopg [4, 9] n (fun q v4 v9 wr => ∃ (j : Nat) (s : Int), j + q = n ∧ v9 = .int .i64 j ∧ v4 = .int .i64 s ∧ 0 ≤ s ∧ s ≤ 1125899906842624 ∧ Hid (csum s (outs.drop j) = csum 0 outs) ∧ Hid (Below w.heap.size w wr))
  case atStart => exact ⟨0, 0, by omega, rfl, rfl, by omega, by omega, by simp [Hid], Below.refl _ _⟩
  case round =>
    obtain ⟨j, s, hj, rfl, rfl, hs0, hs1, HC, HB⟩ := hrel
    by_cases hlt : j < n
    · have ho' := outsSh.below HO.out HB.out (fun _ h _ => h)
      obtain ⟨b, o, amt, lock, rfl, hb, hij, hrow, hid, ham0, ham1⟩ := outs_at ho' (by rw [HN.out]; exact hlt)
      have hdr : outs.drop j = (amt, lock, ()) :: outs.drop (j + 1) := by rw [List.drop_eq_getElem_cons (by rw [HN.out]; exact hlt), hij]
      have HDR := Lib.hid hdr
      have HROW := Lib.hid hrow
      have HID := Lib.hid hid
      clear ho' hij hrow hid hdr hb
      go_wp2_with (first
        | (with_reducible refine wpList_ld rfl 36 (.tmp 11) rfl b (o + j * 33) rfl (outC amt lock) HROW.out _ Try.underlying36 rfl 33 infoOut (outC_len _ _ HID.out).symm ?_)
        | (with_reducible refine wpList_stb rfl 36 (.tmp 6) (.tmp 12) rfl wr.heap.size 0 _ rfl rfl 36 _ (Blk.new wr _ _) ?h1 ?h2 ?h3 ?_))
      case h1 => simp [outC_len _ _ HID.out]
      case h2 => rw [infoOut]; simp [outC_len _ _ HID.out]
      case h3 => exact outC_one _ _
      intro w4 b4 o4
      rw [over_all _ _ (by simp [outC_len _ _ HID.out])] at b4
      have hO4 : Below wr.heap.size wr w4 := (((Only.refl (fun b => wr.heap.size ≤ b) wr).alloc _).trans o4 (fun b _ e => by omega)).below (Nat.le_refl _) (fun b hb h => by omega)
      have HB4 := Lib.hid (HB.out.trans (hO4.mono HB.out.size))
      have q0 := b4.cell 0
      simp only [outC, List.getElem?_toArray, List.getElem?_cons_zero] at q0
      clear b4 o4 hO4 HROW HB
      generalize wr.heap.size = p at q0 ⊢
      by_cases hbad : amt < 0 ∨ 1125899906842624 < amt
      · have hres : csum 0 outs = (0, false) := by rw [← HC.out, HDR.out, csum, if_pos hbad]
        have HR := Lib.hid hres
        clear hres
        by_cases h1 : amt < 0
        · have d1 : decide (amt < 0) = true := by simpa using h1
          go_wp2
          refine bodyPost_ret (results_tmp2 rfl _ _ _) rfl ⟨by rw [HR.out]; rfl, HB4.out⟩
        · have d1 : decide (amt < 0) = false := by simpa using h1
          have d2 : decide (1125899906842624 < amt) = true := by simp; omega
          go_wp2
          refine bodyPost_ret (results_tmp2 rfl _ _ _) rfl ⟨by rw [HR.out]; rfl, HB4.out⟩
      · have d1 : decide (amt < 0) = false := by simp; omega
        have d2 : decide (1125899906842624 < amt) = false := by simp; omega
        have hw : IntKind.i64.wrap (s + amt) = s + amt := w64 _ (by omega)
        by_cases h2 : 1125899906842624 < s + amt
        · have hres : csum 0 outs = (0, false) := by rw [← HC.out, HDR.out, csum, if_neg hbad, if_pos h2]
          have HR := Lib.hid hres
          have d3 : decide (1125899906842624 < s + amt) = true := by simpa using h2
          clear hres
          go_wp2
          refine bodyPost_ret (results_tmp2 rfl _ _ _) rfl ⟨by rw [HR.out]; rfl, HB4.out⟩
        · have d3 : decide (1125899906842624 < s + amt) = false := by simpa using h2
          have H2 := Lib.hid h2
          have HBAD := Lib.hid hbad
          have hsum : 0 ≤ s + amt ∧ s + amt ≤ 1125899906842624 := by omega
          have HSUM := Lib.hid hsum
          clear h2 hbad hsum
          go_wp2
          go_roundg (n - 1 - j)
          case measure => omega
          case rel => exact ⟨j + 1, s + amt, by omega, by rw [IntWalk.wrap64_in _ (by have := HMX.out; unfold maxLen at this; omega)]; rfl, rfl, HSUM.out.1, HSUM.out.2, by rw [Hid, ← HC.out, HDR.out, csum, if_neg HBAD.out, if_neg (show ¬ (1125899906842624 < s + amt) by have := HSUM.out.2; omega)], HB4.out⟩
    · obtain rfl : j = n := by omega
      have hres : csum 0 outs = (s, true) := by rw [← HC.out, List.drop_of_length_le (by rw [HN.out]; exact Nat.le_refl _), csum]
      have HR := Lib.hid hres
      clear hres
      go_wp2
      refine bodyPost_ret (results_tmp2 rfl _ _ _) rfl ⟨by rw [HR.out]; rfl, HB.out⟩
end Go.Proofs.Ytlbpeihdedhjiaa
