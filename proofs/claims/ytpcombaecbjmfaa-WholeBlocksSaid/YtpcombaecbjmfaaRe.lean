/- tx.Read: the transaction that bytes are. -/
import Derived.Test.YtpcombaecbjmfaaRd
import Derived.Test.YtpcombaecbjmfaaRq
namespace Go.Proofs.Ytpcombaecbjmfaa
open Go.RowKit
/-- what tx.Read hands out -/
def txG (l : List UInt8) : TxT := if txE l = 0 then (txR (l, 0)).1 else ([], [], ())
theorem insSh_nil (w : World) (ok : Nat → Prop) : insSh.rel w ok [.slice none 0 0] [] := ⟨none, 0, [], rfl, Nat.le_refl _, by simp [maxLen], .nil, Sl.nil _ _ _ _⟩
theorem outsSh_nil (w : World) (ok : Nat → Prop) : outsSh.rel w ok [.slice none 0 0] [] := ⟨none, 0, [], rfl, Nat.le_refl _, by simp [maxLen], .nil, Sl.nil _ _ _ _⟩
set_option linter.unusedSimpArgs false in
set_option maxRecDepth 20000 in
set_option maxHeartbeats 4000000 in
theorem tx_Read_any (w : World) (v : Value) (l : List UInt8) (ok : Nat → Prop) (h : IsB w ok v l) (hl : l.length ≤ 1000000000000) :
    Calls Try.prog 17 #[v] w fun e w' => ∃ A n c A' n' c', e = .returned (.tuple #[.agg #[.slice A n c, .slice A' n' c'], .int .i64 (txE l)]) ∧ insSh.rel w' (fun b => w.heap.size ≤ b) [.slice A n c] (txG l).1 ∧ outsSh.rel w' (fun b => w.heap.size ≤ b) [.slice A' n' c'] (txG l).2.1 ∧ n ≤ 32 ∧ n' ≤ 32 ∧ Below w.heap.size w w' := by
  have HL := Lib.hid hl
  obtain ⟨Av, nv, cv, rfl, hn, hc, hs⟩ := h
  have RD := Lib.hid (fun W (hoW : Only (fun _ => False) w W) => read_any W (.slice Av nv cv) l ok (IsB.only (S := fun _ => False) (⟨Av, nv, cv, rfl, hn, hc, hs⟩ : IsB w ok (.slice Av nv cv) l) hoW (fun _ _ _ h => h)) hl)
  clear hn hc hs hl
  go_enter Try.func17, Try.ntmps17
  go_wp2_with fail
  generalize hW : World.alloc w _ = W
  have hoW : Only (fun _ => False) w W := by rw [← hW]; exact (Only.refl _ w).alloc _
  have hz : Blk W w.heap.size 25 [.slice none 0 0, .slice none 0 0].toArray := by rw [← hW]; exact Blk.new _ _ _
  have hbl : Below w.heap.size w W := by rw [← hW]; exact (Below.refl _ _).alloc (Nat.le_refl _) _
  clear hW
  obtain ⟨q, hq⟩ : ∃ q, w.heap.size = q := ⟨_, rfl⟩
  rw [hq] at hz ⊢
  have HQ := Lib.hid hq
  have HZ := Lib.hid hz
  have HBL := Lib.hid hbl
  have R1 := Lib.hid (RD.out W hoW)
  clear hq hz hbl hoW RD
  refine R1.out.mono ?_
  rintro e1 w1 ⟨g, rfl, r1, a1⟩
  have HG := Lib.hid (show q < g ∧ q < W.heap.size by have := r1.mid.1; have := HZ.out.lt; omega)
  have HRD := Lib.hid r1
  replace HZ := Lib.hid (HZ.out.below a1 HZ.out.lt)
  replace HBL := Lib.hid (HBL.out.trans (a1.mono HBL.out.size))
  clear a1 r1 R1
  obtain ⟨hi, hhi⟩ : ∃ hi, w1.heap.size = hi := ⟨_, rfl⟩
  obtain ⟨lo, hlo⟩ : ∃ lo, W.heap.size = lo := ⟨_, rfl⟩
  rw [hhi, hlo] at HRD
  rw [hlo] at HG
  have HHQ := Lib.hid (show q < w1.heap.size from HZ.out.lt)
  clear hhi hlo
  obtain ⟨T, hT⟩ : ∃ T, txR (l, 0) = T := ⟨_, rfl⟩
  have TR := tx_read_any w1 lo hi g (l, 0) HRD.out
  rw [hT] at TR
  replace TR := Lib.hid TR
  have hE : txE l = endS T.2.1 T.2.2 := by rw [txE, hT]
  have hG : txG l = if txE l = 0 then T.1 else ([], [], ()) := by rw [txG, hT]
  have HE := Lib.hid hE
  have HGG := Lib.hid hG
  clear hT hE hG
  go_wp2_with fail
  refine TR.out.mono ?_
  rintro e2 w2 ⟨A, n, c, A', n', c', rfl, hi2, ho2, hn2, hn2', r2, o2⟩
  have HI := Lib.hid hi2
  have HO := Lib.hid ho2
  have HNN := Lib.hid (And.intro hn2 hn2')
  have hws : w.heap.size ≤ w1.heap.size := HBL.out.size
  have HWS := Lib.hid hws
  replace HRD := Lib.hid r2
  replace HZ := Lib.hid (HZ.out.only o2 (by have := HG.out; omega))
  replace HBL := Lib.hid (HBL.out.trans (o2.below HBL.out.size (fun b hb e => by have := HG.out; have := HQ.out; omega)))
  clear hi2 ho2 hn2 hn2' r2 o2 TR hws
  go_wp2_with (with_reducible refine wpList_stb rfl 25 (.tmp 5) (.tmp 10) rfl w2.heap.size 0 _ rfl rfl 25 _ (Blk.new w2 _ _) ?h1 ?h2 ?h3 ?_)
  case h1 => simp
  case h2 => rw [infoTx]; rfl
  case h3 => exact ⟨rfl, rfl⟩
  intro w3 b3 o3
  rw [over_all _ _ (by simp)] at b3
  have hO3 : Below w2.heap.size w2 w3 := (((Only.refl (fun b => w2.heap.size ≤ b) w2).alloc _).trans o3 (fun b _ e => by omega)).below (Nat.le_refl _) (fun b hb h => by omega)
  replace HZ := Lib.hid (HZ.out.below hO3 HZ.out.lt)
  replace HBL := Lib.hid (HBL.out.trans (hO3.mono HBL.out.size))
  replace HI := Lib.hid (insSh.below HI.out hO3 (fun _ h _ => h))
  replace HO := Lib.hid (outsSh.below HO.out hO3 (fun _ h _ => h))
  replace HRD := Lib.hid (HRD.out.only (Only.of_below hO3) (fun b hb _ _ e => by omega))
  have H5 := Lib.hid b3
  clear b3 o3 hO3
  generalize w2.heap.size = p at H5 ⊢
  have RE := Lib.hid (rend_any w3 lo hi g T.2.1 T.2.2 HRD.out)
  go_wp2_with fail
  refine RE.out.mono ?_
  rintro e4 w4 ⟨rfl, nd, rfl⟩
  replace HZ := Lib.hid (HZ.out.drewN nd)
  replace H5 := Lib.hid (H5.out.drewN nd)
  have hO4 : Only (fun _ => False) w3 (w3.drewN nd) := (Only.refl _ w3).drewN nd
  replace HBL := Lib.hid (HBL.out.trans (hO4.below HBL.out.size (fun _ _ h => h)))
  replace HI := Lib.hid (insSh.only HI.out hO4 (fun _ _ _ h => h))
  replace HO := Lib.hid (outsSh.only HO.out hO4 (fun _ _ _ h => h))
  clear hO4 RE HRD
  generalize w3.drewN nd = w4 at HZ H5 HBL HI HO ⊢
  obtain ⟨E, hE⟩ : ∃ E, endS T.2.1 T.2.2 = E := ⟨_, rfl⟩
  have hE2 : txE l = E := by rw [HE.out, hE]
  rw [hE]
  have HE2 := Lib.hid hE2
  clear hE hE2 HE
  by_cases hz : E = 0
  · subst hz
    have c0 := H5.out.cell 0
    have c1 := H5.out.cell 1
    simp only [List.getElem?_toArray, List.getElem?_cons_zero, List.getElem?_cons_succ] at c0 c1
    go_wp2_with (with_reducible refine wpList_stb rfl 25 (.tmp 2) (.tmp 17) rfl q 0 _ rfl rfl 25 [.slice none 0 0, .slice none 0 0] HZ.out ?h1 ?h2 ?h3 ?_)
    case h1 => simp
    case h2 => rw [infoTx]; rfl
    case h3 => first | exact ⟨rfl, rfl⟩ | rfl
    intro w5 b5 o5
    rw [over_all _ _ (by simp)] at b5
    have HB5 := Lib.hid b5
    have O5 := Lib.hid o5
    clear b5 o5 c0 c1
    go_wp2
    refine bodyPost_ret (results_row_tmp rfl _ _ q 25 (#[.slice A n c, .slice A' n' c'] : Array Value) (0, 0) _ rfl HB5.out Try.underlying25 rfl (by rw [infoTx]; rfl)) rfl ?_
    refine ⟨A, n, c, A', n', c', by rw [HE2.out]; rfl, ?_, ?_, HNN.out.1, HNN.out.2, HBL.out.trans (O5.out.below HBL.out.size (fun b hb e => by have := HQ.out; omega))⟩
    · rw [HGG.out, if_pos HE2.out]
      exact weak_slice weak_in3 _ _ _ _ _ (insSh.only HI.out O5.out (fun b _ hb e => by have := HWS.out; have := HQ.out; have := HHQ.out; have := HG.out; omega)) (fun b _ hb => Nat.le_trans HWS.out hb)
    · rw [HGG.out, if_pos HE2.out]
      exact weak_slice weak_out3 _ _ _ _ _ (outsSh.only HO.out O5.out (fun b _ hb e => by have := HWS.out; have := HQ.out; have := HHQ.out; have := HG.out; omega)) (fun b _ hb => Nat.le_trans HWS.out hb)
  · have e1 : (E == 0) = false := by simpa using hz
    have e2 : (E != 0) = true := by simpa using hz
    have HZE := Lib.hid hz
    clear hz
    go_wp2_with (with_reducible refine wpList_stb rfl 25 (.tmp 2) (.tmp 15) rfl q 0 _ rfl rfl 25 [.slice none 0 0, .slice none 0 0] HZ.out ?h1 ?h2 ?h3 ?_)
    case h1 => simp
    case h2 => rw [infoTx]; rfl
    case h3 => first | exact ⟨rfl, rfl⟩ | rfl
    intro w5 b5 o5
    rw [over_all _ _ (by simp)] at b5
    have HB5 := Lib.hid b5
    have O5 := Lib.hid o5
    clear b5 o5
    go_wp2
    refine bodyPost_ret (results_row_tmp rfl _ _ q 25 (#[.slice none 0 0, .slice none 0 0] : Array Value) (0, 0) _ rfl HB5.out Try.underlying25 rfl (by rw [infoTx]; rfl)) rfl ?_
    refine ⟨none, 0, 0, none, 0, 0, by rw [HE2.out]; rfl, ?_, ?_, by omega, by omega, HBL.out.trans (O5.out.below HBL.out.size (fun b hb e => by have := HQ.out; omega))⟩
    · rw [HGG.out, if_neg (by rw [HE2.out]; exact HZE.out)]; exact insSh_nil _ _
    · rw [HGG.out, if_neg (by rw [HE2.out]; exact HZE.out)]; exact outsSh_nil _ _
end Go.Proofs.Ytpcombaecbjmfaa
