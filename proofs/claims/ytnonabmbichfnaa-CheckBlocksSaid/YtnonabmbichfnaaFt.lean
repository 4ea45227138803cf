/- law12.fits; the document's Sum of layer 12. -/
import Derived.Test.YtnonabmbichfnaaAs
namespace Go.Proofs.Ytnonabmbichfnaa
open Go.RowKit
/-- is a transaction of a size with which this is tried? -/
def fitsB (t : TxT) : Bool := decide (t.1.length ≤ 40) && decide (t.2.1.length ≤ 40) && t.1.all fun i => decide (i.2.1.length ≤ 200)
set_option maxRecDepth 20000 in
set_option maxHeartbeats 4000000 in
theorem fits_any (w : World) (A A' : Option Addr) (n n' c c' : Nat) (ins : List InT) (outs : List OutT) (ok : Nat → Prop)
    (hi : insSh.rel w ok [.slice A n c] ins) (hn : ins.length = n) (hn' : outs.length = n') :
    Calls Try.prog 11 #[.agg #[.slice A n c, .slice A' n' c']] w fun e w' => e = .returned (.bool (fitsB (ins, outs, ()))) ∧ Below w.heap.size w w' := by
  have HI := Lib.hid hi
  have HN := Lib.hid hn
  have HN' := Lib.hid hn'
  clear hi hn hn'
  by_cases h1 : 40 < n
  · have hres : fitsB (ins, outs, ()) = false := by simp [fitsB, HN.out]; omega
    have HR := Lib.hid hres
    have d1 : decide ((40 : Int) < (n : Int)) = true := by simp; omega
    clear hres h1
    go_enter Try.func11, Try.ntmps11
    go_wp2
    go_ret
    exact ⟨by rw [HR.out]; rfl, (Below.refl _ _).alloc (Nat.le_refl _) _⟩
  · have d1 : decide ((40 : Int) < (n : Int)) = false := by simp; omega
    by_cases h2 : 40 < n'
    · have hres : fitsB (ins, outs, ()) = false := by simp [fitsB, HN'.out]; omega
      have HR := Lib.hid hres
      have d2 : decide ((40 : Int) < (n' : Int)) = true := by simp; omega
      clear hres h1 h2
      go_enter Try.func11, Try.ntmps11
      go_wp2
      go_ret
      exact ⟨by rw [HR.out]; rfl, (Below.refl _ _).alloc (Nat.le_refl _) _⟩
    · have d2 : decide ((40 : Int) < (n' : Int)) = false := by simp; omega
      have hres : fitsB (ins, outs, ()) = ins.all fun i => decide (i.2.1.length ≤ 200) := by simp [fitsB, HN.out, HN'.out]; omega
      have HR := Lib.hid hres
      have HN40 := Lib.hid (show n ≤ 40 by omega)
      clear hres h1 h2
      go_enter Try.func11, Try.ntmps11
      go_wp2_with fail
      generalize hW : World.alloc w _ = W
      have hbl : Below w.heap.size w W := by rw [← hW]; exact (Below.refl _ _).alloc (Nat.le_refl _) _
      clear hW d1 d2
      have HBL := Lib.hid hbl
      clear hbl
      go_loopg [18] n (fun k v18 wr => ∃ (j : Nat), j + k = n ∧ v18 = .int .i64 j ∧ Hid ((ins.take j).all (fun i => decide (i.2.1.length ≤ 200)) = true) ∧ Hid (Below w.heap.size w wr))
      case atStart => exact ⟨0, by omega, rfl, by simp [Hid], HBL⟩
      case round =>
        clear HBL
        obtain ⟨j, hj, rfl, HC, HBL⟩ := hrel
        by_cases hlt : j < n
        · have hi' := insSh.below HI.out HBL.out (fun _ h _ => h)
          obtain ⟨b, o, id, ix, key, v, rfl, hb, hij, hrow, hkb, hid, hix⟩ := ins_at hi' (by rw [HN.out]; exact hlt)
          obtain ⟨Ak, nk, ck, rfl, hnk, hkc, hks⟩ := hkb
          have HIJ := Lib.hid hij
          have HROW := Lib.hid hrow
          have HID := Lib.hid hid
          have HNK := Lib.hid hnk
          clear hi' hij hrow hid hb hks hkc hix hnk
          go_wp2_with (first
            | (with_reducible refine wpList_ld rfl 56 (.tmp 20) rfl b (o + j * 34) rfl (inC id ix (.slice Ak nk ck)) HROW.out _ Try.underlying56 rfl 34 infoIn (inC_len _ _ _ HID.out).symm ?_)
            | (with_reducible refine wpList_stb rfl 56 (.tmp 4) (.tmp 21) rfl wr.heap.size 0 _ rfl rfl 56 _ (Blk.new wr _ _) ?h1 ?h2 ?h3 ?_))
          case h1 => simp [inC_len _ _ _ HID.out]
          case h2 => rw [infoIn]; simp [inC_len _ _ _ HID.out]
          case h3 => exact inC_one _ _ _ rfl
          intro w4 b4 o4
          rw [over_all _ _ (by simp [inC_len _ _ _ HID.out])] at b4
          have hO4 : Below wr.heap.size wr w4 := (((Only.refl (fun b => wr.heap.size ≤ b) wr).alloc _).trans o4 (fun b _ e => by omega)).below (Nat.le_refl _) (fun b hb h => by omega)
          have HBL4 := Lib.hid (HBL.out.trans (hO4.mono HBL.out.size))
          have q33 := in_cell33' b4 HID.out
          clear b4 o4 hO4 HROW HBL
          generalize wr.heap.size = p at q33 ⊢
          by_cases hk : 200 < nk
          · have hf : (ins.all fun i => decide (i.2.1.length ≤ 200)) = false := by
              rw [List.all_eq_false]
              exact ⟨_, List.getElem_mem (by rw [HN.out]; exact hlt : j < ins.length), by rw [HIJ.out]; simp [← HNK.out]; omega⟩
            have HF := Lib.hid hf
            have dk : decide ((200 : Int) < (nk : Int)) = true := by simp; omega
            clear hf hk
            go_wp2
            go_ret
            exact ⟨by rw [HR.out, HF.out]; rfl, HBL4.out⟩
          · have dk : decide ((200 : Int) < (nk : Int)) = false := by simp; omega
            have hf : (ins.take (j + 1)).all (fun i => decide (i.2.1.length ≤ 200)) = true := by
              rw [take_snoc' ins j (by rw [HN.out]; exact hlt), List.all_append, HC.out, HIJ.out]
              simp [← HNK.out]; omega
            have HF := Lib.hid hf
            clear hf hk
            go_wp2
            go_roundg (n - 1 - j)
            case measure => omega
            case rel => exact ⟨j + 1, by omega, by have := HN40.out; first | rfl | (rw [IntWalk.wrap64_in _ (by omega)]; rfl), HF.out, HBL4.out⟩
        · obtain rfl : j = n := by omega
          have hf : (ins.all fun i => decide (i.2.1.length ≤ 200)) = true := by
            have := HC.out
            rwa [List.take_of_length_le (by rw [HN.out]; exact Nat.le_refl _)] at this
          have HF := Lib.hid hf
          clear hf
          go_wp2
          go_ret
          exact ⟨by rw [HR.out, HF.out]; rfl, HBL.out⟩
set_option maxRecDepth 20000 in
set_option maxHeartbeats 4000000 in
theorem rsum12_any (w : World) (A : Option Addr) (n c : Nat) (outs : List OutT) (ok : Nat → Prop) (ho : outsSh.rel w ok [.slice A n c] outs) (hn : outs.length = n) :
    Calls Try.prog 13 #[.slice A n c] w fun e w' => e = .returned (.tuple #[.int .i64 (csum 0 outs).1, .bool (csum 0 outs).2]) ∧ w = w' := by
  have HMX := Lib.hid (show n ≤ maxLen by obtain ⟨A', c', h1, h2, h3⟩ := shSlice_form ho; rw [hn] at h2; omega)
  have HO := Lib.hid ho
  have HN := Lib.hid hn
  clear ho hn
  go_enter Try.func13, Try.ntmps13
  go_wp2_with fail
  go_loopg [4, 5] n (fun q v4 v5 wr => ∃ (j : Nat) (s : Int), j + q = n ∧ v5 = .int .i64 j ∧ v4 = .int .i64 s ∧ 0 ≤ s ∧ s ≤ 1125899906842624 ∧ Hid (csum s (outs.drop j) = csum 0 outs) ∧ w = wr)
  case atStart => exact ⟨0, 0, by omega, rfl, rfl, by omega, by omega, by simp [Hid], rfl⟩
  case round =>
    obtain ⟨j, s, hj, rfl, rfl, hs0, hs1, HC, rfl⟩ := hrel
    by_cases hlt : j < n
    · obtain ⟨b, o, amt, lock, rfl, hb, hij, hrow, hid, ham0, ham1⟩ := outs_at HO.out (by rw [HN.out]; exact hlt)
      have hdr : outs.drop j = (amt, lock, ()) :: outs.drop (j + 1) := by rw [List.drop_eq_getElem_cons (by rw [HN.out]; exact hlt), hij]
      have HDR := Lib.hid hdr
      have q0 := hrow 0 (.int .i64 amt) (by simp [outC])
      rw [Nat.add_zero] at q0
      clear hij hrow hid hdr hb
      have hwS : IntKind.i64.wrap (1125899906842624 - s) = 1125899906842624 - s := w64 _ (by omega)
      by_cases h1 : amt < 0
      · have hres : csum 0 outs = (0, false) := by rw [← HC.out, HDR.out, csum, if_pos (.inl h1)]
        have HR := Lib.hid hres
        have d1 : decide (amt < 0) = true := by simpa using h1
        clear hres
        go_wp2
        refine bodyPost_ret (results_tmp2 rfl _ _ _) rfl ⟨by rw [HR.out]; rfl, rfl⟩
      · have d1 : decide (amt < 0) = false := by simpa using h1
        by_cases h2 : 1125899906842624 - s < amt
        · have hres : csum 0 outs = (0, false) := by
            rw [← HC.out, HDR.out, csum]
            split
            · rfl
            · rw [if_pos (show 1125899906842624 < s + amt by omega)]
          have HR := Lib.hid hres
          have d2 : decide (1125899906842624 - s < amt) = true := by simpa using h2
          clear hres
          go_wp2
          refine bodyPost_ret (results_tmp2 rfl _ _ _) rfl ⟨by rw [HR.out]; rfl, rfl⟩
        · have d2 : decide (1125899906842624 - s < amt) = false := by simpa using h2
          have hw : IntKind.i64.wrap (s + amt) = s + amt := w64 _ (by omega)
          have hsum : 0 ≤ s + amt ∧ s + amt ≤ 1125899906842624 := by omega
          have hstep : csum (s + amt) (outs.drop (j + 1)) = csum 0 outs := by rw [← HC.out, HDR.out, csum, if_neg (show ¬ (amt < 0 ∨ 1125899906842624 < amt) by omega), if_neg (show ¬ 1125899906842624 < s + amt by omega)]
          have HST := Lib.hid hstep
          have HSUM := Lib.hid hsum
          clear hstep hsum h1 h2
          go_wp2
          go_roundg (n - 1 - j)
          case measure => omega
          case rel => exact ⟨j + 1, s + amt, by omega, by rw [IntWalk.wrap64_in _ (by have := HMX.out; unfold maxLen at this; omega)]; rfl, rfl, HSUM.out.1, HSUM.out.2, HST.out, rfl⟩
    · obtain rfl : j = n := by omega
      have hres : csum 0 outs = (s, true) := by rw [← HC.out, List.drop_of_length_le (by rw [HN.out]; exact Nat.le_refl _), csum]
      have HR := Lib.hid hres
      clear hres
      go_wp2
      refine bodyPost_ret (results_tmp2 rfl _ _ _) rfl ⟨by rw [HR.out]; rfl, rfl⟩
end Go.Proofs.Ytnonabmbichfnaa
