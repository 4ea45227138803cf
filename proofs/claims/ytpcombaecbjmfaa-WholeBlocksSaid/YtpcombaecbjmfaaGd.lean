/- law07.fits, law07.good. -/
import Derived.Test.YtpcombaecbjmfaaTk
import Derived.Test.YtpcombaecbjmfaaWh
namespace Go.Proofs.Ytpcombaecbjmfaa
open Go.RowKit
/-- is a transaction of a size with which this is tried? -/
def fitsB (t : TxT) : Bool := decide (t.1.length ≤ 40) && decide (t.2.1.length ≤ 40) && t.1.all fun i => decide (i.2.1.length ≤ 200)
/-- may it be read again? -/
def goodB (t : TxT) : Bool := (t.1.all fun i => decide (i.2.1.length ≤ 100)) && decide (t.1.length ≤ 32) && decide (t.2.1.length ≤ 32)
theorem fits_fit {t : TxT} (h : fitsB t = true) : TxFit t := by
  simp only [fitsB, Bool.and_eq_true, decide_eq_true_eq, List.all_eq_true] at h
  exact ⟨by omega, by omega, fun i hi => by have := h.2 i hi; omega⟩
theorem in_cell33g {w : World} {q : Nat} {t : TypeId} {id : List UInt8} {ix : Nat} {v : Value} (h : Blk w q t (inC id ix v).toArray) (hl : id.length = 32) : w.cell? ⟨q, 33, none⟩ = some v := by
  rw [h.cell 33, List.getElem?_toArray, inC, List.getElem?_append_right (by simp [hl])]; simp [hl]
set_option maxRecDepth 20000 in
set_option maxHeartbeats 4000000 in
theorem fits7_any (w : World) (A A' : Option Addr) (n n' c c' : Nat) (ins : List InT) (outs : List OutT) (ok : Nat → Prop)
    (hi : insSh.rel w ok [.slice A n c] ins) (hn : ins.length = n) (hn' : outs.length = n') :
    Calls Try.prog 12 #[.agg #[.slice A n c, .slice A' n' c']] w fun e w' => e = .returned (.bool (fitsB (ins, outs, ()))) ∧ Below w.heap.size w w' := by
  have HI := Lib.hid hi
  have HN := Lib.hid hn
  have HN' := Lib.hid hn'
  clear hi hn hn'
  by_cases h1 : 40 < n
  · have hres : fitsB (ins, outs, ()) = false := by simp [fitsB, HN.out]; omega
    have HR := Lib.hid hres
    have d1 : decide ((40 : Int) < (n : Int)) = true := by simp; omega
    clear hres h1
    go_enter Try.func12, Try.ntmps12
    go_wp2
    go_ret
    exact ⟨by rw [HR.out]; rfl, (Below.refl _ _).alloc (Nat.le_refl _) _⟩
  · have d1 : decide ((40 : Int) < (n : Int)) = false := by simp; omega
    by_cases h2 : 40 < n'
    · have hres : fitsB (ins, outs, ()) = false := by simp [fitsB, HN'.out]; omega
      have HR := Lib.hid hres
      have d2 : decide ((40 : Int) < (n' : Int)) = true := by simp; omega
      clear hres h1 h2
      go_enter Try.func12, Try.ntmps12
      go_wp2
      go_ret
      exact ⟨by rw [HR.out]; rfl, (Below.refl _ _).alloc (Nat.le_refl _) _⟩
    · have d2 : decide ((40 : Int) < (n' : Int)) = false := by simp; omega
      have hres : fitsB (ins, outs, ()) = ins.all fun i => decide (i.2.1.length ≤ 200) := by simp [fitsB, HN.out, HN'.out]; omega
      have HR := Lib.hid hres
      have HN40 := Lib.hid (show n ≤ 40 by omega)
      clear hres h1 h2
      go_enter Try.func12, Try.ntmps12
      go_wp2_with fail
      generalize hW : World.alloc w _ = W
      have hbl : Below w.heap.size w W := by rw [← hW]; exact (Below.refl _ _).alloc (Nat.le_refl _) _
      clear hW d1 d2
      have HBL := Lib.hid hbl
      clear hbl
      go_loopg [18] n (fun k v18 wr => ∃ (j : Nat), j + k = n ∧ v18 = .int .i64 j ∧ Hid ((ins.take j).all (fun i => decide (i.2.1.length ≤ 200)) = true) ∧ Hid (Below w.heap.size w wr))
      case atStart => exact ⟨0, by omega, rfl, by simp [Hid], HBL⟩
      case round =>
        clear HBL
        obtain ⟨j, hj, rfl, HC, HBL⟩ := hrel
        by_cases hlt : j < n
        · have hi' := insSh.below HI.out HBL.out (fun _ h _ => h)
          obtain ⟨b, o, id, ix, key, v, rfl, hb, hij, hrow, hkb, hid, hix⟩ := ins_at hi' (by rw [HN.out]; exact hlt)
          obtain ⟨Ak, nk, ck, rfl, hnk, hkc, hks⟩ := hkb
          have HIJ := Lib.hid hij
          have HROW := Lib.hid hrow
          have HID := Lib.hid hid
          have HNK := Lib.hid hnk
          clear hi' hij hrow hid hb hks hkc hix hnk
          go_wp2_with (first
            | (with_reducible refine wpList_ld rfl 61 (.tmp 20) rfl b (o + j * 34) rfl (inC id ix (.slice Ak nk ck)) HROW.out _ Try.underlying61 rfl 34 infoIn (inC_len _ _ _ HID.out).symm ?_)
            | (with_reducible refine wpList_stb rfl 61 (.tmp 4) (.tmp 21) rfl wr.heap.size 0 _ rfl rfl 61 _ (Blk.new wr _ _) ?h1 ?h2 ?h3 ?_))
          case h1 => simp [inC_len _ _ _ HID.out]
          case h2 => rw [infoIn]; simp [inC_len _ _ _ HID.out]
          case h3 => exact inC_one _ _ _ rfl
          intro w4 b4 o4
          rw [over_all _ _ (by simp [inC_len _ _ _ HID.out])] at b4
          have hO4 : Below wr.heap.size wr w4 := (((Only.refl (fun b => wr.heap.size ≤ b) wr).alloc _).trans o4 (fun b _ e => by omega)).below (Nat.le_refl _) (fun b hb h => by omega)
          have HBL4 := Lib.hid (HBL.out.trans (hO4.mono HBL.out.size))
          have q33 := in_cell33g b4 HID.out
          clear b4 o4 hO4 HROW HBL
          generalize wr.heap.size = p at q33 ⊢
          by_cases hk : 200 < nk
          · have hf : (ins.all fun i => decide (i.2.1.length ≤ 200)) = false := by
              rw [List.all_eq_false]
              exact ⟨_, List.getElem_mem (by rw [HN.out]; exact hlt : j < ins.length), by rw [HIJ.out]; simp [← HNK.out]; omega⟩
            have HF := Lib.hid hf
            have dk : decide ((200 : Int) < (nk : Int)) = true := by simp; omega
            clear hf hk
            go_wp2
            go_ret
            exact ⟨by rw [HR.out, HF.out]; rfl, HBL4.out⟩
          · have dk : decide ((200 : Int) < (nk : Int)) = false := by simp; omega
            have hf : (ins.take (j + 1)).all (fun i => decide (i.2.1.length ≤ 200)) = true := by
              rw [take_snoc' ins j (by rw [HN.out]; exact hlt), List.all_append, HC.out, HIJ.out]
              simp [← HNK.out]; omega
            have HF := Lib.hid hf
            clear hf hk
            go_wp2
            go_roundg (n - 1 - j)
            case measure => omega
            case rel => exact ⟨j + 1, by omega, by have := HN40.out; first | rfl | (rw [IntWalk.wrap64_in _ (by omega)]; rfl), HF.out, HBL4.out⟩
        · obtain rfl : j = n := by omega
          have hf : (ins.all fun i => decide (i.2.1.length ≤ 200)) = true := by
            have := HC.out
            rwa [List.take_of_length_le (by rw [HN.out]; exact Nat.le_refl _)] at this
          have HF := Lib.hid hf
          clear hf
          go_wp2
          go_ret
          exact ⟨by rw [HR.out, HF.out]; rfl, HBL.out⟩
set_option maxRecDepth 20000 in
set_option maxHeartbeats 4000000 in
theorem good7_any (w : World) (A A' : Option Addr) (n n' c c' : Nat) (ins : List InT) (outs : List OutT) (ok : Nat → Prop)
    (hi : insSh.rel w ok [.slice A n c] ins) (hn : ins.length = n) (hn' : outs.length = n') (hm : n ≤ 1000000) :
    Calls Try.prog 18 #[.agg #[.slice A n c, .slice A' n' c']] w fun e w' => e = .returned (.bool (goodB (ins, outs, ()))) ∧ Below w.heap.size w w' := by
  have HI := Lib.hid hi
  have HN := Lib.hid hn
  have HN' := Lib.hid hn'
  have HN40 := Lib.hid hm
  clear hi hn hn' hm
  go_enter Try.func18, Try.ntmps18
  go_wp2_with fail
  generalize hW : World.alloc w _ = W
  have hbt : Blk W w.heap.size 25 #[.slice A n c, .slice A' n' c'] := by rw [← hW]; exact Blk.new _ _ _
  obtain ⟨g, hg⟩ : ∃ g, w.heap.size = g := ⟨_, rfl⟩
  have HG := Lib.hid hg
  rw [hg] at hbt ⊢
  have HBT := Lib.hid hbt
  clear hbt
  have hbl : Below w.heap.size w W := by rw [← hW]; exact (Below.refl _ _).alloc (Nat.le_refl _) _
  clear hW hg
  have HBL := Lib.hid hbl
  clear hbl
  go_loopg [8] n (fun k v8 wr => ∃ (j : Nat), j + k = n ∧ v8 = .int .i64 j ∧ Hid ((ins.take j).all (fun i => decide (i.2.1.length ≤ 100)) = true) ∧ Hid (Below w.heap.size w wr) ∧ Hid (Blk wr g 25 #[.slice A n c, .slice A' n' c']))
  case atStart => exact ⟨0, by omega, rfl, by simp [Hid], HBL, HBT⟩
  case round =>
    clear HBL HBT
    obtain ⟨j, hj, rfl, HC, HBL, HBT⟩ := hrel
    by_cases hlt : j < n
    · have hi' := insSh.below HI.out HBL.out (fun _ h _ => h)
      obtain ⟨b, o, id, ix, key, v, rfl, hb, hij, hrow, hkb, hid, hix⟩ := ins_at hi' (by rw [HN.out]; exact hlt)
      obtain ⟨Ak, nk, ck, rfl, hnk, hkc, hks⟩ := hkb
      have HIJ := Lib.hid hij
      have HROW := Lib.hid hrow
      have HID := Lib.hid hid
      have HNK := Lib.hid hnk
      clear hi' hij hrow hid hb hks hkc hix hnk
      go_wp2_with (first
        | (with_reducible refine wpList_ld rfl 61 (.tmp 10) rfl b (o + j * 34) rfl (inC id ix (.slice Ak nk ck)) HROW.out _ Try.underlying61 rfl 34 infoIn (inC_len _ _ _ HID.out).symm ?_)
        | (with_reducible refine wpList_stb rfl 61 (.tmp 4) (.tmp 11) rfl wr.heap.size 0 _ rfl rfl 61 _ (Blk.new wr _ _) ?h1 ?h2 ?h3 ?_))
      case h1 => simp [inC_len _ _ _ HID.out]
      case h2 => rw [infoIn]; simp [inC_len _ _ _ HID.out]
      case h3 => exact inC_one _ _ _ rfl
      intro w4 b4 o4
      rw [over_all _ _ (by simp [inC_len _ _ _ HID.out])] at b4
      have hO4 : Below wr.heap.size wr w4 := (((Only.refl (fun b => wr.heap.size ≤ b) wr).alloc _).trans o4 (fun b _ e => by omega)).below (Nat.le_refl _) (fun b hb h => by omega)
      have HBL4 := Lib.hid (HBL.out.trans (hO4.mono HBL.out.size))
      have HBT4 := Lib.hid (HBT.out.below hO4 HBT.out.lt)
      have q33 := in_cell33g b4 HID.out
      clear b4 o4 hO4 HROW HBL HBT
      generalize wr.heap.size = p at q33 ⊢
      by_cases hk : 100 < nk
      · have hf : (ins.all fun i => decide (i.2.1.length ≤ 100)) = false := by
          rw [List.all_eq_false]
          exact ⟨_, List.getElem_mem (by rw [HN.out]; exact hlt : j < ins.length), by rw [HIJ.out]; simp [← HNK.out]; omega⟩
        have HF := Lib.hid hf
        have dk : decide ((100 : Int) < (nk : Int)) = true := by simp; omega
        clear hf hk
        go_wp2
        go_ret
        exact ⟨by rw [goodB, HF.out]; rfl, HBL4.out⟩
      · have dk : decide ((100 : Int) < (nk : Int)) = false := by simp; omega
        have hf : (ins.take (j + 1)).all (fun i => decide (i.2.1.length ≤ 100)) = true := by
          rw [take_snoc' ins j (by rw [HN.out]; exact hlt), List.all_append, HC.out, HIJ.out]
          simp [← HNK.out]; omega
        have HF := Lib.hid hf
        clear hf hk
        go_wp2
        go_roundg (n - 1 - j)
        case measure => omega
        case rel => exact ⟨j + 1, by omega, by have := HN40.out; first | rfl | (rw [IntWalk.wrap64_in _ (by omega)]; rfl), HF.out, HBL4.out, HBT4.out⟩
    · obtain rfl : j = n := by omega
      have hf : (ins.all fun i => decide (i.2.1.length ≤ 100)) = true := by
        have := HC.out
        rwa [List.take_of_length_le (by rw [HN.out]; exact Nat.le_refl _)] at this
      have hres : goodB (ins, outs, ()) = (decide (j ≤ 32) && decide (n' ≤ 32)) := by simp only [goodB, hf, HN.out, HN'.out, Bool.true_and]
      have HR := Lib.hid hres
      clear hf hres
      have c0 := HBT.out.cell 0
      have c1 := HBT.out.cell 1
      simp only [List.getElem?_toArray, List.getElem?_cons_zero, List.getElem?_cons_succ] at c0 c1
      rcases Nat.lt_or_ge 32 j with h1 | h1
      · have d1 : decide ((j : Int) ≤ (32 : Int)) = false := by simp; omega
        have hr : (decide (j ≤ 32) && decide (n' ≤ 32)) = false := by simp; omega
        have HR2 := Lib.hid hr
        clear hr h1
        go_wp2
        go_ret
        exact ⟨by rw [HR.out, HR2.out]; rfl, HBL.out⟩
      · have d1 : decide ((j : Int) ≤ (32 : Int)) = true := by simp; omega
        have hr : (decide (j ≤ 32) && decide (n' ≤ 32)) = decide ((n' : Int) ≤ 32) := by rw [decide_eq_true h1, Bool.true_and]; exact decide_eq_decide.2 (by omega)
        have HR2 := Lib.hid hr
        clear hr h1
        go_wp2
        go_ret
        exact ⟨by rw [HR.out, HR2.out]; rfl, HBL.out⟩
end Go.Proofs.Ytpcombaecbjmfaa
