/- tx.ReadBlock: the block that bytes are. -/
import Derived.Test.YtpcombaecbjmfaaHr
import Derived.Test.YtpcombaecbjmfaaRe
import Derived.Test.YtpcombaecbjmfaaTk
namespace Go.Proofs.Ytpcombaecbjmfaa
open Go.RowKit
/-- what tx.ReadBlock hands out: the header's cells, the transactions -/
def blkH (l : List UInt8) : List Value := if blkE l = 0 then hdrR (rawO l 80) else hdrC 0 z32 z32 0 0 0
def blkT (l : List UInt8) : List TxT := if blkE l = 0 then (blkR (l, 0)).1 else []
theorem rawO_80 (l : List UInt8) : (rawO l 80).length = 80 ∧ 80 ≤ l.length ∨ rawO l 80 = [] ∧ l.length < 80 := by
  rcases Nat.lt_or_ge l.length 80 with h | h
  · exact .inr ⟨(raw_bad l 80 h 0).1, h⟩
  · refine .inl ⟨?_, h⟩
    rw [show (80 : Int) = ((80 : Nat) : Int) from rfl, (raw_parts l 80 h 0).1, List.length_take]; omega
theorem hdrR_len (l : List UInt8) : (hdrR l).length = 68 := by
  rw [hdrR]
  split
  · rename_i h
    exact hdrC_len _ _ _ _ _ _ (by simp [id32, h]) (by simp [id32, h])
  · exact hdrC_len 0 z32 z32 0 0 0 rfl rfl
theorem hdrR_one (l : List UInt8) : ∀ u ∈ hdrR l, u.oneCell' = true := by
  rw [hdrR]
  split
  · exact hdrC_one _ _ _ _ _ _
  · exact hdrC_one _ _ _ _ _ _
theorem txR_bad {s : RS} (h : s.2 ≠ 0) : (txR s).2.2 ≠ 0 := by
  intro hc
  exact h (txR_back hc).1
/-- the error's number stays -/
theorem tk_six {n : Int} {s : RS} (h : s.2 = 6) : (tk n s).2 = 6 := by
  show rawE s.1 s.2 n = 6
  unfold rawE errOf
  rw [h]
  split
  · rfl
  · rfl
theorem rawE_six {l : List UInt8} {e n : Int} (h : e = 6) : rawE l e n = 6 := tk_six (s := (l, e)) h
theorem cHead_six {l : List UInt8} {e : Int} (h : e = 6) : (cHead l e).2.2.2 = 6 := by
  unfold cHead
  split
  · exact rawE_six (rawE_six h)
  · split
    · exact rawE_six (rawE_six h)
    · split
      · exact rawE_six (rawE_six h)
      · exact rawE_six h
theorem cnt_six {n : Nat} {s : RS} (h : s.2 = 6) : (cnt n s).1 = 0 ∧ (cnt n s).2.2 = 6 := by
  show (rcountS s.1 s.2 n).1 = 0 ∧ (rcountS s.1 s.2 n).2.2 = 6
  have hc := cHead_six (l := s.1) h
  unfold rcountS
  generalize cHead s.1 s.2 = x at hc
  obtain ⟨m, least, l, e⟩ := x
  simp only [cEnd] at hc ⊢
  rw [if_pos (by rw [hc]; decide)]
  exact ⟨rfl, hc⟩
theorem blk_short {l : List UInt8} (h : l.length < 80) : (blkR (l, 0)).2.2 = 6 ∧ endS (blkR (l, 0)).2.1 (blkR (l, 0)).2.2 = 6 := by
  have h1 : (tk 80 (l, 0)).2 = 6 := (raw_bad l 80 h 0).2.2
  obtain ⟨h2, h3⟩ := cnt_six (n := 32) h1
  have h4 : (blkR (l, 0)).2.2 = 6 := by
    unfold blkR
    rw [h2]
    exact h3
  refine ⟨h4, ?_⟩
  unfold endS
  rw [h4, if_neg (fun h => absurd h.1 (by decide))]
theorem built_blk0 : Try.prog.built 46 [] = some (hdrC 0 z32 z32 0 0 0 ++ [Value.slice none 0 0]).toArray := by show _ = _; kernel_rfl
theorem built_blk1 (H : List Value) (h : H.length = 68) : Try.prog.built 46 [(0, .agg H.toArray)] = some (H ++ [Value.slice none 0 0]).toArray := by
  match H, h with
  | _ :: _ :: _ :: _ :: _ :: _ :: _ :: _ :: _ :: _ :: _ :: _ :: _ :: _ :: _ :: _ :: _ :: _ :: _ :: _ :: _ :: _ :: _ :: _ :: _ :: _ :: _ :: _ :: _ :: _ :: _ :: _ :: _ :: _ :: _ :: _ :: _ :: _ :: _ :: _ :: [_, _, _, _, _, _, _, _, _, _, _, _, _, _, _, _, _, _, _, _, _, _, _, _, _, _, _, _], _ => (show _ = _; kernel_rfl)
theorem each_own {α : Type} {s : Shape α} (hw : s.Weak) {w w' : World} {L : Nat} {v v' : Value} {cells : List (List Value)} {ls : List α} (h : Each (s.rel w (fun b => L ≤ b ∧ v.ownBlock ≠ some b)) cells ls) (ho : Only (fun b => v.ownBlock = some b) w w')
    (hat : v'.ownBlock = v.ownBlock ∨ v'.ownBlock = some w.heap.size) : Each (s.rel w' (fun b => L ≤ b ∧ v'.ownBlock ≠ some b)) cells ls :=
  h.mono (fun _ _ h => hw _ _ _ _ _ (s.only (hw _ _ (fun b => (L ≤ b ∧ v.ownBlock ≠ some b) ∧ b < w.heap.size) _ _ h (fun b hb hh => ⟨hh, hb⟩)) ho (fun b _ hb => hb.1.2)) (fun b _ hb => ⟨hb.1.1, by
    rcases hat with e | e
    · rw [e]; exact hb.1.2
    · rw [e]; intro e2; injection e2 with e2; omega⟩))
theorem own_lt {w : World} {base : Nat} {e : TypeId} {size n : Nat} {v : Value} {xs : List Value} (h : w.ownsRow base e size v n xs) {b : Nat} (hb : v.ownBlock = some b) : b < w.heap.size := by
  rcases h.2 with ⟨rfl, _⟩ | ⟨g', cap, cur, rfl, _, hh, _⟩
  · simp [Value.ownBlock] at hb
  · have : g' = b := by simpa [Value.ownBlock] using hb
    subst this
    exact blk_lt hh
theorem weak_tx3 : txSh.Weak := weak_pair (weak_slice weak_in3) (weak_pair (weak_slice weak_out3) weak_unit)
theorem infoTxz3 : (Try.prog.info? 25).map (fun i => (i.zero, i.size, i.bytes)) = some (some (.agg #[.slice none 0 0, .slice none 0 0]), 2, 48) := by kernel_rfl
theorem blk_last {w : World} {q : Nat} {T : TypeId} {H : List Value} {v : Value} (h : Blk w q T (H ++ [v]).toArray) (hl : H.length = 68) : w.cell? ⟨q, 68, none⟩ = some v := by
  rw [h.cell 68, List.getElem?_toArray, List.getElem?_append_right (by omega), hl]; rfl
theorem blk_last_set {w : World} {q : Nat} {T : TypeId} {H : List Value} {v : Value} (h : Blk w q T (H ++ [v]).toArray) (hl : H.length = 68) (u : Value) : Blk (w.setCell ⟨q, 68, none⟩ u) q T (H ++ [u]).toArray := by
  have := h.set_ 68 u
  rwa [List.setIfInBounds_toArray, List.set_append_right _ _ (by omega), hl, show (68 - 68) = 0 from rfl, List.set_cons_zero] at this
theorem one_app {H : List Value} {A : Option Addr} {n c : Nat} (h : ∀ u ∈ H, u.oneCell' = true) : ∀ u ∈ H ++ [Value.slice A n c], u.oneCell' = true := by
  intro u hu
  rcases List.mem_append.1 hu with h1 | h1
  · exact h u h1
  · rw [List.mem_singleton.1 h1]; rfl
set_option linter.unusedSimpArgs false in
set_option maxRecDepth 20000 in
set_option maxHeartbeats 4000000 in
theorem tx_ReadBlock_any (w : World) (v : Value) (l : List UInt8) (ok : Nat → Prop) (h : IsB w ok v l) (hl : l.length ≤ 1000000000000) :
    Calls Try.prog 23 #[v] w fun e w' => ∃ A n c, e = .returned (.tuple #[.agg (blkH l ++ [Value.slice A n c]).toArray, .int .i64 (blkE l)]) ∧ txsSh.rel w' (fun b => w.heap.size ≤ b) [.slice A n c] (blkT l) ∧ n ≤ 32 ∧ Below w.heap.size w w' := by
  have hzv : ∀ w : World, (zeroValue 46).run Try.prog w = .ok (.agg (hdrC 0 z32 z32 0 0 0 ++ [Value.slice none 0 0]).toArray) w := fun _ => by show _ = _; kernel_rfl
  obtain ⟨Av, nv, cv, rfl, hn, hc, hs⟩ := h
  have HHL := Lib.hid (show (hdrC 0 z32 z32 0 0 0).length = 68 from hdrC_len 0 z32 z32 0 0 0 rfl rfl)
  have RD := Lib.hid (fun W (hoW : Only (fun _ => False) w W) => read_any W (.slice Av nv cv) l ok (IsB.only (S := fun _ => False) (⟨Av, nv, cv, rfl, hn, hc, hs⟩ : IsB w ok (.slice Av nv cv) l) hoW (fun _ _ _ h => h)) hl)
  go_enter Try.func23, Try.ntmps23
  go_upto_region 1 with fail
  generalize hW : World.alloc w _ = W
  have hoW : Only (fun _ => False) w W := by rw [← hW]; exact (Only.refl _ w).alloc _
  have hz : ∃ z : List Value, z.length = 69 ∧ Blk W w.heap.size 46 z.toArray := by rw [← hW]; exact ⟨_, by rfl, Blk.new _ _ _⟩
  obtain ⟨z, hzl, hz⟩ := hz
  have hbl : Below w.heap.size w W := by rw [← hW]; exact (Below.refl _ _).alloc (Nat.le_refl _) _
  clear hW
  obtain ⟨q, hq⟩ : ∃ q, w.heap.size = q := ⟨_, rfl⟩
  rw [hq] at hz ⊢
  have HQ := Lib.hid hq
  have HZ := Lib.hid hz
  have HZL := Lib.hid hzl
  have HBL := Lib.hid hbl
  have R1 := Lib.hid (RD.out W hoW)
  clear hq hz hzl hbl hoW RD hs hc hl
  by_cases hbig : 8192 < nv
  · have d1 : decide ((8192 : Int) < (nv : Int)) = true := by simp; omega
    have hE : blkE l = 2 := by rw [blkE, if_pos (by omega)]
    have HE := Lib.hid hE
    have HH := Lib.hid (show blkH l = hdrC 0 z32 z32 0 0 0 by rw [blkH, if_neg (by rw [hE]; decide)])
    have HT := Lib.hid (show blkT l = [] by rw [blkT, if_neg (by rw [hE]; decide)])
    clear hE hbig hn R1
    -- nothing is handed out but the error
    go_wp2_with (first
      | (with_reducible refine wpList_bld rfl 46 _ rfl [] _ built_blk0 (by simp [Act.eval, Act.put]) ?_)
      | (with_reducible refine wpList_stb rfl 46 (.tmp 2) (.tmp 12) rfl q 0 _ rfl rfl 46 z HZ.out ?e1 ?e2 ?e3 ?_))
    case e1 => simp [HHL.out, HZL.out]
    case e2 => rw [infoBlk]; simp [HHL.out]
    case e3 => first | exact one_app (hdrC_one _ _ _ _ _ _) | (intro v hv; rcases hv with h | h; exact hdrC_one _ _ _ _ _ _ v h; rw [h]; rfl)
    intro w6 b6 o6
    rw [over_all _ _ (by simp [HHL.out, HZL.out])] at b6
    have HB6 := Lib.hid b6
    have O6 := Lib.hid o6
    clear b6 o6
    go_wp2
    refine bodyPost_ret (results_row_tmp rfl _ _ q 46 (hdrC 0 z32 z32 0 0 0 ++ [Value.slice none 0 0]).toArray (0, 0) _ rfl HB6.out Try.underlying46 rfl (by rw [infoBlk]; simp [HHL.out])) rfl ?_
    refine ⟨none, 0, 0, by rw [HH.out, HE.out]; rfl, ?_, by omega, HBL.out.trans (O6.out.below HBL.out.size (fun b hb e => by have := HQ.out; omega))⟩
    rw [HT.out]
    exact ⟨none, 0, [], rfl, Nat.le_refl _, by simp [maxLen], .nil, Sl.nil _ _ _ _⟩
  · have d1 : decide ((8192 : Int) < (nv : Int)) = false := by simp; omega
    have hE : blkE l = endS (blkR (l, 0)).2.1 (blkR (l, 0)).2.2 := by rw [blkE, if_neg (by omega)]
    have HE0 := Lib.hid hE
    clear hE hbig hn
    go_wp2_with fail
    refine R1.out.mono ?_
    rintro e1 w1 ⟨g, rfl, r1, a1⟩
    obtain ⟨hi, hhi⟩ : ∃ hi, w1.heap.size = hi := ⟨_, rfl⟩
    obtain ⟨lo, hlo⟩ : ∃ lo, W.heap.size = lo := ⟨_, rfl⟩
    have hqlo : q < lo := by rw [← hlo]; exact HZ.out.lt
    have hql : w.heap.size ≤ hi := by rw [← hhi]; exact Nat.le_trans HBL.out.size a1.size
    rw [hhi, hlo] at r1
    have HG := Lib.hid (show q < g ∧ lo ≤ g ∧ g < hi ∧ q < lo ∧ w.heap.size ≤ hi from ⟨by have := r1.mid.1; omega, r1.mid.1, r1.mid.2, hqlo, hql⟩)
    have HRD := Lib.hid r1
    have HIW := Lib.hid (show hi ≤ w1.heap.size by omega)
    replace HZ := Lib.hid (HZ.out.below a1 HZ.out.lt)
    replace HBL := Lib.hid (HBL.out.trans (a1.mono HBL.out.size))
    clear a1 r1 R1 hqlo hql hhi hlo d1
    obtain ⟨s1, hs1⟩ : ∃ t, tk 80 (l, 0) = t := ⟨_, rfl⟩
    obtain ⟨x, hx⟩ : ∃ x, rawO l 80 = x := ⟨_, rfl⟩
    have RR := rraw_any w1 lo hi g l 0 80 HRD.out
    have e1 : rawL l 80 = s1.1 := by rw [← hs1]; rfl
    have e2 : rawE l 0 80 = s1.2 := by rw [← hs1]; rfl
    rw [hx, e1, e2] at RR
    replace RR := Lib.hid RR
    have HS1 := Lib.hid hs1
    have HX := Lib.hid hx
    clear e1 e2 hs1 hx
    go_wp2_with fail
    refine RR.out.mono ?_
    rintro e2 w2 ⟨v2, rfl, hv2, r2, o2⟩
    replace HRD := Lib.hid r2
    replace HZ := Lib.hid (HZ.out.only o2 (by have := HG.out; omega))
    replace HBL := Lib.hid (HBL.out.trans (o2.below HBL.out.size (fun b hb e => by have := HG.out; have := HQ.out; omega)))
    replace HIW := Lib.hid (Nat.le_trans HIW.out o2.size)
    have HR := Lib.hid (head_Read_any w2 v2 x _ hv2.isB)
    clear r2 o2 RR hv2
    go_wp2_with fail
    refine HR.out.mono ?_
    rintro e3 w3 ⟨rfl, a3⟩
    replace HRD := Lib.hid (HRD.out.only (Only.of_below a3) (fun b hb _ _ e => by omega))
    replace HIW := Lib.hid (Nat.le_trans HIW.out a3.size)
    replace HZ := Lib.hid (HZ.out.below a3 HZ.out.lt)
    replace HBL := Lib.hid (HBL.out.trans (a3.mono HBL.out.size))
    clear a3 HR
    have hl68 := hdrR_len x
    obtain ⟨H, hH⟩ : ∃ H, hdrR x = H := ⟨_, rfl⟩
    have hH1 := hdrR_one x
    rw [hH] at hl68 hH1 ⊢
    obtain ⟨E1, hE1⟩ : ∃ E, hdrE x = E := ⟨_, rfl⟩
    rw [hE1]
    have HHX := Lib.hid hH
    have HE1 := Lib.hid hE1
    have HL := Lib.hid hl68
    have HH1 := Lib.hid hH1
    clear hH hE1 hH1
    go_wp2_with (with_reducible refine wpList_stb rfl 43 (.tmp 5) (.tmp 19) rfl w3.heap.size 0 _ rfl rfl 43 _ (Blk.new w3 _ _) ?h1 ?h2 ?h3 ?_)
    case h1 => simp [HL.out]
    case h2 => rw [infoHdr]; simp [HL.out]
    case h3 => exact HH1.out
    intro w4 b4 o4
    rw [over_all _ _ (by simp [HL.out])] at b4
    have hO4 : Below w3.heap.size w3 w4 := (((Only.refl (fun b => w3.heap.size ≤ b) w3).alloc _).trans o4 (fun b _ e => by omega)).below (Nat.le_refl _) (fun b hb h => by omega)
    replace HRD := Lib.hid (HRD.out.only (Only.of_below hO4) (fun b hb _ _ e => by omega))
    replace HIW := Lib.hid (Nat.le_trans HIW.out hO4.size)
    replace HZ := Lib.hid (HZ.out.below hO4 HZ.out.lt)
    replace HBL := Lib.hid (HBL.out.trans (hO4.mono HBL.out.size))
    have H5 := Lib.hid b4
    clear b4 o4 hO4 hl68
    generalize w3.heap.size = p5 at H5 ⊢
    go_wp2_with (first
      | (with_reducible refine wpList_ld rfl 43 (.tmp 5) rfl p5 0 rfl H H5.out.rowAll _ Try.underlying43 rfl 68 infoHdr HL.out.symm ?_)
      | (with_reducible refine wpList_bld rfl 46 _ rfl [(0, .agg H.toArray)] _ (built_blk1 H HL.out) (by simp [Act.eval, Act.put]) ?_)
      | (with_reducible refine wpList_stb rfl 46 (.tmp 7) (.tmp 22) rfl w4.heap.size 0 _ rfl rfl 46 _ (Blk.new w4 _ _) ?h1 ?h2 ?h3 ?_))
    case h1 => simp [HL.out, HHL.out]
    case h2 => rw [infoBlk]; simp [HL.out]
    case h3 => first | exact one_app HH1.out | (intro v hv; rcases hv with h | h; exact HH1.out v h; rw [h]; rfl)
    intro w5 b5 o5
    rw [over_all _ _ (by simp [HL.out, HHL.out])] at b5
    have hO5 : Below w4.heap.size w4 w5 := (((Only.refl (fun b => w4.heap.size ≤ b) w4).alloc _).trans o5 (fun b _ e => by omega)).below (Nat.le_refl _) (fun b hb h => by omega)
    have hi7 : hi ≤ w4.heap.size := HIW.out
    replace HRD := Lib.hid (HRD.out.only (Only.of_below hO5) (fun b hb _ _ e => by omega))
    replace HIW := Lib.hid (Nat.le_trans HIW.out hO5.size)
    replace HZ := Lib.hid (HZ.out.below hO5 HZ.out.lt)
    replace HBL := Lib.hid (HBL.out.trans (hO5.mono HBL.out.size))
    have H7 := Lib.hid b5
    clear b5 o5 hO5 H5 hzv
    obtain ⟨p7, hp7⟩ : ∃ p7, w4.heap.size = p7 := ⟨_, rfl⟩
    rw [hp7] at H7 hi7 ⊢
    have HP7 := Lib.hid hi7
    have HSZ := Lib.hid (show p7 + 1 ≤ w5.heap.size from H7.out.lt)
    clear hp7 hi7
    obtain ⟨n0, hk⟩ : ∃ k, (cnt 32 s1).1 = k := ⟨_, rfl⟩
    obtain ⟨s0, ht⟩ : ∃ t, (cnt 32 s1).2 = t := ⟨_, rfl⟩
    have RC := rcount_any w5 lo hi g s1.1 s1.2 32 HRD.out
    have hle := cnt_le 32 s1
    rw [hk] at hle
    have Es0 := Lib.hid (show cnt 32 s1 = (n0, s0) by rw [← hk, ← ht])
    rw [show rcountS s1.1 s1.2 32 = (n0, s0) from Es0.out] at RC
    replace RC := Lib.hid RC
    clear hk ht
    go_wp2_with fail
    refine RC.out.mono ?_
    rintro e6 w6 ⟨rfl, r6, o6⟩
    replace HRD := Lib.hid r6
    replace HZ := Lib.hid (HZ.out.only o6 (by have := HG.out; omega))
    replace H7 := Lib.hid (H7.out.only o6 (by have := HG.out; have := HP7.out; omega))
    replace HBL := Lib.hid (HBL.out.trans (o6.below HBL.out.size (fun b hb e => by have := HG.out; have := HQ.out; omega)))
    replace HSZ := Lib.hid (Nat.le_trans HSZ.out o6.size)
    clear r6 o6 RC HIW
    go_wp2_with fail
    go_loopg [25] n0 (fun k v25 wr => ∃ (i : Nat) (si : RS) (ts : List TxT) (A5 : Option Addr) (c5 : Nat) (cells : List (List Value)), i + k = n0 ∧ v25 = .int .u64 (i : Int) ∧ Hid (many txR i s0 = (ts, si)) ∧ Hid (IsRd wr lo hi g si.1 si.2) ∧ Hid (Blk wr q 46 z.toArray) ∧ Hid (Blk wr p7 46 (H ++ [Value.slice A5 i c5]).toArray) ∧ Hid (wr.ownsRow (p7 + 1) 25 2 (.slice A5 i c5) i cells.flatten) ∧ Hid (Each (txSh.rel wr (fun b => p7 + 1 ≤ b ∧ (Value.slice A5 i c5).ownBlock ≠ some b)) cells ts) ∧ Hid (Below w.heap.size w wr) ∧ Hid (p7 + 1 ≤ wr.heap.size))
    case atStart => exact ⟨0, s0, [], none, 0, [], by omega, rfl, rfl, HRD.out, HZ.out, H7.out, World.ownsRow_nil _ _ _ _, .nil, HBL.out, HSZ.out⟩
    case round =>
      clear HRD HZ H7 HBL HSZ
      obtain ⟨i, si, ts, A5, c5, cells, hik, rfl, HSI, HRD, HZ, H7, HOW, HE, HBL, HSZ⟩ := hrel
      by_cases hlt : i < n0
      · have d2 : decide (i < n0) = true := by simpa using hlt
        obtain ⟨T, hT⟩ : ∃ T, txR si = T := ⟨_, rfl⟩
        have HST := Lib.hid (show many txR (i + 1) s0 = (ts ++ [T.1], T.2) by rw [many, HSI.out, hT])
        have HTT := Lib.hid hT
        have hgp : g < p7 := by have := HG.out; have := HP7.out; omega
        have hhp : hi ≤ p7 := HP7.out
        have hqp : q < p7 := by have := HG.out; omega
        have hwp : w.heap.size ≤ p7 := by have := HG.out; omega
        have hi32 : i < 32 := by omega
        clear hT
        go_wp2
        replace HRD := Lib.hid (HRD.out.only ((Only.refl (fun _ => False) wr).drew) (fun _ _ _ _ h => h))
        replace HOW := Lib.hid (own_only HOW.out ((Only.refl (fun _ => False) wr).drew) (fun _ _ h => h))
        replace HE := Lib.hid (HE.out.mono (fun _ _ h => txSh.only h ((Only.refl (fun _ => False) wr).drew) (fun _ _ _ h => h)))
        refine wp_region_tail (S := (fun w' => Blk w' p7 46 (H ++ [Value.slice A5 i c5]).toArray ∧ Blk w' q 46 z.toArray ∧ Below w.heap.size w w' ∧ p7 + 1 ≤ w'.heap.size)) 7 (by kernel_rfl) (by decide) (by kernel_rfl) (⟨H7.out.drew, HZ.out.drew, HBL.out.drew, HSZ.out⟩) ?_
        simp only [List.take_succ_cons, List.take_zero, List.drop_succ_cons, List.drop_zero]
        intro hSw
        refine wpAnyH_take (i := 0) (oi := ⟨some 27, _, _, _, _, _⟩) (v := (.pointer (some ⟨p7, 68, none⟩))) rfl (by kernel_rfl) (by kernel_rfl) (by kernel_rfl) (fun _ _ _ h => h) (Or.inl ⟨by rfl, ?_⟩) hSw ?_
        · intro w' hSw'
          have c0 := blk_last hSw'.1 HL.out
          go_simp
        simp only [Act.put, List.setIfInBounds_toArray, List.set_cons_zero, List.set_cons_succ]
        refine wpAnyH_take (i := 1) (oi := ⟨some 28, _, _, _, _, _⟩) (v := (.slice A5 i c5)) rfl (by kernel_rfl) (by kernel_rfl) (by kernel_rfl) (fun _ _ _ h => h) (Or.inl ⟨by rfl, ?_⟩) hSw ?_
        · intro w' hSw'
          have c0 := blk_last hSw'.1 HL.out
          go_simp
        simp only [Act.put, List.setIfInBounds_toArray, List.set_cons_zero, List.set_cons_succ]
        refine wpAnyH_take (i := 2) (oi := ⟨some 29, _, _, _, _, _⟩) (v := (.pointer (some ⟨g, 0, none⟩))) rfl (by kernel_rfl) (by kernel_rfl) (by kernel_rfl) (fun _ _ _ h => h) (Or.inl ⟨by rfl, ?_⟩) hSw ?_
        · intro w' hSw'
          have c0 := blk_last hSw'.1 HL.out
          go_simp
        simp only [Act.put, List.setIfInBounds_toArray, List.set_cons_zero, List.set_cons_succ]
        refine wpAnyH_ready (rs := [3]) (by kernel_rfl) (by simp) (AllReadyH.cons (o := ⟨some 30, _, _, _, _, _⟩) rfl (fun K hK => ?_) AllReadyH.nil)
        have TR := tx_read_any _ lo hi g si HRD.out
        rw [HTT.out] at TR
        replace TR := Lib.hid TR
        go_simp
        go_at_call 40
        refine TR.out.mono ?_
        rintro e7 w7 ⟨A1, m1, d1, A2, m2, d2', rfl, ri, ro, _, _, r7, o7⟩
        replace HRD := Lib.hid r7
        have hxs : txSh.rel w7 (fun b => p7 + 1 ≤ b ∧ (Value.slice A5 i c5).ownBlock ≠ some b) [.slice A1 m1 d1, .slice A2 m2 d2'] T.1 :=
          weak_tx3 _ _ _ _ _ (show txSh.rel w7 _ [.slice A1 m1 d1, .slice A2 m2 d2'] T.1 from ⟨[.slice A1 m1 d1], [.slice A2 m2 d2'], rfl, ri, ⟨[.slice A2 m2 d2'], [], rfl, ro, rfl⟩⟩) (fun b _ hb => ⟨Nat.le_trans hSw.2.2.2 hb, fun e => by have := own_lt HOW.out e; omega⟩)
        replace HE := Lib.hid ((HE.out.mono (fun _ _ h => txSh.only h o7 (fun b _ hb e => by have := hb.1; omega))).append (.cons hxs .nil))
        replace HOW := Lib.hid (own_only HOW.out o7 (fun k e h => by have := own_ge HOW.out e; omega))
        clear ri ro r7 TR hxs
        dsimp only
        refine hK.out _ _ (⟨hSw.1.only o7 (by omega), hSw.2.1.only o7 (by have := HG.out; omega), hSw.2.2.1.trans (o7.below hSw.2.2.1.size (fun b hb e => by have := HG.out; have := HQ.out; omega)), Nat.le_trans hSw.2.2.2 o7.size⟩) ?_
        intro hSw
        clear hK K
        try simp only [Act.put, List.setIfInBounds_toArray, List.set_cons_zero, List.set_cons_succ]
        refine wpAnyH_ready (rs := [4]) (by kernel_rfl) (by simp) (AllReadyH.cons (o := ⟨some 31, _, _, _, _, _⟩) rfl (fun K hK => ?_) AllReadyH.nil)
        go_simp
        replace HOW := Lib.hid (HOW.out.alloc (.cells #[.slice A1 m1 d1, .slice A2 m2 d2'] 25))
        replace HE := Lib.hid (HE.out.mono (fun _ _ h => txSh.only h ((Only.refl (fun _ => False) w7).alloc (.cells #[.slice A1 m1 d1, .slice A2 m2 d2'] 25)) (fun _ _ _ h => h)))
        replace HRD := Lib.hid (HRD.out.only ((Only.refl (fun _ => False) w7).alloc (.cells #[.slice A1 m1 d1, .slice A2 m2 d2'] 25)) (fun _ _ _ _ h => h))
        refine hK.out _ _ (⟨hSw.1.alloc _, hSw.2.1.alloc _, hSw.2.2.1.alloc hSw.2.2.1.size _, Nat.le_trans hSw.2.2.2 (by simp)⟩) ?_
        intro hSw
        clear hK K
        try simp only [Act.put, List.setIfInBounds_toArray, List.set_cons_zero, List.set_cons_succ]
        refine wpAnyH_ready (rs := [5]) (by kernel_rfl) (by simp) (AllReadyH.cons (o := ⟨some 32, _, _, _, _, _⟩) rfl (fun K hK => ?_) AllReadyH.nil)
        refine step_app rfl (.tmp 28) (.tmp 31) 44 rfl (p7 + 1) 25 _ 2 48 Try.underlying44 infoTxz3 (by rfl) (by decide) A5 i c5 rfl _ 1 1 rfl _ HOW.out _ _ (Sl.one_row w7 25 [.slice A1 m1 d1, .slice A2 m2 d2'] 2 rfl) (by intro u hu; simp only [List.mem_cons, List.not_mem_nil, or_false] at hu; rcases hu with rfl | rfl <;> rfl) (by unfold maxLen; omega) (by omega) hSw.2.2.2 ?_
        intro A7 c7 w9 hown9 ho9 hat9
        have ho8 := ho9.mono (S' := fun b => p7 + 1 ≤ b) (fun b hb e => own_ge HOW.out e)
        replace HE := Lib.hid (each_own weak_tx3 HE.out ho9 hat9)
        replace HRD := Lib.hid (HRD.out.only ho8 (fun b _ _ hb e => by omega))
        replace HOW := Lib.hid hown9
        clear hown9 ho9 hat9
        refine hK.out _ _ (⟨hSw.1.only ho8 (by omega), hSw.2.1.only ho8 (by omega), hSw.2.2.1.trans (ho8.below hSw.2.2.1.size (fun b hb e => by omega)), Nat.le_trans hSw.2.2.2 ho8.size⟩) ?_
        intro hSw
        clear hK K
        try simp only [Act.put, List.setIfInBounds_toArray, List.set_cons_zero, List.set_cons_succ]
        refine wpAnyH_take (i := 6) (oi := ⟨some 33, _, _, _, _, _⟩) (v := (.pointer (some ⟨p7, 68, none⟩))) rfl (by kernel_rfl) (by kernel_rfl) (by kernel_rfl) (fun _ _ _ h => h) (Or.inl ⟨by rfl, ?_⟩) hSw ?_
        · intro w' hSw'
          have c0 := blk_last hSw'.1 HL.out
          go_simp
        simp only [Act.put, List.setIfInBounds_toArray, List.set_cons_zero, List.set_cons_succ]
        refine wpAnyH_done (by kernel_rfl) ?_ _
        show wpList _ _ _ _ _ _
        replace H7 := Lib.hid hSw.1
        replace HZ := Lib.hid hSw.2.1
        replace HBL := Lib.hid hSw.2.2.1
        replace HSZ := Lib.hid hSw.2.2.2
        have c1 := blk_last H7.out HL.out
        have f1 := H7.out.frozen 68
        clear hSw d2
        go_wp2
        go_roundg (n0 - (i + 1))
        case measure => omega
        case rel =>
          have hob : Only (fun b => b = p7) w9 (w9.setCell ⟨p7, 68, none⟩ (.slice A7 (i + 1) c7)) := (Only.refl (fun b => b = p7) _).setCell (p := ⟨p7, 68, none⟩) (fun _ => rfl) _
          refine ⟨i + 1, T.2, _, A7, c7, cells ++ [[Value.slice A1 m1 d1, Value.slice A2 m2 d2']], by omega, ?_, HST.out, HRD.out.only hob (fun b _ _ hb e => by omega), HZ.out.only hob (by omega), blk_last_set H7.out HL.out _, own_only ?_ hob (fun k e h => by have := own_ge HOW.out e; omega), HE.out.mono (fun _ _ h => txSh.only h hob (fun b _ hb e => by have := hb.1; omega)), HBL.out.trans (hob.below HBL.out.size (fun b hb e => by omega)), Nat.le_trans HSZ.out hob.size⟩
          · first | rfl | (rw [IntKind.wrap_u64]; congr 1; omega)
          · have := HOW.out
            rw [List.flatten_append]
            simpa using this
      · have d2 : decide (i < n0) = false := by simpa using hlt
        obtain rfl : n0 = i := by omega
        clear hlt hik
        have hB : blkR (l, 0) = (ts, si) := by
          unfold blkR
          rw [HS1.out, Es0.out]
          exact HSI.out
        have hE2 : blkE l = endS si.1 si.2 := by rw [HE0.out, hB]
        have HB := Lib.hid hB
        have HE2 := Lib.hid hE2
        have htl : ts.length = n0 := by have := many_len txR n0 s0; rw [HSI.out] at this; exact this
        have hts : txsSh.rel wr (fun b => p7 + 1 ≤ b) [.slice A5 n0 c5] ts := own_shut HOW.out (HE.out.mono (fun _ _ h => weak_tx3 _ _ _ _ _ h (fun b _ hb => hb.1))) htl (fun b h1 _ => h1)
        have HTS := Lib.hid hts
        have hqp : q < p7 := by have := HG.out; have := HP7.out; omega
        have hwp : w.heap.size ≤ p7 := by have := HG.out; have := HP7.out; omega
        clear hB hE2 htl hts HOW HE d2
        have RE := Lib.hid (rend_any wr lo hi g si.1 si.2 HRD.out)
        go_wp2_with fail
        refine RE.out.mono ?_
        rintro e8 w8 ⟨rfl, nd, hw8⟩
        have hO8 : Only (fun _ => False) wr w8 := by rw [hw8]; exact (Only.refl _ wr).drewN nd
        replace HZ := Lib.hid (HZ.out.only hO8 (fun h => h))
        replace H7 := Lib.hid (H7.out.only hO8 (fun h => h))
        replace HBL := Lib.hid (HBL.out.trans (hO8.below HBL.out.size (fun _ _ h => h)))
        replace HTS := Lib.hid (txsSh.only HTS.out hO8 (fun _ _ _ h => h))
        clear hO8 hw8 RE HRD
        obtain ⟨E, hEE⟩ : ∃ E, endS si.1 si.2 = E := ⟨_, rfl⟩
        have hE3 : blkE l = E := by rw [HE2.out, hEE]
        rw [hEE]
        have HE := Lib.hid hE3
        clear hEE HE2
        rcases rawO_80 l with ⟨h80, h80'⟩ | ⟨h80, h80'⟩
        · have hz1 : E1 = 0 := by rw [← HE1.out, ← HX.out, hdrE, if_pos h80]
          clear h80 h80'
          subst hz1
          by_cases hE0 : E = 0
          · subst hE0
            have HH := Lib.hid (show blkH l = H by rw [blkH, if_pos hE3, HX.out, HHX.out])
            have HT := Lib.hid (show blkT l = ts by rw [blkT, if_pos hE3, HB.out])
            clear hE3
            have hl69 : (H ++ [Value.slice A5 n0 c5]).length = 69 := by simp [HL.out]
            go_wp2_with (first
              | (with_reducible refine wpList_ld rfl 46 (.tmp 7) rfl p7 0 rfl (H ++ [Value.slice A5 n0 c5]) H7.out.rowAll _ Try.underlying46 rfl 69 infoBlk hl69.symm ?_)
              | (with_reducible refine wpList_stb rfl 46 (.tmp 2) (.tmp 44) rfl q 0 _ rfl rfl 46 z HZ.out ?h1 ?h2 ?h3 ?_))
            case h1 => simp [HL.out, HZL.out]
            case h2 => rw [infoBlk]; simp [HL.out]
            case h3 => first | exact one_app HH1.out | (intro v hv; rcases hv with h | h; exact HH1.out v h; rw [h]; rfl)
            intro w9 b9 o9
            rw [over_all _ _ (by simp [HL.out, HZL.out])] at b9
            have HB9 := Lib.hid b9
            have O9 := Lib.hid o9
            clear b9 o9
            go_wp2
            refine bodyPost_ret (results_row_tmp rfl _ _ q 46 (H ++ [Value.slice A5 n0 c5]).toArray (0, 0) _ rfl HB9.out Try.underlying46 rfl (by rw [infoBlk]; simp [HL.out])) rfl ?_
            refine ⟨A5, n0, c5, by rw [HH.out, HE.out]; rfl, ?_, by omega, HBL.out.trans (O9.out.below HBL.out.size (fun b hb e => by have := HQ.out; omega))⟩
            rw [HT.out]
            exact weak_slice weak_tx3 _ _ _ _ _ (txsSh.only HTS.out O9.out (fun b _ hb e => by omega)) (fun b _ hb => by omega)
          · have HH := Lib.hid (show blkH l = hdrC 0 z32 z32 0 0 0 by rw [blkH, if_neg (by rw [hE3]; exact hE0)])
            have HT := Lib.hid (show blkT l = [] by rw [blkT, if_neg (by rw [hE3]; exact hE0)])
            have ez : (E == 0) = false := by simpa using hE0
            have ez2 : (E != 0) = true := by simpa using hE0
            clear hE3 hE0
            -- nothing is handed out but the error
            go_wp2_with (first
              | (with_reducible refine wpList_bld rfl 46 _ rfl [] _ built_blk0 (by simp [Act.eval, Act.put]) ?_)
              | (with_reducible refine wpList_stb rfl 46 (.tmp 2) (.tmp 42) rfl q 0 _ rfl rfl 46 z HZ.out ?i1 ?i2 ?i3 ?_))
            case i1 => simp [HHL.out, HZL.out]
            case i2 => rw [infoBlk]; simp [HHL.out]
            case i3 => first | exact one_app (hdrC_one _ _ _ _ _ _) | (intro v hv; rcases hv with h | h; exact hdrC_one _ _ _ _ _ _ v h; rw [h]; rfl)
            intro w6 b6 o6
            rw [over_all _ _ (by simp [HHL.out, HZL.out])] at b6
            have HB6 := Lib.hid b6
            have O6 := Lib.hid o6
            clear b6 o6
            go_wp2
            refine bodyPost_ret (results_row_tmp rfl _ _ q 46 (hdrC 0 z32 z32 0 0 0 ++ [Value.slice none 0 0]).toArray (0, 0) _ rfl HB6.out Try.underlying46 rfl (by rw [infoBlk]; simp [HHL.out])) rfl ?_
            refine ⟨none, 0, 0, by rw [HH.out, HE.out]; rfl, ?_, by omega, HBL.out.trans (O6.out.below HBL.out.size (fun b hb e => by have := HQ.out; omega))⟩
            rw [HT.out]
            exact ⟨none, 0, [], rfl, Nat.le_refl _, by simp [maxLen], .nil, Sl.nil _ _ _ _⟩
        · have hz1 : E1 = 6 := by rw [← HE1.out, ← HX.out, h80]; rfl
          have hb6 : blkE l = 6 := by rw [HE0.out]; exact (blk_short h80').2
          have hE6 : E = 6 := by rw [← hE3, hb6]
          clear h80 h80'
          subst hz1 hE6
          have HH := Lib.hid (show blkH l = hdrC 0 z32 z32 0 0 0 by rw [blkH, if_neg (by rw [hb6]; decide)])
          have HT := Lib.hid (show blkT l = [] by rw [blkT, if_neg (by rw [hb6]; decide)])
          clear hE3 hb6
          -- nothing is handed out but the error
          go_wp2_with (first
            | (with_reducible refine wpList_bld rfl 46 _ rfl [] _ built_blk0 (by simp [Act.eval, Act.put]) ?_)
            | (with_reducible refine wpList_stb rfl 46 (.tmp 2) (.tmp 42) rfl q 0 _ rfl rfl 46 z HZ.out ?j1 ?j2 ?j3 ?_))
          case j1 => simp [HHL.out, HZL.out]
          case j2 => rw [infoBlk]; simp [HHL.out]
          case j3 => first | exact one_app (hdrC_one _ _ _ _ _ _) | (intro v hv; rcases hv with h | h; exact hdrC_one _ _ _ _ _ _ v h; rw [h]; rfl)
          intro w6 b6 o6
          rw [over_all _ _ (by simp [HHL.out, HZL.out])] at b6
          have HB6 := Lib.hid b6
          have O6 := Lib.hid o6
          clear b6 o6
          go_wp2
          refine bodyPost_ret (results_row_tmp rfl _ _ q 46 (hdrC 0 z32 z32 0 0 0 ++ [Value.slice none 0 0]).toArray (0, 0) _ rfl HB6.out Try.underlying46 rfl (by rw [infoBlk]; simp [HHL.out])) rfl ?_
          refine ⟨none, 0, 0, by rw [HH.out, HE.out]; rfl, ?_, by omega, HBL.out.trans (O6.out.below HBL.out.size (fun b hb e => by have := HQ.out; omega))⟩
          rw [HT.out]
          exact ⟨none, 0, [], rfl, Nat.le_refl _, by simp [maxLen], .nil, Sl.nil _ _ _ _⟩
end Go.Proofs.Ytpcombaecbjmfaa
