/- check.Tx. -/
import Derived.Test.YtlbpeihdedhjiaaCs
import Derived.Deep.RegionHeld3
namespace Go.Proofs.Ytlbpeihdedhjiaa
open Go.RowKit
/-- spends an input nothing? -/
def isMk (i : InT) : Bool := decide (i.1.1 = zid ∧ i.1.2.1.toNat = 4294967295)
def ptK (p : PointT) : Value := ptV p.1 p.2.1.toNat
/-- what is wrong with inputs, ahead of which these points were seen; 0: nothing -/
def cins (first : Bool) (seen : List PointT) : List InT → Int
  | [] => 0
  | i :: r => if 100 < i.2.1.length then 2 else if isMk i != first then 120 else if i.1 ∈ seen then 5 else cins first (seen ++ [i.1]) r
/-- what is wrong with a transaction; 0: nothing -/
def ctx (t : TxT) (first : Bool) : Int :=
  if t.1.length = 0 ∨ t.2.1.length = 0 ∨ 32 < t.1.length ∨ 32 < t.2.1.length then 120
  else if cins first [] t.1 = 0 then (if (csum 0 t.2.1).2 then 0 else 121) else cins first [] t.1
theorem in_pt {w : World} {q : Nat} {T : TypeId} {id : List UInt8} {ix : Nat} {v : Value} (h : Blk w q T (inC id ix v).toArray) : RowAt w q 0 (ptC id ix) := by
  intro j u hj
  have hjl := (List.getElem?_eq_some_iff.1 hj).1
  rw [Nat.zero_add, h.cell j, List.getElem?_toArray, show inC id ix v = ptC id ix ++ [v] by simp [inC, ptC], List.getElem?_append_left hjl]
  exact hj
theorem ptC_one (id : List UInt8) (ix : Nat) : ∀ u ∈ ptC id ix, u.oneCell' = true := by
  intro u hu
  rw [ptC, List.mem_append] at hu
  rcases hu with hu | hu
  · exact bts_one id u hu
  · rw [List.mem_singleton] at hu; rw [hu]; rfl
theorem in_cell33' {w : World} {q : Nat} {t : TypeId} {id : List UInt8} {ix : Nat} {v : Value} (h : Blk w q t (inC id ix v).toArray) (hl : id.length = 32) : w.cell? ⟨q, 33, none⟩ = some v := by
  rw [h.cell 33, List.getElem?_toArray, inC, List.getElem?_append_right (by simp [hl])]; simp [hl]
theorem ins_wf {w : World} {ok : Nat → Prop} {A : Option Addr} {n c : Nat} {ins : List InT} (h : insSh.rel w ok [.slice A n c] ins) : ∀ i ∈ ins, i.1.1.length = 32 ∧ 0 ≤ i.1.2.1 ∧ i.1.2.1 < 4294967296 := by
  intro i hi
  obtain ⟨j, hj, rfl⟩ := List.getElem_of_mem hi
  obtain ⟨b, o, id, ix, key, v, _, _, e, _, _, hid, hix⟩ := ins_at h hj
  rw [e]
  exact ⟨hid, by simp, by simp; omega⟩
theorem ptK_eq {i : InT} {id : List UInt8} {ix : Nat} (hw : i.1.1.length = 32 ∧ 0 ≤ i.1.2.1 ∧ i.1.2.1 < 4294967296) (hid : id.length = 32) (h : ptK i.1 = ptV id ix) : i.1 = (id, ((ix : Nat) : Int), ()) := by
  obtain ⟨⟨id', z, _⟩, key⟩ := i
  simp only [ptK] at h hw
  obtain ⟨e1, e2⟩ := ptV_inj hw.1 hid h
  simp only [Prod.mk.injEq, and_true]
  exact ⟨e1, by omega⟩
set_option maxRecDepth 20000 in
set_option maxHeartbeats 4000000 in
theorem check_tx_any (w : World) (A A' : Option Addr) (n n' c c' : Nat) (ins : List InT) (outs : List OutT) (ok : Nat → Prop) (first : Bool)
    (hi : insSh.rel w ok [.slice A n c] ins) (ho : outsSh.rel w ok [.slice A' n' c'] outs) (hn : ins.length = n) (hn' : outs.length = n') :
    Calls Try.prog 13 #[.agg #[.slice A n c, .slice A' n' c'], .bool first] w fun e w' => e = .returned (.int .i64 (ctx (ins, outs, ()) first)) ∧ Below w.heap.size w w' := by
  have HI := Lib.hid hi
  have HO := Lib.hid ho
  have HN := Lib.hid hn
  have HN' := Lib.hid hn'
  have HWF := Lib.hid (ins_wf hi)
  clear hi ho hn hn'
  by_cases hsh : n = 0 ∨ n' = 0 ∨ 32 < n ∨ 32 < n'
  · have hres : ctx (ins, outs, ()) first = 120 := by rw [ctx, if_pos]; rw [← HN.out, ← HN'.out] at hsh; exact hsh
    rw [hres]
    clear hres
    by_cases h1 : n = 0
    · subst h1
      clear hsh
      go_enter Try.func13, Try.ntmps13
      go_wp2
      go_ret
      exact ⟨rfl, (Below.refl _ _).alloc (Nat.le_refl _) _⟩
    · have n0 : (n == 0) = false := by simpa using h1
      have m0 : ((n : Int) == 0) = false := by simp; omega
      by_cases h2 : n' = 0
      · subst h2
        clear hsh
        go_enter Try.func13, Try.ntmps13
        go_wp2
        go_ret
        exact ⟨rfl, (Below.refl _ _).alloc (Nat.le_refl _) _⟩
      · have n1 : (n' == 0) = false := by simpa using h2
        have m1 : ((n' : Int) == 0) = false := by simp; omega
        by_cases h3 : 32 < n
        · have d3 : decide ((32 : Int) < (n : Int)) = true := by simp; omega
          clear hsh h1 h2 h3
          go_enter Try.func13, Try.ntmps13
          go_wp2
          go_ret
          exact ⟨rfl, (Below.refl _ _).alloc (Nat.le_refl _) _⟩
        · have d3 : decide ((32 : Int) < (n : Int)) = false := by simp; omega
          have d4 : decide ((32 : Int) < (n' : Int)) = true := by simp; omega
          clear hsh h1 h2 h3
          go_enter Try.func13, Try.ntmps13
          go_wp2
          go_ret
          exact ⟨rfl, (Below.refl _ _).alloc (Nat.le_refl _) _⟩
  · have h1 : ¬ n = 0 := by omega
    have h2 : ¬ n' = 0 := by omega
    have n0 : (n == 0) = false := by simpa using h1
    have m0 : ((n : Int) == 0) = false := by simp; omega
    have n1 : (n' == 0) = false := by simpa using h2
    have m1 : ((n' : Int) == 0) = false := by simp; omega
    have d3 : decide ((32 : Int) < (n : Int)) = false := by simp; omega
    have d4 : decide ((32 : Int) < (n' : Int)) = false := by simp; omega
    have hn32 : n ≤ 32 := by omega
    have hcx : ctx (ins, outs, ()) first = if cins first [] ins = 0 then (if (csum 0 outs).2 then 0 else 121) else cins first [] ins := by rw [ctx, if_neg]; rw [← HN.out, ← HN'.out] at hsh; exact hsh
    have HCX := Lib.hid hcx
    clear hsh h1 h2 hcx
    go_enter Try.func13, Try.ntmps13
    have hmk : ∀ w : World, (Instr.makeMap 95 none).run Try.prog w = .ok (.map (some w.heap.size)) (w.alloc (.map #[] 0)) := fun _ => by kernel_rfl
    go_wp2_with fail
    generalize hW : World.alloc (World.alloc w _) _ = W
    have hb2 : Blk W w.heap.size 39 #[.slice A n c, .slice A' n' c'] := by rw [← hW]; exact (Blk.new _ _ _).alloc _
    have hpm : IsPM W (w.heap.size + 1) [] := by
      have := IsPM.made (w.alloc (.cells #[.slice A n c, .slice A' n' c'] 39))
      rw [hW, show (w.alloc (.cells #[.slice A n c, .slice A' n' c'] 39)).heap.size = w.heap.size + 1 by simp] at this
      exact this
    have hbl : Below w.heap.size w W := by rw [← hW]; exact ((Below.refl _ _).alloc (Nat.le_refl _) _).alloc (by simp) _
    clear hW hmk
    obtain ⟨q, hq⟩ : ∃ q, w.heap.size = q := ⟨_, rfl⟩
    rw [hq] at hb2 hpm ⊢
    have HQ := Lib.hid hq
    have HB2 := Lib.hid hb2
    have HPM := Lib.hid hpm
    have HBL := Lib.hid hbl
    clear hq hb2 hpm hbl
    clear n0 m0 n1 m1 d3 d4
    go_loopg [36] n (fun k v36 wr => ∃ (j : Nat), j + k = n ∧ v36 = .int .i64 j ∧ Hid (cins first ((ins.take j).map (·.1)) (ins.drop j) = cins first [] ins) ∧ Hid (IsPM wr (q + 1) ((ins.take j).map fun i => ptK i.1)) ∧ Hid (Below w.heap.size w wr) ∧ Hid (Blk wr q 39 #[.slice A n c, .slice A' n' c']))
    case atStart => exact ⟨0, by omega, rfl, by simp [Hid], HPM, HBL, HB2⟩
    case round =>
      clear HPM HBL HB2
      obtain ⟨j, hj, rfl, HC, HPM, HBL, HB2⟩ := hrel
      by_cases hlt : j < n
      · have hi' := insSh.below HI.out HBL.out (fun _ h _ => h)
        obtain ⟨b, o, id, ix, key, v, rfl, hb, hij, hrow, hkb, hid, hix⟩ := ins_at hi' (by rw [HN.out]; exact hlt)
        obtain ⟨Ak, nk, ck, rfl, hnk, hkc, hks⟩ := hkb
        have hdr : ins.drop j = ((id, ((ix : Nat) : Int), ()), key, ()) :: ins.drop (j + 1) := by rw [List.drop_eq_getElem_cons (by rw [HN.out]; exact hlt), hij]
        have htk : ins.take (j + 1) = ins.take j ++ [((id, ((ix : Nat) : Int), ()), key, ())] := by rw [List.take_add_one, List.getElem?_eq_getElem (by rw [HN.out]; exact hlt), hij]; rfl
        have hstep := HC.out
        rw [hdr] at hstep
        have HST := Lib.hid hstep
        have HTK := Lib.hid htk
        have HROW := Lib.hid hrow
        have HID := Lib.hid hid
        have HIX := Lib.hid hix
        have HNK := Lib.hid hnk
        clear hi' hij hrow hid hdr hb htk hstep hks hkc hix hnk
        go_wp2_with (first
          | (with_reducible refine wpList_ld rfl 32 (.tmp 38) rfl b (o + j * 34) rfl (inC id ix (.slice Ak nk ck)) HROW.out _ Try.underlying32 rfl 34 infoIn (inC_len _ _ _ HID.out).symm ?_)
          | (with_reducible refine wpList_stb rfl 32 (.tmp 7) (.tmp 39) rfl wr.heap.size 0 _ rfl rfl 32 _ (Blk.new wr _ _) ?h1 ?h2 ?h3 ?_))
        case h1 => simp [inC_len _ _ _ HID.out]
        case h2 => rw [infoIn]; simp [inC_len _ _ _ HID.out]
        case h3 => exact inC_one _ _ _ rfl
        intro w4 b4 o4
        rw [over_all _ _ (by simp [inC_len _ _ _ HID.out])] at b4
        have hO4 : Below wr.heap.size wr w4 := (((Only.refl (fun b => wr.heap.size ≤ b) wr).alloc _).trans o4 (fun b _ e => by omega)).below (Nat.le_refl _) (fun b hb h => by omega)
        have HPM4 := Lib.hid (HPM.out.only (Only.of_below hO4) (by have := HPM.out.lt; omega))
        have HB4 := Lib.hid (HB2.out.below hO4 HB2.out.lt)
        have HBL4 := Lib.hid (HBL.out.trans (hO4.mono HBL.out.size))
        have HPL := Lib.hid (show q + 1 < wr.heap.size from HPM.out.lt)
        have HP := Lib.hid b4
        have q33 := in_cell33' b4 HID.out
        clear b4 o4 hO4 HROW HPM HB2 HBL
        obtain ⟨p, hp⟩ : ∃ p, wr.heap.size = p := ⟨_, rfl⟩
        rw [hp] at HP HPL q33 ⊢
        clear hp
        by_cases hk100 : 100 < nk
        · have hres : cins first [] ins = 2 := by rw [← HST.out, cins, if_pos (by rw [← HNK.out]; exact hk100)]
          have HR := Lib.hid hres
          have dk : decide ((100 : Int) < (nk : Int)) = true := by simp; omega
          clear hres hk100
          go_wp2
          go_ret
          exact ⟨by rw [HCX.out, if_neg (by rw [HR.out]; decide), HR.out]; rfl, HBL4.out⟩
        · have dk : decide ((100 : Int) < (nk : Int)) = false := by simp; omega
          have HK100 := Lib.hid hk100
          clear hk100
          have heqA : ∀ w', (Op.equalIn 10000 28 (ptV id ix) (ptV zid 4294967295)).run Try.prog w' = .ok (decide (id = zid ∧ ix = 4294967295)) w' := fun w' => run_eq_pt id zid ix 4294967295 HID.out (by simp [zid]) HIX.out (by omega) w' 9997
          obtain ⟨mk, hmk⟩ : ∃ mk, decide (id = zid ∧ ix = 4294967295) = mk := ⟨_, rfl⟩
          rw [hmk] at heqA
          have HMK := Lib.hid hmk
          clear hmk
          unfold ptV at heqA
          have hS : w4.drew.rangeAt p 0 (ptC id ix) := in_pt HP.out.drew
          have hu4 : Try.prog.underlying 28 = some _ := Try.underlying28
          have hl4 : (Try.prog.info? 28).map (·.size) = some (ptC id ix).length := by rw [infoPt, ptC_len _ _ HID.out]
          have ho4 : ∀ v ∈ ptC id ix, v.oneCell' = true := ptC_one id ix
          have HMK2 := Lib.hid (maker_any w4.drew)
          go_wp2
          refine wp_region_held_drew (S := fun w' => w'.rangeAt p 0 (ptC id ix)) (by kernel_rfl) hS ?_
          intro hSw
          refine wpAnyH_take (i := 0) (oi := _) (v := .pointer (some ⟨p, 0, none⟩)) rfl (by kernel_rfl) (by kernel_rfl) (by kernel_rfl) (fun _ _ _ h => h) (Or.inl ⟨by rfl, ?_⟩) hSw ?_
          · intro w' hSw'
            go_simp
          simp only [Act.put]
          refine wpAnyH_take (i := 1) (oi := _) (v := .agg (ptC id ix).toArray) rfl (by kernel_rfl) (by kernel_rfl) (by kernel_rfl) (fun _ _ _ h => h) (yieldsIf_load_mid (by rfl) _ _ rfl p 0 rfl (ptC id ix) _ (fun _ h => h) hu4 rfl hl4) hSw ?_
          simp only [Act.put]
          refine wpAnyH_take (i := 4) (oi := _) (v := .bool first) rfl (by kernel_rfl) (by kernel_rfl) (by kernel_rfl) (fun _ _ _ h => h) (Or.inl ⟨by rfl, ?_⟩) hSw ?_
          · intro w' hSw'
            go_simp
          simp only [Act.put]
          refine wpAnyH_ready (rs := [2]) (by kernel_rfl) (by simp) (AllReadyH.cons (o := _) rfl (fun K hK => ?_) AllReadyH.nil)
          go_simp
          go_at_call 10
          refine HMK2.out.mono ?_
          rintro e5 w5 ⟨rfl, a5⟩
          have A5 := Lib.hid a5
          have HS5 := Lib.hid (in_pt (HP.out.drew.below a5 HP.out.drew.lt))
          clear a5
          unfold ptV
          dsimp only
          refine hK.out _ _ HS5.out ?_
          intro hSw5
          refine wpAnyH_take (i := 3) (oi := _) (v := .bool mk) rfl (by kernel_rfl) (by kernel_rfl) (by kernel_rfl) (fun _ _ _ h => h) (Or.inl ⟨by rfl, ?_⟩) hSw5 ?_
          · intro w' hSw'
            go_simp
          simp only [Act.put]
          refine wpAnyH_take (i := 5) (oi := _) (v := .bool (!(mk == first))) rfl (by kernel_rfl) (by kernel_rfl) (by kernel_rfl) (fun _ _ _ h => h) (Or.inl ⟨by rfl, ?_⟩) hSw5 ?_
          · intro w' hSw'
            go_simp
          simp only [Act.put]
          refine wpAnyH_take (i := 6) (oi := _) (v := .bool (!(mk == first))) rfl (by kernel_rfl) (by kernel_rfl) (by kernel_rfl) (fun _ _ _ h => h) (Or.inl ⟨by rfl, ?_⟩) hSw5 ?_
          · intro w' hSw'
            go_simp
          simp only [Act.put]
          refine wpAnyH_done (by kernel_rfl) ?_ _
          have HPM5 := Lib.hid ((HPM4.out.only ((Only.refl (fun _ => False) w4).drew) (fun h => h)).only (Only.of_below A5.out) (by have := HPM4.out.lt; show ¬ w4.heap.size ≤ q + 1; omega))
          have HB5 := Lib.hid (HB4.out.drew.below A5.out HB4.out.drew.lt)
          have HBL5 := Lib.hid (HBL4.out.drew.trans (A5.out.mono HBL4.out.size))
          have HP5 := Lib.hid (HP.out.drew.below A5.out HP.out.drew.lt)
          clear HPM4 HB4 HBL4 HP hS hSw hSw5 heqA q33 hK
          by_cases hmf : mk = first
          · subst hmf
            rw [beq_self_eq_true]
            have hisk : isMk ((id, ((ix : Nat) : Int), ()), key, ()) = mk := by rw [← HMK.out]; simp [isMk]
            have HISK := Lib.hid hisk
            clear hisk
            obtain ⟨kl, hkl⟩ := pt_keyOf id ix HID.out HIX.out
            have HKL := Lib.hid hkl
            clear hkl
            obtain ⟨r, hlook, hr⟩ := pm_look HPM5.out (t := 95) Try.underlying95 (by kernel_rfl) HKL.out
            have HRR := Lib.hid hr
            clear hr
            unfold ptV at hlook
            cases r with
            | true =>
              have hres : cins mk [] ins = 5 := by
                rw [← HST.out, cins, if_neg (by rw [← HNK.out]; exact HK100.out), HISK.out, bne_self_eq_false, if_neg (by simp), if_pos]
                have := HRR.out.1 rfl
                rw [List.mem_map] at this
                obtain ⟨i, hi, he⟩ := this
                rw [List.mem_map]
                exact ⟨i, hi, ptK_eq (HWF.out i (List.mem_of_mem_take hi)) HID.out he⟩
              have HR := Lib.hid hres
              clear hres
              go_wp2_with (with_reducible refine wpList_ld rfl 28 (.tmp 54) rfl p 0 rfl (ptC id ix) (in_pt HP5.out) _ Try.underlying28 rfl 33 infoPt (ptC_len _ _ HID.out).symm ?_)
              go_ret
              exact ⟨by rw [HCX.out, if_neg (by rw [HR.out]; decide), HR.out]; rfl, HBL5.out⟩
            | false =>
              have hnin : ¬ ptV id ix ∈ (ins.take j).map fun i => ptK i.1 := fun h => by have := HRR.out.2 h; cases this
              obtain ⟨w6, hput, hpm6, ho6⟩ := pm_put HPM5.out (t := 95) Try.underlying95 HKL.out hnin
              have hres : cins mk ((ins.take (j + 1)).map (·.1)) (ins.drop (j + 1)) = cins mk [] ins := by
                rw [← HST.out, cins, if_neg (by rw [← HNK.out]; exact HK100.out), HISK.out, bne_self_eq_false, if_neg (by simp), if_neg, HTK.out, List.map_append]
                · rfl
                · intro h
                  rw [List.mem_map] at h
                  obtain ⟨i, hi, he⟩ := h
                  exact hnin (List.mem_map.2 ⟨i, hi, by rw [he]; simp [ptK]⟩)
              have HR := Lib.hid hres
              have HPM6 := Lib.hid hpm6
              have HBL6 := Lib.hid (HBL5.out.trans (ho6.below HBL5.out.size (fun b hb e => by have := HQ.out; omega)))
              have HB6 := Lib.hid (HB5.out.only ho6 (by omega))
              unfold ptV at hput
              clear hres hpm6 ho6 hnin
              go_wp2_with (first
                | (with_reducible refine wpList_ld rfl 28 (.tmp 54) rfl p 0 rfl (ptC id ix) (in_pt HP5.out) _ Try.underlying28 rfl 33 infoPt (ptC_len _ _ HID.out).symm ?_)
                | (with_reducible refine wpList_ld rfl 28 (.tmp 58) rfl p 0 rfl (ptC id ix) (in_pt HP5.out) _ Try.underlying28 rfl 33 infoPt (ptC_len _ _ HID.out).symm ?_))
              go_roundg (n - 1 - j)
              case measure => omega
              case rel =>
                refine ⟨j + 1, by omega, rfl, HR.out, ?_, HBL6.out, HB6.out⟩
                have := HPM6.out
                rw [Hid, HTK.out, List.map_append]
                exact this
          · have hmf2 : (mk == first) = false := by simpa using hmf
            rw [hmf2]
            have hisk : isMk ((id, ((ix : Nat) : Int), ()), key, ()) = mk := by rw [← HMK.out]; simp [isMk]
            have hres : cins first [] ins = 120 := by rw [← HST.out, cins, if_neg (by rw [← HNK.out]; exact HK100.out), hisk, if_pos (by simp [bne, hmf2])]
            have HR := Lib.hid hres
            clear hres hisk hmf hmf2
            go_wp2
            go_ret
            exact ⟨by rw [HCX.out, if_neg (by rw [HR.out]; decide), HR.out]; rfl, HBL5.out⟩
      · obtain rfl : j = n := by omega
        have hz : cins first [] ins = 0 := by rw [← HC.out, List.drop_of_length_le (by rw [HN.out]; exact Nat.le_refl _), cins]
        have HZ := Lib.hid hz
        have c1 := HB2.out.cell 1
        simp only [List.getElem?_toArray, List.getElem?_cons_zero, List.getElem?_cons_succ] at c1
        have CS := Lib.hid (csum_any wr A' n' c' outs ok (outsSh.below HO.out HBL.out (fun _ h _ => h)) HN'.out)
        clear hz hlt hj HC
        go_wp2_with fail
        refine CS.out.mono ?_
        rintro e1 w1 ⟨rfl, a1⟩
        have HBL1 := Lib.hid (HBL.out.trans (a1.mono HBL.out.size))
        clear a1 CS
        obtain ⟨R, hR⟩ : ∃ R, csum 0 outs = R := ⟨_, rfl⟩
        rw [hR]
        have HCS := Lib.hid hR
        clear hR
        obtain ⟨sm, okb⟩ := R
        dsimp only
        cases okb
        all_goals
          go_wp2
          go_ret
          exact ⟨by rw [HCX.out, if_pos HZ.out, HCS.out]; rfl, HBL1.out⟩
end Go.Proofs.Ytlbpeihdedhjiaa
