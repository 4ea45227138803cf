/- The document's Tx of layer 12. -/
import Derived.Test.YtnonabmbichfnaaFm
namespace Go.Proofs.Ytnonabmbichfnaa
open Go.RowKit
set_option maxRecDepth 20000 in
set_option maxHeartbeats 4000000 in
theorem tx12_any (w : World) (A A' : Option Addr) (n n' c c' : Nat) (ins : List InT) (outs : List OutT) (ok : Nat → Prop) (first : Bool)
    (hi : insSh.rel w ok [.slice A n c] ins) (ho : outsSh.rel w ok [.slice A' n' c'] outs) (hn : ins.length = n) (hn' : outs.length = n') :
    Calls Try.prog 15 #[.agg #[.slice A n c, .slice A' n' c'], .bool first] w fun e w' => e = .returned (.int .i64 (ctx (ins, outs, ()) first)) ∧ Below w.heap.size w w' := by
  have HWF := Lib.hid (ins_wf hi)
  have HI := Lib.hid hi
  have HO := Lib.hid ho
  have HN := Lib.hid hn
  have HN' := Lib.hid hn'
  clear hi ho hn hn'
  by_cases hsh : n = 0 ∨ n' = 0 ∨ 32 < n ∨ 32 < n'
  · have hres : ctx (ins, outs, ()) first = 120 := by rw [ctx, if_pos]; rw [← HN.out, ← HN'.out] at hsh; exact hsh
    rw [hres]
    clear hres
    by_cases h1 : n = 0
    · subst h1
      clear hsh
      go_enter Try.func15, Try.ntmps15
      go_wp2
      go_ret
      exact ⟨rfl, (Below.refl _ _).alloc (Nat.le_refl _) _⟩
    · have m0 : decide ((n : Int) < 1) = false := by simp; omega
      have q0 : decide (n < 1) = false := by simp; omega
      by_cases h2 : n' = 0
      · subst h2
        clear hsh
        go_enter Try.func15, Try.ntmps15
        go_wp2
        go_ret
        exact ⟨rfl, (Below.refl _ _).alloc (Nat.le_refl _) _⟩
      · have m1 : decide ((n' : Int) < 1) = false := by simp; omega
        by_cases h3 : 32 < n
        · have d3 : decide ((32 : Int) < (n : Int)) = true := by simp; omega
          clear hsh h1 h2 h3
          go_enter Try.func15, Try.ntmps15
          go_wp2
          go_ret
          exact ⟨rfl, (Below.refl _ _).alloc (Nat.le_refl _) _⟩
        · have d3 : decide ((32 : Int) < (n : Int)) = false := by simp; omega
          have d4 : decide ((32 : Int) < (n' : Int)) = true := by simp; omega
          clear hsh h1 h2 h3
          go_enter Try.func15, Try.ntmps15
          go_wp2
          go_ret
          exact ⟨rfl, (Below.refl _ _).alloc (Nat.le_refl _) _⟩
  · have m0 : decide ((n : Int) < 1) = false := by simp; omega
    have m1 : decide ((n' : Int) < 1) = false := by simp; omega
    have d3 : decide ((32 : Int) < (n : Int)) = false := by simp; omega
    have d4 : decide ((32 : Int) < (n' : Int)) = false := by simp; omega
    have hn32 : n ≤ 32 := by omega
    have hcx : ctx (ins, outs, ()) first = if cins first [] ins = 0 then (if (csum 0 outs).2 then 0 else 121) else cins first [] ins := by rw [ctx, if_neg]; rw [← HN.out, ← HN'.out] at hsh; exact hsh
    have HCX := Lib.hid hcx
    clear hsh hcx
    go_enter Try.func15, Try.ntmps15
    go_wp2_with fail
    generalize hW : World.alloc w _ = W
    have hb2 : Blk W w.heap.size 25 #[.slice A n c, .slice A' n' c'] := by rw [← hW]; exact Blk.new _ _ _
    have hbl : Below w.heap.size w W := by rw [← hW]; exact (Below.refl _ _).alloc (Nat.le_refl _) _
    clear hW
    obtain ⟨q, hq⟩ : ∃ q, w.heap.size = q := ⟨_, rfl⟩
    rw [hq] at hb2 ⊢
    have HQ := Lib.hid hq
    have HB2 := Lib.hid hb2
    have HBL := Lib.hid hbl
    clear hq hb2 hbl m0 m1 d3 d4
    go_loopg [5] n (fun k v5 wr => ∃ (j : Nat), j + k = n ∧ v5 = .int .i64 j ∧ Hid (cins first ((ins.take j).map (·.1)) (ins.drop j) = cins first [] ins) ∧ Hid (Below w.heap.size w wr) ∧ Hid (Blk wr q 25 #[.slice A n c, .slice A' n' c']))
    case atStart => exact ⟨0, by omega, rfl, by simp [Hid], HBL, HB2⟩
    case round =>
      clear HBL HB2
      obtain ⟨j, hj, rfl, HC, HBL, HB2⟩ := hrel
      have c0 := HB2.out.cell 0
      have c1 := HB2.out.cell 1
      simp only [List.getElem?_toArray, List.getElem?_cons_zero, List.getElem?_cons_succ] at c0 c1
      by_cases hlt : j < n
      · have dlt : decide (j < n) = true := by simpa using hlt
        have hi' := insSh.below HI.out HBL.out (fun _ h _ => h)
        obtain ⟨b, o, id, ix, key, v, rfl, hb, hij, hrow, hkb, hid, hix⟩ := ins_at hi' (by rw [HN.out]; exact hlt)
        obtain ⟨Ak, nk, ck, rfl, hnk, hkc, hks⟩ := hkb
        have hdr : ins.drop j = ((id, ((ix : Nat) : Int), ()), key, ()) :: ins.drop (j + 1) := by rw [List.drop_eq_getElem_cons (by rw [HN.out]; exact hlt), hij]
        have htk : ins.take (j + 1) = ins.take j ++ [((id, ((ix : Nat) : Int), ()), key, ())] := by rw [List.take_add_one, List.getElem?_eq_getElem (by rw [HN.out]; exact hlt), hij]; rfl
        have hstep := HC.out
        rw [hdr] at hstep
        have HST := Lib.hid hstep
        have HTK := Lib.hid htk
        have HIJ := Lib.hid hij
        have HROW := Lib.hid hrow
        have HID := Lib.hid hid
        have HIX := Lib.hid hix
        have HNK := Lib.hid hnk
        have k33 : wr.cell? ⟨b, o + j * 34 + 33, none⟩ = some (.slice Ak nk ck) := hrow 33 _ (by rw [inC, List.getElem?_append_right (by simp [hid])]; simp [hid])
        clear hi' hij hrow hid hdr hb htk hstep hks hkc hix hnk
        by_cases hk100 : 100 < nk
        · have hres : cins first [] ins = 2 := by rw [← HST.out, cins, if_pos (by rw [← HNK.out]; exact hk100)]
          have HR := Lib.hid hres
          have dk : decide ((100 : Int) < (nk : Int)) = true := by simp; omega
          clear hres hk100
          go_wp2
          go_ret
          exact ⟨by rw [HCX.out, if_neg (by rw [HR.out]; decide), HR.out]; rfl, HBL.out⟩
        · have dk : decide ((100 : Int) < (nk : Int)) = false := by simp; omega
          have HK100 := Lib.hid hk100
          clear hk100
          have MK := Lib.hid (maker12_any wr id ix (.slice Ak nk ck) HID.out HIX.out)
          go_wp2_with (with_reducible refine wpList_ld rfl 56 (.tmp 49) rfl b (o + j * 34) rfl (inC id ix (.slice Ak nk ck)) HROW.out _ Try.underlying56 rfl 34 infoIn (inC_len _ _ _ HID.out).symm ?_)
          refine MK.out.mono ?_
          rintro e5 w5 ⟨rfl, a5⟩
          have HBL5 := Lib.hid (HBL.out.trans (a5.mono HBL.out.size))
          have HB5 := Lib.hid (HB2.out.below a5 HB2.out.lt)
          clear a5 MK c0 c1 k33 dk dlt HBL HB2 HROW
          obtain ⟨mk, hmk⟩ : ∃ mk, decide (id = zid ∧ ix = 4294967295) = mk := ⟨_, rfl⟩
          rw [hmk]
          have hisk : isMk ((id, ((ix : Nat) : Int), ()), key, ()) = mk := by rw [← hmk]; simp [isMk]
          have HISK := Lib.hid hisk
          clear hisk hmk
          by_cases hmf : mk = first
          · subst hmf
            go_wp2_with fail
            go_loopg [6] j (fun k v6 wr => ∃ (i : Nat), i + k = j ∧ v6 = .int .i64 i ∧ Hid (∀ (m : Nat) (x : InT), m < i → ins[m]? = some x → x.1 ≠ (id, ((ix : Nat) : Int), ())) ∧ Hid (Below w.heap.size w wr) ∧ Hid (Blk wr q 25 #[.slice (some ⟨b, o, none⟩) n c, .slice A' n' c']))
            case atStart => exact ⟨0, by omega, rfl, fun m x hm => absurd hm (by omega), HBL5, HB5⟩
            case round =>
              clear HBL5 HB5
              obtain ⟨i, hik, rfl, HNE, HBL, HB⟩ := hrel
              by_cases hij : i < j
              · have dij : decide (i < j) = true := by simpa using hij
                obtain ⟨b1, o1, id', ix', key', v', e1, _, hij', hrow', _, hid', hix'⟩ := ins_at (insSh.below HI.out HBL.out (fun _ h _ => h)) (show i < ins.length by rw [HN.out]; omega)
                obtain ⟨b2, o2, id2, ix2, key2, v2, e2, _, hj2, hrow2, _, hid2, hix2⟩ := ins_at (insSh.below HI.out HBL.out (fun _ h _ => h)) (show j < ins.length by rw [HN.out]; exact hlt)
                cases e1
                cases e2
                have hjj := HIJ.out
                rw [hj2] at hjj
                simp only [Prod.mk.injEq, and_true] at hjj
                obtain ⟨⟨rfl, hix2'⟩, _⟩ := hjj
                obtain rfl : ix2 = ix := by omega
                have hin : (i : Int) < (n : Int) := by omega
                have hjn : (j : Int) < (n : Int) := by omega
                have hin2 : i < n := by omega
                have r1 := hrow'.take 33
                have r2 := hrow2.take 33
                have c0 := HB.out.drew.cell 0
                simp only [List.getElem?_toArray, List.getElem?_cons_zero] at c0
                rw [show (inC id' ix' v').take 33 = ptC id' ix' by rw [show inC id' ix' v' = ptC id' ix' ++ [v'] by simp [inC, ptC], List.take_append_of_le_length (by rw [ptC_len _ _ hid']; omega), List.take_of_length_le (by rw [ptC_len _ _ hid']; omega)]] at r1
                rw [show (inC id2 ix2 v2).take 33 = ptC id2 ix2 by rw [show inC id2 ix2 v2 = ptC id2 ix2 ++ [v2] by simp [inC, ptC], List.take_append_of_le_length (by rw [ptC_len _ _ hid2]; omega), List.take_of_length_le (by rw [ptC_len _ _ hid2]; omega)]] at r2
                have hS : wr.drew.cell? ⟨q, 0, none⟩ = some (.slice (some ⟨b, o, none⟩) n c) ∧ wr.drew.rangeAt b (o + i * 34) (ptC id' ix') ∧ wr.drew.rangeAt b (o + j * 34) (ptC id2 ix2) := ⟨c0, r1, r2⟩
                have heqA : ∀ w', (Op.equalIn 10000 53 (ptV id' ix') (ptV id2 ix2)).run Try.prog w' = .ok (decide (id' = id2 ∧ ix' = ix2)) w' := fun w' => run_eq_pt id' id2 ix' ix2 hid' hid2 hix' hix2 w' 9997
                obtain ⟨eqb, heqb⟩ : ∃ eqb, decide (id' = id2 ∧ ix' = ix2) = eqb := ⟨_, rfl⟩
                rw [heqb] at heqA
                have HEQ := Lib.hid heqb
                unfold ptV at heqA
                have hu4 : Try.prog.underlying 53 = some _ := Try.underlying53
                have hl1 : (Try.prog.info? 53).map (·.size) = some (ptC id' ix').length := by rw [infoPt, ptC_len _ _ hid']
                have hl2 : (Try.prog.info? 53).map (·.size) = some (ptC id2 ix2).length := by rw [infoPt, ptC_len _ _ hid2]
                go_wp2
                refine wp_region_held_drew (S := fun w' => w'.cell? ⟨q, 0, none⟩ = some (.slice (some ⟨b, o, none⟩) n c) ∧ w'.rangeAt b (o + i * 34) (ptC id' ix') ∧ w'.rangeAt b (o + j * 34) (ptC id2 ix2)) (by kernel_rfl) hS ?_
                intro hSw
                refine wpAnyH_take (i := 0) (oi := ⟨some 59, _, _, _, _, _⟩) (v := .pointer (some ⟨q, 0, none⟩)) rfl (by kernel_rfl) (by kernel_rfl) (by kernel_rfl) (fun _ _ _ h => h) (Or.inl ⟨by rfl, ?_⟩) hSw ?_
                · intro w' hSw'
                  obtain ⟨s1, s2, s3⟩ := hSw'
                  go_simp
                simp only [Act.put, List.setIfInBounds_toArray, List.set_cons_zero, List.set_cons_succ]
                refine wpAnyH_take (i := 1) (oi := ⟨some 60, _, _, _, _, _⟩) (v := .slice (some ⟨b, o, none⟩) n c) rfl (by kernel_rfl) (by kernel_rfl) (by kernel_rfl) (fun _ _ _ h => h) (Or.inl ⟨by rfl, ?_⟩) hSw ?_
                · intro w' hSw'
                  obtain ⟨s1, s2, s3⟩ := hSw'
                  go_simp
                simp only [Act.put, List.setIfInBounds_toArray, List.set_cons_zero, List.set_cons_succ]
                refine wpAnyH_take (i := 2) (oi := ⟨some 61, _, _, _, _, _⟩) (v := .int .i64 (i : Int)) rfl (by kernel_rfl) (by kernel_rfl) (by kernel_rfl) (fun _ _ _ h => h) (Or.inl ⟨by rfl, ?_⟩) hSw ?_
                · intro w' hSw'
                  obtain ⟨s1, s2, s3⟩ := hSw'
                  go_simp
                simp only [Act.put, List.setIfInBounds_toArray, List.set_cons_zero, List.set_cons_succ]
                refine wpAnyH_take (i := 3) (oi := ⟨some 62, _, _, _, _, _⟩) (v := .pointer (some ⟨b, o + i * 34, none⟩)) rfl (by kernel_rfl) (by kernel_rfl) (by kernel_rfl) (fun _ _ _ h => h) (Or.inl ⟨by rfl, ?_⟩) hSw ?_
                · intro w' hSw'
                  obtain ⟨s1, s2, s3⟩ := hSw'
                  go_simp
                simp only [Act.put, List.setIfInBounds_toArray, List.set_cons_zero, List.set_cons_succ]
                refine wpAnyH_take (i := 4) (oi := ⟨some 63, _, _, _, _, _⟩) (v := .pointer (some ⟨b, o + i * 34, none⟩)) rfl (by kernel_rfl) (by kernel_rfl) (by kernel_rfl) (fun _ _ _ h => h) (Or.inl ⟨by rfl, ?_⟩) hSw ?_
                · intro w' hSw'
                  obtain ⟨s1, s2, s3⟩ := hSw'
                  go_simp
                simp only [Act.put, List.setIfInBounds_toArray, List.set_cons_zero, List.set_cons_succ]
                refine wpAnyH_take (i := 5) (oi := ⟨some 64, _, _, _, _, _⟩) (v := .agg (ptC id' ix').toArray) rfl (by kernel_rfl) (by kernel_rfl) (by kernel_rfl) (fun _ _ _ h => h) (yieldsIf_load_mid (by rfl) _ _ rfl b (o + i * 34) rfl (ptC id' ix') _ (fun _ h => h.2.1) hu4 rfl hl1) hSw ?_
                simp only [Act.put, List.setIfInBounds_toArray, List.set_cons_zero, List.set_cons_succ]
                refine wpAnyH_take (i := 6) (oi := ⟨some 65, _, _, _, _, _⟩) (v := .pointer (some ⟨q, 0, none⟩)) rfl (by kernel_rfl) (by kernel_rfl) (by kernel_rfl) (fun _ _ _ h => h) (Or.inl ⟨by rfl, ?_⟩) hSw ?_
                · intro w' hSw'
                  obtain ⟨s1, s2, s3⟩ := hSw'
                  go_simp
                simp only [Act.put, List.setIfInBounds_toArray, List.set_cons_zero, List.set_cons_succ]
                refine wpAnyH_take (i := 7) (oi := ⟨some 66, _, _, _, _, _⟩) (v := .slice (some ⟨b, o, none⟩) n c) rfl (by kernel_rfl) (by kernel_rfl) (by kernel_rfl) (fun _ _ _ h => h) (Or.inl ⟨by rfl, ?_⟩) hSw ?_
                · intro w' hSw'
                  obtain ⟨s1, s2, s3⟩ := hSw'
                  go_simp
                simp only [Act.put, List.setIfInBounds_toArray, List.set_cons_zero, List.set_cons_succ]
                refine wpAnyH_take (i := 8) (oi := ⟨some 67, _, _, _, _, _⟩) (v := .int .i64 (j : Int)) rfl (by kernel_rfl) (by kernel_rfl) (by kernel_rfl) (fun _ _ _ h => h) (Or.inl ⟨by rfl, ?_⟩) hSw ?_
                · intro w' hSw'
                  obtain ⟨s1, s2, s3⟩ := hSw'
                  go_simp
                simp only [Act.put, List.setIfInBounds_toArray, List.set_cons_zero, List.set_cons_succ]
                refine wpAnyH_take (i := 9) (oi := ⟨some 68, _, _, _, _, _⟩) (v := .pointer (some ⟨b, o + j * 34, none⟩)) rfl (by kernel_rfl) (by kernel_rfl) (by kernel_rfl) (fun _ _ _ h => h) (Or.inl ⟨by rfl, ?_⟩) hSw ?_
                · intro w' hSw'
                  obtain ⟨s1, s2, s3⟩ := hSw'
                  go_simp
                simp only [Act.put, List.setIfInBounds_toArray, List.set_cons_zero, List.set_cons_succ]
                refine wpAnyH_take (i := 10) (oi := ⟨some 69, _, _, _, _, _⟩) (v := .pointer (some ⟨b, o + j * 34, none⟩)) rfl (by kernel_rfl) (by kernel_rfl) (by kernel_rfl) (fun _ _ _ h => h) (Or.inl ⟨by rfl, ?_⟩) hSw ?_
                · intro w' hSw'
                  obtain ⟨s1, s2, s3⟩ := hSw'
                  go_simp
                simp only [Act.put, List.setIfInBounds_toArray, List.set_cons_zero, List.set_cons_succ]
                refine wpAnyH_take (i := 11) (oi := ⟨some 70, _, _, _, _, _⟩) (v := .agg (ptC id2 ix2).toArray) rfl (by kernel_rfl) (by kernel_rfl) (by kernel_rfl) (fun _ _ _ h => h) (yieldsIf_load_mid (by rfl) _ _ rfl b (o + j * 34) rfl (ptC id2 ix2) _ (fun _ h => h.2.2) hu4 rfl hl2) hSw ?_
                simp only [Act.put, List.setIfInBounds_toArray, List.set_cons_zero, List.set_cons_succ]
                refine wpAnyH_take (i := 12) (oi := ⟨some 71, _, _, _, _, _⟩) (v := .bool eqb) rfl (by kernel_rfl) (by kernel_rfl) (by kernel_rfl) (fun _ _ _ h => h) (Or.inl ⟨by rfl, ?_⟩) hSw ?_
                · intro w' hSw'
                  obtain ⟨s1, s2, s3⟩ := hSw'
                  go_simp
                simp only [Act.put, List.setIfInBounds_toArray, List.set_cons_zero, List.set_cons_succ]
                refine wpAnyH_done (by kernel_rfl) ?_ _
                cases eqb with
                | true =>
                  have he := of_decide_eq_true HEQ.out
                  obtain ⟨rfl, rfl⟩ := he
                  have hres : cins mk [] ins = 5 := by
                    rw [← HST.out, cins, if_neg (by rw [← HNK.out]; exact HK100.out), HISK.out, bne_self_eq_false, if_neg (by simp), if_pos]
                    rw [List.mem_map]
                    exact ⟨ins[i]'(by rw [HN.out]; omega), List.mem_take_iff_getElem.2 ⟨i, by rw [HN.out]; omega, rfl⟩, by rw [hij']⟩
                  have HR := Lib.hid hres
                  clear hres heqA hS hSw hij' hrow' hrow2 r1 r2 c0 hin hjn hin2 hl1 hl2 hu4
                  go_wp2
                  go_ret
                  exact ⟨by rw [HCX.out, if_neg (by rw [HR.out]; decide), HR.out]; rfl, HBL.out.drew⟩
                | false =>
                  have he := of_decide_eq_false HEQ.out
                  have hne : ∀ (m : Nat) (x : InT), m < i + 1 → ins[m]? = some x → x.1 ≠ (id2, ((ix2 : Nat) : Int), ()) := by
                    intro m x hm hx
                    by_cases hmi : m < i
                    · exact HNE.out m x hmi hx
                    · obtain rfl : m = i := by omega
                      rw [List.getElem?_eq_getElem (by rw [HN.out]; omega), hij'] at hx
                      cases hx
                      intro e
                      simp only [Prod.mk.injEq, and_true] at e
                      exact he ⟨e.1, by omega⟩
                  have HNE2 := Lib.hid hne
                  clear hne he heqA hS hSw hij' hrow' hrow2 r1 r2 c0 hin hjn hin2 hl1 hl2 hu4
                  go_wp2
                  go_roundg (j - 1 - i)
                  case measure => omega
                  case rel => exact ⟨i + 1, by omega, by first | rfl | (rw [IntWalk.wrap64_in _ (by omega)]; rfl), HNE2.out, HBL.out.drew, HB.out.drew⟩
              · have dij : decide (i < j) = false := by simpa using hij
                obtain rfl : i = j := by omega
                have hres : cins mk ((ins.take (i + 1)).map (·.1)) (ins.drop (i + 1)) = cins mk [] ins := by
                  rw [← HST.out, cins, if_neg (by rw [← HNK.out]; exact HK100.out), HISK.out, bne_self_eq_false, if_neg (by simp), if_neg, HTK.out, List.map_append]
                  · rfl
                  · intro h
                    rw [List.mem_map] at h
                    obtain ⟨x, hx, he⟩ := h
                    obtain ⟨m, hm, hx⟩ := List.mem_take_iff_getElem.1 hx
                    exact HNE.out m x (by omega) (by rw [← hx]; exact List.getElem?_eq_getElem _) he
                have HR := Lib.hid hres
                clear hres hij
                go_wp2
                go_roundg (n - 1 - i)
                case measure => omega
                case rel => exact ⟨i + 1, by omega, by first | rfl | (rw [IntWalk.wrap64_in _ (by omega)]; rfl), HR.out, HBL.out, HB.out⟩
          · have hmf2 : (mk == first) = false := by simpa using hmf
            have hmf3 : (mk != first) = true := by simpa [bne] using hmf
            have hres : cins first [] ins = 120 := by rw [← HST.out, cins, if_neg (by rw [← HNK.out]; exact HK100.out), HISK.out, if_pos hmf3]
            have HR := Lib.hid hres
            clear hres hmf
            go_wp2
            go_ret
            exact ⟨by rw [HCX.out, if_neg (by rw [HR.out]; decide), HR.out]; rfl, HBL5.out⟩
      · have dlt : decide (j < n) = false := by simpa using hlt
        obtain rfl : j = n := by omega
        have hz : cins first [] ins = 0 := by rw [← HC.out, List.drop_of_length_le (by rw [HN.out]; exact Nat.le_refl _), cins]
        have HZ := Lib.hid hz
        have CS := Lib.hid (rsum12_any wr A' n' c' outs ok (outsSh.below HO.out HBL.out (fun _ h _ => h)) HN'.out)
        clear hz hlt hj HC
        go_wp2_with fail
        refine CS.out.mono ?_
        rintro e1 w1 ⟨rfl, rfl⟩
        clear CS
        obtain ⟨R, hR⟩ : ∃ R, csum 0 outs = R := ⟨_, rfl⟩
        rw [hR]
        have HCS := Lib.hid hR
        clear hR
        obtain ⟨sm, okb⟩ := R
        dsimp only
        cases okb
        all_goals
          go_wp2
          go_ret
          exact ⟨by rw [HCX.out, if_pos HZ.out, HCS.out]; rfl, HBL.out⟩
end Go.Proofs.Ytnonabmbichfnaa
