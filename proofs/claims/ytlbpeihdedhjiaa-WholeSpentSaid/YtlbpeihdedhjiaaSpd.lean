/- coins.Set.spend. -/
import Derived.Test.YtlbpeihdedhjiaaSet
namespace Go.Proofs.Ytlbpeihdedhjiaa
open Go.RowKit
set_option maxRecDepth 20000 in
set_option maxHeartbeats 8000000 in
set_option linter.unusedSimpArgs false in
theorem spend_any (w : World) (B gs : Nat) (p : Option Nat) (L : CoL) (gu : Nat) (U : CoL) (A1 : Option Addr) (c1 : Nat) (A2 : Option Addr) (c2 : Nat) (A : Option Addr) (n c : Nat) (ins : List InT)
    (hsp : SpI B gs p L gu U A1 c1 A2 c2 w) (hi : insSh.rel w (fun b => b < B) [.slice A n c] ins) (hn : ins.length = n) (hkey : ∀ i ∈ ins, i.2.1.length ≤ 10000) (hn2 : n ≤ 1000) (hu2 : U.length ≤ 1000000) :
    Calls Try.prog 44 #[.pointer (some ⟨gs, 0, none⟩), .pointer (some ⟨gu, 0, none⟩), .slice A n c] w fun e w' => e = .returned (.tuple #[.int .i64 (spendM ins L U 0).2.2.1, .int .i64 (spendM ins L U 0).2.2.2]) ∧ Only (SA B gs p gu (.slice A1 U.length c1) (.slice A2 U.length c2)) w w' ∧
      (spendM ins L U 0).2.1.length ≤ U.length + n ∧ ∃ A1 c1 A2 c2, SpI B gs p (spendM ins L U 0).1 gu (spendM ins L U 0).2.1 A1 c1 A2 c2 w' := by
  obtain ⟨R, hR⟩ : ∃ R, spendM ins L U 0 = R := ⟨_, rfl⟩
  rw [hR]
  obtain ⟨u0, hu0⟩ : ∃ u0, U.length = u0 := ⟨_, rfl⟩
  obtain ⟨v1, hv1⟩ : ∃ v1, Value.slice A1 U.length c1 = v1 := ⟨_, rfl⟩
  obtain ⟨v2, hv2⟩ : ∃ v2, Value.slice A2 U.length c2 = v2 := ⟨_, rfl⟩
  rw [hv1, hv2, hu0]
  have HAC := Lib.hid (show ∀ b, b < w.heap.size → SA B gs p gu (.slice A1 U.length c1) (.slice A2 U.length c2) b → SA B gs p gu v1 v2 b by rw [hv1, hv2]; exact fun _ _ h => h)
  have HU2 := Lib.hid (show u0 ≤ 1000000 by omega)
  have HR := Lib.hid hR
  have HSP := Lib.hid hsp
  have HI := Lib.hid (fun W (a : Only (SA B gs p gu v1 v2) w W) => insSh.only hi a (fun b _ h e => by have := e.1; omega))
  have HN := Lib.hid hn
  have HK := Lib.hid hkey
  have HN2 := Lib.hid hn2
  have HU0 := Lib.hid hu0
  clear hR hsp hi hn hkey hn2 hu0 hu2 hv1 hv2
  go_enter Try.func44, Try.ntmps44
  go_wp2_with fail
  have HBL := Lib.hid (Only.refl (SA B gs p gu v1 v2) w)
  go_loopg [8, 15] n (fun k v8 v15 wr => ∃ (j : Nat) (L : CoL) (U : CoL) (acc : Int) (A1 : Option Addr) (c1 : Nat) (A2 : Option Addr) (c2 : Nat), j + k = n ∧ v8 = .int .i64 acc ∧ v15 = .int .i64 j ∧ Hid (spendM (ins.drop j) L U acc = R) ∧ Hid (SpI B gs p L gu U A1 c1 A2 c2 wr) ∧ Hid (U.length = u0 + j) ∧ Hid (∀ b, b < w.heap.size → SA B gs p gu (.slice A1 U.length c1) (.slice A2 U.length c2) b → SA B gs p gu v1 v2 b) ∧ Hid (Only (SA B gs p gu v1 v2) w wr))
  case atStart => exact ⟨0, L, U, 0, A1, c1, A2, c2, by omega, rfl, rfl, by rw [List.drop_zero]; exact HR.out, HSP.out, by rw [Nat.add_zero]; exact HU0.out, HAC.out, HBL.out⟩
  case round =>
    clear HSP HBL HU0 HR HAC
    obtain ⟨j, L, U, acc, A1, c1, A2, c2, hj, rfl, rfl, HR, HSP, HU0, HAC, HBL⟩ := hrel
    by_cases hlt : j < n
    · have hi' := HI.out _ HBL.out
      obtain ⟨b, o, id, ix, key, v, rfl, hb, hij, hrow, hkb, hid, hix⟩ := ins_at hi' (by rw [HN.out]; exact hlt)
      have HKB := Lib.hid (fun W (a : Only (SA B gs p gu (.slice A1 U.length c1) (.slice A2 U.length c2)) wr W) => hkb.only a (fun b _ h e => by have := e.1; omega))
      obtain ⟨Ak, nk, ck, rfl, hnk, hkc, hks⟩ := hkb
      have hdr : ins.drop j = ((id, ((ix : Nat) : Int), ()), key, ()) :: ins.drop (j + 1) := by rw [List.drop_eq_getElem_cons (by rw [HN.out]; exact hlt), hij]
      have HKL := Lib.hid (show key.length ≤ 10000 by
        have := HK.out _ (List.getElem_mem (by rw [HN.out]; exact hlt : j < ins.length))
        rw [hij] at this; exact this)
      have HRJ := HR.out
      rw [hdr] at HRJ
      replace HR := Lib.hid HRJ
      have HROW := Lib.hid hrow
      have HID := Lib.hid hid
      have HIX := Lib.hid hix
      clear hi' hij hrow hid hb hks hkc hix hnk hdr HRJ
      go_wp2_with (first
        | (with_reducible refine wpList_ld rfl 32 (.tmp 17) rfl b (o + j * 34) rfl (inC id ix (.slice Ak nk ck)) HROW.out _ Try.underlying32 rfl 34 infoIn (by simp [inC_len _ _ _ HID.out]) ?_)
        | (with_reducible refine wpList_stb rfl 32 (.tmp 10) (.tmp 18) rfl wr.heap.size 0 _ rfl rfl 32 _ (Blk.new wr _ _) ?e4a ?e4b ?e4c ?_))
      case e4a => simp [inC_len _ _ _ HID.out]
      case e4b => rw [infoIn]; simp [inC_len _ _ _ HID.out]
      case e4c => exact inC_one _ _ _ rfl
      intro w4 b4 o4
      rw [over_all _ _ (by simp [inC_len _ _ _ HID.out])] at b4
      have hO4 : Below wr.heap.size wr w4 := (((Only.refl (fun b => wr.heap.size ≤ b) wr).alloc _).trans o4 (fun b _ e => by omega)).below (Nat.le_refl _) (fun b hb h => by omega)
      have HSZ := Lib.hid HSP.out.hB
      replace HSP := Lib.hid (HSP.out.new hO4)
      have HB4 := Lib.hid (Only.of_new hO4 (SA B gs p gu (.slice A1 U.length c1) (.slice A2 U.length c2)))
      have HP := Lib.hid b4
      obtain ⟨p10, hp10⟩ : ∃ p10, wr.heap.size = p10 := ⟨_, rfl⟩
      have HSW := Lib.hid hp10
      rw [hp10] at HP HSZ ⊢
      clear b4 o4 hO4 HROW hp10
      obtain ⟨g, hg⟩ : ∃ g, getC L (id, ix) = g := ⟨_, rfl⟩
      have HG := Lib.hid hg
      have HQK := Lib.hid (show PtOk (id, ix) from ⟨HID.out, HIX.out⟩)
      have HGL := Lib.hid (show (orZero g).2.1.length = 32 by
        cases g with
        | none => rfl
        | some c => exact (HSP.out.map.ok _ (get_mem hg)).2.1)
      clear hg
      go_wp2_with fail
      refine wp_region_held_drew (S := (fun w' => SpI B gs p L gu U A1 c1 A2 c2 w' ∧ Blk w' p10 32 (inC id ix (.slice Ak nk ck)).toArray ∧ Only (SA B gs p gu (.slice A1 U.length c1) (.slice A2 U.length c2)) wr w')) (by kernel_rfl) (⟨HSP.out.drew, HP.out.drew, HB4.out.drew⟩) ?_
      intro hSw
      refine wpAnyH_take (i := 0) (oi := ⟨some 20, _, _, _, _, _⟩) (v := (.pointer (some ⟨gs, 0, none⟩))) rfl (by kernel_rfl) (by kernel_rfl) (by kernel_rfl) (fun _ _ _ h => h) (Or.inl ⟨by rfl, ?_⟩) hSw ?_
      · intro w' hSw'
        have c0 := hSw'.1.set.cell 0
        simp only [List.getElem?_toArray, List.getElem?_cons_zero] at c0
        have k1 := ma_look hSw'.1.map id ix HQK.out
        rw [HG.out] at k1
        go_simp
      simp only [Act.put, List.setIfInBounds_toArray, List.set_cons_zero, List.set_cons_succ]
      refine wpAnyH_take (i := 1) (oi := ⟨some 21, _, _, _, _, _⟩) (v := (.pointer (some ⟨gs, 0, none⟩))) rfl (by kernel_rfl) (by kernel_rfl) (by kernel_rfl) (fun _ _ _ h => h) (Or.inl ⟨by rfl, ?_⟩) hSw ?_
      · intro w' hSw'
        have c0 := hSw'.1.set.cell 0
        simp only [List.getElem?_toArray, List.getElem?_cons_zero] at c0
        have k1 := ma_look hSw'.1.map id ix HQK.out
        rw [HG.out] at k1
        go_simp
      simp only [Act.put, List.setIfInBounds_toArray, List.set_cons_zero, List.set_cons_succ]
      refine wpAnyH_take (i := 2) (oi := ⟨some 22, _, _, _, _, _⟩) (v := (.pointer (some ⟨gs, 0, none⟩))) rfl (by kernel_rfl) (by kernel_rfl) (by kernel_rfl) (fun _ _ _ h => h) (Or.inl ⟨by rfl, ?_⟩) hSw ?_
      · intro w' hSw'
        have c0 := hSw'.1.set.cell 0
        simp only [List.getElem?_toArray, List.getElem?_cons_zero] at c0
        have k1 := ma_look hSw'.1.map id ix HQK.out
        rw [HG.out] at k1
        go_simp
      simp only [Act.put, List.setIfInBounds_toArray, List.set_cons_zero, List.set_cons_succ]
      refine wpAnyH_take (i := 3) (oi := ⟨some 23, _, _, _, _, _⟩) (v := (.map p)) rfl (by kernel_rfl) (by kernel_rfl) (by kernel_rfl) (fun _ _ _ h => h) (Or.inl ⟨by rfl, ?_⟩) hSw ?_
      · intro w' hSw'
        have c0 := hSw'.1.set.cell 0
        simp only [List.getElem?_toArray, List.getElem?_cons_zero] at c0
        have k1 := ma_look hSw'.1.map id ix HQK.out
        rw [HG.out] at k1
        go_simp
      simp only [Act.put, List.setIfInBounds_toArray, List.set_cons_zero, List.set_cons_succ]
      refine wpAnyH_take (i := 4) (oi := ⟨some 24, _, _, _, _, _⟩) (v := (.pointer (some ⟨p10, 0, none⟩))) rfl (by kernel_rfl) (by kernel_rfl) (by kernel_rfl) (fun _ _ _ h => h) (Or.inl ⟨by rfl, ?_⟩) hSw ?_
      · intro w' hSw'
        have c0 := hSw'.1.set.cell 0
        simp only [List.getElem?_toArray, List.getElem?_cons_zero] at c0
        have k1 := ma_look hSw'.1.map id ix HQK.out
        rw [HG.out] at k1
        go_simp
      simp only [Act.put, List.setIfInBounds_toArray, List.set_cons_zero, List.set_cons_succ]
      refine wpAnyH_take (i := 5) (oi := ⟨some 25, _, _, _, _, _⟩) (v := .agg (ptC id ix).toArray) rfl (by kernel_rfl) (by kernel_rfl) (by kernel_rfl) (fun _ _ _ h => h) (yieldsIf_load_mid (by rfl) _ _ rfl p10 (0) rfl (ptC id ix) _ (fun _ h => in_pt h.2.1) Try.underlying28 rfl (by rw [ptC_len _ _ HID.out]; exact infoPt)) hSw ?_
      simp only [Act.put, List.setIfInBounds_toArray, List.set_cons_zero, List.set_cons_succ]
      refine wpAnyH_take (i := 6) (oi := ⟨some 26, _, _, _, _, _⟩) (v := (.tuple #[.agg (coinC (orZero g)).toArray, .bool g.isSome])) rfl (by kernel_rfl) (by kernel_rfl) (by kernel_rfl) (fun _ _ _ h => h) (Or.inl ⟨by rfl, ?_⟩) hSw ?_
      · intro w' hSw'
        have c0 := hSw'.1.set.cell 0
        simp only [List.getElem?_toArray, List.getElem?_cons_zero] at c0
        have k1 := ma_look hSw'.1.map id ix HQK.out
        rw [HG.out] at k1
        go_simp
      simp only [Act.put, List.setIfInBounds_toArray, List.set_cons_zero, List.set_cons_succ]
      refine wpAnyH_take (i := 7) (oi := ⟨some 19, _, _, _, _, _⟩) (v := (.tuple #[.agg (coinC (orZero g)).toArray, .bool g.isSome])) rfl (by kernel_rfl) (by kernel_rfl) (by kernel_rfl) (fun _ _ _ h => h) (Or.inl ⟨by rfl, ?_⟩) hSw ?_
      · intro w' hSw'
        have c0 := hSw'.1.set.cell 0
        simp only [List.getElem?_toArray, List.getElem?_cons_zero] at c0
        have k1 := ma_look hSw'.1.map id ix HQK.out
        rw [HG.out] at k1
        go_simp
      simp only [Act.put, List.setIfInBounds_toArray, List.set_cons_zero, List.set_cons_succ]
      refine wpAnyH_take (i := 8) (oi := ⟨some 27, _, _, _, _, _⟩) (v := (.agg (coinC (orZero g)).toArray)) rfl (by kernel_rfl) (by kernel_rfl) (by kernel_rfl) (fun _ _ _ h => h) (Or.inl ⟨by rfl, ?_⟩) hSw ?_
      · intro w' hSw'
        have c0 := hSw'.1.set.cell 0
        simp only [List.getElem?_toArray, List.getElem?_cons_zero] at c0
        have k1 := ma_look hSw'.1.map id ix HQK.out
        rw [HG.out] at k1
        go_simp
      simp only [Act.put, List.setIfInBounds_toArray, List.set_cons_zero, List.set_cons_succ]
      refine wpAnyH_take (i := 9) (oi := ⟨some 28, _, _, _, _, _⟩) (v := (.bool g.isSome)) rfl (by kernel_rfl) (by kernel_rfl) (by kernel_rfl) (fun _ _ _ h => h) (Or.inl ⟨by rfl, ?_⟩) hSw ?_
      · intro w' hSw'
        have c0 := hSw'.1.set.cell 0
        simp only [List.getElem?_toArray, List.getElem?_cons_zero] at c0
        have k1 := ma_look hSw'.1.map id ix HQK.out
        rw [HG.out] at k1
        go_simp
      simp only [Act.put, List.setIfInBounds_toArray, List.set_cons_zero, List.set_cons_succ]
      refine wpAnyH_ready (rs := [10]) (by kernel_rfl) (by simp) (AllReadyH.cons (o := ⟨some 11, _, _, _, _, _⟩) rfl (fun K hK => ?_) AllReadyH.nil)
      refine step_newc (by rfl) (.cells (coinC zeroCo).toArray 61) (fun N => .pointer (some ⟨N, 0, none⟩)) (by show _ = _; kernel_rfl) ?_
      intro p11 wn11 hN11 hw11 a11
      have H11 := Lib.hid (show Blk wn11 p11 61 (coinC zeroCo).toArray by rw [hN11, hw11]; exact Blk.new _ _ _)
      have HN11 := Lib.hid (And.intro (hSw.1.apart (x := p11) (by omega)) (show p10 ≠ p11 ∧ wr.heap.size ≤ p11 by have h3 := hSw.2.1.lt; have := hSw.2.2.size; omega))
      clear hN11 hw11
      refine hK.out _ _ (⟨hSw.1.new a11, hSw.2.1.below a11 hSw.2.1.lt, onew hSw.2.2 a11⟩) ?_
      intro hSw
      clear hK K
      try simp only [Act.put, List.setIfInBounds_toArray, List.set_cons_zero, List.set_cons_succ]
      refine wpAnyH_ready (rs := [11]) (by kernel_rfl) (by simp) (AllReadyH.cons (o := ⟨none, _, _, _, _, _⟩) rfl (fun K hK => ?_) AllReadyH.nil)
      refine step_stbc rfl 61 (.tmp 11) (.tmp 27) rfl p11 0 _ rfl rfl 61 (coinC zeroCo) H11.out (by simp [coinC_len _ HGL.out]; decide) (by rw [infoCo]; simp [coinC_len _ HGL.out]) (coinC_one _) ?_
      intro w5 b5 o5
      rw [over_all _ _ (by simp [coinC_len _ HGL.out]; decide)] at b5
      have hap := HN11.out.1
      have hpp := HN11.out.2
      have hB5 := hSw.1.hB
      clear H11
      have H11 := Lib.hid (show Blk w5 p11 61 (coinC (orZero g)).toArray from b5)
      refine hK.out _ _ (⟨hSw.1.other o5 hap.s hap.u hap.m hap.o1 hap.o2, hSw.2.1.only o5 hpp.1, hSw.2.2.trans o5 (fun b hb e => by omega)⟩) ?_
      intro hSw
      clear hK K
      try simp only [Act.put, List.setIfInBounds_toArray, List.set_cons_zero, List.set_cons_succ]
      refine wpAnyH_take (i := 12) (oi := ⟨some 12, _, _, _, _, _⟩) (v := (.bool g.isSome)) rfl (by kernel_rfl) (by kernel_rfl) (by kernel_rfl) (fun _ _ _ h => h) (Or.inl ⟨by rfl, ?_⟩) hSw ?_
      · intro w' hSw'
        have c0 := hSw'.1.set.cell 0
        simp only [List.getElem?_toArray, List.getElem?_cons_zero] at c0
        have k1 := ma_look hSw'.1.map id ix HQK.out
        rw [HG.out] at k1
        go_simp
      simp only [Act.put, List.setIfInBounds_toArray, List.set_cons_zero, List.set_cons_succ]
      refine wpAnyH_done (by kernel_rfl) ?_ _
      have HSP5 := Lib.hid hSw.1
      have HP5 := Lib.hid hSw.2.1
      have HB5 := Lib.hid hSw.2.2
      clear HSP HP HB4 hSw a11 b5 o5 hap hpp hB5
      cases g with
      | none =>
        have hR : R = (L, U, 0, 130) := by rw [← HR.out, spendM_none HG.out]
        subst hR
        go_wp2
        refine bodyPost_ret (results_tmp2 rfl _ _ _) rfl ?_
        exact ⟨rfl, HBL.out.trans HB5.out HAC.out, by have := HU0.out; omega, A1, c1, A2, c2, HSP5.out⟩
      | some co =>
        obtain ⟨amt, lock, hgt⟩ := co
        have H12 := Lib.hid (show Blk w5 p11 61 (coinC (amt, lock, hgt)).toArray from H11.out)
        have HLK := Lib.hid (show lock.length = 32 from HGL.out)
        clear H11 HGL
        obtain ⟨X, hX⟩ : ∃ X, sha key = X := ⟨_, rfl⟩
        have hX32 : X.length = 32 := by rw [← hX]; exact sha_len _
        obtain ⟨eb, heb⟩ : ∃ eb, (X == lock) = eb := ⟨_, rfl⟩
        have heqA : ∀ w', (Op.equalIn 10000 25 (.agg (bts X).toArray) (.agg (bts lock).toArray)).run Try.prog w' = .ok eb w' := fun w' => by
          rw [show (10000 : Nat) = 9998 + 2 from rfl, run_eq_arr Try.underlying25 Try.underlying5 (by kernel_rfl) (by kernel_rfl) (by kernel_rfl) X lock hX32 HLK.out w' 9998, heb]
        have HEB := Lib.hid (show (sha key == lock) = eb by rw [hX, heb])
        have HX := Lib.hid hX
        clear hX heb hX32
        go_wp2_with fail
        refine wp_region_held_drew (S := (fun w' => SpI B gs p L gu U A1 c1 A2 c2 w' ∧ Blk w' p10 32 (inC id ix (.slice Ak nk ck)).toArray ∧ Blk w' p11 61 (coinC (amt, lock, hgt)).toArray ∧ Only (SA B gs p gu (.slice A1 U.length c1) (.slice A2 U.length c2)) wr w')) (by kernel_rfl) (⟨HSP5.out.drew, HP5.out.drew, H12.out.drew, HB5.out.drew⟩) ?_
        intro hSw
        refine wpAnyH_take (i := 0) (oi := ⟨some 33, _, _, _, _, _⟩) (v := (.pointer (some ⟨p10, 33, none⟩))) rfl (by kernel_rfl) (by kernel_rfl) (by kernel_rfl) (fun _ _ _ h => h) (Or.inl ⟨by rfl, ?_⟩) hSw ?_
        · intro w' hSw'
          have q33 := in_cell33' hSw'.2.1 HID.out
          go_simp
        simp only [Act.put, List.setIfInBounds_toArray, List.set_cons_zero, List.set_cons_succ]
        refine wpAnyH_take (i := 1) (oi := ⟨some 34, _, _, _, _, _⟩) (v := (.slice Ak nk ck)) rfl (by kernel_rfl) (by kernel_rfl) (by kernel_rfl) (fun _ _ _ h => h) (Or.inl ⟨by rfl, ?_⟩) hSw ?_
        · intro w' hSw'
          have q33 := in_cell33' hSw'.2.1 HID.out
          go_simp
        simp only [Act.put, List.setIfInBounds_toArray, List.set_cons_zero, List.set_cons_succ]
        refine wpAnyH_take (i := 4) (oi := ⟨some 37, _, _, _, _, _⟩) (v := (.pointer (some ⟨p11, 0, none⟩))) rfl (by kernel_rfl) (by kernel_rfl) (by kernel_rfl) (fun _ _ _ h => h) (Or.inl ⟨by rfl, ?_⟩) hSw ?_
        · intro w' hSw'
          have q33 := in_cell33' hSw'.2.1 HID.out
          go_simp
        simp only [Act.put, List.setIfInBounds_toArray, List.set_cons_zero, List.set_cons_succ]
        refine wpAnyH_take (i := 5) (oi := ⟨some 38, _, _, _, _, _⟩) (v := (.pointer (some ⟨p11, 1, none⟩))) rfl (by kernel_rfl) (by kernel_rfl) (by kernel_rfl) (fun _ _ _ h => h) (Or.inl ⟨by rfl, ?_⟩) hSw ?_
        · intro w' hSw'
          have q33 := in_cell33' hSw'.2.1 HID.out
          go_simp
        simp only [Act.put, List.setIfInBounds_toArray, List.set_cons_zero, List.set_cons_succ]
        refine wpAnyH_take (i := 6) (oi := ⟨some 39, _, _, _, _, _⟩) (v := .agg (bts lock).toArray) rfl (by kernel_rfl) (by kernel_rfl) (by kernel_rfl) (fun _ _ _ h => h) (yieldsIf_load_mid (by rfl) _ _ rfl p11 (1) rfl (bts lock) _ (fun _ h => co_lock h.2.2.1) Try.underlying25 rfl (by rw [bts_length, HLK.out]; exact infoID)) hSw ?_
        simp only [Act.put, List.setIfInBounds_toArray, List.set_cons_zero, List.set_cons_succ]
        refine wpAnyH_ready (rs := [2]) (by kernel_rfl) (by simp) (AllReadyH.cons (o := ⟨some 35, _, _, _, _, _⟩) rfl (fun K hK => ?_) AllReadyH.nil)
        refine step_newc (by rfl) (.cells #[.slice Ak nk ck] 30) (fun N => .slice (some ⟨N, 0, none⟩) 1 1) (exec_bslc rfl (run_one_bs Ak nk ck _) (by simp [Act.eval, Act.put])) ?_
        intro N8 wn8 hN8 hw8 a8
        have HSL := Lib.hid (show Sl wn8 (fun b => b = N8) 1 (some ⟨N8, 0, none⟩) 1 [.slice Ak nk ck] by rw [hN8, hw8]; exact Sl.one_new _ _ _)
        clear hN8 hw8
        refine hK.out _ _ (⟨hSw.1.new a8, hSw.2.1.below a8 hSw.2.1.lt, hSw.2.2.1.below a8 hSw.2.2.1.lt, onew hSw.2.2.2 a8⟩) ?_
        intro hSw
        clear hK K
        try simp only [Act.put, List.setIfInBounds_toArray, List.set_cons_zero, List.set_cons_succ]
        refine wpAnyH_ready (rs := [3]) (by kernel_rfl) (by simp) (AllReadyH.cons (o := ⟨some 36, _, _, _, _, _⟩) rfl (fun K hK => ?_) AllReadyH.nil)
        go_simp
        go_at_call 11
        refine (hsum_any _ _ 1 1 _ [key] _ _ HSL.out (Each1.one (HKB.out _ hSw.2.2.2)) (by omega) (fun p hp => by rw [List.mem_singleton] at hp; rw [hp]; have := HKL.out; omega)).mono ?_
        rintro e9 w9 ⟨rfl, a9⟩
        rw [show [key].flatten = key by simp, HX.out]
        unfold idV
        dsimp only
        refine hK.out _ _ (⟨hSw.1.new a9, hSw.2.1.below a9 hSw.2.1.lt, hSw.2.2.1.below a9 hSw.2.2.1.lt, onew hSw.2.2.2 a9⟩) ?_
        intro hSw
        clear hK K
        try simp only [Act.put, List.setIfInBounds_toArray, List.set_cons_zero, List.set_cons_succ]
        refine wpAnyH_take (i := 7) (oi := ⟨some 40, _, _, _, _, _⟩) (v := (.bool (!eb))) rfl (by kernel_rfl) (by kernel_rfl) (by kernel_rfl) (fun _ _ _ h => h) (Or.inl ⟨by rfl, ?_⟩) hSw ?_
        · intro w' hSw'
          have q33 := in_cell33' hSw'.2.1 HID.out
          go_simp
        simp only [Act.put, List.setIfInBounds_toArray, List.set_cons_zero, List.set_cons_succ]
        refine wpAnyH_take (i := 8) (oi := ⟨some 32, _, _, _, _, _⟩) (v := (.bool (!eb))) rfl (by kernel_rfl) (by kernel_rfl) (by kernel_rfl) (fun _ _ _ h => h) (Or.inl ⟨by rfl, ?_⟩) hSw ?_
        · intro w' hSw'
          have q33 := in_cell33' hSw'.2.1 HID.out
          go_simp
        simp only [Act.put, List.setIfInBounds_toArray, List.set_cons_zero, List.set_cons_succ]
        refine wpAnyH_done (by kernel_rfl) ?_ _
        have HSP6 := Lib.hid hSw.1
        have HP6 := Lib.hid hSw.2.1
        have H13 := Lib.hid hSw.2.2.1
        have HB6 := Lib.hid hSw.2.2.2
        clear HSP5 HP5 HB5 H12 hSw heqA HSL a8 a9
        cases eb with
        | false =>
          have hR : R = (L, U, 0, 131) := by rw [← HR.out, spendM_lock HG.out HEB.out]
          subst hR
          go_wp2
          refine bodyPost_ret (results_tmp2 rfl _ _ _) rfl ?_
          exact ⟨rfl, HBL.out.trans HB6.out HAC.out, by have := HU0.out; omega, A1, c1, A2, c2, HSP6.out⟩
        | true =>
          have HR2 := Lib.hid (show spendM (ins.drop (j + 1)) (delC L (id, ix)) (U ++ [((id, ix), (amt, lock, hgt))]) (wrap64 (acc + amt)) = R by rw [← HR.out, spendM_some HG.out HEB.out])
          obtain ⟨bm, rfl⟩ : ∃ bm, p = some bm := by
            cases p with
            | none =>
              have h0 : L = [] := HSP6.out.map
              have h1 := HG.out
              rw [h0] at h1
              cases h1
            | some b => exact ⟨b, rfl⟩
          clear HR
          go_wp2_with fail
          have HS9 := Lib.hid HSP6.out.drew
          have HP9 := Lib.hid HP6.out.drew
          have H9 := Lib.hid H13.out.drew
          have HB9 := Lib.hid HB6.out.drew
          refine wp_region_held_drew (S := (fun w' => Blk w' gs 42 [Value.map (some bm)].toArray ∧ Blk w' p10 32 (inC id ix (.slice Ak nk ck)).toArray)) (by kernel_rfl) (⟨HSP6.out.drew.set, HP6.out.drew⟩) ?_
          intro hSw
          refine wpAnyH_take (i := 0) (oi := ⟨some 41, _, _, _, _, _⟩) (v := (.pointer (some ⟨gs, 0, none⟩))) rfl (by kernel_rfl) (by kernel_rfl) (by kernel_rfl) (fun _ _ _ h => h) (Or.inl ⟨by rfl, ?_⟩) hSw ?_
          · intro w' hSw'
            have c0 := hSw'.1.cell 0
            simp only [List.getElem?_toArray, List.getElem?_cons_zero] at c0
            go_simp
          simp only [Act.put, List.setIfInBounds_toArray, List.set_cons_zero, List.set_cons_succ]
          refine wpAnyH_take (i := 1) (oi := ⟨some 42, _, _, _, _, _⟩) (v := (.pointer (some ⟨gs, 0, none⟩))) rfl (by kernel_rfl) (by kernel_rfl) (by kernel_rfl) (fun _ _ _ h => h) (Or.inl ⟨by rfl, ?_⟩) hSw ?_
          · intro w' hSw'
            have c0 := hSw'.1.cell 0
            simp only [List.getElem?_toArray, List.getElem?_cons_zero] at c0
            go_simp
          simp only [Act.put, List.setIfInBounds_toArray, List.set_cons_zero, List.set_cons_succ]
          refine wpAnyH_take (i := 2) (oi := ⟨some 43, _, _, _, _, _⟩) (v := (.pointer (some ⟨gs, 0, none⟩))) rfl (by kernel_rfl) (by kernel_rfl) (by kernel_rfl) (fun _ _ _ h => h) (Or.inl ⟨by rfl, ?_⟩) hSw ?_
          · intro w' hSw'
            have c0 := hSw'.1.cell 0
            simp only [List.getElem?_toArray, List.getElem?_cons_zero] at c0
            go_simp
          simp only [Act.put, List.setIfInBounds_toArray, List.set_cons_zero, List.set_cons_succ]
          refine wpAnyH_take (i := 3) (oi := ⟨some 44, _, _, _, _, _⟩) (v := (.map (some bm))) rfl (by kernel_rfl) (by kernel_rfl) (by kernel_rfl) (fun _ _ _ h => h) (Or.inl ⟨by rfl, ?_⟩) hSw ?_
          · intro w' hSw'
            have c0 := hSw'.1.cell 0
            simp only [List.getElem?_toArray, List.getElem?_cons_zero] at c0
            go_simp
          simp only [Act.put, List.setIfInBounds_toArray, List.set_cons_zero, List.set_cons_succ]
          refine wpAnyH_take (i := 4) (oi := ⟨some 45, _, _, _, _, _⟩) (v := (.pointer (some ⟨p10, 0, none⟩))) rfl (by kernel_rfl) (by kernel_rfl) (by kernel_rfl) (fun _ _ _ h => h) (Or.inl ⟨by rfl, ?_⟩) hSw ?_
          · intro w' hSw'
            have c0 := hSw'.1.cell 0
            simp only [List.getElem?_toArray, List.getElem?_cons_zero] at c0
            go_simp
          simp only [Act.put, List.setIfInBounds_toArray, List.set_cons_zero, List.set_cons_succ]
          refine wpAnyH_take (i := 5) (oi := ⟨some 46, _, _, _, _, _⟩) (v := .agg (ptC id ix).toArray) rfl (by kernel_rfl) (by kernel_rfl) (by kernel_rfl) (fun _ _ _ h => h) (yieldsIf_load_mid (by rfl) _ _ rfl p10 (0) rfl (ptC id ix) _ (fun _ h => in_pt h.2) Try.underlying28 rfl (by rw [ptC_len _ _ HID.out]; exact infoPt)) hSw ?_
          simp only [Act.put, List.setIfInBounds_toArray, List.set_cons_zero, List.set_cons_succ]
          refine wpAnyH_ready (rs := [6]) (by kernel_rfl) (by simp) (AllReadyH.cons (o := ⟨none, _, _, _, _, _⟩) rfl (fun K hK => ?_) AllReadyH.nil)
          obtain ⟨w7, hdel, hcm, ho7⟩ := cm_del HS9.out.map.2 (id, ix) HQK.out
          unfold pV ptV at hdel
          have HSP7 := Lib.hid (HS9.out.mapped hcm ho7)
          have hbm := HS9.out.map.1
          have hbn := HS9.out.map.2
          have HP7 := Lib.hid (HP9.out.only ho7 (fun e => cm_blk_ne hbn HP9.out e.symm))
          have H14 := Lib.hid (H9.out.only ho7 (fun e => cm_blk_ne hbn H9.out e.symm))
          have HB7 := Lib.hid (HB9.out.trans ho7 (fun b hb e => ⟨by rw [e]; exact hbm, fun ap => ap.m bm rfl e.symm⟩))
          clear HSP6 HP6 H13 HB6 HS9 HP9 H9 HB9 hcm ho7 hbm hbn
          go_simp
          clear hdel
          refine hK.out _ _ (⟨HSP7.out.set, HP7.out⟩) ?_
          intro hSw
          clear hK K
          try simp only [Act.put, List.setIfInBounds_toArray, List.set_cons_zero, List.set_cons_succ]
          refine wpAnyH_done (by kernel_rfl) ?_ _
          clear hSw
          go_wp2_with fail
          have R1 := Lib.hid (show w7.drew.ownsRow B 28 33 (.slice A1 U.length c1) U.length (ptsC U) from HSP7.out.r1)
          have R2 := Lib.hid (show w7.drew.ownsRow B 61 34 (.slice A2 U.length c2) U.length (cosC U) from HSP7.out.r2)
          have hul : U.length ≤ 2000000 := by have := HU0.out; have := HU2.out; have := HN2.out; omega
          have hap := HN11.out.1
          have HGS := Lib.hid (And.intro HSP7.out.hs HSP7.out.hu)
          have HBM := Lib.hid HSP7.out.map.1
          have HU := Lib.hid HSP7.out.drew.undo
          have HU7 := Lib.hid (show w7.drew.cell? ⟨gu, 1, none⟩ = some (Value.slice A2 U.length c2) by
            have := HU.out.cell 1
            simpa using this)
          refine wp_region_tail (S := (fun w' => Blk w' gs 42 [Value.map (some bm)].toArray ∧ IsCM w' bm (delC L (id, ix)) ∧ w'.cell? ⟨gu, 1, none⟩ = some (Value.slice A2 U.length c2) ∧ Blk w' p10 32 (inC id ix (.slice Ak nk ck)).toArray ∧ Blk w' p11 61 (coinC (amt, lock, hgt)).toArray ∧ B ≤ w'.heap.size ∧ Only (SA B gs (some bm) gu (.slice A1 U.length c1) (.slice A2 U.length c2)) wr w')) 20 (by kernel_rfl) (by decide) (by kernel_rfl) (⟨HSP7.out.drew.set, HSP7.out.drew.map.2, HU7.out, HP7.out.drew, H14.out.drew, HSP7.out.hB, HB7.out.drew⟩) ?_
          simp only [List.take_succ_cons, List.take_zero, List.drop_succ_cons, List.drop_zero]
          intro hSw
          refine wpAnyH_take (i := 0) (oi := ⟨some 47, _, _, _, _, _⟩) (v := (.pointer (some ⟨gu, 0, none⟩))) rfl (by kernel_rfl) (by kernel_rfl) (by kernel_rfl) (fun _ _ _ h => h) (Or.inl ⟨by rfl, ?_⟩) hSw ?_
          · intro w' hSw'
            have c1' := hSw'.2.2.1
            go_simp
          simp only [Act.put, List.setIfInBounds_toArray, List.set_cons_zero, List.set_cons_succ]
          refine wpAnyH_take (i := 1) (oi := ⟨some 48, _, _, _, _, _⟩) (v := (.pointer (some ⟨gu, 0, none⟩))) rfl (by kernel_rfl) (by kernel_rfl) (by kernel_rfl) (fun _ _ _ h => h) (Or.inl ⟨by rfl, ?_⟩) hSw ?_
          · intro w' hSw'
            have c1' := hSw'.2.2.1
            go_simp
          simp only [Act.put, List.setIfInBounds_toArray, List.set_cons_zero, List.set_cons_succ]
          refine wpAnyH_take (i := 2) (oi := ⟨some 49, _, _, _, _, _⟩) (v := (.pointer (some ⟨gu, 0, none⟩))) rfl (by kernel_rfl) (by kernel_rfl) (by kernel_rfl) (fun _ _ _ h => h) (Or.inl ⟨by rfl, ?_⟩) hSw ?_
          · intro w' hSw'
            have c1' := hSw'.2.2.1
            go_simp
          simp only [Act.put, List.setIfInBounds_toArray, List.set_cons_zero, List.set_cons_succ]
          refine wpAnyH_take (i := 3) (oi := ⟨some 50, _, _, _, _, _⟩) (v := (.pointer (some ⟨gu, 0, none⟩))) rfl (by kernel_rfl) (by kernel_rfl) (by kernel_rfl) (fun _ _ _ h => h) (Or.inl ⟨by rfl, ?_⟩) hSw ?_
          · intro w' hSw'
            have c1' := hSw'.2.2.1
            go_simp
          simp only [Act.put, List.setIfInBounds_toArray, List.set_cons_zero, List.set_cons_succ]
          refine wpAnyH_take (i := 4) (oi := ⟨some 51, _, _, _, _, _⟩) (v := (.pointer (some ⟨gu, 0, none⟩))) rfl (by kernel_rfl) (by kernel_rfl) (by kernel_rfl) (fun _ _ _ h => h) (Or.inl ⟨by rfl, ?_⟩) hSw ?_
          · intro w' hSw'
            have c1' := hSw'.2.2.1
            go_simp
          simp only [Act.put, List.setIfInBounds_toArray, List.set_cons_zero, List.set_cons_succ]
          refine wpAnyH_take (i := 6) (oi := ⟨some 53, _, _, _, _, _⟩) (v := (.pointer (some ⟨p10, 0, none⟩))) rfl (by kernel_rfl) (by kernel_rfl) (by kernel_rfl) (fun _ _ _ h => h) (Or.inl ⟨by rfl, ?_⟩) hSw ?_
          · intro w' hSw'
            have c1' := hSw'.2.2.1
            go_simp
          simp only [Act.put, List.setIfInBounds_toArray, List.set_cons_zero, List.set_cons_succ]
          refine wpAnyH_take (i := 7) (oi := ⟨some 54, _, _, _, _, _⟩) (v := .agg (ptC id ix).toArray) rfl (by kernel_rfl) (by kernel_rfl) (by kernel_rfl) (fun _ _ _ h => h) (yieldsIf_load_mid (by rfl) _ _ rfl p10 (0) rfl (ptC id ix) _ (fun _ h => in_pt h.2.2.2.1) Try.underlying28 rfl (by rw [ptC_len _ _ HID.out]; exact infoPt)) hSw ?_
          simp only [Act.put, List.setIfInBounds_toArray, List.set_cons_zero, List.set_cons_succ]
          refine wpAnyH_take (i := 10) (oi := ⟨some 57, _, _, _, _, _⟩) (v := (.pointer (some ⟨gu, 0, none⟩))) rfl (by kernel_rfl) (by kernel_rfl) (by kernel_rfl) (fun _ _ _ h => h) (Or.inl ⟨by rfl, ?_⟩) hSw ?_
          · intro w' hSw'
            have c1' := hSw'.2.2.1
            go_simp
          simp only [Act.put, List.setIfInBounds_toArray, List.set_cons_zero, List.set_cons_succ]
          refine wpAnyH_take (i := 11) (oi := ⟨some 58, _, _, _, _, _⟩) (v := (.pointer (some ⟨gu, 0, none⟩))) rfl (by kernel_rfl) (by kernel_rfl) (by kernel_rfl) (fun _ _ _ h => h) (Or.inl ⟨by rfl, ?_⟩) hSw ?_
          · intro w' hSw'
            have c1' := hSw'.2.2.1
            go_simp
          simp only [Act.put, List.setIfInBounds_toArray, List.set_cons_zero, List.set_cons_succ]
          refine wpAnyH_take (i := 12) (oi := ⟨some 59, _, _, _, _, _⟩) (v := (.pointer (some ⟨gu, 1, none⟩))) rfl (by kernel_rfl) (by kernel_rfl) (by kernel_rfl) (fun _ _ _ h => h) (Or.inl ⟨by rfl, ?_⟩) hSw ?_
          · intro w' hSw'
            have c1' := hSw'.2.2.1
            go_simp
          simp only [Act.put, List.setIfInBounds_toArray, List.set_cons_zero, List.set_cons_succ]
          refine wpAnyH_take (i := 13) (oi := ⟨some 60, _, _, _, _, _⟩) (v := (.slice A2 U.length c2)) rfl (by kernel_rfl) (by kernel_rfl) (by kernel_rfl) (fun _ _ _ h => h) (Or.inl ⟨by rfl, ?_⟩) hSw ?_
          · intro w' hSw'
            have c1' := hSw'.2.2.1
            go_simp
          simp only [Act.put, List.setIfInBounds_toArray, List.set_cons_zero, List.set_cons_succ]
          refine wpAnyH_take (i := 14) (oi := ⟨some 61, _, _, _, _, _⟩) (v := .agg (coinC (amt, lock, hgt)).toArray) rfl (by kernel_rfl) (by kernel_rfl) (by kernel_rfl) (fun _ _ _ h => h) (yieldsIf_load_mid (by rfl) _ _ rfl p11 (0) rfl (coinC (amt, lock, hgt)) _ (fun _ h => h.2.2.2.2.1.rowAll) Try.underlying61 rfl (by rw [coinC_len _ HLK.out]; exact infoCo)) hSw ?_
          simp only [Act.put, List.setIfInBounds_toArray, List.set_cons_zero, List.set_cons_succ]
          refine wpAnyH_ready (rs := [5, 8, 15]) (by kernel_rfl) (by simp) (AllReadyH.cons (o := ⟨some 52, _, _, _, _, _⟩) rfl (fun K hK => ?_) (AllReadyH.cons (o := ⟨some 55, _, _, _, _, _⟩) rfl (fun K hK => ?_) (AllReadyH.cons (o := ⟨some 62, _, _, _, _, _⟩) rfl (fun K hK => ?_) AllReadyH.nil)))
          · skip
            have c0 := HU.out.cell 0
            simp only [List.getElem?_toArray, List.getElem?_cons_zero] at c0
            go_simp
            clear c0
            refine hK.out _ _ (hSw) ?_
            intro hSw
            clear hK K
            try simp only [Act.put, List.setIfInBounds_toArray, List.set_cons_zero, List.set_cons_succ]
            refine wpAnyH_ready (rs := [8, 15]) (by kernel_rfl) (by simp) (AllReadyH.cons (o := ⟨some 55, _, _, _, _, _⟩) rfl (fun K hK => ?_) (AllReadyH.cons (o := ⟨some 62, _, _, _, _, _⟩) rfl (fun K hK => ?_) AllReadyH.nil))
            · skip
              refine step_newc (by rfl) (.cells (ptC id ix).toArray 28) (fun N => .slice (some ⟨N, 0, none⟩) 1 1) (exec_bslc rfl (run_one_pt id ix HID.out _) (by simp [Act.eval, Act.put])) ?_
              intro N8 wn8 hN8 hw8 a8
              have HN8 := Lib.hid (show Blk wn8 N8 28 (ptC id ix).toArray by rw [hN8, hw8]; exact Blk.new _ _ _)
              have HNE8 := Lib.hid (show (Value.slice A1 U.length c1).ownBlock ≠ some N8 from fun e => by have := (R1.out.lt _ e).2; omega)
              try replace HN15 := Lib.hid (HN15.out.below a8 HN15.out.lt)
              replace R1 := Lib.hid (own_only R1.out (Only.of_new a8 (fun _ => False)) (fun _ _ h => h))
              replace R2 := Lib.hid (own_only R2.out (Only.of_new a8 (fun _ => False)) (fun _ _ h => h))
              clear hN8 hw8
              replace HU := Lib.hid (HU.out.below a8 HU.out.lt)
              refine hK.out _ _ (⟨hSw.1.below a8 hSw.1.lt, hSw.2.1.new a8, (HU.out.cell 1).trans (by simp), hSw.2.2.2.1.below a8 hSw.2.2.2.1.lt, hSw.2.2.2.2.1.below a8 hSw.2.2.2.2.1.lt, Nat.le_trans hSw.2.2.2.2.2.1 a8.size, onew hSw.2.2.2.2.2.2 a8⟩) ?_
              intro hSw
              clear hK K
              try simp only [Act.put, List.setIfInBounds_toArray, List.set_cons_zero, List.set_cons_succ]
              refine wpAnyH_ready (rs := [9, 15]) (by kernel_rfl) (by simp) (AllReadyH.cons (o := ⟨some 56, _, _, _, _, _⟩) rfl (fun K hK => ?_) (AllReadyH.cons (o := ⟨some 62, _, _, _, _, _⟩) rfl (fun K hK => ?_) AllReadyH.nil))
              · skip
                refine step_appc rfl (.tmp 52) (.tmp 55) 43 rfl B 28 _ 33 36 Try.underlying43 infoPtz (by rfl) (by decide) A1 U.length c1 rfl (some ⟨N8, 0, none⟩) 1 1 rfl _ R1.out _ _ (sl_blk HN8.out (ptC_len _ _ HID.out)) (ptC_one _ _) (by unfold maxLen; omega) (by omega) hSw.2.2.2.2.2.1 ?_
                intro A3 c3 w9 hown9 ho9 hat9
                replace R2 := Lib.hid (own_only R2.out ho9 (fun k hk e => own_own_ne R2.out R1.out (by decide) hk e))
                try replace HN15 := Lib.hid (HN15.out.only ho9 (own_blk_ne R1.out HN15.out (by decide)))
                have ho9' := hSw.2.2.2.2.2.2.trans ho9 (fun b hb e => ⟨(R1.out.lt b e).1, fun ap => ap.o1 e⟩)
                have HAT9 := Lib.hid (show ∀ k, k < wr.heap.size → (Value.slice A1 U.length c1).ownBlock ≠ some k → (Value.slice A3 (U.length + 1) c3).ownBlock ≠ some k from fun k hk hne e => by
                  rcases hat9 with h | h
                  · exact hne (h.symm.trans e)
                  · have := Option.some.inj (h.symm.trans e); have := hSw.2.2.2.2.2.2.size; omega)
                have s1 := own_blk_ne R1.out hSw.1 (by decide)
                have s2 := own_cm_ne R1.out hSw.2.1
                have s3 := own_blk_ne R1.out HU.out (by decide)
                have s4 := own_blk_ne R1.out hSw.2.2.2.1 (by decide)
                have s5 := own_blk_ne R1.out hSw.2.2.2.2.1 (by decide)
                have R3 := Lib.hid hown9
                clear R1 HN8 HNE8
                replace HU := Lib.hid (HU.out.only ho9 s3)
                refine hK.out _ _ (⟨hSw.1.only ho9 s1, hSw.2.1.only ho9 s2, (HU.out.cell 1).trans (by simp), hSw.2.2.2.1.only ho9 s4, hSw.2.2.2.2.1.only ho9 s5, Nat.le_trans hSw.2.2.2.2.2.1 ho9.size, ho9'⟩) ?_
                intro hSw
                clear hK K
                try simp only [Act.put, List.setIfInBounds_toArray, List.set_cons_zero, List.set_cons_succ]
                refine wpAnyH_ready (rs := [15]) (by kernel_rfl) (by simp) (AllReadyH.cons (o := ⟨some 62, _, _, _, _, _⟩) rfl (fun K hK => ?_) AllReadyH.nil)
                refine step_newc (by rfl) (.cells (coinC (amt, lock, hgt)).toArray 61) (fun N => .slice (some ⟨N, 0, none⟩) 1 1) (exec_bslc rfl (run_one_co amt hgt lock HLK.out _) (by simp [Act.eval, Act.put])) ?_
                intro N15 wn15 hN15 hw15 a15
                have HN15 := Lib.hid (show Blk wn15 N15 61 (coinC (amt, lock, hgt)).toArray by rw [hN15, hw15]; exact Blk.new _ _ _)
                try replace HN8 := Lib.hid (HN8.out.below a15 HN8.out.lt)
                try replace R1 := Lib.hid (own_only R1.out (Only.of_new a15 (fun _ => False)) (fun _ _ h => h))
                try replace R3 := Lib.hid (own_only R3.out (Only.of_new a15 (fun _ => False)) (fun _ _ h => h))
                replace R2 := Lib.hid (own_only R2.out (Only.of_new a15 (fun _ => False)) (fun _ _ h => h))
                clear hN15 hw15
                replace HU := Lib.hid (HU.out.below a15 HU.out.lt)
                refine hK.out _ _ (⟨hSw.1.below a15 hSw.1.lt, hSw.2.1.new a15, (HU.out.cell 1).trans (by simp), hSw.2.2.2.1.below a15 hSw.2.2.2.1.lt, hSw.2.2.2.2.1.below a15 hSw.2.2.2.2.1.lt, Nat.le_trans hSw.2.2.2.2.2.1 a15.size, onew hSw.2.2.2.2.2.2 a15⟩) ?_
                intro hSw
                clear hK K
                try simp only [Act.put, List.setIfInBounds_toArray, List.set_cons_zero, List.set_cons_succ]
                refine wpAnyH_ready (rs := [16]) (by kernel_rfl) (by simp) (AllReadyH.cons (o := ⟨some 63, _, _, _, _, _⟩) rfl (fun K hK => ?_) AllReadyH.nil)
                refine step_appc rfl (.tmp 60) (.tmp 62) 44 rfl B 61 _ 34 48 Try.underlying44 infoCoz (by rfl) (by decide) A2 U.length c2 rfl (some ⟨N15, 0, none⟩) 1 1 rfl _ R2.out _ _ (sl_blk HN15.out (coinC_len _ HLK.out)) (coinC_one _) (by unfold maxLen; omega) (by omega) hSw.2.2.2.2.2.1 ?_
                intro A4 c4 w16 hown16 ho16 hat16
                try replace R1 := Lib.hid (own_only R1.out ho16 (fun k hk e => own_own_ne R1.out R2.out (by decide) hk e))
                try replace R3 := Lib.hid (own_only R3.out ho16 (fun k hk e => own_own_ne R3.out R2.out (by decide) hk e))
                try replace HN8 := Lib.hid (HN8.out.only ho16 (own_blk_ne R2.out HN8.out (by decide)))
                have ho16' := hSw.2.2.2.2.2.2.trans ho16 (fun b hb e => ⟨(R2.out.lt b e).1, fun ap => ap.o2 e⟩)
                have HAT16 := Lib.hid (show ∀ k, k < wr.heap.size → (Value.slice A2 U.length c2).ownBlock ≠ some k → (Value.slice A4 (U.length + 1) c4).ownBlock ≠ some k from fun k hk hne e => by
                  rcases hat16 with h | h
                  · exact hne (h.symm.trans e)
                  · have := Option.some.inj (h.symm.trans e); have := hSw.2.2.2.2.2.2.size; omega)
                have s1 := own_blk_ne R2.out hSw.1 (by decide)
                have s2 := own_cm_ne R2.out hSw.2.1
                have s3 := own_blk_ne R2.out HU.out (by decide)
                have s4 := own_blk_ne R2.out hSw.2.2.2.1 (by decide)
                have s5 := hap.o2
                have R4 := Lib.hid hown16
                clear R2 HN15
                replace HU := Lib.hid (HU.out.only ho16 s3)
                refine hK.out _ _ (⟨hSw.1.only ho16 s1, hSw.2.1.only ho16 s2, (HU.out.cell 1).trans (by simp), hSw.2.2.2.1.only ho16 s4, hSw.2.2.2.2.1.only ho16 s5, Nat.le_trans hSw.2.2.2.2.2.1 ho16.size, ho16'⟩) ?_
                intro hSw
                clear hK K
                try simp only [Act.put, List.setIfInBounds_toArray, List.set_cons_zero, List.set_cons_succ]
                refine wpAnyH_take (i := 17) (oi := ⟨some 64, _, _, _, _, _⟩) (v := (.pointer (some ⟨gu, 0, none⟩))) rfl (by kernel_rfl) (by kernel_rfl) (by kernel_rfl) (fun _ _ _ h => h) (Or.inl ⟨by rfl, ?_⟩) hSw ?_
                · intro w' hSw'
                  have c1' := hSw'.2.2.1
                  go_simp
                simp only [Act.put, List.setIfInBounds_toArray, List.set_cons_zero, List.set_cons_succ]
                refine wpAnyH_take (i := 18) (oi := ⟨some 65, _, _, _, _, _⟩) (v := (.pointer (some ⟨gu, 0, none⟩))) rfl (by kernel_rfl) (by kernel_rfl) (by kernel_rfl) (fun _ _ _ h => h) (Or.inl ⟨by rfl, ?_⟩) hSw ?_
                · intro w' hSw'
                  have c1' := hSw'.2.2.1
                  go_simp
                simp only [Act.put, List.setIfInBounds_toArray, List.set_cons_zero, List.set_cons_succ]
                refine wpAnyH_ready (rs := [19]) (by kernel_rfl) (by simp) (AllReadyH.cons (o := ⟨none, _, _, _, _, _⟩) rfl (fun K hK => ?_) AllReadyH.nil)
                have c0 := HU.out.cell 0
                have f0 := HU.out.frozen 0
                simp only [List.getElem?_toArray, List.getElem?_cons_zero] at c0
                have hb1 : Blk (w16.setCell ⟨gu, 0, none⟩ (.slice A3 (U.length + 1) c3)) gu 46 [Value.slice A3 (U.length + 1) c3, Value.slice A2 U.length c2].toArray := HU.out.set_ 0 _
                have ho1 : Only (fun b => b = gu) w16 (w16.setCell ⟨gu, 0, none⟩ (.slice A3 (U.length + 1) c3)) := (Only.refl (fun b => b = gu) w16).setCell (p := ⟨gu, 0, none⟩) (fun _ => rfl) _
                have hgu := HU.out
                have HX3 := Lib.hid (own_only R3.out ho1 (fun k hk e => own_blk_ne R3.out hgu (by decide) (by rw [hk, e])))
                have HX4 := Lib.hid (own_only R4.out ho1 (fun k hk e => own_blk_ne R4.out hgu (by decide) (by rw [hk, e])))
                have t1 := hSw.1.only ho1 (fun e => Blk.ne_ hSw.1 hgu (by decide) e)
                have t2 := hSw.2.1.only ho1 (fun e => cm_blk_ne hSw.2.1 hgu e)
                have t4 := hSw.2.2.2.1.only ho1 (fun e => Blk.ne_ hSw.2.2.2.1 hgu (by decide) e)
                have t5 := hSw.2.2.2.2.1.only ho1 (fun e => hap.u e.symm)
                have t7 := hSw.2.2.2.2.2.2.trans ho1 (fun b hb e => ⟨by rw [e]; exact HGS.out.2, fun ap => ap.u e.symm⟩)
                have t6 := Nat.le_trans hSw.2.2.2.2.2.1 ho1.size
                clear R3 R4 HU
                go_simp
                have HU := Lib.hid hb1
                clear c0 f0 hb1 ho1 hgu
                refine hK.out _ _ (⟨t1, t2, (HU.out.cell 1).trans (by simp), t4, t5, t6, t7⟩) ?_
                intro hSw
                clear hK K
                try simp only [Act.put, List.setIfInBounds_toArray, List.set_cons_zero, List.set_cons_succ]
                refine wpAnyH_done (by kernel_rfl) ?_ _
                show wpList _ _ _ _ _ _
                obtain ⟨g1, g2, g3, g4, g5, g6, g7⟩ := hSw
                obtain ⟨wz, hwz⟩ : ∃ wz, w16.setCell ⟨gu, 0, none⟩ (.slice A3 (U.length + 1) c3) = wz := ⟨_, rfl⟩
                rw [hwz] at HU HX3 HX4 g1 g2 g3 g4 g5 g6 g7 ⊢
                have hgu := HU.out
                have hb2 : Blk (wz.setCell ⟨gu, 1, none⟩ (.slice A4 (U.length + 1) c4)) gu 46 [Value.slice A3 (U.length + 1) c3, Value.slice A4 (U.length + 1) c4].toArray := hgu.set_ 1 _
                have ho : Only (fun b => b = gu) wz (wz.setCell ⟨gu, 1, none⟩ (.slice A4 (U.length + 1) c4)) := (Only.refl (fun b => b = gu) wz).setCell (p := ⟨gu, 1, none⟩) (fun _ => rfl) _
                have c1' := hgu.cell 1
                have f1 := hgu.frozen 1
                simp only [List.getElem?_toArray, List.getElem?_cons_zero, List.getElem?_cons_succ] at c1'
                have ca := co_amt (g5.only ho (fun e => hap.u e.symm))
                have HSF := Lib.hid (SpI.grown (c := (amt, lock, hgt)) HGS.out.1 HGS.out.2 (Nat.le_trans g6 ho.size) (g1.only ho (fun e => Blk.ne_ g1 hgu (by decide) e)) (show MapAt _ B (some bm) (delC L (id, ix)) from ⟨HBM.out, g2.only ho (fun e => cm_blk_ne g2 hgu e)⟩) hb2 (own_only HX3.out ho (fun k hk e => own_blk_ne HX3.out hgu (by decide) (by rw [hk, e]))) (own_only HX4.out ho (fun k hk e => own_blk_ne HX4.out hgu (by decide) (by rw [hk, e]))))
                have HBF := Lib.hid (HBL.out.trans (g7.trans ho (fun b hb e => ⟨by rw [e]; exact HGS.out.2, fun ap => ap.u e.symm⟩)) HAC.out)
                have HAF := Lib.hid (show ∀ b, b < w.heap.size → SA B gs (some bm) gu (.slice A3 (U ++ [((id, ix), (amt, lock, hgt))]).length c3) (.slice A4 (U ++ [((id, ix), (amt, lock, hgt))]).length c4) b → SA B gs (some bm) gu v1 v2 b from fun k hk hS => HAC.out k hk ⟨hS.1, fun ap => hS.2 (by
                  have hwr := HBL.out.size
                  have el : (U ++ [((id, ix), (amt, lock, hgt))]).length = U.length + 1 := by simp
                  rw [el]
                  exact ⟨ap.s, ap.u, ap.m, HAT9.out k (by omega) ap.o1, HAT16.out k (by omega) ap.o2⟩)⟩)
                clear hwz hgu g3
                have hn2 := HN2.out
                clear hb2 ho g1 g2 g4 g5 g6 g7 hap HU
                go_wp2
                go_roundg (n - 1 - j)
                case measure => omega
                case rel => exact ⟨j + 1, delC L (id, ix), U ++ [((id, ix), (amt, lock, hgt))], wrap64 (acc + amt), A3, c3, A4, c4, by omega, rfl, by first | rfl | (rw [IntWalk.wrap64_in _ (by omega)]; rfl), HR2.out, HSF.out, by have := HU0.out; simp only [Hid, List.length_append, List.length_singleton]; omega, HAF.out, HBF.out⟩
              · skip
                refine step_newc (by rfl) (.cells (coinC (amt, lock, hgt)).toArray 61) (fun N => .slice (some ⟨N, 0, none⟩) 1 1) (exec_bslc rfl (run_one_co amt hgt lock HLK.out _) (by simp [Act.eval, Act.put])) ?_
                intro N15 wn15 hN15 hw15 a15
                have HN15 := Lib.hid (show Blk wn15 N15 61 (coinC (amt, lock, hgt)).toArray by rw [hN15, hw15]; exact Blk.new _ _ _)
                try replace HN8 := Lib.hid (HN8.out.below a15 HN8.out.lt)
                try replace R1 := Lib.hid (own_only R1.out (Only.of_new a15 (fun _ => False)) (fun _ _ h => h))
                try replace R3 := Lib.hid (own_only R3.out (Only.of_new a15 (fun _ => False)) (fun _ _ h => h))
                replace R2 := Lib.hid (own_only R2.out (Only.of_new a15 (fun _ => False)) (fun _ _ h => h))
                clear hN15 hw15
                replace HU := Lib.hid (HU.out.below a15 HU.out.lt)
                refine hK.out _ _ (⟨hSw.1.below a15 hSw.1.lt, hSw.2.1.new a15, (HU.out.cell 1).trans (by simp), hSw.2.2.2.1.below a15 hSw.2.2.2.1.lt, hSw.2.2.2.2.1.below a15 hSw.2.2.2.2.1.lt, Nat.le_trans hSw.2.2.2.2.2.1 a15.size, onew hSw.2.2.2.2.2.2 a15⟩) ?_
                intro hSw
                clear hK K
                try simp only [Act.put, List.setIfInBounds_toArray, List.set_cons_zero, List.set_cons_succ]
                refine wpAnyH_ready (rs := [9]) (by kernel_rfl) (by simp) (AllReadyH.cons (o := ⟨some 56, _, _, _, _, _⟩) rfl (fun K hK => ?_) AllReadyH.nil)
                refine step_appc rfl (.tmp 52) (.tmp 55) 43 rfl B 28 _ 33 36 Try.underlying43 infoPtz (by rfl) (by decide) A1 U.length c1 rfl (some ⟨N8, 0, none⟩) 1 1 rfl _ R1.out _ _ (sl_blk HN8.out (ptC_len _ _ HID.out)) (ptC_one _ _) (by unfold maxLen; omega) (by omega) hSw.2.2.2.2.2.1 ?_
                intro A3 c3 w9 hown9 ho9 hat9
                replace R2 := Lib.hid (own_only R2.out ho9 (fun k hk e => own_own_ne R2.out R1.out (by decide) hk e))
                try replace HN15 := Lib.hid (HN15.out.only ho9 (own_blk_ne R1.out HN15.out (by decide)))
                have ho9' := hSw.2.2.2.2.2.2.trans ho9 (fun b hb e => ⟨(R1.out.lt b e).1, fun ap => ap.o1 e⟩)
                have HAT9 := Lib.hid (show ∀ k, k < wr.heap.size → (Value.slice A1 U.length c1).ownBlock ≠ some k → (Value.slice A3 (U.length + 1) c3).ownBlock ≠ some k from fun k hk hne e => by
                  rcases hat9 with h | h
                  · exact hne (h.symm.trans e)
                  · have := Option.some.inj (h.symm.trans e); have := hSw.2.2.2.2.2.2.size; omega)
                have s1 := own_blk_ne R1.out hSw.1 (by decide)
                have s2 := own_cm_ne R1.out hSw.2.1
                have s3 := own_blk_ne R1.out HU.out (by decide)
                have s4 := own_blk_ne R1.out hSw.2.2.2.1 (by decide)
                have s5 := own_blk_ne R1.out hSw.2.2.2.2.1 (by decide)
                have R3 := Lib.hid hown9
                clear R1 HN8 HNE8
                replace HU := Lib.hid (HU.out.only ho9 s3)
                refine hK.out _ _ (⟨hSw.1.only ho9 s1, hSw.2.1.only ho9 s2, (HU.out.cell 1).trans (by simp), hSw.2.2.2.1.only ho9 s4, hSw.2.2.2.2.1.only ho9 s5, Nat.le_trans hSw.2.2.2.2.2.1 ho9.size, ho9'⟩) ?_
                intro hSw
                clear hK K
                try simp only [Act.put, List.setIfInBounds_toArray, List.set_cons_zero, List.set_cons_succ]
                refine wpAnyH_ready (rs := [16]) (by kernel_rfl) (by simp) (AllReadyH.cons (o := ⟨some 63, _, _, _, _, _⟩) rfl (fun K hK => ?_) AllReadyH.nil)
                refine step_appc rfl (.tmp 60) (.tmp 62) 44 rfl B 61 _ 34 48 Try.underlying44 infoCoz (by rfl) (by decide) A2 U.length c2 rfl (some ⟨N15, 0, none⟩) 1 1 rfl _ R2.out _ _ (sl_blk HN15.out (coinC_len _ HLK.out)) (coinC_one _) (by unfold maxLen; omega) (by omega) hSw.2.2.2.2.2.1 ?_
                intro A4 c4 w16 hown16 ho16 hat16
                try replace R1 := Lib.hid (own_only R1.out ho16 (fun k hk e => own_own_ne R1.out R2.out (by decide) hk e))
                try replace R3 := Lib.hid (own_only R3.out ho16 (fun k hk e => own_own_ne R3.out R2.out (by decide) hk e))
                try replace HN8 := Lib.hid (HN8.out.only ho16 (own_blk_ne R2.out HN8.out (by decide)))
                have ho16' := hSw.2.2.2.2.2.2.trans ho16 (fun b hb e => ⟨(R2.out.lt b e).1, fun ap => ap.o2 e⟩)
                have HAT16 := Lib.hid (show ∀ k, k < wr.heap.size → (Value.slice A2 U.length c2).ownBlock ≠ some k → (Value.slice A4 (U.length + 1) c4).ownBlock ≠ some k from fun k hk hne e => by
                  rcases hat16 with h | h
                  · exact hne (h.symm.trans e)
                  · have := Option.some.inj (h.symm.trans e); have := hSw.2.2.2.2.2.2.size; omega)
                have s1 := own_blk_ne R2.out hSw.1 (by decide)
                have s2 := own_cm_ne R2.out hSw.2.1
                have s3 := own_blk_ne R2.out HU.out (by decide)
                have s4 := own_blk_ne R2.out hSw.2.2.2.1 (by decide)
                have s5 := hap.o2
                have R4 := Lib.hid hown16
                clear R2 HN15
                replace HU := Lib.hid (HU.out.only ho16 s3)
                refine hK.out _ _ (⟨hSw.1.only ho16 s1, hSw.2.1.only ho16 s2, (HU.out.cell 1).trans (by simp), hSw.2.2.2.1.only ho16 s4, hSw.2.2.2.2.1.only ho16 s5, Nat.le_trans hSw.2.2.2.2.2.1 ho16.size, ho16'⟩) ?_
                intro hSw
                clear hK K
                try simp only [Act.put, List.setIfInBounds_toArray, List.set_cons_zero, List.set_cons_succ]
                refine wpAnyH_take (i := 17) (oi := ⟨some 64, _, _, _, _, _⟩) (v := (.pointer (some ⟨gu, 0, none⟩))) rfl (by kernel_rfl) (by kernel_rfl) (by kernel_rfl) (fun _ _ _ h => h) (Or.inl ⟨by rfl, ?_⟩) hSw ?_
                · intro w' hSw'
                  have c1' := hSw'.2.2.1
                  go_simp
                simp only [Act.put, List.setIfInBounds_toArray, List.set_cons_zero, List.set_cons_succ]
                refine wpAnyH_take (i := 18) (oi := ⟨some 65, _, _, _, _, _⟩) (v := (.pointer (some ⟨gu, 0, none⟩))) rfl (by kernel_rfl) (by kernel_rfl) (by kernel_rfl) (fun _ _ _ h => h) (Or.inl ⟨by rfl, ?_⟩) hSw ?_
                · intro w' hSw'
                  have c1' := hSw'.2.2.1
                  go_simp
                simp only [Act.put, List.setIfInBounds_toArray, List.set_cons_zero, List.set_cons_succ]
                refine wpAnyH_ready (rs := [19]) (by kernel_rfl) (by simp) (AllReadyH.cons (o := ⟨none, _, _, _, _, _⟩) rfl (fun K hK => ?_) AllReadyH.nil)
                have c0 := HU.out.cell 0
                have f0 := HU.out.frozen 0
                simp only [List.getElem?_toArray, List.getElem?_cons_zero] at c0
                have hb1 : Blk (w16.setCell ⟨gu, 0, none⟩ (.slice A3 (U.length + 1) c3)) gu 46 [Value.slice A3 (U.length + 1) c3, Value.slice A2 U.length c2].toArray := HU.out.set_ 0 _
                have ho1 : Only (fun b => b = gu) w16 (w16.setCell ⟨gu, 0, none⟩ (.slice A3 (U.length + 1) c3)) := (Only.refl (fun b => b = gu) w16).setCell (p := ⟨gu, 0, none⟩) (fun _ => rfl) _
                have hgu := HU.out
                have HX3 := Lib.hid (own_only R3.out ho1 (fun k hk e => own_blk_ne R3.out hgu (by decide) (by rw [hk, e])))
                have HX4 := Lib.hid (own_only R4.out ho1 (fun k hk e => own_blk_ne R4.out hgu (by decide) (by rw [hk, e])))
                have t1 := hSw.1.only ho1 (fun e => Blk.ne_ hSw.1 hgu (by decide) e)
                have t2 := hSw.2.1.only ho1 (fun e => cm_blk_ne hSw.2.1 hgu e)
                have t4 := hSw.2.2.2.1.only ho1 (fun e => Blk.ne_ hSw.2.2.2.1 hgu (by decide) e)
                have t5 := hSw.2.2.2.2.1.only ho1 (fun e => hap.u e.symm)
                have t7 := hSw.2.2.2.2.2.2.trans ho1 (fun b hb e => ⟨by rw [e]; exact HGS.out.2, fun ap => ap.u e.symm⟩)
                have t6 := Nat.le_trans hSw.2.2.2.2.2.1 ho1.size
                clear R3 R4 HU
                go_simp
                have HU := Lib.hid hb1
                clear c0 f0 hb1 ho1 hgu
                refine hK.out _ _ (⟨t1, t2, (HU.out.cell 1).trans (by simp), t4, t5, t6, t7⟩) ?_
                intro hSw
                clear hK K
                try simp only [Act.put, List.setIfInBounds_toArray, List.set_cons_zero, List.set_cons_succ]
                refine wpAnyH_done (by kernel_rfl) ?_ _
                show wpList _ _ _ _ _ _
                obtain ⟨g1, g2, g3, g4, g5, g6, g7⟩ := hSw
                obtain ⟨wz, hwz⟩ : ∃ wz, w16.setCell ⟨gu, 0, none⟩ (.slice A3 (U.length + 1) c3) = wz := ⟨_, rfl⟩
                rw [hwz] at HU HX3 HX4 g1 g2 g3 g4 g5 g6 g7 ⊢
                have hgu := HU.out
                have hb2 : Blk (wz.setCell ⟨gu, 1, none⟩ (.slice A4 (U.length + 1) c4)) gu 46 [Value.slice A3 (U.length + 1) c3, Value.slice A4 (U.length + 1) c4].toArray := hgu.set_ 1 _
                have ho : Only (fun b => b = gu) wz (wz.setCell ⟨gu, 1, none⟩ (.slice A4 (U.length + 1) c4)) := (Only.refl (fun b => b = gu) wz).setCell (p := ⟨gu, 1, none⟩) (fun _ => rfl) _
                have c1' := hgu.cell 1
                have f1 := hgu.frozen 1
                simp only [List.getElem?_toArray, List.getElem?_cons_zero, List.getElem?_cons_succ] at c1'
                have ca := co_amt (g5.only ho (fun e => hap.u e.symm))
                have HSF := Lib.hid (SpI.grown (c := (amt, lock, hgt)) HGS.out.1 HGS.out.2 (Nat.le_trans g6 ho.size) (g1.only ho (fun e => Blk.ne_ g1 hgu (by decide) e)) (show MapAt _ B (some bm) (delC L (id, ix)) from ⟨HBM.out, g2.only ho (fun e => cm_blk_ne g2 hgu e)⟩) hb2 (own_only HX3.out ho (fun k hk e => own_blk_ne HX3.out hgu (by decide) (by rw [hk, e]))) (own_only HX4.out ho (fun k hk e => own_blk_ne HX4.out hgu (by decide) (by rw [hk, e]))))
                have HBF := Lib.hid (HBL.out.trans (g7.trans ho (fun b hb e => ⟨by rw [e]; exact HGS.out.2, fun ap => ap.u e.symm⟩)) HAC.out)
                have HAF := Lib.hid (show ∀ b, b < w.heap.size → SA B gs (some bm) gu (.slice A3 (U ++ [((id, ix), (amt, lock, hgt))]).length c3) (.slice A4 (U ++ [((id, ix), (amt, lock, hgt))]).length c4) b → SA B gs (some bm) gu v1 v2 b from fun k hk hS => HAC.out k hk ⟨hS.1, fun ap => hS.2 (by
                  have hwr := HBL.out.size
                  have el : (U ++ [((id, ix), (amt, lock, hgt))]).length = U.length + 1 := by simp
                  rw [el]
                  exact ⟨ap.s, ap.u, ap.m, HAT9.out k (by omega) ap.o1, HAT16.out k (by omega) ap.o2⟩)⟩)
                clear hwz hgu g3
                have hn2 := HN2.out
                clear hb2 ho g1 g2 g4 g5 g6 g7 hap HU
                go_wp2
                go_roundg (n - 1 - j)
                case measure => omega
                case rel => exact ⟨j + 1, delC L (id, ix), U ++ [((id, ix), (amt, lock, hgt))], wrap64 (acc + amt), A3, c3, A4, c4, by omega, rfl, by first | rfl | (rw [IntWalk.wrap64_in _ (by omega)]; rfl), HR2.out, HSF.out, by have := HU0.out; simp only [Hid, List.length_append, List.length_singleton]; omega, HAF.out, HBF.out⟩
            · skip
              refine step_newc (by rfl) (.cells (coinC (amt, lock, hgt)).toArray 61) (fun N => .slice (some ⟨N, 0, none⟩) 1 1) (exec_bslc rfl (run_one_co amt hgt lock HLK.out _) (by simp [Act.eval, Act.put])) ?_
              intro N15 wn15 hN15 hw15 a15
              have HN15 := Lib.hid (show Blk wn15 N15 61 (coinC (amt, lock, hgt)).toArray by rw [hN15, hw15]; exact Blk.new _ _ _)
              try replace HN8 := Lib.hid (HN8.out.below a15 HN8.out.lt)
              try replace R1 := Lib.hid (own_only R1.out (Only.of_new a15 (fun _ => False)) (fun _ _ h => h))
              try replace R3 := Lib.hid (own_only R3.out (Only.of_new a15 (fun _ => False)) (fun _ _ h => h))
              replace R2 := Lib.hid (own_only R2.out (Only.of_new a15 (fun _ => False)) (fun _ _ h => h))
              clear hN15 hw15
              replace HU := Lib.hid (HU.out.below a15 HU.out.lt)
              refine hK.out _ _ (⟨hSw.1.below a15 hSw.1.lt, hSw.2.1.new a15, (HU.out.cell 1).trans (by simp), hSw.2.2.2.1.below a15 hSw.2.2.2.1.lt, hSw.2.2.2.2.1.below a15 hSw.2.2.2.2.1.lt, Nat.le_trans hSw.2.2.2.2.2.1 a15.size, onew hSw.2.2.2.2.2.2 a15⟩) ?_
              intro hSw
              clear hK K
              try simp only [Act.put, List.setIfInBounds_toArray, List.set_cons_zero, List.set_cons_succ]
              refine wpAnyH_ready (rs := [8]) (by kernel_rfl) (by simp) (AllReadyH.cons (o := ⟨some 55, _, _, _, _, _⟩) rfl (fun K hK => ?_) AllReadyH.nil)
              refine step_newc (by rfl) (.cells (ptC id ix).toArray 28) (fun N => .slice (some ⟨N, 0, none⟩) 1 1) (exec_bslc rfl (run_one_pt id ix HID.out _) (by simp [Act.eval, Act.put])) ?_
              intro N8 wn8 hN8 hw8 a8
              have HN8 := Lib.hid (show Blk wn8 N8 28 (ptC id ix).toArray by rw [hN8, hw8]; exact Blk.new _ _ _)
              have HNE8 := Lib.hid (show (Value.slice A1 U.length c1).ownBlock ≠ some N8 from fun e => by have := (R1.out.lt _ e).2; omega)
              try replace HN15 := Lib.hid (HN15.out.below a8 HN15.out.lt)
              replace R1 := Lib.hid (own_only R1.out (Only.of_new a8 (fun _ => False)) (fun _ _ h => h))
              replace R2 := Lib.hid (own_only R2.out (Only.of_new a8 (fun _ => False)) (fun _ _ h => h))
              clear hN8 hw8
              replace HU := Lib.hid (HU.out.below a8 HU.out.lt)
              refine hK.out _ _ (⟨hSw.1.below a8 hSw.1.lt, hSw.2.1.new a8, (HU.out.cell 1).trans (by simp), hSw.2.2.2.1.below a8 hSw.2.2.2.1.lt, hSw.2.2.2.2.1.below a8 hSw.2.2.2.2.1.lt, Nat.le_trans hSw.2.2.2.2.2.1 a8.size, onew hSw.2.2.2.2.2.2 a8⟩) ?_
              intro hSw
              clear hK K
              try simp only [Act.put, List.setIfInBounds_toArray, List.set_cons_zero, List.set_cons_succ]
              refine wpAnyH_ready (rs := [9]) (by kernel_rfl) (by simp) (AllReadyH.cons (o := ⟨some 56, _, _, _, _, _⟩) rfl (fun K hK => ?_) AllReadyH.nil)
              refine step_appc rfl (.tmp 52) (.tmp 55) 43 rfl B 28 _ 33 36 Try.underlying43 infoPtz (by rfl) (by decide) A1 U.length c1 rfl (some ⟨N8, 0, none⟩) 1 1 rfl _ R1.out _ _ (sl_blk HN8.out (ptC_len _ _ HID.out)) (ptC_one _ _) (by unfold maxLen; omega) (by omega) hSw.2.2.2.2.2.1 ?_
              intro A3 c3 w9 hown9 ho9 hat9
              replace R2 := Lib.hid (own_only R2.out ho9 (fun k hk e => own_own_ne R2.out R1.out (by decide) hk e))
              try replace HN15 := Lib.hid (HN15.out.only ho9 (own_blk_ne R1.out HN15.out (by decide)))
              have ho9' := hSw.2.2.2.2.2.2.trans ho9 (fun b hb e => ⟨(R1.out.lt b e).1, fun ap => ap.o1 e⟩)
              have HAT9 := Lib.hid (show ∀ k, k < wr.heap.size → (Value.slice A1 U.length c1).ownBlock ≠ some k → (Value.slice A3 (U.length + 1) c3).ownBlock ≠ some k from fun k hk hne e => by
                rcases hat9 with h | h
                · exact hne (h.symm.trans e)
                · have := Option.some.inj (h.symm.trans e); have := hSw.2.2.2.2.2.2.size; omega)
              have s1 := own_blk_ne R1.out hSw.1 (by decide)
              have s2 := own_cm_ne R1.out hSw.2.1
              have s3 := own_blk_ne R1.out HU.out (by decide)
              have s4 := own_blk_ne R1.out hSw.2.2.2.1 (by decide)
              have s5 := own_blk_ne R1.out hSw.2.2.2.2.1 (by decide)
              have R3 := Lib.hid hown9
              clear R1 HN8 HNE8
              replace HU := Lib.hid (HU.out.only ho9 s3)
              refine hK.out _ _ (⟨hSw.1.only ho9 s1, hSw.2.1.only ho9 s2, (HU.out.cell 1).trans (by simp), hSw.2.2.2.1.only ho9 s4, hSw.2.2.2.2.1.only ho9 s5, Nat.le_trans hSw.2.2.2.2.2.1 ho9.size, ho9'⟩) ?_
              intro hSw
              clear hK K
              try simp only [Act.put, List.setIfInBounds_toArray, List.set_cons_zero, List.set_cons_succ]
              refine wpAnyH_ready (rs := [16]) (by kernel_rfl) (by simp) (AllReadyH.cons (o := ⟨some 63, _, _, _, _, _⟩) rfl (fun K hK => ?_) AllReadyH.nil)
              refine step_appc rfl (.tmp 60) (.tmp 62) 44 rfl B 61 _ 34 48 Try.underlying44 infoCoz (by rfl) (by decide) A2 U.length c2 rfl (some ⟨N15, 0, none⟩) 1 1 rfl _ R2.out _ _ (sl_blk HN15.out (coinC_len _ HLK.out)) (coinC_one _) (by unfold maxLen; omega) (by omega) hSw.2.2.2.2.2.1 ?_
              intro A4 c4 w16 hown16 ho16 hat16
              try replace R1 := Lib.hid (own_only R1.out ho16 (fun k hk e => own_own_ne R1.out R2.out (by decide) hk e))
              try replace R3 := Lib.hid (own_only R3.out ho16 (fun k hk e => own_own_ne R3.out R2.out (by decide) hk e))
              try replace HN8 := Lib.hid (HN8.out.only ho16 (own_blk_ne R2.out HN8.out (by decide)))
              have ho16' := hSw.2.2.2.2.2.2.trans ho16 (fun b hb e => ⟨(R2.out.lt b e).1, fun ap => ap.o2 e⟩)
              have HAT16 := Lib.hid (show ∀ k, k < wr.heap.size → (Value.slice A2 U.length c2).ownBlock ≠ some k → (Value.slice A4 (U.length + 1) c4).ownBlock ≠ some k from fun k hk hne e => by
                rcases hat16 with h | h
                · exact hne (h.symm.trans e)
                · have := Option.some.inj (h.symm.trans e); have := hSw.2.2.2.2.2.2.size; omega)
              have s1 := own_blk_ne R2.out hSw.1 (by decide)
              have s2 := own_cm_ne R2.out hSw.2.1
              have s3 := own_blk_ne R2.out HU.out (by decide)
              have s4 := own_blk_ne R2.out hSw.2.2.2.1 (by decide)
              have s5 := hap.o2
              have R4 := Lib.hid hown16
              clear R2 HN15
              replace HU := Lib.hid (HU.out.only ho16 s3)
              refine hK.out _ _ (⟨hSw.1.only ho16 s1, hSw.2.1.only ho16 s2, (HU.out.cell 1).trans (by simp), hSw.2.2.2.1.only ho16 s4, hSw.2.2.2.2.1.only ho16 s5, Nat.le_trans hSw.2.2.2.2.2.1 ho16.size, ho16'⟩) ?_
              intro hSw
              clear hK K
              try simp only [Act.put, List.setIfInBounds_toArray, List.set_cons_zero, List.set_cons_succ]
              refine wpAnyH_take (i := 17) (oi := ⟨some 64, _, _, _, _, _⟩) (v := (.pointer (some ⟨gu, 0, none⟩))) rfl (by kernel_rfl) (by kernel_rfl) (by kernel_rfl) (fun _ _ _ h => h) (Or.inl ⟨by rfl, ?_⟩) hSw ?_
              · intro w' hSw'
                have c1' := hSw'.2.2.1
                go_simp
              simp only [Act.put, List.setIfInBounds_toArray, List.set_cons_zero, List.set_cons_succ]
              refine wpAnyH_take (i := 18) (oi := ⟨some 65, _, _, _, _, _⟩) (v := (.pointer (some ⟨gu, 0, none⟩))) rfl (by kernel_rfl) (by kernel_rfl) (by kernel_rfl) (fun _ _ _ h => h) (Or.inl ⟨by rfl, ?_⟩) hSw ?_
              · intro w' hSw'
                have c1' := hSw'.2.2.1
                go_simp
              simp only [Act.put, List.setIfInBounds_toArray, List.set_cons_zero, List.set_cons_succ]
              refine wpAnyH_ready (rs := [19]) (by kernel_rfl) (by simp) (AllReadyH.cons (o := ⟨none, _, _, _, _, _⟩) rfl (fun K hK => ?_) AllReadyH.nil)
              have c0 := HU.out.cell 0
              have f0 := HU.out.frozen 0
              simp only [List.getElem?_toArray, List.getElem?_cons_zero] at c0
              have hb1 : Blk (w16.setCell ⟨gu, 0, none⟩ (.slice A3 (U.length + 1) c3)) gu 46 [Value.slice A3 (U.length + 1) c3, Value.slice A2 U.length c2].toArray := HU.out.set_ 0 _
              have ho1 : Only (fun b => b = gu) w16 (w16.setCell ⟨gu, 0, none⟩ (.slice A3 (U.length + 1) c3)) := (Only.refl (fun b => b = gu) w16).setCell (p := ⟨gu, 0, none⟩) (fun _ => rfl) _
              have hgu := HU.out
              have HX3 := Lib.hid (own_only R3.out ho1 (fun k hk e => own_blk_ne R3.out hgu (by decide) (by rw [hk, e])))
              have HX4 := Lib.hid (own_only R4.out ho1 (fun k hk e => own_blk_ne R4.out hgu (by decide) (by rw [hk, e])))
              have t1 := hSw.1.only ho1 (fun e => Blk.ne_ hSw.1 hgu (by decide) e)
              have t2 := hSw.2.1.only ho1 (fun e => cm_blk_ne hSw.2.1 hgu e)
              have t4 := hSw.2.2.2.1.only ho1 (fun e => Blk.ne_ hSw.2.2.2.1 hgu (by decide) e)
              have t5 := hSw.2.2.2.2.1.only ho1 (fun e => hap.u e.symm)
              have t7 := hSw.2.2.2.2.2.2.trans ho1 (fun b hb e => ⟨by rw [e]; exact HGS.out.2, fun ap => ap.u e.symm⟩)
              have t6 := Nat.le_trans hSw.2.2.2.2.2.1 ho1.size
              clear R3 R4 HU
              go_simp
              have HU := Lib.hid hb1
              clear c0 f0 hb1 ho1 hgu
              refine hK.out _ _ (⟨t1, t2, (HU.out.cell 1).trans (by simp), t4, t5, t6, t7⟩) ?_
              intro hSw
              clear hK K
              try simp only [Act.put, List.setIfInBounds_toArray, List.set_cons_zero, List.set_cons_succ]
              refine wpAnyH_done (by kernel_rfl) ?_ _
              show wpList _ _ _ _ _ _
              obtain ⟨g1, g2, g3, g4, g5, g6, g7⟩ := hSw
              obtain ⟨wz, hwz⟩ : ∃ wz, w16.setCell ⟨gu, 0, none⟩ (.slice A3 (U.length + 1) c3) = wz := ⟨_, rfl⟩
              rw [hwz] at HU HX3 HX4 g1 g2 g3 g4 g5 g6 g7 ⊢
              have hgu := HU.out
              have hb2 : Blk (wz.setCell ⟨gu, 1, none⟩ (.slice A4 (U.length + 1) c4)) gu 46 [Value.slice A3 (U.length + 1) c3, Value.slice A4 (U.length + 1) c4].toArray := hgu.set_ 1 _
              have ho : Only (fun b => b = gu) wz (wz.setCell ⟨gu, 1, none⟩ (.slice A4 (U.length + 1) c4)) := (Only.refl (fun b => b = gu) wz).setCell (p := ⟨gu, 1, none⟩) (fun _ => rfl) _
              have c1' := hgu.cell 1
              have f1 := hgu.frozen 1
              simp only [List.getElem?_toArray, List.getElem?_cons_zero, List.getElem?_cons_succ] at c1'
              have ca := co_amt (g5.only ho (fun e => hap.u e.symm))
              have HSF := Lib.hid (SpI.grown (c := (amt, lock, hgt)) HGS.out.1 HGS.out.2 (Nat.le_trans g6 ho.size) (g1.only ho (fun e => Blk.ne_ g1 hgu (by decide) e)) (show MapAt _ B (some bm) (delC L (id, ix)) from ⟨HBM.out, g2.only ho (fun e => cm_blk_ne g2 hgu e)⟩) hb2 (own_only HX3.out ho (fun k hk e => own_blk_ne HX3.out hgu (by decide) (by rw [hk, e]))) (own_only HX4.out ho (fun k hk e => own_blk_ne HX4.out hgu (by decide) (by rw [hk, e]))))
              have HBF := Lib.hid (HBL.out.trans (g7.trans ho (fun b hb e => ⟨by rw [e]; exact HGS.out.2, fun ap => ap.u e.symm⟩)) HAC.out)
              have HAF := Lib.hid (show ∀ b, b < w.heap.size → SA B gs (some bm) gu (.slice A3 (U ++ [((id, ix), (amt, lock, hgt))]).length c3) (.slice A4 (U ++ [((id, ix), (amt, lock, hgt))]).length c4) b → SA B gs (some bm) gu v1 v2 b from fun k hk hS => HAC.out k hk ⟨hS.1, fun ap => hS.2 (by
                have hwr := HBL.out.size
                have el : (U ++ [((id, ix), (amt, lock, hgt))]).length = U.length + 1 := by simp
                rw [el]
                exact ⟨ap.s, ap.u, ap.m, HAT9.out k (by omega) ap.o1, HAT16.out k (by omega) ap.o2⟩)⟩)
              clear hwz hgu g3
              have hn2 := HN2.out
              clear hb2 ho g1 g2 g4 g5 g6 g7 hap HU
              go_wp2
              go_roundg (n - 1 - j)
              case measure => omega
              case rel => exact ⟨j + 1, delC L (id, ix), U ++ [((id, ix), (amt, lock, hgt))], wrap64 (acc + amt), A3, c3, A4, c4, by omega, rfl, by first | rfl | (rw [IntWalk.wrap64_in _ (by omega)]; rfl), HR2.out, HSF.out, by have := HU0.out; simp only [Hid, List.length_append, List.length_singleton]; omega, HAF.out, HBF.out⟩
          · skip
            refine step_newc (by rfl) (.cells (ptC id ix).toArray 28) (fun N => .slice (some ⟨N, 0, none⟩) 1 1) (exec_bslc rfl (run_one_pt id ix HID.out _) (by simp [Act.eval, Act.put])) ?_
            intro N8 wn8 hN8 hw8 a8
            have HN8 := Lib.hid (show Blk wn8 N8 28 (ptC id ix).toArray by rw [hN8, hw8]; exact Blk.new _ _ _)
            have HNE8 := Lib.hid (show (Value.slice A1 U.length c1).ownBlock ≠ some N8 from fun e => by have := (R1.out.lt _ e).2; omega)
            try replace HN15 := Lib.hid (HN15.out.below a8 HN15.out.lt)
            replace R1 := Lib.hid (own_only R1.out (Only.of_new a8 (fun _ => False)) (fun _ _ h => h))
            replace R2 := Lib.hid (own_only R2.out (Only.of_new a8 (fun _ => False)) (fun _ _ h => h))
            clear hN8 hw8
            replace HU := Lib.hid (HU.out.below a8 HU.out.lt)
            refine hK.out _ _ (⟨hSw.1.below a8 hSw.1.lt, hSw.2.1.new a8, (HU.out.cell 1).trans (by simp), hSw.2.2.2.1.below a8 hSw.2.2.2.1.lt, hSw.2.2.2.2.1.below a8 hSw.2.2.2.2.1.lt, Nat.le_trans hSw.2.2.2.2.2.1 a8.size, onew hSw.2.2.2.2.2.2 a8⟩) ?_
            intro hSw
            clear hK K
            try simp only [Act.put, List.setIfInBounds_toArray, List.set_cons_zero, List.set_cons_succ]
            refine wpAnyH_ready (rs := [5, 15]) (by kernel_rfl) (by simp) (AllReadyH.cons (o := ⟨some 52, _, _, _, _, _⟩) rfl (fun K hK => ?_) (AllReadyH.cons (o := ⟨some 62, _, _, _, _, _⟩) rfl (fun K hK => ?_) AllReadyH.nil))
            · skip
              have c0 := HU.out.cell 0
              simp only [List.getElem?_toArray, List.getElem?_cons_zero] at c0
              go_simp
              clear c0
              refine hK.out _ _ (hSw) ?_
              intro hSw
              clear hK K
              try simp only [Act.put, List.setIfInBounds_toArray, List.set_cons_zero, List.set_cons_succ]
              refine wpAnyH_ready (rs := [9, 15]) (by kernel_rfl) (by simp) (AllReadyH.cons (o := ⟨some 56, _, _, _, _, _⟩) rfl (fun K hK => ?_) (AllReadyH.cons (o := ⟨some 62, _, _, _, _, _⟩) rfl (fun K hK => ?_) AllReadyH.nil))
              · skip
                refine step_appc rfl (.tmp 52) (.tmp 55) 43 rfl B 28 _ 33 36 Try.underlying43 infoPtz (by rfl) (by decide) A1 U.length c1 rfl (some ⟨N8, 0, none⟩) 1 1 rfl _ R1.out _ _ (sl_blk HN8.out (ptC_len _ _ HID.out)) (ptC_one _ _) (by unfold maxLen; omega) (by omega) hSw.2.2.2.2.2.1 ?_
                intro A3 c3 w9 hown9 ho9 hat9
                replace R2 := Lib.hid (own_only R2.out ho9 (fun k hk e => own_own_ne R2.out R1.out (by decide) hk e))
                try replace HN15 := Lib.hid (HN15.out.only ho9 (own_blk_ne R1.out HN15.out (by decide)))
                have ho9' := hSw.2.2.2.2.2.2.trans ho9 (fun b hb e => ⟨(R1.out.lt b e).1, fun ap => ap.o1 e⟩)
                have HAT9 := Lib.hid (show ∀ k, k < wr.heap.size → (Value.slice A1 U.length c1).ownBlock ≠ some k → (Value.slice A3 (U.length + 1) c3).ownBlock ≠ some k from fun k hk hne e => by
                  rcases hat9 with h | h
                  · exact hne (h.symm.trans e)
                  · have := Option.some.inj (h.symm.trans e); have := hSw.2.2.2.2.2.2.size; omega)
                have s1 := own_blk_ne R1.out hSw.1 (by decide)
                have s2 := own_cm_ne R1.out hSw.2.1
                have s3 := own_blk_ne R1.out HU.out (by decide)
                have s4 := own_blk_ne R1.out hSw.2.2.2.1 (by decide)
                have s5 := own_blk_ne R1.out hSw.2.2.2.2.1 (by decide)
                have R3 := Lib.hid hown9
                clear R1 HN8 HNE8
                replace HU := Lib.hid (HU.out.only ho9 s3)
                refine hK.out _ _ (⟨hSw.1.only ho9 s1, hSw.2.1.only ho9 s2, (HU.out.cell 1).trans (by simp), hSw.2.2.2.1.only ho9 s4, hSw.2.2.2.2.1.only ho9 s5, Nat.le_trans hSw.2.2.2.2.2.1 ho9.size, ho9'⟩) ?_
                intro hSw
                clear hK K
                try simp only [Act.put, List.setIfInBounds_toArray, List.set_cons_zero, List.set_cons_succ]
                refine wpAnyH_ready (rs := [15]) (by kernel_rfl) (by simp) (AllReadyH.cons (o := ⟨some 62, _, _, _, _, _⟩) rfl (fun K hK => ?_) AllReadyH.nil)
                refine step_newc (by rfl) (.cells (coinC (amt, lock, hgt)).toArray 61) (fun N => .slice (some ⟨N, 0, none⟩) 1 1) (exec_bslc rfl (run_one_co amt hgt lock HLK.out _) (by simp [Act.eval, Act.put])) ?_
                intro N15 wn15 hN15 hw15 a15
                have HN15 := Lib.hid (show Blk wn15 N15 61 (coinC (amt, lock, hgt)).toArray by rw [hN15, hw15]; exact Blk.new _ _ _)
                try replace HN8 := Lib.hid (HN8.out.below a15 HN8.out.lt)
                try replace R1 := Lib.hid (own_only R1.out (Only.of_new a15 (fun _ => False)) (fun _ _ h => h))
                try replace R3 := Lib.hid (own_only R3.out (Only.of_new a15 (fun _ => False)) (fun _ _ h => h))
                replace R2 := Lib.hid (own_only R2.out (Only.of_new a15 (fun _ => False)) (fun _ _ h => h))
                clear hN15 hw15
                replace HU := Lib.hid (HU.out.below a15 HU.out.lt)
                refine hK.out _ _ (⟨hSw.1.below a15 hSw.1.lt, hSw.2.1.new a15, (HU.out.cell 1).trans (by simp), hSw.2.2.2.1.below a15 hSw.2.2.2.1.lt, hSw.2.2.2.2.1.below a15 hSw.2.2.2.2.1.lt, Nat.le_trans hSw.2.2.2.2.2.1 a15.size, onew hSw.2.2.2.2.2.2 a15⟩) ?_
                intro hSw
                clear hK K
                try simp only [Act.put, List.setIfInBounds_toArray, List.set_cons_zero, List.set_cons_succ]
                refine wpAnyH_ready (rs := [16]) (by kernel_rfl) (by simp) (AllReadyH.cons (o := ⟨some 63, _, _, _, _, _⟩) rfl (fun K hK => ?_) AllReadyH.nil)
                refine step_appc rfl (.tmp 60) (.tmp 62) 44 rfl B 61 _ 34 48 Try.underlying44 infoCoz (by rfl) (by decide) A2 U.length c2 rfl (some ⟨N15, 0, none⟩) 1 1 rfl _ R2.out _ _ (sl_blk HN15.out (coinC_len _ HLK.out)) (coinC_one _) (by unfold maxLen; omega) (by omega) hSw.2.2.2.2.2.1 ?_
                intro A4 c4 w16 hown16 ho16 hat16
                try replace R1 := Lib.hid (own_only R1.out ho16 (fun k hk e => own_own_ne R1.out R2.out (by decide) hk e))
                try replace R3 := Lib.hid (own_only R3.out ho16 (fun k hk e => own_own_ne R3.out R2.out (by decide) hk e))
                try replace HN8 := Lib.hid (HN8.out.only ho16 (own_blk_ne R2.out HN8.out (by decide)))
                have ho16' := hSw.2.2.2.2.2.2.trans ho16 (fun b hb e => ⟨(R2.out.lt b e).1, fun ap => ap.o2 e⟩)
                have HAT16 := Lib.hid (show ∀ k, k < wr.heap.size → (Value.slice A2 U.length c2).ownBlock ≠ some k → (Value.slice A4 (U.length + 1) c4).ownBlock ≠ some k from fun k hk hne e => by
                  rcases hat16 with h | h
                  · exact hne (h.symm.trans e)
                  · have := Option.some.inj (h.symm.trans e); have := hSw.2.2.2.2.2.2.size; omega)
                have s1 := own_blk_ne R2.out hSw.1 (by decide)
                have s2 := own_cm_ne R2.out hSw.2.1
                have s3 := own_blk_ne R2.out HU.out (by decide)
                have s4 := own_blk_ne R2.out hSw.2.2.2.1 (by decide)
                have s5 := hap.o2
                have R4 := Lib.hid hown16
                clear R2 HN15
                replace HU := Lib.hid (HU.out.only ho16 s3)
                refine hK.out _ _ (⟨hSw.1.only ho16 s1, hSw.2.1.only ho16 s2, (HU.out.cell 1).trans (by simp), hSw.2.2.2.1.only ho16 s4, hSw.2.2.2.2.1.only ho16 s5, Nat.le_trans hSw.2.2.2.2.2.1 ho16.size, ho16'⟩) ?_
                intro hSw
                clear hK K
                try simp only [Act.put, List.setIfInBounds_toArray, List.set_cons_zero, List.set_cons_succ]
                refine wpAnyH_take (i := 17) (oi := ⟨some 64, _, _, _, _, _⟩) (v := (.pointer (some ⟨gu, 0, none⟩))) rfl (by kernel_rfl) (by kernel_rfl) (by kernel_rfl) (fun _ _ _ h => h) (Or.inl ⟨by rfl, ?_⟩) hSw ?_
                · intro w' hSw'
                  have c1' := hSw'.2.2.1
                  go_simp
                simp only [Act.put, List.setIfInBounds_toArray, List.set_cons_zero, List.set_cons_succ]
                refine wpAnyH_take (i := 18) (oi := ⟨some 65, _, _, _, _, _⟩) (v := (.pointer (some ⟨gu, 0, none⟩))) rfl (by kernel_rfl) (by kernel_rfl) (by kernel_rfl) (fun _ _ _ h => h) (Or.inl ⟨by rfl, ?_⟩) hSw ?_
                · intro w' hSw'
                  have c1' := hSw'.2.2.1
                  go_simp
                simp only [Act.put, List.setIfInBounds_toArray, List.set_cons_zero, List.set_cons_succ]
                refine wpAnyH_ready (rs := [19]) (by kernel_rfl) (by simp) (AllReadyH.cons (o := ⟨none, _, _, _, _, _⟩) rfl (fun K hK => ?_) AllReadyH.nil)
                have c0 := HU.out.cell 0
                have f0 := HU.out.frozen 0
                simp only [List.getElem?_toArray, List.getElem?_cons_zero] at c0
                have hb1 : Blk (w16.setCell ⟨gu, 0, none⟩ (.slice A3 (U.length + 1) c3)) gu 46 [Value.slice A3 (U.length + 1) c3, Value.slice A2 U.length c2].toArray := HU.out.set_ 0 _
                have ho1 : Only (fun b => b = gu) w16 (w16.setCell ⟨gu, 0, none⟩ (.slice A3 (U.length + 1) c3)) := (Only.refl (fun b => b = gu) w16).setCell (p := ⟨gu, 0, none⟩) (fun _ => rfl) _
                have hgu := HU.out
                have HX3 := Lib.hid (own_only R3.out ho1 (fun k hk e => own_blk_ne R3.out hgu (by decide) (by rw [hk, e])))
                have HX4 := Lib.hid (own_only R4.out ho1 (fun k hk e => own_blk_ne R4.out hgu (by decide) (by rw [hk, e])))
                have t1 := hSw.1.only ho1 (fun e => Blk.ne_ hSw.1 hgu (by decide) e)
                have t2 := hSw.2.1.only ho1 (fun e => cm_blk_ne hSw.2.1 hgu e)
                have t4 := hSw.2.2.2.1.only ho1 (fun e => Blk.ne_ hSw.2.2.2.1 hgu (by decide) e)
                have t5 := hSw.2.2.2.2.1.only ho1 (fun e => hap.u e.symm)
                have t7 := hSw.2.2.2.2.2.2.trans ho1 (fun b hb e => ⟨by rw [e]; exact HGS.out.2, fun ap => ap.u e.symm⟩)
                have t6 := Nat.le_trans hSw.2.2.2.2.2.1 ho1.size
                clear R3 R4 HU
                go_simp
                have HU := Lib.hid hb1
                clear c0 f0 hb1 ho1 hgu
                refine hK.out _ _ (⟨t1, t2, (HU.out.cell 1).trans (by simp), t4, t5, t6, t7⟩) ?_
                intro hSw
                clear hK K
                try simp only [Act.put, List.setIfInBounds_toArray, List.set_cons_zero, List.set_cons_succ]
                refine wpAnyH_done (by kernel_rfl) ?_ _
                show wpList _ _ _ _ _ _
                obtain ⟨g1, g2, g3, g4, g5, g6, g7⟩ := hSw
                obtain ⟨wz, hwz⟩ : ∃ wz, w16.setCell ⟨gu, 0, none⟩ (.slice A3 (U.length + 1) c3) = wz := ⟨_, rfl⟩
                rw [hwz] at HU HX3 HX4 g1 g2 g3 g4 g5 g6 g7 ⊢
                have hgu := HU.out
                have hb2 : Blk (wz.setCell ⟨gu, 1, none⟩ (.slice A4 (U.length + 1) c4)) gu 46 [Value.slice A3 (U.length + 1) c3, Value.slice A4 (U.length + 1) c4].toArray := hgu.set_ 1 _
                have ho : Only (fun b => b = gu) wz (wz.setCell ⟨gu, 1, none⟩ (.slice A4 (U.length + 1) c4)) := (Only.refl (fun b => b = gu) wz).setCell (p := ⟨gu, 1, none⟩) (fun _ => rfl) _
                have c1' := hgu.cell 1
                have f1 := hgu.frozen 1
                simp only [List.getElem?_toArray, List.getElem?_cons_zero, List.getElem?_cons_succ] at c1'
                have ca := co_amt (g5.only ho (fun e => hap.u e.symm))
                have HSF := Lib.hid (SpI.grown (c := (amt, lock, hgt)) HGS.out.1 HGS.out.2 (Nat.le_trans g6 ho.size) (g1.only ho (fun e => Blk.ne_ g1 hgu (by decide) e)) (show MapAt _ B (some bm) (delC L (id, ix)) from ⟨HBM.out, g2.only ho (fun e => cm_blk_ne g2 hgu e)⟩) hb2 (own_only HX3.out ho (fun k hk e => own_blk_ne HX3.out hgu (by decide) (by rw [hk, e]))) (own_only HX4.out ho (fun k hk e => own_blk_ne HX4.out hgu (by decide) (by rw [hk, e]))))
                have HBF := Lib.hid (HBL.out.trans (g7.trans ho (fun b hb e => ⟨by rw [e]; exact HGS.out.2, fun ap => ap.u e.symm⟩)) HAC.out)
                have HAF := Lib.hid (show ∀ b, b < w.heap.size → SA B gs (some bm) gu (.slice A3 (U ++ [((id, ix), (amt, lock, hgt))]).length c3) (.slice A4 (U ++ [((id, ix), (amt, lock, hgt))]).length c4) b → SA B gs (some bm) gu v1 v2 b from fun k hk hS => HAC.out k hk ⟨hS.1, fun ap => hS.2 (by
                  have hwr := HBL.out.size
                  have el : (U ++ [((id, ix), (amt, lock, hgt))]).length = U.length + 1 := by simp
                  rw [el]
                  exact ⟨ap.s, ap.u, ap.m, HAT9.out k (by omega) ap.o1, HAT16.out k (by omega) ap.o2⟩)⟩)
                clear hwz hgu g3
                have hn2 := HN2.out
                clear hb2 ho g1 g2 g4 g5 g6 g7 hap HU
                go_wp2
                go_roundg (n - 1 - j)
                case measure => omega
                case rel => exact ⟨j + 1, delC L (id, ix), U ++ [((id, ix), (amt, lock, hgt))], wrap64 (acc + amt), A3, c3, A4, c4, by omega, rfl, by first | rfl | (rw [IntWalk.wrap64_in _ (by omega)]; rfl), HR2.out, HSF.out, by have := HU0.out; simp only [Hid, List.length_append, List.length_singleton]; omega, HAF.out, HBF.out⟩
              · skip
                refine step_newc (by rfl) (.cells (coinC (amt, lock, hgt)).toArray 61) (fun N => .slice (some ⟨N, 0, none⟩) 1 1) (exec_bslc rfl (run_one_co amt hgt lock HLK.out _) (by simp [Act.eval, Act.put])) ?_
                intro N15 wn15 hN15 hw15 a15
                have HN15 := Lib.hid (show Blk wn15 N15 61 (coinC (amt, lock, hgt)).toArray by rw [hN15, hw15]; exact Blk.new _ _ _)
                try replace HN8 := Lib.hid (HN8.out.below a15 HN8.out.lt)
                try replace R1 := Lib.hid (own_only R1.out (Only.of_new a15 (fun _ => False)) (fun _ _ h => h))
                try replace R3 := Lib.hid (own_only R3.out (Only.of_new a15 (fun _ => False)) (fun _ _ h => h))
                replace R2 := Lib.hid (own_only R2.out (Only.of_new a15 (fun _ => False)) (fun _ _ h => h))
                clear hN15 hw15
                replace HU := Lib.hid (HU.out.below a15 HU.out.lt)
                refine hK.out _ _ (⟨hSw.1.below a15 hSw.1.lt, hSw.2.1.new a15, (HU.out.cell 1).trans (by simp), hSw.2.2.2.1.below a15 hSw.2.2.2.1.lt, hSw.2.2.2.2.1.below a15 hSw.2.2.2.2.1.lt, Nat.le_trans hSw.2.2.2.2.2.1 a15.size, onew hSw.2.2.2.2.2.2 a15⟩) ?_
                intro hSw
                clear hK K
                try simp only [Act.put, List.setIfInBounds_toArray, List.set_cons_zero, List.set_cons_succ]
                refine wpAnyH_ready (rs := [9]) (by kernel_rfl) (by simp) (AllReadyH.cons (o := ⟨some 56, _, _, _, _, _⟩) rfl (fun K hK => ?_) AllReadyH.nil)
                refine step_appc rfl (.tmp 52) (.tmp 55) 43 rfl B 28 _ 33 36 Try.underlying43 infoPtz (by rfl) (by decide) A1 U.length c1 rfl (some ⟨N8, 0, none⟩) 1 1 rfl _ R1.out _ _ (sl_blk HN8.out (ptC_len _ _ HID.out)) (ptC_one _ _) (by unfold maxLen; omega) (by omega) hSw.2.2.2.2.2.1 ?_
                intro A3 c3 w9 hown9 ho9 hat9
                replace R2 := Lib.hid (own_only R2.out ho9 (fun k hk e => own_own_ne R2.out R1.out (by decide) hk e))
                try replace HN15 := Lib.hid (HN15.out.only ho9 (own_blk_ne R1.out HN15.out (by decide)))
                have ho9' := hSw.2.2.2.2.2.2.trans ho9 (fun b hb e => ⟨(R1.out.lt b e).1, fun ap => ap.o1 e⟩)
                have HAT9 := Lib.hid (show ∀ k, k < wr.heap.size → (Value.slice A1 U.length c1).ownBlock ≠ some k → (Value.slice A3 (U.length + 1) c3).ownBlock ≠ some k from fun k hk hne e => by
                  rcases hat9 with h | h
                  · exact hne (h.symm.trans e)
                  · have := Option.some.inj (h.symm.trans e); have := hSw.2.2.2.2.2.2.size; omega)
                have s1 := own_blk_ne R1.out hSw.1 (by decide)
                have s2 := own_cm_ne R1.out hSw.2.1
                have s3 := own_blk_ne R1.out HU.out (by decide)
                have s4 := own_blk_ne R1.out hSw.2.2.2.1 (by decide)
                have s5 := own_blk_ne R1.out hSw.2.2.2.2.1 (by decide)
                have R3 := Lib.hid hown9
                clear R1 HN8 HNE8
                replace HU := Lib.hid (HU.out.only ho9 s3)
                refine hK.out _ _ (⟨hSw.1.only ho9 s1, hSw.2.1.only ho9 s2, (HU.out.cell 1).trans (by simp), hSw.2.2.2.1.only ho9 s4, hSw.2.2.2.2.1.only ho9 s5, Nat.le_trans hSw.2.2.2.2.2.1 ho9.size, ho9'⟩) ?_
                intro hSw
                clear hK K
                try simp only [Act.put, List.setIfInBounds_toArray, List.set_cons_zero, List.set_cons_succ]
                refine wpAnyH_ready (rs := [16]) (by kernel_rfl) (by simp) (AllReadyH.cons (o := ⟨some 63, _, _, _, _, _⟩) rfl (fun K hK => ?_) AllReadyH.nil)
                refine step_appc rfl (.tmp 60) (.tmp 62) 44 rfl B 61 _ 34 48 Try.underlying44 infoCoz (by rfl) (by decide) A2 U.length c2 rfl (some ⟨N15, 0, none⟩) 1 1 rfl _ R2.out _ _ (sl_blk HN15.out (coinC_len _ HLK.out)) (coinC_one _) (by unfold maxLen; omega) (by omega) hSw.2.2.2.2.2.1 ?_
                intro A4 c4 w16 hown16 ho16 hat16
                try replace R1 := Lib.hid (own_only R1.out ho16 (fun k hk e => own_own_ne R1.out R2.out (by decide) hk e))
                try replace R3 := Lib.hid (own_only R3.out ho16 (fun k hk e => own_own_ne R3.out R2.out (by decide) hk e))
                try replace HN8 := Lib.hid (HN8.out.only ho16 (own_blk_ne R2.out HN8.out (by decide)))
                have ho16' := hSw.2.2.2.2.2.2.trans ho16 (fun b hb e => ⟨(R2.out.lt b e).1, fun ap => ap.o2 e⟩)
                have HAT16 := Lib.hid (show ∀ k, k < wr.heap.size → (Value.slice A2 U.length c2).ownBlock ≠ some k → (Value.slice A4 (U.length + 1) c4).ownBlock ≠ some k from fun k hk hne e => by
                  rcases hat16 with h | h
                  · exact hne (h.symm.trans e)
                  · have := Option.some.inj (h.symm.trans e); have := hSw.2.2.2.2.2.2.size; omega)
                have s1 := own_blk_ne R2.out hSw.1 (by decide)
                have s2 := own_cm_ne R2.out hSw.2.1
                have s3 := own_blk_ne R2.out HU.out (by decide)
                have s4 := own_blk_ne R2.out hSw.2.2.2.1 (by decide)
                have s5 := hap.o2
                have R4 := Lib.hid hown16
                clear R2 HN15
                replace HU := Lib.hid (HU.out.only ho16 s3)
                refine hK.out _ _ (⟨hSw.1.only ho16 s1, hSw.2.1.only ho16 s2, (HU.out.cell 1).trans (by simp), hSw.2.2.2.1.only ho16 s4, hSw.2.2.2.2.1.only ho16 s5, Nat.le_trans hSw.2.2.2.2.2.1 ho16.size, ho16'⟩) ?_
                intro hSw
                clear hK K
                try simp only [Act.put, List.setIfInBounds_toArray, List.set_cons_zero, List.set_cons_succ]
                refine wpAnyH_take (i := 17) (oi := ⟨some 64, _, _, _, _, _⟩) (v := (.pointer (some ⟨gu, 0, none⟩))) rfl (by kernel_rfl) (by kernel_rfl) (by kernel_rfl) (fun _ _ _ h => h) (Or.inl ⟨by rfl, ?_⟩) hSw ?_
                · intro w' hSw'
                  have c1' := hSw'.2.2.1
                  go_simp
                simp only [Act.put, List.setIfInBounds_toArray, List.set_cons_zero, List.set_cons_succ]
                refine wpAnyH_take (i := 18) (oi := ⟨some 65, _, _, _, _, _⟩) (v := (.pointer (some ⟨gu, 0, none⟩))) rfl (by kernel_rfl) (by kernel_rfl) (by kernel_rfl) (fun _ _ _ h => h) (Or.inl ⟨by rfl, ?_⟩) hSw ?_
                · intro w' hSw'
                  have c1' := hSw'.2.2.1
                  go_simp
                simp only [Act.put, List.setIfInBounds_toArray, List.set_cons_zero, List.set_cons_succ]
                refine wpAnyH_ready (rs := [19]) (by kernel_rfl) (by simp) (AllReadyH.cons (o := ⟨none, _, _, _, _, _⟩) rfl (fun K hK => ?_) AllReadyH.nil)
                have c0 := HU.out.cell 0
                have f0 := HU.out.frozen 0
                simp only [List.getElem?_toArray, List.getElem?_cons_zero] at c0
                have hb1 : Blk (w16.setCell ⟨gu, 0, none⟩ (.slice A3 (U.length + 1) c3)) gu 46 [Value.slice A3 (U.length + 1) c3, Value.slice A2 U.length c2].toArray := HU.out.set_ 0 _
                have ho1 : Only (fun b => b = gu) w16 (w16.setCell ⟨gu, 0, none⟩ (.slice A3 (U.length + 1) c3)) := (Only.refl (fun b => b = gu) w16).setCell (p := ⟨gu, 0, none⟩) (fun _ => rfl) _
                have hgu := HU.out
                have HX3 := Lib.hid (own_only R3.out ho1 (fun k hk e => own_blk_ne R3.out hgu (by decide) (by rw [hk, e])))
                have HX4 := Lib.hid (own_only R4.out ho1 (fun k hk e => own_blk_ne R4.out hgu (by decide) (by rw [hk, e])))
                have t1 := hSw.1.only ho1 (fun e => Blk.ne_ hSw.1 hgu (by decide) e)
                have t2 := hSw.2.1.only ho1 (fun e => cm_blk_ne hSw.2.1 hgu e)
                have t4 := hSw.2.2.2.1.only ho1 (fun e => Blk.ne_ hSw.2.2.2.1 hgu (by decide) e)
                have t5 := hSw.2.2.2.2.1.only ho1 (fun e => hap.u e.symm)
                have t7 := hSw.2.2.2.2.2.2.trans ho1 (fun b hb e => ⟨by rw [e]; exact HGS.out.2, fun ap => ap.u e.symm⟩)
                have t6 := Nat.le_trans hSw.2.2.2.2.2.1 ho1.size
                clear R3 R4 HU
                go_simp
                have HU := Lib.hid hb1
                clear c0 f0 hb1 ho1 hgu
                refine hK.out _ _ (⟨t1, t2, (HU.out.cell 1).trans (by simp), t4, t5, t6, t7⟩) ?_
                intro hSw
                clear hK K
                try simp only [Act.put, List.setIfInBounds_toArray, List.set_cons_zero, List.set_cons_succ]
                refine wpAnyH_done (by kernel_rfl) ?_ _
                show wpList _ _ _ _ _ _
                obtain ⟨g1, g2, g3, g4, g5, g6, g7⟩ := hSw
                obtain ⟨wz, hwz⟩ : ∃ wz, w16.setCell ⟨gu, 0, none⟩ (.slice A3 (U.length + 1) c3) = wz := ⟨_, rfl⟩
                rw [hwz] at HU HX3 HX4 g1 g2 g3 g4 g5 g6 g7 ⊢
                have hgu := HU.out
                have hb2 : Blk (wz.setCell ⟨gu, 1, none⟩ (.slice A4 (U.length + 1) c4)) gu 46 [Value.slice A3 (U.length + 1) c3, Value.slice A4 (U.length + 1) c4].toArray := hgu.set_ 1 _
                have ho : Only (fun b => b = gu) wz (wz.setCell ⟨gu, 1, none⟩ (.slice A4 (U.length + 1) c4)) := (Only.refl (fun b => b = gu) wz).setCell (p := ⟨gu, 1, none⟩) (fun _ => rfl) _
                have c1' := hgu.cell 1
                have f1 := hgu.frozen 1
                simp only [List.getElem?_toArray, List.getElem?_cons_zero, List.getElem?_cons_succ] at c1'
                have ca := co_amt (g5.only ho (fun e => hap.u e.symm))
                have HSF := Lib.hid (SpI.grown (c := (amt, lock, hgt)) HGS.out.1 HGS.out.2 (Nat.le_trans g6 ho.size) (g1.only ho (fun e => Blk.ne_ g1 hgu (by decide) e)) (show MapAt _ B (some bm) (delC L (id, ix)) from ⟨HBM.out, g2.only ho (fun e => cm_blk_ne g2 hgu e)⟩) hb2 (own_only HX3.out ho (fun k hk e => own_blk_ne HX3.out hgu (by decide) (by rw [hk, e]))) (own_only HX4.out ho (fun k hk e => own_blk_ne HX4.out hgu (by decide) (by rw [hk, e]))))
                have HBF := Lib.hid (HBL.out.trans (g7.trans ho (fun b hb e => ⟨by rw [e]; exact HGS.out.2, fun ap => ap.u e.symm⟩)) HAC.out)
                have HAF := Lib.hid (show ∀ b, b < w.heap.size → SA B gs (some bm) gu (.slice A3 (U ++ [((id, ix), (amt, lock, hgt))]).length c3) (.slice A4 (U ++ [((id, ix), (amt, lock, hgt))]).length c4) b → SA B gs (some bm) gu v1 v2 b from fun k hk hS => HAC.out k hk ⟨hS.1, fun ap => hS.2 (by
                  have hwr := HBL.out.size
                  have el : (U ++ [((id, ix), (amt, lock, hgt))]).length = U.length + 1 := by simp
                  rw [el]
                  exact ⟨ap.s, ap.u, ap.m, HAT9.out k (by omega) ap.o1, HAT16.out k (by omega) ap.o2⟩)⟩)
                clear hwz hgu g3
                have hn2 := HN2.out
                clear hb2 ho g1 g2 g4 g5 g6 g7 hap HU
                go_wp2
                go_roundg (n - 1 - j)
                case measure => omega
                case rel => exact ⟨j + 1, delC L (id, ix), U ++ [((id, ix), (amt, lock, hgt))], wrap64 (acc + amt), A3, c3, A4, c4, by omega, rfl, by first | rfl | (rw [IntWalk.wrap64_in _ (by omega)]; rfl), HR2.out, HSF.out, by have := HU0.out; simp only [Hid, List.length_append, List.length_singleton]; omega, HAF.out, HBF.out⟩
            · skip
              refine step_newc (by rfl) (.cells (coinC (amt, lock, hgt)).toArray 61) (fun N => .slice (some ⟨N, 0, none⟩) 1 1) (exec_bslc rfl (run_one_co amt hgt lock HLK.out _) (by simp [Act.eval, Act.put])) ?_
              intro N15 wn15 hN15 hw15 a15
              have HN15 := Lib.hid (show Blk wn15 N15 61 (coinC (amt, lock, hgt)).toArray by rw [hN15, hw15]; exact Blk.new _ _ _)
              try replace HN8 := Lib.hid (HN8.out.below a15 HN8.out.lt)
              try replace R1 := Lib.hid (own_only R1.out (Only.of_new a15 (fun _ => False)) (fun _ _ h => h))
              try replace R3 := Lib.hid (own_only R3.out (Only.of_new a15 (fun _ => False)) (fun _ _ h => h))
              replace R2 := Lib.hid (own_only R2.out (Only.of_new a15 (fun _ => False)) (fun _ _ h => h))
              clear hN15 hw15
              replace HU := Lib.hid (HU.out.below a15 HU.out.lt)
              refine hK.out _ _ (⟨hSw.1.below a15 hSw.1.lt, hSw.2.1.new a15, (HU.out.cell 1).trans (by simp), hSw.2.2.2.1.below a15 hSw.2.2.2.1.lt, hSw.2.2.2.2.1.below a15 hSw.2.2.2.2.1.lt, Nat.le_trans hSw.2.2.2.2.2.1 a15.size, onew hSw.2.2.2.2.2.2 a15⟩) ?_
              intro hSw
              clear hK K
              try simp only [Act.put, List.setIfInBounds_toArray, List.set_cons_zero, List.set_cons_succ]
              refine wpAnyH_ready (rs := [5]) (by kernel_rfl) (by simp) (AllReadyH.cons (o := ⟨some 52, _, _, _, _, _⟩) rfl (fun K hK => ?_) AllReadyH.nil)
              have c0 := HU.out.cell 0
              simp only [List.getElem?_toArray, List.getElem?_cons_zero] at c0
              go_simp
              clear c0
              refine hK.out _ _ (hSw) ?_
              intro hSw
              clear hK K
              try simp only [Act.put, List.setIfInBounds_toArray, List.set_cons_zero, List.set_cons_succ]
              refine wpAnyH_ready (rs := [9]) (by kernel_rfl) (by simp) (AllReadyH.cons (o := ⟨some 56, _, _, _, _, _⟩) rfl (fun K hK => ?_) AllReadyH.nil)
              refine step_appc rfl (.tmp 52) (.tmp 55) 43 rfl B 28 _ 33 36 Try.underlying43 infoPtz (by rfl) (by decide) A1 U.length c1 rfl (some ⟨N8, 0, none⟩) 1 1 rfl _ R1.out _ _ (sl_blk HN8.out (ptC_len _ _ HID.out)) (ptC_one _ _) (by unfold maxLen; omega) (by omega) hSw.2.2.2.2.2.1 ?_
              intro A3 c3 w9 hown9 ho9 hat9
              replace R2 := Lib.hid (own_only R2.out ho9 (fun k hk e => own_own_ne R2.out R1.out (by decide) hk e))
              try replace HN15 := Lib.hid (HN15.out.only ho9 (own_blk_ne R1.out HN15.out (by decide)))
              have ho9' := hSw.2.2.2.2.2.2.trans ho9 (fun b hb e => ⟨(R1.out.lt b e).1, fun ap => ap.o1 e⟩)
              have HAT9 := Lib.hid (show ∀ k, k < wr.heap.size → (Value.slice A1 U.length c1).ownBlock ≠ some k → (Value.slice A3 (U.length + 1) c3).ownBlock ≠ some k from fun k hk hne e => by
                rcases hat9 with h | h
                · exact hne (h.symm.trans e)
                · have := Option.some.inj (h.symm.trans e); have := hSw.2.2.2.2.2.2.size; omega)
              have s1 := own_blk_ne R1.out hSw.1 (by decide)
              have s2 := own_cm_ne R1.out hSw.2.1
              have s3 := own_blk_ne R1.out HU.out (by decide)
              have s4 := own_blk_ne R1.out hSw.2.2.2.1 (by decide)
              have s5 := own_blk_ne R1.out hSw.2.2.2.2.1 (by decide)
              have R3 := Lib.hid hown9
              clear R1 HN8 HNE8
              replace HU := Lib.hid (HU.out.only ho9 s3)
              refine hK.out _ _ (⟨hSw.1.only ho9 s1, hSw.2.1.only ho9 s2, (HU.out.cell 1).trans (by simp), hSw.2.2.2.1.only ho9 s4, hSw.2.2.2.2.1.only ho9 s5, Nat.le_trans hSw.2.2.2.2.2.1 ho9.size, ho9'⟩) ?_
              intro hSw
              clear hK K
              try simp only [Act.put, List.setIfInBounds_toArray, List.set_cons_zero, List.set_cons_succ]
              refine wpAnyH_ready (rs := [16]) (by kernel_rfl) (by simp) (AllReadyH.cons (o := ⟨some 63, _, _, _, _, _⟩) rfl (fun K hK => ?_) AllReadyH.nil)
              refine step_appc rfl (.tmp 60) (.tmp 62) 44 rfl B 61 _ 34 48 Try.underlying44 infoCoz (by rfl) (by decide) A2 U.length c2 rfl (some ⟨N15, 0, none⟩) 1 1 rfl _ R2.out _ _ (sl_blk HN15.out (coinC_len _ HLK.out)) (coinC_one _) (by unfold maxLen; omega) (by omega) hSw.2.2.2.2.2.1 ?_
              intro A4 c4 w16 hown16 ho16 hat16
              try replace R1 := Lib.hid (own_only R1.out ho16 (fun k hk e => own_own_ne R1.out R2.out (by decide) hk e))
              try replace R3 := Lib.hid (own_only R3.out ho16 (fun k hk e => own_own_ne R3.out R2.out (by decide) hk e))
              try replace HN8 := Lib.hid (HN8.out.only ho16 (own_blk_ne R2.out HN8.out (by decide)))
              have ho16' := hSw.2.2.2.2.2.2.trans ho16 (fun b hb e => ⟨(R2.out.lt b e).1, fun ap => ap.o2 e⟩)
              have HAT16 := Lib.hid (show ∀ k, k < wr.heap.size → (Value.slice A2 U.length c2).ownBlock ≠ some k → (Value.slice A4 (U.length + 1) c4).ownBlock ≠ some k from fun k hk hne e => by
                rcases hat16 with h | h
                · exact hne (h.symm.trans e)
                · have := Option.some.inj (h.symm.trans e); have := hSw.2.2.2.2.2.2.size; omega)
              have s1 := own_blk_ne R2.out hSw.1 (by decide)
              have s2 := own_cm_ne R2.out hSw.2.1
              have s3 := own_blk_ne R2.out HU.out (by decide)
              have s4 := own_blk_ne R2.out hSw.2.2.2.1 (by decide)
              have s5 := hap.o2
              have R4 := Lib.hid hown16
              clear R2 HN15
              replace HU := Lib.hid (HU.out.only ho16 s3)
              refine hK.out _ _ (⟨hSw.1.only ho16 s1, hSw.2.1.only ho16 s2, (HU.out.cell 1).trans (by simp), hSw.2.2.2.1.only ho16 s4, hSw.2.2.2.2.1.only ho16 s5, Nat.le_trans hSw.2.2.2.2.2.1 ho16.size, ho16'⟩) ?_
              intro hSw
              clear hK K
              try simp only [Act.put, List.setIfInBounds_toArray, List.set_cons_zero, List.set_cons_succ]
              refine wpAnyH_take (i := 17) (oi := ⟨some 64, _, _, _, _, _⟩) (v := (.pointer (some ⟨gu, 0, none⟩))) rfl (by kernel_rfl) (by kernel_rfl) (by kernel_rfl) (fun _ _ _ h => h) (Or.inl ⟨by rfl, ?_⟩) hSw ?_
              · intro w' hSw'
                have c1' := hSw'.2.2.1
                go_simp
              simp only [Act.put, List.setIfInBounds_toArray, List.set_cons_zero, List.set_cons_succ]
              refine wpAnyH_take (i := 18) (oi := ⟨some 65, _, _, _, _, _⟩) (v := (.pointer (some ⟨gu, 0, none⟩))) rfl (by kernel_rfl) (by kernel_rfl) (by kernel_rfl) (fun _ _ _ h => h) (Or.inl ⟨by rfl, ?_⟩) hSw ?_
              · intro w' hSw'
                have c1' := hSw'.2.2.1
                go_simp
              simp only [Act.put, List.setIfInBounds_toArray, List.set_cons_zero, List.set_cons_succ]
              refine wpAnyH_ready (rs := [19]) (by kernel_rfl) (by simp) (AllReadyH.cons (o := ⟨none, _, _, _, _, _⟩) rfl (fun K hK => ?_) AllReadyH.nil)
              have c0 := HU.out.cell 0
              have f0 := HU.out.frozen 0
              simp only [List.getElem?_toArray, List.getElem?_cons_zero] at c0
              have hb1 : Blk (w16.setCell ⟨gu, 0, none⟩ (.slice A3 (U.length + 1) c3)) gu 46 [Value.slice A3 (U.length + 1) c3, Value.slice A2 U.length c2].toArray := HU.out.set_ 0 _
              have ho1 : Only (fun b => b = gu) w16 (w16.setCell ⟨gu, 0, none⟩ (.slice A3 (U.length + 1) c3)) := (Only.refl (fun b => b = gu) w16).setCell (p := ⟨gu, 0, none⟩) (fun _ => rfl) _
              have hgu := HU.out
              have HX3 := Lib.hid (own_only R3.out ho1 (fun k hk e => own_blk_ne R3.out hgu (by decide) (by rw [hk, e])))
              have HX4 := Lib.hid (own_only R4.out ho1 (fun k hk e => own_blk_ne R4.out hgu (by decide) (by rw [hk, e])))
              have t1 := hSw.1.only ho1 (fun e => Blk.ne_ hSw.1 hgu (by decide) e)
              have t2 := hSw.2.1.only ho1 (fun e => cm_blk_ne hSw.2.1 hgu e)
              have t4 := hSw.2.2.2.1.only ho1 (fun e => Blk.ne_ hSw.2.2.2.1 hgu (by decide) e)
              have t5 := hSw.2.2.2.2.1.only ho1 (fun e => hap.u e.symm)
              have t7 := hSw.2.2.2.2.2.2.trans ho1 (fun b hb e => ⟨by rw [e]; exact HGS.out.2, fun ap => ap.u e.symm⟩)
              have t6 := Nat.le_trans hSw.2.2.2.2.2.1 ho1.size
              clear R3 R4 HU
              go_simp
              have HU := Lib.hid hb1
              clear c0 f0 hb1 ho1 hgu
              refine hK.out _ _ (⟨t1, t2, (HU.out.cell 1).trans (by simp), t4, t5, t6, t7⟩) ?_
              intro hSw
              clear hK K
              try simp only [Act.put, List.setIfInBounds_toArray, List.set_cons_zero, List.set_cons_succ]
              refine wpAnyH_done (by kernel_rfl) ?_ _
              show wpList _ _ _ _ _ _
              obtain ⟨g1, g2, g3, g4, g5, g6, g7⟩ := hSw
              obtain ⟨wz, hwz⟩ : ∃ wz, w16.setCell ⟨gu, 0, none⟩ (.slice A3 (U.length + 1) c3) = wz := ⟨_, rfl⟩
              rw [hwz] at HU HX3 HX4 g1 g2 g3 g4 g5 g6 g7 ⊢
              have hgu := HU.out
              have hb2 : Blk (wz.setCell ⟨gu, 1, none⟩ (.slice A4 (U.length + 1) c4)) gu 46 [Value.slice A3 (U.length + 1) c3, Value.slice A4 (U.length + 1) c4].toArray := hgu.set_ 1 _
              have ho : Only (fun b => b = gu) wz (wz.setCell ⟨gu, 1, none⟩ (.slice A4 (U.length + 1) c4)) := (Only.refl (fun b => b = gu) wz).setCell (p := ⟨gu, 1, none⟩) (fun _ => rfl) _
              have c1' := hgu.cell 1
              have f1 := hgu.frozen 1
              simp only [List.getElem?_toArray, List.getElem?_cons_zero, List.getElem?_cons_succ] at c1'
              have ca := co_amt (g5.only ho (fun e => hap.u e.symm))
              have HSF := Lib.hid (SpI.grown (c := (amt, lock, hgt)) HGS.out.1 HGS.out.2 (Nat.le_trans g6 ho.size) (g1.only ho (fun e => Blk.ne_ g1 hgu (by decide) e)) (show MapAt _ B (some bm) (delC L (id, ix)) from ⟨HBM.out, g2.only ho (fun e => cm_blk_ne g2 hgu e)⟩) hb2 (own_only HX3.out ho (fun k hk e => own_blk_ne HX3.out hgu (by decide) (by rw [hk, e]))) (own_only HX4.out ho (fun k hk e => own_blk_ne HX4.out hgu (by decide) (by rw [hk, e]))))
              have HBF := Lib.hid (HBL.out.trans (g7.trans ho (fun b hb e => ⟨by rw [e]; exact HGS.out.2, fun ap => ap.u e.symm⟩)) HAC.out)
              have HAF := Lib.hid (show ∀ b, b < w.heap.size → SA B gs (some bm) gu (.slice A3 (U ++ [((id, ix), (amt, lock, hgt))]).length c3) (.slice A4 (U ++ [((id, ix), (amt, lock, hgt))]).length c4) b → SA B gs (some bm) gu v1 v2 b from fun k hk hS => HAC.out k hk ⟨hS.1, fun ap => hS.2 (by
                have hwr := HBL.out.size
                have el : (U ++ [((id, ix), (amt, lock, hgt))]).length = U.length + 1 := by simp
                rw [el]
                exact ⟨ap.s, ap.u, ap.m, HAT9.out k (by omega) ap.o1, HAT16.out k (by omega) ap.o2⟩)⟩)
              clear hwz hgu g3
              have hn2 := HN2.out
              clear hb2 ho g1 g2 g4 g5 g6 g7 hap HU
              go_wp2
              go_roundg (n - 1 - j)
              case measure => omega
              case rel => exact ⟨j + 1, delC L (id, ix), U ++ [((id, ix), (amt, lock, hgt))], wrap64 (acc + amt), A3, c3, A4, c4, by omega, rfl, by first | rfl | (rw [IntWalk.wrap64_in _ (by omega)]; rfl), HR2.out, HSF.out, by have := HU0.out; simp only [Hid, List.length_append, List.length_singleton]; omega, HAF.out, HBF.out⟩
          · skip
            refine step_newc (by rfl) (.cells (coinC (amt, lock, hgt)).toArray 61) (fun N => .slice (some ⟨N, 0, none⟩) 1 1) (exec_bslc rfl (run_one_co amt hgt lock HLK.out _) (by simp [Act.eval, Act.put])) ?_
            intro N15 wn15 hN15 hw15 a15
            have HN15 := Lib.hid (show Blk wn15 N15 61 (coinC (amt, lock, hgt)).toArray by rw [hN15, hw15]; exact Blk.new _ _ _)
            try replace HN8 := Lib.hid (HN8.out.below a15 HN8.out.lt)
            try replace R1 := Lib.hid (own_only R1.out (Only.of_new a15 (fun _ => False)) (fun _ _ h => h))
            try replace R3 := Lib.hid (own_only R3.out (Only.of_new a15 (fun _ => False)) (fun _ _ h => h))
            replace R2 := Lib.hid (own_only R2.out (Only.of_new a15 (fun _ => False)) (fun _ _ h => h))
            clear hN15 hw15
            replace HU := Lib.hid (HU.out.below a15 HU.out.lt)
            refine hK.out _ _ (⟨hSw.1.below a15 hSw.1.lt, hSw.2.1.new a15, (HU.out.cell 1).trans (by simp), hSw.2.2.2.1.below a15 hSw.2.2.2.1.lt, hSw.2.2.2.2.1.below a15 hSw.2.2.2.2.1.lt, Nat.le_trans hSw.2.2.2.2.2.1 a15.size, onew hSw.2.2.2.2.2.2 a15⟩) ?_
            intro hSw
            clear hK K
            try simp only [Act.put, List.setIfInBounds_toArray, List.set_cons_zero, List.set_cons_succ]
            refine wpAnyH_ready (rs := [5, 8]) (by kernel_rfl) (by simp) (AllReadyH.cons (o := ⟨some 52, _, _, _, _, _⟩) rfl (fun K hK => ?_) (AllReadyH.cons (o := ⟨some 55, _, _, _, _, _⟩) rfl (fun K hK => ?_) AllReadyH.nil))
            · skip
              have c0 := HU.out.cell 0
              simp only [List.getElem?_toArray, List.getElem?_cons_zero] at c0
              go_simp
              clear c0
              refine hK.out _ _ (hSw) ?_
              intro hSw
              clear hK K
              try simp only [Act.put, List.setIfInBounds_toArray, List.set_cons_zero, List.set_cons_succ]
              refine wpAnyH_ready (rs := [8]) (by kernel_rfl) (by simp) (AllReadyH.cons (o := ⟨some 55, _, _, _, _, _⟩) rfl (fun K hK => ?_) AllReadyH.nil)
              refine step_newc (by rfl) (.cells (ptC id ix).toArray 28) (fun N => .slice (some ⟨N, 0, none⟩) 1 1) (exec_bslc rfl (run_one_pt id ix HID.out _) (by simp [Act.eval, Act.put])) ?_
              intro N8 wn8 hN8 hw8 a8
              have HN8 := Lib.hid (show Blk wn8 N8 28 (ptC id ix).toArray by rw [hN8, hw8]; exact Blk.new _ _ _)
              have HNE8 := Lib.hid (show (Value.slice A1 U.length c1).ownBlock ≠ some N8 from fun e => by have := (R1.out.lt _ e).2; omega)
              try replace HN15 := Lib.hid (HN15.out.below a8 HN15.out.lt)
              replace R1 := Lib.hid (own_only R1.out (Only.of_new a8 (fun _ => False)) (fun _ _ h => h))
              replace R2 := Lib.hid (own_only R2.out (Only.of_new a8 (fun _ => False)) (fun _ _ h => h))
              clear hN8 hw8
              replace HU := Lib.hid (HU.out.below a8 HU.out.lt)
              refine hK.out _ _ (⟨hSw.1.below a8 hSw.1.lt, hSw.2.1.new a8, (HU.out.cell 1).trans (by simp), hSw.2.2.2.1.below a8 hSw.2.2.2.1.lt, hSw.2.2.2.2.1.below a8 hSw.2.2.2.2.1.lt, Nat.le_trans hSw.2.2.2.2.2.1 a8.size, onew hSw.2.2.2.2.2.2 a8⟩) ?_
              intro hSw
              clear hK K
              try simp only [Act.put, List.setIfInBounds_toArray, List.set_cons_zero, List.set_cons_succ]
              refine wpAnyH_ready (rs := [9]) (by kernel_rfl) (by simp) (AllReadyH.cons (o := ⟨some 56, _, _, _, _, _⟩) rfl (fun K hK => ?_) AllReadyH.nil)
              refine step_appc rfl (.tmp 52) (.tmp 55) 43 rfl B 28 _ 33 36 Try.underlying43 infoPtz (by rfl) (by decide) A1 U.length c1 rfl (some ⟨N8, 0, none⟩) 1 1 rfl _ R1.out _ _ (sl_blk HN8.out (ptC_len _ _ HID.out)) (ptC_one _ _) (by unfold maxLen; omega) (by omega) hSw.2.2.2.2.2.1 ?_
              intro A3 c3 w9 hown9 ho9 hat9
              replace R2 := Lib.hid (own_only R2.out ho9 (fun k hk e => own_own_ne R2.out R1.out (by decide) hk e))
              try replace HN15 := Lib.hid (HN15.out.only ho9 (own_blk_ne R1.out HN15.out (by decide)))
              have ho9' := hSw.2.2.2.2.2.2.trans ho9 (fun b hb e => ⟨(R1.out.lt b e).1, fun ap => ap.o1 e⟩)
              have HAT9 := Lib.hid (show ∀ k, k < wr.heap.size → (Value.slice A1 U.length c1).ownBlock ≠ some k → (Value.slice A3 (U.length + 1) c3).ownBlock ≠ some k from fun k hk hne e => by
                rcases hat9 with h | h
                · exact hne (h.symm.trans e)
                · have := Option.some.inj (h.symm.trans e); have := hSw.2.2.2.2.2.2.size; omega)
              have s1 := own_blk_ne R1.out hSw.1 (by decide)
              have s2 := own_cm_ne R1.out hSw.2.1
              have s3 := own_blk_ne R1.out HU.out (by decide)
              have s4 := own_blk_ne R1.out hSw.2.2.2.1 (by decide)
              have s5 := own_blk_ne R1.out hSw.2.2.2.2.1 (by decide)
              have R3 := Lib.hid hown9
              clear R1 HN8 HNE8
              replace HU := Lib.hid (HU.out.only ho9 s3)
              refine hK.out _ _ (⟨hSw.1.only ho9 s1, hSw.2.1.only ho9 s2, (HU.out.cell 1).trans (by simp), hSw.2.2.2.1.only ho9 s4, hSw.2.2.2.2.1.only ho9 s5, Nat.le_trans hSw.2.2.2.2.2.1 ho9.size, ho9'⟩) ?_
              intro hSw
              clear hK K
              try simp only [Act.put, List.setIfInBounds_toArray, List.set_cons_zero, List.set_cons_succ]
              refine wpAnyH_ready (rs := [16]) (by kernel_rfl) (by simp) (AllReadyH.cons (o := ⟨some 63, _, _, _, _, _⟩) rfl (fun K hK => ?_) AllReadyH.nil)
              refine step_appc rfl (.tmp 60) (.tmp 62) 44 rfl B 61 _ 34 48 Try.underlying44 infoCoz (by rfl) (by decide) A2 U.length c2 rfl (some ⟨N15, 0, none⟩) 1 1 rfl _ R2.out _ _ (sl_blk HN15.out (coinC_len _ HLK.out)) (coinC_one _) (by unfold maxLen; omega) (by omega) hSw.2.2.2.2.2.1 ?_
              intro A4 c4 w16 hown16 ho16 hat16
              try replace R1 := Lib.hid (own_only R1.out ho16 (fun k hk e => own_own_ne R1.out R2.out (by decide) hk e))
              try replace R3 := Lib.hid (own_only R3.out ho16 (fun k hk e => own_own_ne R3.out R2.out (by decide) hk e))
              try replace HN8 := Lib.hid (HN8.out.only ho16 (own_blk_ne R2.out HN8.out (by decide)))
              have ho16' := hSw.2.2.2.2.2.2.trans ho16 (fun b hb e => ⟨(R2.out.lt b e).1, fun ap => ap.o2 e⟩)
              have HAT16 := Lib.hid (show ∀ k, k < wr.heap.size → (Value.slice A2 U.length c2).ownBlock ≠ some k → (Value.slice A4 (U.length + 1) c4).ownBlock ≠ some k from fun k hk hne e => by
                rcases hat16 with h | h
                · exact hne (h.symm.trans e)
                · have := Option.some.inj (h.symm.trans e); have := hSw.2.2.2.2.2.2.size; omega)
              have s1 := own_blk_ne R2.out hSw.1 (by decide)
              have s2 := own_cm_ne R2.out hSw.2.1
              have s3 := own_blk_ne R2.out HU.out (by decide)
              have s4 := own_blk_ne R2.out hSw.2.2.2.1 (by decide)
              have s5 := hap.o2
              have R4 := Lib.hid hown16
              clear R2 HN15
              replace HU := Lib.hid (HU.out.only ho16 s3)
              refine hK.out _ _ (⟨hSw.1.only ho16 s1, hSw.2.1.only ho16 s2, (HU.out.cell 1).trans (by simp), hSw.2.2.2.1.only ho16 s4, hSw.2.2.2.2.1.only ho16 s5, Nat.le_trans hSw.2.2.2.2.2.1 ho16.size, ho16'⟩) ?_
              intro hSw
              clear hK K
              try simp only [Act.put, List.setIfInBounds_toArray, List.set_cons_zero, List.set_cons_succ]
              refine wpAnyH_take (i := 17) (oi := ⟨some 64, _, _, _, _, _⟩) (v := (.pointer (some ⟨gu, 0, none⟩))) rfl (by kernel_rfl) (by kernel_rfl) (by kernel_rfl) (fun _ _ _ h => h) (Or.inl ⟨by rfl, ?_⟩) hSw ?_
              · intro w' hSw'
                have c1' := hSw'.2.2.1
                go_simp
              simp only [Act.put, List.setIfInBounds_toArray, List.set_cons_zero, List.set_cons_succ]
              refine wpAnyH_take (i := 18) (oi := ⟨some 65, _, _, _, _, _⟩) (v := (.pointer (some ⟨gu, 0, none⟩))) rfl (by kernel_rfl) (by kernel_rfl) (by kernel_rfl) (fun _ _ _ h => h) (Or.inl ⟨by rfl, ?_⟩) hSw ?_
              · intro w' hSw'
                have c1' := hSw'.2.2.1
                go_simp
              simp only [Act.put, List.setIfInBounds_toArray, List.set_cons_zero, List.set_cons_succ]
              refine wpAnyH_ready (rs := [19]) (by kernel_rfl) (by simp) (AllReadyH.cons (o := ⟨none, _, _, _, _, _⟩) rfl (fun K hK => ?_) AllReadyH.nil)
              have c0 := HU.out.cell 0
              have f0 := HU.out.frozen 0
              simp only [List.getElem?_toArray, List.getElem?_cons_zero] at c0
              have hb1 : Blk (w16.setCell ⟨gu, 0, none⟩ (.slice A3 (U.length + 1) c3)) gu 46 [Value.slice A3 (U.length + 1) c3, Value.slice A2 U.length c2].toArray := HU.out.set_ 0 _
              have ho1 : Only (fun b => b = gu) w16 (w16.setCell ⟨gu, 0, none⟩ (.slice A3 (U.length + 1) c3)) := (Only.refl (fun b => b = gu) w16).setCell (p := ⟨gu, 0, none⟩) (fun _ => rfl) _
              have hgu := HU.out
              have HX3 := Lib.hid (own_only R3.out ho1 (fun k hk e => own_blk_ne R3.out hgu (by decide) (by rw [hk, e])))
              have HX4 := Lib.hid (own_only R4.out ho1 (fun k hk e => own_blk_ne R4.out hgu (by decide) (by rw [hk, e])))
              have t1 := hSw.1.only ho1 (fun e => Blk.ne_ hSw.1 hgu (by decide) e)
              have t2 := hSw.2.1.only ho1 (fun e => cm_blk_ne hSw.2.1 hgu e)
              have t4 := hSw.2.2.2.1.only ho1 (fun e => Blk.ne_ hSw.2.2.2.1 hgu (by decide) e)
              have t5 := hSw.2.2.2.2.1.only ho1 (fun e => hap.u e.symm)
              have t7 := hSw.2.2.2.2.2.2.trans ho1 (fun b hb e => ⟨by rw [e]; exact HGS.out.2, fun ap => ap.u e.symm⟩)
              have t6 := Nat.le_trans hSw.2.2.2.2.2.1 ho1.size
              clear R3 R4 HU
              go_simp
              have HU := Lib.hid hb1
              clear c0 f0 hb1 ho1 hgu
              refine hK.out _ _ (⟨t1, t2, (HU.out.cell 1).trans (by simp), t4, t5, t6, t7⟩) ?_
              intro hSw
              clear hK K
              try simp only [Act.put, List.setIfInBounds_toArray, List.set_cons_zero, List.set_cons_succ]
              refine wpAnyH_done (by kernel_rfl) ?_ _
              show wpList _ _ _ _ _ _
              obtain ⟨g1, g2, g3, g4, g5, g6, g7⟩ := hSw
              obtain ⟨wz, hwz⟩ : ∃ wz, w16.setCell ⟨gu, 0, none⟩ (.slice A3 (U.length + 1) c3) = wz := ⟨_, rfl⟩
              rw [hwz] at HU HX3 HX4 g1 g2 g3 g4 g5 g6 g7 ⊢
              have hgu := HU.out
              have hb2 : Blk (wz.setCell ⟨gu, 1, none⟩ (.slice A4 (U.length + 1) c4)) gu 46 [Value.slice A3 (U.length + 1) c3, Value.slice A4 (U.length + 1) c4].toArray := hgu.set_ 1 _
              have ho : Only (fun b => b = gu) wz (wz.setCell ⟨gu, 1, none⟩ (.slice A4 (U.length + 1) c4)) := (Only.refl (fun b => b = gu) wz).setCell (p := ⟨gu, 1, none⟩) (fun _ => rfl) _
              have c1' := hgu.cell 1
              have f1 := hgu.frozen 1
              simp only [List.getElem?_toArray, List.getElem?_cons_zero, List.getElem?_cons_succ] at c1'
              have ca := co_amt (g5.only ho (fun e => hap.u e.symm))
              have HSF := Lib.hid (SpI.grown (c := (amt, lock, hgt)) HGS.out.1 HGS.out.2 (Nat.le_trans g6 ho.size) (g1.only ho (fun e => Blk.ne_ g1 hgu (by decide) e)) (show MapAt _ B (some bm) (delC L (id, ix)) from ⟨HBM.out, g2.only ho (fun e => cm_blk_ne g2 hgu e)⟩) hb2 (own_only HX3.out ho (fun k hk e => own_blk_ne HX3.out hgu (by decide) (by rw [hk, e]))) (own_only HX4.out ho (fun k hk e => own_blk_ne HX4.out hgu (by decide) (by rw [hk, e]))))
              have HBF := Lib.hid (HBL.out.trans (g7.trans ho (fun b hb e => ⟨by rw [e]; exact HGS.out.2, fun ap => ap.u e.symm⟩)) HAC.out)
              have HAF := Lib.hid (show ∀ b, b < w.heap.size → SA B gs (some bm) gu (.slice A3 (U ++ [((id, ix), (amt, lock, hgt))]).length c3) (.slice A4 (U ++ [((id, ix), (amt, lock, hgt))]).length c4) b → SA B gs (some bm) gu v1 v2 b from fun k hk hS => HAC.out k hk ⟨hS.1, fun ap => hS.2 (by
                have hwr := HBL.out.size
                have el : (U ++ [((id, ix), (amt, lock, hgt))]).length = U.length + 1 := by simp
                rw [el]
                exact ⟨ap.s, ap.u, ap.m, HAT9.out k (by omega) ap.o1, HAT16.out k (by omega) ap.o2⟩)⟩)
              clear hwz hgu g3
              have hn2 := HN2.out
              clear hb2 ho g1 g2 g4 g5 g6 g7 hap HU
              go_wp2
              go_roundg (n - 1 - j)
              case measure => omega
              case rel => exact ⟨j + 1, delC L (id, ix), U ++ [((id, ix), (amt, lock, hgt))], wrap64 (acc + amt), A3, c3, A4, c4, by omega, rfl, by first | rfl | (rw [IntWalk.wrap64_in _ (by omega)]; rfl), HR2.out, HSF.out, by have := HU0.out; simp only [Hid, List.length_append, List.length_singleton]; omega, HAF.out, HBF.out⟩
            · skip
              refine step_newc (by rfl) (.cells (ptC id ix).toArray 28) (fun N => .slice (some ⟨N, 0, none⟩) 1 1) (exec_bslc rfl (run_one_pt id ix HID.out _) (by simp [Act.eval, Act.put])) ?_
              intro N8 wn8 hN8 hw8 a8
              have HN8 := Lib.hid (show Blk wn8 N8 28 (ptC id ix).toArray by rw [hN8, hw8]; exact Blk.new _ _ _)
              have HNE8 := Lib.hid (show (Value.slice A1 U.length c1).ownBlock ≠ some N8 from fun e => by have := (R1.out.lt _ e).2; omega)
              try replace HN15 := Lib.hid (HN15.out.below a8 HN15.out.lt)
              replace R1 := Lib.hid (own_only R1.out (Only.of_new a8 (fun _ => False)) (fun _ _ h => h))
              replace R2 := Lib.hid (own_only R2.out (Only.of_new a8 (fun _ => False)) (fun _ _ h => h))
              clear hN8 hw8
              replace HU := Lib.hid (HU.out.below a8 HU.out.lt)
              refine hK.out _ _ (⟨hSw.1.below a8 hSw.1.lt, hSw.2.1.new a8, (HU.out.cell 1).trans (by simp), hSw.2.2.2.1.below a8 hSw.2.2.2.1.lt, hSw.2.2.2.2.1.below a8 hSw.2.2.2.2.1.lt, Nat.le_trans hSw.2.2.2.2.2.1 a8.size, onew hSw.2.2.2.2.2.2 a8⟩) ?_
              intro hSw
              clear hK K
              try simp only [Act.put, List.setIfInBounds_toArray, List.set_cons_zero, List.set_cons_succ]
              refine wpAnyH_ready (rs := [5]) (by kernel_rfl) (by simp) (AllReadyH.cons (o := ⟨some 52, _, _, _, _, _⟩) rfl (fun K hK => ?_) AllReadyH.nil)
              have c0 := HU.out.cell 0
              simp only [List.getElem?_toArray, List.getElem?_cons_zero] at c0
              go_simp
              clear c0
              refine hK.out _ _ (hSw) ?_
              intro hSw
              clear hK K
              try simp only [Act.put, List.setIfInBounds_toArray, List.set_cons_zero, List.set_cons_succ]
              refine wpAnyH_ready (rs := [9]) (by kernel_rfl) (by simp) (AllReadyH.cons (o := ⟨some 56, _, _, _, _, _⟩) rfl (fun K hK => ?_) AllReadyH.nil)
              refine step_appc rfl (.tmp 52) (.tmp 55) 43 rfl B 28 _ 33 36 Try.underlying43 infoPtz (by rfl) (by decide) A1 U.length c1 rfl (some ⟨N8, 0, none⟩) 1 1 rfl _ R1.out _ _ (sl_blk HN8.out (ptC_len _ _ HID.out)) (ptC_one _ _) (by unfold maxLen; omega) (by omega) hSw.2.2.2.2.2.1 ?_
              intro A3 c3 w9 hown9 ho9 hat9
              replace R2 := Lib.hid (own_only R2.out ho9 (fun k hk e => own_own_ne R2.out R1.out (by decide) hk e))
              try replace HN15 := Lib.hid (HN15.out.only ho9 (own_blk_ne R1.out HN15.out (by decide)))
              have ho9' := hSw.2.2.2.2.2.2.trans ho9 (fun b hb e => ⟨(R1.out.lt b e).1, fun ap => ap.o1 e⟩)
              have HAT9 := Lib.hid (show ∀ k, k < wr.heap.size → (Value.slice A1 U.length c1).ownBlock ≠ some k → (Value.slice A3 (U.length + 1) c3).ownBlock ≠ some k from fun k hk hne e => by
                rcases hat9 with h | h
                · exact hne (h.symm.trans e)
                · have := Option.some.inj (h.symm.trans e); have := hSw.2.2.2.2.2.2.size; omega)
              have s1 := own_blk_ne R1.out hSw.1 (by decide)
              have s2 := own_cm_ne R1.out hSw.2.1
              have s3 := own_blk_ne R1.out HU.out (by decide)
              have s4 := own_blk_ne R1.out hSw.2.2.2.1 (by decide)
              have s5 := own_blk_ne R1.out hSw.2.2.2.2.1 (by decide)
              have R3 := Lib.hid hown9
              clear R1 HN8 HNE8
              replace HU := Lib.hid (HU.out.only ho9 s3)
              refine hK.out _ _ (⟨hSw.1.only ho9 s1, hSw.2.1.only ho9 s2, (HU.out.cell 1).trans (by simp), hSw.2.2.2.1.only ho9 s4, hSw.2.2.2.2.1.only ho9 s5, Nat.le_trans hSw.2.2.2.2.2.1 ho9.size, ho9'⟩) ?_
              intro hSw
              clear hK K
              try simp only [Act.put, List.setIfInBounds_toArray, List.set_cons_zero, List.set_cons_succ]
              refine wpAnyH_ready (rs := [16]) (by kernel_rfl) (by simp) (AllReadyH.cons (o := ⟨some 63, _, _, _, _, _⟩) rfl (fun K hK => ?_) AllReadyH.nil)
              refine step_appc rfl (.tmp 60) (.tmp 62) 44 rfl B 61 _ 34 48 Try.underlying44 infoCoz (by rfl) (by decide) A2 U.length c2 rfl (some ⟨N15, 0, none⟩) 1 1 rfl _ R2.out _ _ (sl_blk HN15.out (coinC_len _ HLK.out)) (coinC_one _) (by unfold maxLen; omega) (by omega) hSw.2.2.2.2.2.1 ?_
              intro A4 c4 w16 hown16 ho16 hat16
              try replace R1 := Lib.hid (own_only R1.out ho16 (fun k hk e => own_own_ne R1.out R2.out (by decide) hk e))
              try replace R3 := Lib.hid (own_only R3.out ho16 (fun k hk e => own_own_ne R3.out R2.out (by decide) hk e))
              try replace HN8 := Lib.hid (HN8.out.only ho16 (own_blk_ne R2.out HN8.out (by decide)))
              have ho16' := hSw.2.2.2.2.2.2.trans ho16 (fun b hb e => ⟨(R2.out.lt b e).1, fun ap => ap.o2 e⟩)
              have HAT16 := Lib.hid (show ∀ k, k < wr.heap.size → (Value.slice A2 U.length c2).ownBlock ≠ some k → (Value.slice A4 (U.length + 1) c4).ownBlock ≠ some k from fun k hk hne e => by
                rcases hat16 with h | h
                · exact hne (h.symm.trans e)
                · have := Option.some.inj (h.symm.trans e); have := hSw.2.2.2.2.2.2.size; omega)
              have s1 := own_blk_ne R2.out hSw.1 (by decide)
              have s2 := own_cm_ne R2.out hSw.2.1
              have s3 := own_blk_ne R2.out HU.out (by decide)
              have s4 := own_blk_ne R2.out hSw.2.2.2.1 (by decide)
              have s5 := hap.o2
              have R4 := Lib.hid hown16
              clear R2 HN15
              replace HU := Lib.hid (HU.out.only ho16 s3)
              refine hK.out _ _ (⟨hSw.1.only ho16 s1, hSw.2.1.only ho16 s2, (HU.out.cell 1).trans (by simp), hSw.2.2.2.1.only ho16 s4, hSw.2.2.2.2.1.only ho16 s5, Nat.le_trans hSw.2.2.2.2.2.1 ho16.size, ho16'⟩) ?_
              intro hSw
              clear hK K
              try simp only [Act.put, List.setIfInBounds_toArray, List.set_cons_zero, List.set_cons_succ]
              refine wpAnyH_take (i := 17) (oi := ⟨some 64, _, _, _, _, _⟩) (v := (.pointer (some ⟨gu, 0, none⟩))) rfl (by kernel_rfl) (by kernel_rfl) (by kernel_rfl) (fun _ _ _ h => h) (Or.inl ⟨by rfl, ?_⟩) hSw ?_
              · intro w' hSw'
                have c1' := hSw'.2.2.1
                go_simp
              simp only [Act.put, List.setIfInBounds_toArray, List.set_cons_zero, List.set_cons_succ]
              refine wpAnyH_take (i := 18) (oi := ⟨some 65, _, _, _, _, _⟩) (v := (.pointer (some ⟨gu, 0, none⟩))) rfl (by kernel_rfl) (by kernel_rfl) (by kernel_rfl) (fun _ _ _ h => h) (Or.inl ⟨by rfl, ?_⟩) hSw ?_
              · intro w' hSw'
                have c1' := hSw'.2.2.1
                go_simp
              simp only [Act.put, List.setIfInBounds_toArray, List.set_cons_zero, List.set_cons_succ]
              refine wpAnyH_ready (rs := [19]) (by kernel_rfl) (by simp) (AllReadyH.cons (o := ⟨none, _, _, _, _, _⟩) rfl (fun K hK => ?_) AllReadyH.nil)
              have c0 := HU.out.cell 0
              have f0 := HU.out.frozen 0
              simp only [List.getElem?_toArray, List.getElem?_cons_zero] at c0
              have hb1 : Blk (w16.setCell ⟨gu, 0, none⟩ (.slice A3 (U.length + 1) c3)) gu 46 [Value.slice A3 (U.length + 1) c3, Value.slice A2 U.length c2].toArray := HU.out.set_ 0 _
              have ho1 : Only (fun b => b = gu) w16 (w16.setCell ⟨gu, 0, none⟩ (.slice A3 (U.length + 1) c3)) := (Only.refl (fun b => b = gu) w16).setCell (p := ⟨gu, 0, none⟩) (fun _ => rfl) _
              have hgu := HU.out
              have HX3 := Lib.hid (own_only R3.out ho1 (fun k hk e => own_blk_ne R3.out hgu (by decide) (by rw [hk, e])))
              have HX4 := Lib.hid (own_only R4.out ho1 (fun k hk e => own_blk_ne R4.out hgu (by decide) (by rw [hk, e])))
              have t1 := hSw.1.only ho1 (fun e => Blk.ne_ hSw.1 hgu (by decide) e)
              have t2 := hSw.2.1.only ho1 (fun e => cm_blk_ne hSw.2.1 hgu e)
              have t4 := hSw.2.2.2.1.only ho1 (fun e => Blk.ne_ hSw.2.2.2.1 hgu (by decide) e)
              have t5 := hSw.2.2.2.2.1.only ho1 (fun e => hap.u e.symm)
              have t7 := hSw.2.2.2.2.2.2.trans ho1 (fun b hb e => ⟨by rw [e]; exact HGS.out.2, fun ap => ap.u e.symm⟩)
              have t6 := Nat.le_trans hSw.2.2.2.2.2.1 ho1.size
              clear R3 R4 HU
              go_simp
              have HU := Lib.hid hb1
              clear c0 f0 hb1 ho1 hgu
              refine hK.out _ _ (⟨t1, t2, (HU.out.cell 1).trans (by simp), t4, t5, t6, t7⟩) ?_
              intro hSw
              clear hK K
              try simp only [Act.put, List.setIfInBounds_toArray, List.set_cons_zero, List.set_cons_succ]
              refine wpAnyH_done (by kernel_rfl) ?_ _
              show wpList _ _ _ _ _ _
              obtain ⟨g1, g2, g3, g4, g5, g6, g7⟩ := hSw
              obtain ⟨wz, hwz⟩ : ∃ wz, w16.setCell ⟨gu, 0, none⟩ (.slice A3 (U.length + 1) c3) = wz := ⟨_, rfl⟩
              rw [hwz] at HU HX3 HX4 g1 g2 g3 g4 g5 g6 g7 ⊢
              have hgu := HU.out
              have hb2 : Blk (wz.setCell ⟨gu, 1, none⟩ (.slice A4 (U.length + 1) c4)) gu 46 [Value.slice A3 (U.length + 1) c3, Value.slice A4 (U.length + 1) c4].toArray := hgu.set_ 1 _
              have ho : Only (fun b => b = gu) wz (wz.setCell ⟨gu, 1, none⟩ (.slice A4 (U.length + 1) c4)) := (Only.refl (fun b => b = gu) wz).setCell (p := ⟨gu, 1, none⟩) (fun _ => rfl) _
              have c1' := hgu.cell 1
              have f1 := hgu.frozen 1
              simp only [List.getElem?_toArray, List.getElem?_cons_zero, List.getElem?_cons_succ] at c1'
              have ca := co_amt (g5.only ho (fun e => hap.u e.symm))
              have HSF := Lib.hid (SpI.grown (c := (amt, lock, hgt)) HGS.out.1 HGS.out.2 (Nat.le_trans g6 ho.size) (g1.only ho (fun e => Blk.ne_ g1 hgu (by decide) e)) (show MapAt _ B (some bm) (delC L (id, ix)) from ⟨HBM.out, g2.only ho (fun e => cm_blk_ne g2 hgu e)⟩) hb2 (own_only HX3.out ho (fun k hk e => own_blk_ne HX3.out hgu (by decide) (by rw [hk, e]))) (own_only HX4.out ho (fun k hk e => own_blk_ne HX4.out hgu (by decide) (by rw [hk, e]))))
              have HBF := Lib.hid (HBL.out.trans (g7.trans ho (fun b hb e => ⟨by rw [e]; exact HGS.out.2, fun ap => ap.u e.symm⟩)) HAC.out)
              have HAF := Lib.hid (show ∀ b, b < w.heap.size → SA B gs (some bm) gu (.slice A3 (U ++ [((id, ix), (amt, lock, hgt))]).length c3) (.slice A4 (U ++ [((id, ix), (amt, lock, hgt))]).length c4) b → SA B gs (some bm) gu v1 v2 b from fun k hk hS => HAC.out k hk ⟨hS.1, fun ap => hS.2 (by
                have hwr := HBL.out.size
                have el : (U ++ [((id, ix), (amt, lock, hgt))]).length = U.length + 1 := by simp
                rw [el]
                exact ⟨ap.s, ap.u, ap.m, HAT9.out k (by omega) ap.o1, HAT16.out k (by omega) ap.o2⟩)⟩)
              clear hwz hgu g3
              have hn2 := HN2.out
              clear hb2 ho g1 g2 g4 g5 g6 g7 hap HU
              go_wp2
              go_roundg (n - 1 - j)
              case measure => omega
              case rel => exact ⟨j + 1, delC L (id, ix), U ++ [((id, ix), (amt, lock, hgt))], wrap64 (acc + amt), A3, c3, A4, c4, by omega, rfl, by first | rfl | (rw [IntWalk.wrap64_in _ (by omega)]; rfl), HR2.out, HSF.out, by have := HU0.out; simp only [Hid, List.length_append, List.length_singleton]; omega, HAF.out, HBF.out⟩
    · obtain rfl : j = n := by omega
      have hR : R = (L, U, acc, 0) := by rw [← HR.out, List.drop_of_length_le (by rw [HN.out]; exact Nat.le_refl _), spendM]
      subst hR
      go_wp2
      refine bodyPost_ret (results_tmp2 rfl _ _ _) rfl ?_
      exact ⟨rfl, HBL.out, Nat.le_of_eq HU0.out, A1, c1, A2, c2, HSP.out⟩
end Go.Proofs.Ytlbpeihdedhjiaa
