/- The document's State of layer 6: Take, Number. -/
import Derived.Test.YtpcombaecbjmfaaRa
import Derived.RegionTactic
import Derived.BigRegion
import Derived.Deep.CutBlock
import Derived.Deep.DeepCutAuto
namespace Go.Proofs.Ytpcombaecbjmfaa
open Go.RowKit
/-- the document's state: what is left, the error's number -/
def stV (l : List UInt8) (c : Int) : Value := .agg #[.string (bstr l), .int .i64 c]
theorem bstr_take (l : List UInt8) (k : Nat) : (bstr l).extract 0 k = bstr (l.take k) := by
  apply ByteArray.ext
  rw [ByteArray.data_extract]
  apply Array.ext'
  simp [bstr]
theorem bstr_drop (l : List UInt8) (k : Nat) : (bstr l).extract k l.length = bstr (l.drop k) := by
  apply ByteArray.ext
  rw [ByteArray.data_extract]
  apply Array.ext'
  simp only [bstr, List.extract_toArray, List.extract_eq_take_drop]
  rw [List.take_of_length_le (by simp)]
set_option maxRecDepth 20000 in
set_option maxHeartbeats 1000000 in
theorem take06_any (l : List UInt8) (c n : Int) (w : World) (_hl : l.length < 1000000000000) :
    Calls Try.prog 50 #[stV l c, .int .i64 n] w fun e w' => e = .returned (.tuple #[.string (bstr (rawO l n)), stV (rawL l n) (rawE l c n)]) ∧ Below w.heap.size w w' := by
  have hsz := bstr_size l
  unfold stV
  by_cases hbad : n < 0 ∨ (l.length : Int) < n
  · have b1 : rawO l n = [] := by rw [rawO, if_pos hbad]
    have b2 : rawL l n = [] := by rw [rawL, if_pos hbad]
    have b3 : rawE l c n = errOf c 6 := by rw [rawE, if_pos hbad]
    rw [b1, b2, b3]
    clear b1 b2 b3
    by_cases hn : n < 0
    · clear hbad
      by_cases hc : c = 0
      · subst hc
        rw [show errOf 0 6 = 6 from rfl]
        go_enter Try.func50, Try.ntmps50
        go_wp2
        go_region
        all_goals go_wp2
        all_goals refine bodyPost_ret (v := .tuple #[.string (bstr ([])), .agg #[.string (bstr ([])), .int .i64 (6)]]) (by simp [results, Try.results50, go_sem]; rfl) rfl ⟨rfl, ?_⟩
        all_goals exact ((((Below.refl _ _).alloc (Nat.le_refl _) _).alloc (by simp) _)).drew
      · rw [show errOf c 6 = c from if_neg hc]
        have hcb : (c == 0) = false := by simpa using hc
        clear hc
        go_enter Try.func50, Try.ntmps50
        go_wp2
        go_region
        all_goals go_wp2
        all_goals refine bodyPost_ret (v := .tuple #[.string (bstr ([])), .agg #[.string (bstr ([])), .int .i64 (c)]]) (by simp [results, Try.results50, go_sem]; rfl) rfl ⟨rfl, ?_⟩
        all_goals exact ((((Below.refl _ _).alloc (Nat.le_refl _) _).alloc (by simp) _)).drew
    · have hgt : (l.length : Int) < n := by omega
      have hdn : decide (n < 0) = false := by simpa using hn
      clear hbad hn
      by_cases hc : c = 0
      · subst hc
        rw [show errOf 0 6 = 6 from rfl]
        go_enter Try.func50, Try.ntmps50
        go_wp2
        go_region
        all_goals go_wp2
        all_goals refine bodyPost_ret (v := .tuple #[.string (bstr ([])), .agg #[.string (bstr ([])), .int .i64 (6)]]) (by simp [results, Try.results50, go_sem]; rfl) rfl ⟨rfl, ?_⟩
        all_goals exact ((((Below.refl _ _).alloc (Nat.le_refl _) _).alloc (by simp) _)).drew
      · rw [show errOf c 6 = c from if_neg hc]
        have hcb : (c == 0) = false := by simpa using hc
        clear hc
        go_enter Try.func50, Try.ntmps50
        go_wp2
        go_region
        all_goals go_wp2
        all_goals refine bodyPost_ret (v := .tuple #[.string (bstr ([])), .agg #[.string (bstr ([])), .int .i64 (c)]]) (by simp [results, Try.results50, go_sem]; rfl) rfl ⟨rfl, ?_⟩
        all_goals exact ((((Below.refl _ _).alloc (Nat.le_refl _) _).alloc (by simp) _)).drew
  · obtain ⟨k, rfl⟩ : ∃ k : Nat, n = (k : Int) := ⟨n.toNat, by omega⟩
    have hk : k ≤ l.length := by omega
    obtain ⟨b1, b2, b3⟩ := raw_parts l k hk c
    rw [b1, b2, b3]
    have hb0 : decide (l.length < k) = false := by simp; omega
    have hk0 : decide ((k : Int) < 0) = false := by simp
    have hks : k ≤ (bstr l).size := by omega
    have e1 := bstr_take l k
    have e2 := bstr_drop l k
    clear b1 b2 b3 hbad
    go_enter Try.func50, Try.ntmps50
    go_wp2
    go_region
    all_goals go_wp2
    all_goals refine bodyPost_ret (v := .tuple #[.string (bstr (l.take k)), .agg #[.string (bstr (l.drop k)), .int .i64 (c)]]) (by simp [results, Try.results50, go_sem]) rfl ⟨rfl, ?_⟩
    all_goals exact ((((Below.refl _ _).alloc (Nat.le_refl _) _).alloc (by simp) _)).drew

theorem infoST : (Try.prog.info? 92).map (·.size) = some 2 := by kernel_rfl
theorem rawO_take_lt (l : List UInt8) (k : Nat) (hk : k ≤ 8) : numOf (rawO l k) < 256 ^ k := by
  by_cases h : k ≤ l.length
  · rw [(raw_parts l k h 0).1]; exact numOf_lt l k hk
  · rw [(raw_bad l k (by omega) 0).1]; exact Nat.pow_pos (by decide)
theorem rawL_len (l : List UInt8) (n : Int) : (rawL l n).length ≤ l.length := by unfold rawL; split <;> simp
theorem count_form (n k least : Nat) (h : k = 2 ∧ least = 253 ∨ k = 4 ∧ least = 65536 ∨ k = 8 ∧ least = 4294967296) (hn : n < 256 ^ k) : ((countB n).length = k + 1) ↔ ¬ n < least := by
  rw [countB_length']
  rcases h with ⟨rfl, rfl⟩ | ⟨rfl, rfl⟩ | ⟨rfl, rfl⟩
  all_goals
    repeat' split
    all_goals omega
/-- behind an error nothing is left -/
def okSt (l : List UInt8) (e : Int) : Prop := e ≠ 0 → l = []
theorem okSt.raw {l : List UInt8} {e : Int} (h : okSt l e) (n : Int) : okSt (rawL l n) (rawE l e n) := by
  unfold rawL rawE
  split
  · intro _; rfl
  · intro he; rw [h he]; simp
set_option linter.unusedSimpArgs false in
set_option maxRecDepth 20000 in
set_option maxHeartbeats 4000000 in
theorem number06_253 (l : List UInt8) (c : Int) (most : Nat) (w : World) (hl : l.length < 1000000000000) (hok : okSt l c) (hcase : numOf (rawO l 1) = 253) :
    Calls Try.prog 51 #[stV l c, .int .u64 (most : Int)] w fun e w' => e = .returned (.tuple #[.int .u64 ((rcountS l c most).1 : Nat), stV (rcountS l c most).2.1 (rcountS l c most).2.2]) ∧ Below w.heap.size w w' := by
  have HL := Lib.hid hl
  have HCASE := Lib.hid hcase
  have HOK := Lib.hid hok
  have T1 := Lib.hid (fun w' => take06_any l c 1 w' hl)
  unfold stV
  unfold stV at T1
  clear hl hok hcase
  go_enter Try.func51, Try.ntmps51
  go_wp2_with fail
  refine (T1.out _).mono ?_
  rintro e1 w1 ⟨rfl, a1⟩
  have hB : Below w.heap.size w w1 := ((((Below.refl _ _).alloc (Nat.le_refl _) _).alloc (by simp) _)).trans (a1.mono (by simp; omega))
  have hb0 : Blk w1 w.heap.size 92 #[.string (bstr l), .int .i64 c] := ((Blk.new w _ _).alloc _).below a1 (by simp; omega)
  have hb1 : Blk w1 (w.heap.size + 1) 92 #[.string ⟨#[]⟩, .int .i64 0] := by
    have := (Blk.new (w.alloc (.cells #[.string (bstr l), .int .i64 c] 92)) 92 #[.string ⟨#[]⟩, .int .i64 0]).below a1 (by simp)
    simpa using this
  clear a1
  have HB := Lib.hid hB
  have HB1 := Lib.hid hb1
  clear hB hb1
  obtain ⟨X, hX⟩ : ∃ X, rawO l 1 = X := ⟨_, rfl⟩
  obtain ⟨L1, hL1⟩ : ∃ X, rawL l 1 = X := ⟨_, rfl⟩
  obtain ⟨E1, hE1⟩ : ∃ X, rawE l c 1 = X := ⟨_, rfl⟩
  rw [hX, hL1, hE1]
  have HX := Lib.hid hX
  have HL1 := Lib.hid hL1
  have HE1 := Lib.hid hE1
  clear hX hL1 hE1
  go_wp2_with (with_reducible refine wpList_stb rfl 92 (.tmp 2) (.tmp 13) rfl w.heap.size 0 _ rfl rfl 92 _ hb0 ?h1 ?h2 ?h3 ?_)
  case h1 => simp
  case h2 => rw [infoST]; simp
  case h3 => exact ⟨rfl, rfl⟩
  intro w2 b2 o2
  rw [over_all _ _ (by simp)] at b2
  have B2 := Lib.hid b2
  have B2' := Lib.hid (HB1.out.only o2 (by omega))
  have B3 := Lib.hid (show Below w.heap.size w w2 from HB.out.trans (o2.below HB.out.size (fun b hb e => by omega)))
  clear b2 o2 hb0
  have hXl : X.length < 1000000000000 := by rw [← HX.out]; have := rawO_len l 1; have := HL.out; omega
  have LW := Lib.hid (low06_any X w2 hXl)
  clear hXl
  go_wp2_with fail
  refine LW.out.mono ?_
  rintro e3 w3 ⟨rfl, rfl⟩
  obtain ⟨N1, hN1⟩ : ∃ N1, numOf X = N1 := ⟨_, rfl⟩
  rw [hN1]
  have HN1 := Lib.hid hN1
  clear hN1 LW
  go_upto_if 17 with fail
  go_cut [6, 7, 8] (fun v6 v7 v8 wc => ∃ (N least : Nat) (l2 : List UInt8) (e2 : Int), v7 = .int .u64 (N : Int) ∧ Hid (cHead l c = (N, least, l2, e2)) ∧ Hid (e2 = 0 → ¬ N < least) ∧ Hid (okSt l2 e2) ∧ Blk wc w.heap.size 92 #[.string (bstr l2), .int .i64 e2] ∧ Blk wc (w.heap.size + 1) 92 #[.string ⟨#[]⟩, .int .i64 0] ∧ Hid (Below w.heap.size w wc))
  case first =>
    have k1 : N1 = 253 := by rw [← HN1.out, ← HX.out]; exact HCASE.out
    subst k1
    have LE2 := Lib.hid (show (rawL L1 2).length < 1000000000000 by have := rawL_len L1 2; have := rawL_len l 1; rw [HL1.out] at this; have := HL.out; omega)
    have hok1 : okSt L1 E1 := by rw [← HL1.out, ← HE1.out]; exact HOK.out.raw 1
    have hok2 : okSt (rawL L1 2) (rawE L1 E1 2) := hok1.raw 2
    have HK2 := Lib.hid hok2
    have hln : L1.length < 1000000000000 := by have := rawL_len l 1; rw [HL1.out] at this; have := HL.out; omega
    have T2 := Lib.hid (fun w' => take06_any L1 E1 2 w' hln)
    clear hok1 hok2 hln
    unfold stV at T2
    have hh : cHead l c = (numOf (rawO L1 2), 253, rawL L1 2, rawE L1 E1 2) := by rw [← HL1.out, ← HE1.out, cHead, HX.out, HN1.out]; rfl

    have hlt : numOf (rawO L1 2) < 256 ^ 2 := rawO_take_lt L1 2 (by omega)
    have hXl : (rawO L1 2).length < 1000000000000 := by have := rawO_len L1 2; have := rawL_len l 1; rw [HL1.out] at this; have := HL.out; omega
    generalize rawO L1 2 = X2 at *
    generalize rawL L1 2 = L2 at *
    generalize rawE L1 E1 2 = E2 at *
    obtain ⟨N2, hN2⟩ : ∃ N2, numOf X2 = N2 := ⟨_, rfl⟩
    rw [hN2] at hlt hh
    have HH := Lib.hid hh
    have HN2 := Lib.hid hN2
    have HLT := Lib.hid hlt
    have HXL := Lib.hid hXl
    clear hh hlt hXl hN2
    have b20 := B2.out.cell 0
    have b21 := B2.out.cell 1
    simp only [List.getElem?_toArray, List.getElem?_cons_zero, List.getElem?_cons_succ] at b20 b21
    go_wp2_with fail
    refine (T2.out _).mono ?_
    rintro e4 w4 ⟨rfl, a4⟩
    have hB4 := B3.out.trans (a4.mono B3.out.size)
    have hc0 := B2.out.below a4 (by have := B3.out.size; have := B2.out.lt; omega)
    have hc1 := B2'.out.below a4 (by have := B2'.out.lt; omega)
    clear a4 T2
    have HB4 := Lib.hid hB4
    have HC1 := Lib.hid hc1
    clear hB4 hc1
    go_wp2_with (with_reducible refine wpList_stb rfl 92 (.tmp 2) (.tmp 27) rfl w.heap.size 0 _ rfl rfl 92 _ hc0 ?h1 ?h2 ?h3 ?_)
    case h1 => simp
    case h2 => rw [infoST]; simp
    case h3 => exact ⟨rfl, rfl⟩
    intro w5 b5 o5
    rw [over_all _ _ (by simp)] at b5
    have B5 := Lib.hid b5
    have B5' := Lib.hid (HC1.out.only o5 (by omega))
    have HB5 := Lib.hid (show Below w.heap.size w w5 from HB4.out.trans (o5.below HB4.out.size (fun b hb e => by omega)))
    clear b5 o5 hc0
    have LW2 := Lib.hid (low06_any X2 w5 HXL.out)
    go_wp2_with fail
    refine LW2.out.mono ?_
    rintro e6 w6 ⟨rfl, rfl⟩
    rw [HN2.out]
    clear LW2

    by_cases ke : E2 = 0
    · subst ke
      have b50 := B5.out.cell 0
      have b51 := B5.out.cell 1
      simp only [List.getElem?_toArray, List.getElem?_cons_zero, List.getElem?_cons_succ] at b50 b51
      have hN64 : N2 < 18446744073709551616 := by have := HLT.out; omega
      have CN := Lib.hid (fun w' => count06_any N2 w' hN64)
      have CF := Lib.hid (count_form N2 2 253 (by omega) HLT.out)
      clear hN64
      go_wp2_with fail
      refine (CN.out _).mono ?_
      rintro e7 w7 ⟨rfl, a7⟩
      have b70 := B5.out.below a7 (by have := B5.out.lt; omega)
      have b71 := B5'.out.below a7 (by have := B5'.out.lt; omega)
      have hb7 := HB5.out.trans (a7.mono HB5.out.size)
      have HB7 := Lib.hid hb7
      have R0 := Lib.hid b70
      have R1 := Lib.hid b71
      clear hb7 a7 CN b50 b51
      have b60 := b71.cell 0
      have b61 := b71.cell 1
      have hf0 := b71.frozen 0
      have hf1 := b71.frozen 1
      simp only [List.getElem?_toArray, List.getElem?_cons_zero, List.getElem?_cons_succ] at b60 b61
      clear b70 b71
      by_cases hlt : N2 < 253
      · have q : rcountS l c most = (0, [], 70) := by rw [rcountS, HH.out, cEnd, if_neg (by simp), if_pos hlt]; rfl
        have Q := Lib.hid q
        have t1 : (((countB N2).length : Int) != 3) = true := by have := CF.out; simp; omega
        have t2 : (((countB N2).length : Int) == 3) = false := by have := CF.out; simp; omega
        clear hlt q
        go_wp2
        all_goals refine bodyPost_ret (v := .tuple #[.int .u64 (0 : Nat), .agg #[.string (bstr ([])), .int .i64 (70)]]) (by simp [results, Try.results51, go_sem, b60, b61, hf0, hf1]; rfl) rfl ⟨by rw [Q.out], ?_⟩
        all_goals repeat (first | exact HB7.out | refine Below.drew ?_ | refine Below.setCell ?_ (Nat.le_succ _) _)
      · have HFF := Lib.hid hlt
        have t1 : (((countB N2).length : Int) != 3) = false := by have := CF.out; simp; omega
        have t2 : (((countB N2).length : Int) == 3) = true := by have := CF.out; simp; omega
        clear hlt
        go_wp2_with fail
        go_meet
        exact ⟨N2, 253, L2, 0, rfl, HH, fun _ => HFF.out, HK2, R0.out, R1.out, HB7⟩
    · have dE : (E2 == 0) = false := by simpa using ke
      have KE := Lib.hid ke
      have b50 := B5.out.cell 0
      have b51 := B5.out.cell 1
      simp only [List.getElem?_toArray, List.getElem?_cons_zero, List.getElem?_cons_succ] at b50 b51
      clear ke
      go_wp2_with fail
      go_meet
      exact ⟨N2, 253, L2, E2, rfl, HH, fun h => absurd h KE.out, HK2, B5.out, B5'.out, HB5⟩
  case rest =>
    obtain ⟨N, least, l2, e2, rfl, HH, HF, HK, b0, b1, HB3⟩ := hcut
    have c0 := b0.cell 0
    have c1 := b0.cell 1
    have d0 := b1.cell 0
    have d1 := b1.cell 1
    have f0 := b1.frozen 0
    have f1 := b1.frozen 1
    simp only [List.getElem?_toArray, List.getElem?_cons_zero, List.getElem?_cons_succ] at c0 c1 d0 d1
    have HB0 := Lib.hid b0
    have HB1 := Lib.hid b1
    clear b0 b1
    by_cases k1 : e2 = 0
    · subst k1
      have hf := HF.out rfl
      by_cases k3 : most < N
      · have q : rcountS l c most = (0, [], 2) := by rw [rcountS, HH.out, cEnd, if_neg (by simp), if_neg hf, if_pos k3]; rfl
        have d3 : decide (most < N) = true := by simpa using k3
        have Q := Lib.hid q
        clear q k3 hf
        go_wp2
        all_goals refine bodyPost_ret (v := .tuple #[.int .u64 (0 : Nat), .agg #[.string (bstr ([])), .int .i64 (2)]]) (by simp [results, Try.results51, go_sem, c0, c1, d0, d1, f0, f1]; rfl) rfl ⟨by rw [Q.out], ?_⟩
        all_goals repeat (first | exact HB3.out | refine Below.drew ?_ | refine Below.setCell ?_ (Nat.le_succ _) _)
      · have q : rcountS l c most = (N, l2, 0) := by rw [rcountS, HH.out, cEnd, if_neg (by simp), if_neg hf, if_neg k3]
        have d3 : decide (most < N) = false := by simpa using k3
        have Q := Lib.hid q
        clear q k3 hf
        go_wp2
        go_region
        all_goals go_wp2
        all_goals refine bodyPost_ret (v := .tuple #[.int .u64 (N : Nat), .agg #[.string (bstr (l2)), .int .i64 (0)]]) (by simp [results, Try.results51, go_sem, c0, c1, d0, d1, f0, f1]) rfl ⟨by rw [Q.out], ?_⟩
        all_goals repeat (first | exact HB3.out | refine Below.drew ?_ | refine Below.setCell ?_ (Nat.le_succ _) _)
    · have hl2 := HK.out k1
      subst hl2
      have q : rcountS l c most = (0, [], e2) := by rw [rcountS, HH.out, cEnd, if_pos k1]
      have dE : (e2 != 0) = true := by simpa using k1
      have Q := Lib.hid q
      clear q k1
      go_wp2
      go_region
      all_goals go_wp2
      all_goals refine bodyPost_ret (v := .tuple #[.int .u64 (0 : Nat), .agg #[.string (bstr ([])), .int .i64 (e2)]]) (by simp [results, Try.results51, go_sem, c0, c1, d0, d1, f0, f1]; rfl) rfl ⟨by rw [Q.out], ?_⟩
      all_goals repeat (first | exact HB3.out | refine Below.drew ?_ | refine Below.setCell ?_ (Nat.le_succ _) _)
set_option linter.unusedSimpArgs false in
set_option maxRecDepth 20000 in
set_option maxHeartbeats 4000000 in
theorem number06_254 (l : List UInt8) (c : Int) (most : Nat) (w : World) (hl : l.length < 1000000000000) (hok : okSt l c) (hcase : numOf (rawO l 1) = 254) :
    Calls Try.prog 51 #[stV l c, .int .u64 (most : Int)] w fun e w' => e = .returned (.tuple #[.int .u64 ((rcountS l c most).1 : Nat), stV (rcountS l c most).2.1 (rcountS l c most).2.2]) ∧ Below w.heap.size w w' := by
  have HL := Lib.hid hl
  have HCASE := Lib.hid hcase
  have HOK := Lib.hid hok
  have T1 := Lib.hid (fun w' => take06_any l c 1 w' hl)
  unfold stV
  unfold stV at T1
  clear hl hok hcase
  go_enter Try.func51, Try.ntmps51
  go_wp2_with fail
  refine (T1.out _).mono ?_
  rintro e1 w1 ⟨rfl, a1⟩
  have hB : Below w.heap.size w w1 := ((((Below.refl _ _).alloc (Nat.le_refl _) _).alloc (by simp) _)).trans (a1.mono (by simp; omega))
  have hb0 : Blk w1 w.heap.size 92 #[.string (bstr l), .int .i64 c] := ((Blk.new w _ _).alloc _).below a1 (by simp; omega)
  have hb1 : Blk w1 (w.heap.size + 1) 92 #[.string ⟨#[]⟩, .int .i64 0] := by
    have := (Blk.new (w.alloc (.cells #[.string (bstr l), .int .i64 c] 92)) 92 #[.string ⟨#[]⟩, .int .i64 0]).below a1 (by simp)
    simpa using this
  clear a1
  have HB := Lib.hid hB
  have HB1 := Lib.hid hb1
  clear hB hb1
  obtain ⟨X, hX⟩ : ∃ X, rawO l 1 = X := ⟨_, rfl⟩
  obtain ⟨L1, hL1⟩ : ∃ X, rawL l 1 = X := ⟨_, rfl⟩
  obtain ⟨E1, hE1⟩ : ∃ X, rawE l c 1 = X := ⟨_, rfl⟩
  rw [hX, hL1, hE1]
  have HX := Lib.hid hX
  have HL1 := Lib.hid hL1
  have HE1 := Lib.hid hE1
  clear hX hL1 hE1
  go_wp2_with (with_reducible refine wpList_stb rfl 92 (.tmp 2) (.tmp 13) rfl w.heap.size 0 _ rfl rfl 92 _ hb0 ?h1 ?h2 ?h3 ?_)
  case h1 => simp
  case h2 => rw [infoST]; simp
  case h3 => exact ⟨rfl, rfl⟩
  intro w2 b2 o2
  rw [over_all _ _ (by simp)] at b2
  have B2 := Lib.hid b2
  have B2' := Lib.hid (HB1.out.only o2 (by omega))
  have B3 := Lib.hid (show Below w.heap.size w w2 from HB.out.trans (o2.below HB.out.size (fun b hb e => by omega)))
  clear b2 o2 hb0
  have hXl : X.length < 1000000000000 := by rw [← HX.out]; have := rawO_len l 1; have := HL.out; omega
  have LW := Lib.hid (low06_any X w2 hXl)
  clear hXl
  go_wp2_with fail
  refine LW.out.mono ?_
  rintro e3 w3 ⟨rfl, rfl⟩
  obtain ⟨N1, hN1⟩ : ∃ N1, numOf X = N1 := ⟨_, rfl⟩
  rw [hN1]
  have HN1 := Lib.hid hN1
  clear hN1 LW
  go_upto_if 17 with fail
  go_cut [6, 7, 8] (fun v6 v7 v8 wc => ∃ (N least : Nat) (l2 : List UInt8) (e2 : Int), v7 = .int .u64 (N : Int) ∧ Hid (cHead l c = (N, least, l2, e2)) ∧ Hid (e2 = 0 → ¬ N < least) ∧ Hid (okSt l2 e2) ∧ Blk wc w.heap.size 92 #[.string (bstr l2), .int .i64 e2] ∧ Blk wc (w.heap.size + 1) 92 #[.string ⟨#[]⟩, .int .i64 0] ∧ Hid (Below w.heap.size w wc))
  case first =>
    have k1 : N1 = 254 := by rw [← HN1.out, ← HX.out]; exact HCASE.out
    subst k1
    have LE2 := Lib.hid (show (rawL L1 4).length < 1000000000000 by have := rawL_len L1 4; have := rawL_len l 1; rw [HL1.out] at this; have := HL.out; omega)
    have hok1 : okSt L1 E1 := by rw [← HL1.out, ← HE1.out]; exact HOK.out.raw 1
    have hok2 : okSt (rawL L1 4) (rawE L1 E1 4) := hok1.raw 4
    have HK2 := Lib.hid hok2
    have hln : L1.length < 1000000000000 := by have := rawL_len l 1; rw [HL1.out] at this; have := HL.out; omega
    have T2 := Lib.hid (fun w' => take06_any L1 E1 4 w' hln)
    clear hok1 hok2 hln
    unfold stV at T2
    have hh : cHead l c = (numOf (rawO L1 4), 65536, rawL L1 4, rawE L1 E1 4) := by rw [← HL1.out, ← HE1.out, cHead, HX.out, HN1.out]; rfl

    have hlt : numOf (rawO L1 4) < 256 ^ 4 := rawO_take_lt L1 4 (by omega)
    have hXl : (rawO L1 4).length < 1000000000000 := by have := rawO_len L1 4; have := rawL_len l 1; rw [HL1.out] at this; have := HL.out; omega
    generalize rawO L1 4 = X2 at *
    generalize rawL L1 4 = L2 at *
    generalize rawE L1 E1 4 = E2 at *
    obtain ⟨N2, hN2⟩ : ∃ N2, numOf X2 = N2 := ⟨_, rfl⟩
    rw [hN2] at hlt hh
    have HH := Lib.hid hh
    have HN2 := Lib.hid hN2
    have HLT := Lib.hid hlt
    have HXL := Lib.hid hXl
    clear hh hlt hXl hN2
    have b20 := B2.out.cell 0
    have b21 := B2.out.cell 1
    simp only [List.getElem?_toArray, List.getElem?_cons_zero, List.getElem?_cons_succ] at b20 b21
    go_wp2_with fail
    refine (T2.out _).mono ?_
    rintro e4 w4 ⟨rfl, a4⟩
    have hB4 := B3.out.trans (a4.mono B3.out.size)
    have hc0 := B2.out.below a4 (by have := B3.out.size; have := B2.out.lt; omega)
    have hc1 := B2'.out.below a4 (by have := B2'.out.lt; omega)
    clear a4 T2
    have HB4 := Lib.hid hB4
    have HC1 := Lib.hid hc1
    clear hB4 hc1
    go_wp2_with (with_reducible refine wpList_stb rfl 92 (.tmp 2) (.tmp 27) rfl w.heap.size 0 _ rfl rfl 92 _ hc0 ?h1 ?h2 ?h3 ?_)
    case h1 => simp
    case h2 => rw [infoST]; simp
    case h3 => exact ⟨rfl, rfl⟩
    intro w5 b5 o5
    rw [over_all _ _ (by simp)] at b5
    have B5 := Lib.hid b5
    have B5' := Lib.hid (HC1.out.only o5 (by omega))
    have HB5 := Lib.hid (show Below w.heap.size w w5 from HB4.out.trans (o5.below HB4.out.size (fun b hb e => by omega)))
    clear b5 o5 hc0
    have LW2 := Lib.hid (low06_any X2 w5 HXL.out)
    go_wp2_with fail
    refine LW2.out.mono ?_
    rintro e6 w6 ⟨rfl, rfl⟩
    rw [HN2.out]
    clear LW2

    by_cases ke : E2 = 0
    · subst ke
      have b50 := B5.out.cell 0
      have b51 := B5.out.cell 1
      simp only [List.getElem?_toArray, List.getElem?_cons_zero, List.getElem?_cons_succ] at b50 b51
      have hN64 : N2 < 18446744073709551616 := by have := HLT.out; omega
      have CN := Lib.hid (fun w' => count06_any N2 w' hN64)
      have CF := Lib.hid (count_form N2 4 65536 (by omega) HLT.out)
      clear hN64
      go_wp2_with fail
      refine (CN.out _).mono ?_
      rintro e7 w7 ⟨rfl, a7⟩
      have b70 := B5.out.below a7 (by have := B5.out.lt; omega)
      have b71 := B5'.out.below a7 (by have := B5'.out.lt; omega)
      have hb7 := HB5.out.trans (a7.mono HB5.out.size)
      have HB7 := Lib.hid hb7
      have R0 := Lib.hid b70
      have R1 := Lib.hid b71
      clear hb7 a7 CN b50 b51
      have b60 := b71.cell 0
      have b61 := b71.cell 1
      have hf0 := b71.frozen 0
      have hf1 := b71.frozen 1
      simp only [List.getElem?_toArray, List.getElem?_cons_zero, List.getElem?_cons_succ] at b60 b61
      clear b70 b71
      by_cases hlt : N2 < 65536
      · have q : rcountS l c most = (0, [], 70) := by rw [rcountS, HH.out, cEnd, if_neg (by simp), if_pos hlt]; rfl
        have Q := Lib.hid q
        have t1 : (((countB N2).length : Int) != 5) = true := by have := CF.out; simp; omega
        have t2 : (((countB N2).length : Int) == 5) = false := by have := CF.out; simp; omega
        clear hlt q
        go_wp2
        all_goals refine bodyPost_ret (v := .tuple #[.int .u64 (0 : Nat), .agg #[.string (bstr ([])), .int .i64 (70)]]) (by simp [results, Try.results51, go_sem, b60, b61, hf0, hf1]; rfl) rfl ⟨by rw [Q.out], ?_⟩
        all_goals repeat (first | exact HB7.out | refine Below.drew ?_ | refine Below.setCell ?_ (Nat.le_succ _) _)
      · have HFF := Lib.hid hlt
        have t1 : (((countB N2).length : Int) != 5) = false := by have := CF.out; simp; omega
        have t2 : (((countB N2).length : Int) == 5) = true := by have := CF.out; simp; omega
        clear hlt
        go_wp2_with fail
        go_meet
        exact ⟨N2, 65536, L2, 0, rfl, HH, fun _ => HFF.out, HK2, R0.out, R1.out, HB7⟩
    · have dE : (E2 == 0) = false := by simpa using ke
      have KE := Lib.hid ke
      have b50 := B5.out.cell 0
      have b51 := B5.out.cell 1
      simp only [List.getElem?_toArray, List.getElem?_cons_zero, List.getElem?_cons_succ] at b50 b51
      clear ke
      go_wp2_with fail
      go_meet
      exact ⟨N2, 65536, L2, E2, rfl, HH, fun h => absurd h KE.out, HK2, B5.out, B5'.out, HB5⟩
  case rest =>
    obtain ⟨N, least, l2, e2, rfl, HH, HF, HK, b0, b1, HB3⟩ := hcut
    have c0 := b0.cell 0
    have c1 := b0.cell 1
    have d0 := b1.cell 0
    have d1 := b1.cell 1
    have f0 := b1.frozen 0
    have f1 := b1.frozen 1
    simp only [List.getElem?_toArray, List.getElem?_cons_zero, List.getElem?_cons_succ] at c0 c1 d0 d1
    have HB0 := Lib.hid b0
    have HB1 := Lib.hid b1
    clear b0 b1
    by_cases k1 : e2 = 0
    · subst k1
      have hf := HF.out rfl
      by_cases k3 : most < N
      · have q : rcountS l c most = (0, [], 2) := by rw [rcountS, HH.out, cEnd, if_neg (by simp), if_neg hf, if_pos k3]; rfl
        have d3 : decide (most < N) = true := by simpa using k3
        have Q := Lib.hid q
        clear q k3 hf
        go_wp2
        all_goals refine bodyPost_ret (v := .tuple #[.int .u64 (0 : Nat), .agg #[.string (bstr ([])), .int .i64 (2)]]) (by simp [results, Try.results51, go_sem, c0, c1, d0, d1, f0, f1]; rfl) rfl ⟨by rw [Q.out], ?_⟩
        all_goals repeat (first | exact HB3.out | refine Below.drew ?_ | refine Below.setCell ?_ (Nat.le_succ _) _)
      · have q : rcountS l c most = (N, l2, 0) := by rw [rcountS, HH.out, cEnd, if_neg (by simp), if_neg hf, if_neg k3]
        have d3 : decide (most < N) = false := by simpa using k3
        have Q := Lib.hid q
        clear q k3 hf
        go_wp2
        go_region
        all_goals go_wp2
        all_goals refine bodyPost_ret (v := .tuple #[.int .u64 (N : Nat), .agg #[.string (bstr (l2)), .int .i64 (0)]]) (by simp [results, Try.results51, go_sem, c0, c1, d0, d1, f0, f1]) rfl ⟨by rw [Q.out], ?_⟩
        all_goals repeat (first | exact HB3.out | refine Below.drew ?_ | refine Below.setCell ?_ (Nat.le_succ _) _)
    · have hl2 := HK.out k1
      subst hl2
      have q : rcountS l c most = (0, [], e2) := by rw [rcountS, HH.out, cEnd, if_pos k1]
      have dE : (e2 != 0) = true := by simpa using k1
      have Q := Lib.hid q
      clear q k1
      go_wp2
      go_region
      all_goals go_wp2
      all_goals refine bodyPost_ret (v := .tuple #[.int .u64 (0 : Nat), .agg #[.string (bstr ([])), .int .i64 (e2)]]) (by simp [results, Try.results51, go_sem, c0, c1, d0, d1, f0, f1]; rfl) rfl ⟨by rw [Q.out], ?_⟩
      all_goals repeat (first | exact HB3.out | refine Below.drew ?_ | refine Below.setCell ?_ (Nat.le_succ _) _)
set_option linter.unusedSimpArgs false in
set_option maxRecDepth 20000 in
set_option maxHeartbeats 4000000 in
theorem number06_255 (l : List UInt8) (c : Int) (most : Nat) (w : World) (hl : l.length < 1000000000000) (hok : okSt l c) (hcase : numOf (rawO l 1) = 255) :
    Calls Try.prog 51 #[stV l c, .int .u64 (most : Int)] w fun e w' => e = .returned (.tuple #[.int .u64 ((rcountS l c most).1 : Nat), stV (rcountS l c most).2.1 (rcountS l c most).2.2]) ∧ Below w.heap.size w w' := by
  have HL := Lib.hid hl
  have HCASE := Lib.hid hcase
  have HOK := Lib.hid hok
  have T1 := Lib.hid (fun w' => take06_any l c 1 w' hl)
  unfold stV
  unfold stV at T1
  clear hl hok hcase
  go_enter Try.func51, Try.ntmps51
  go_wp2_with fail
  refine (T1.out _).mono ?_
  rintro e1 w1 ⟨rfl, a1⟩
  have hB : Below w.heap.size w w1 := ((((Below.refl _ _).alloc (Nat.le_refl _) _).alloc (by simp) _)).trans (a1.mono (by simp; omega))
  have hb0 : Blk w1 w.heap.size 92 #[.string (bstr l), .int .i64 c] := ((Blk.new w _ _).alloc _).below a1 (by simp; omega)
  have hb1 : Blk w1 (w.heap.size + 1) 92 #[.string ⟨#[]⟩, .int .i64 0] := by
    have := (Blk.new (w.alloc (.cells #[.string (bstr l), .int .i64 c] 92)) 92 #[.string ⟨#[]⟩, .int .i64 0]).below a1 (by simp)
    simpa using this
  clear a1
  have HB := Lib.hid hB
  have HB1 := Lib.hid hb1
  clear hB hb1
  obtain ⟨X, hX⟩ : ∃ X, rawO l 1 = X := ⟨_, rfl⟩
  obtain ⟨L1, hL1⟩ : ∃ X, rawL l 1 = X := ⟨_, rfl⟩
  obtain ⟨E1, hE1⟩ : ∃ X, rawE l c 1 = X := ⟨_, rfl⟩
  rw [hX, hL1, hE1]
  have HX := Lib.hid hX
  have HL1 := Lib.hid hL1
  have HE1 := Lib.hid hE1
  clear hX hL1 hE1
  go_wp2_with (with_reducible refine wpList_stb rfl 92 (.tmp 2) (.tmp 13) rfl w.heap.size 0 _ rfl rfl 92 _ hb0 ?h1 ?h2 ?h3 ?_)
  case h1 => simp
  case h2 => rw [infoST]; simp
  case h3 => exact ⟨rfl, rfl⟩
  intro w2 b2 o2
  rw [over_all _ _ (by simp)] at b2
  have B2 := Lib.hid b2
  have B2' := Lib.hid (HB1.out.only o2 (by omega))
  have B3 := Lib.hid (show Below w.heap.size w w2 from HB.out.trans (o2.below HB.out.size (fun b hb e => by omega)))
  clear b2 o2 hb0
  have hXl : X.length < 1000000000000 := by rw [← HX.out]; have := rawO_len l 1; have := HL.out; omega
  have LW := Lib.hid (low06_any X w2 hXl)
  clear hXl
  go_wp2_with fail
  refine LW.out.mono ?_
  rintro e3 w3 ⟨rfl, rfl⟩
  obtain ⟨N1, hN1⟩ : ∃ N1, numOf X = N1 := ⟨_, rfl⟩
  rw [hN1]
  have HN1 := Lib.hid hN1
  clear hN1 LW
  go_upto_if 17 with fail
  go_cut [6, 7, 8] (fun v6 v7 v8 wc => ∃ (N least : Nat) (l2 : List UInt8) (e2 : Int), v7 = .int .u64 (N : Int) ∧ Hid (cHead l c = (N, least, l2, e2)) ∧ Hid (e2 = 0 → ¬ N < least) ∧ Hid (okSt l2 e2) ∧ Blk wc w.heap.size 92 #[.string (bstr l2), .int .i64 e2] ∧ Blk wc (w.heap.size + 1) 92 #[.string ⟨#[]⟩, .int .i64 0] ∧ Hid (Below w.heap.size w wc))
  case first =>
    have k1 : N1 = 255 := by rw [← HN1.out, ← HX.out]; exact HCASE.out
    subst k1
    have LE2 := Lib.hid (show (rawL L1 8).length < 1000000000000 by have := rawL_len L1 8; have := rawL_len l 1; rw [HL1.out] at this; have := HL.out; omega)
    have hok1 : okSt L1 E1 := by rw [← HL1.out, ← HE1.out]; exact HOK.out.raw 1
    have hok2 : okSt (rawL L1 8) (rawE L1 E1 8) := hok1.raw 8
    have HK2 := Lib.hid hok2
    have hln : L1.length < 1000000000000 := by have := rawL_len l 1; rw [HL1.out] at this; have := HL.out; omega
    have T2 := Lib.hid (fun w' => take06_any L1 E1 8 w' hln)
    clear hok1 hok2 hln
    unfold stV at T2
    have hh : cHead l c = (numOf (rawO L1 8), 4294967296, rawL L1 8, rawE L1 E1 8) := by rw [← HL1.out, ← HE1.out, cHead, HX.out, HN1.out]; rfl

    have hlt : numOf (rawO L1 8) < 256 ^ 8 := rawO_take_lt L1 8 (by omega)
    have hXl : (rawO L1 8).length < 1000000000000 := by have := rawO_len L1 8; have := rawL_len l 1; rw [HL1.out] at this; have := HL.out; omega
    generalize rawO L1 8 = X2 at *
    generalize rawL L1 8 = L2 at *
    generalize rawE L1 E1 8 = E2 at *
    obtain ⟨N2, hN2⟩ : ∃ N2, numOf X2 = N2 := ⟨_, rfl⟩
    rw [hN2] at hlt hh
    have HH := Lib.hid hh
    have HN2 := Lib.hid hN2
    have HLT := Lib.hid hlt
    have HXL := Lib.hid hXl
    clear hh hlt hXl hN2
    have b20 := B2.out.cell 0
    have b21 := B2.out.cell 1
    simp only [List.getElem?_toArray, List.getElem?_cons_zero, List.getElem?_cons_succ] at b20 b21
    go_wp2_with fail
    refine (T2.out _).mono ?_
    rintro e4 w4 ⟨rfl, a4⟩
    have hB4 := B3.out.trans (a4.mono B3.out.size)
    have hc0 := B2.out.below a4 (by have := B3.out.size; have := B2.out.lt; omega)
    have hc1 := B2'.out.below a4 (by have := B2'.out.lt; omega)
    clear a4 T2
    have HB4 := Lib.hid hB4
    have HC1 := Lib.hid hc1
    clear hB4 hc1
    go_wp2_with (with_reducible refine wpList_stb rfl 92 (.tmp 2) (.tmp 27) rfl w.heap.size 0 _ rfl rfl 92 _ hc0 ?h1 ?h2 ?h3 ?_)
    case h1 => simp
    case h2 => rw [infoST]; simp
    case h3 => exact ⟨rfl, rfl⟩
    intro w5 b5 o5
    rw [over_all _ _ (by simp)] at b5
    have B5 := Lib.hid b5
    have B5' := Lib.hid (HC1.out.only o5 (by omega))
    have HB5 := Lib.hid (show Below w.heap.size w w5 from HB4.out.trans (o5.below HB4.out.size (fun b hb e => by omega)))
    clear b5 o5 hc0
    have LW2 := Lib.hid (low06_any X2 w5 HXL.out)
    go_wp2_with fail
    refine LW2.out.mono ?_
    rintro e6 w6 ⟨rfl, rfl⟩
    rw [HN2.out]
    clear LW2

    by_cases ke : E2 = 0
    · subst ke
      have b50 := B5.out.cell 0
      have b51 := B5.out.cell 1
      simp only [List.getElem?_toArray, List.getElem?_cons_zero, List.getElem?_cons_succ] at b50 b51
      have hN64 : N2 < 18446744073709551616 := by have := HLT.out; omega
      have CN := Lib.hid (fun w' => count06_any N2 w' hN64)
      have CF := Lib.hid (count_form N2 8 4294967296 (by omega) HLT.out)
      clear hN64
      go_wp2_with fail
      refine (CN.out _).mono ?_
      rintro e7 w7 ⟨rfl, a7⟩
      have b70 := B5.out.below a7 (by have := B5.out.lt; omega)
      have b71 := B5'.out.below a7 (by have := B5'.out.lt; omega)
      have hb7 := HB5.out.trans (a7.mono HB5.out.size)
      have HB7 := Lib.hid hb7
      have R0 := Lib.hid b70
      have R1 := Lib.hid b71
      clear hb7 a7 CN b50 b51
      have b60 := b71.cell 0
      have b61 := b71.cell 1
      have hf0 := b71.frozen 0
      have hf1 := b71.frozen 1
      simp only [List.getElem?_toArray, List.getElem?_cons_zero, List.getElem?_cons_succ] at b60 b61
      clear b70 b71
      by_cases hlt : N2 < 4294967296
      · have q : rcountS l c most = (0, [], 70) := by rw [rcountS, HH.out, cEnd, if_neg (by simp), if_pos hlt]; rfl
        have Q := Lib.hid q
        have t1 : (((countB N2).length : Int) != 9) = true := by have := CF.out; simp; omega
        have t2 : (((countB N2).length : Int) == 9) = false := by have := CF.out; simp; omega
        clear hlt q
        go_wp2
        all_goals refine bodyPost_ret (v := .tuple #[.int .u64 (0 : Nat), .agg #[.string (bstr ([])), .int .i64 (70)]]) (by simp [results, Try.results51, go_sem, b60, b61, hf0, hf1]; rfl) rfl ⟨by rw [Q.out], ?_⟩
        all_goals repeat (first | exact HB7.out | refine Below.drew ?_ | refine Below.setCell ?_ (Nat.le_succ _) _)
      · have HFF := Lib.hid hlt
        have t1 : (((countB N2).length : Int) != 9) = false := by have := CF.out; simp; omega
        have t2 : (((countB N2).length : Int) == 9) = true := by have := CF.out; simp; omega
        clear hlt
        go_wp2_with fail
        go_meet
        exact ⟨N2, 4294967296, L2, 0, rfl, HH, fun _ => HFF.out, HK2, R0.out, R1.out, HB7⟩
    · have dE : (E2 == 0) = false := by simpa using ke
      have KE := Lib.hid ke
      have b50 := B5.out.cell 0
      have b51 := B5.out.cell 1
      simp only [List.getElem?_toArray, List.getElem?_cons_zero, List.getElem?_cons_succ] at b50 b51
      clear ke
      go_wp2_with fail
      go_meet
      exact ⟨N2, 4294967296, L2, E2, rfl, HH, fun h => absurd h KE.out, HK2, B5.out, B5'.out, HB5⟩
  case rest =>
    obtain ⟨N, least, l2, e2, rfl, HH, HF, HK, b0, b1, HB3⟩ := hcut
    have c0 := b0.cell 0
    have c1 := b0.cell 1
    have d0 := b1.cell 0
    have d1 := b1.cell 1
    have f0 := b1.frozen 0
    have f1 := b1.frozen 1
    simp only [List.getElem?_toArray, List.getElem?_cons_zero, List.getElem?_cons_succ] at c0 c1 d0 d1
    have HB0 := Lib.hid b0
    have HB1 := Lib.hid b1
    clear b0 b1
    by_cases k1 : e2 = 0
    · subst k1
      have hf := HF.out rfl
      by_cases k3 : most < N
      · have q : rcountS l c most = (0, [], 2) := by rw [rcountS, HH.out, cEnd, if_neg (by simp), if_neg hf, if_pos k3]; rfl
        have d3 : decide (most < N) = true := by simpa using k3
        have Q := Lib.hid q
        clear q k3 hf
        go_wp2
        all_goals refine bodyPost_ret (v := .tuple #[.int .u64 (0 : Nat), .agg #[.string (bstr ([])), .int .i64 (2)]]) (by simp [results, Try.results51, go_sem, c0, c1, d0, d1, f0, f1]; rfl) rfl ⟨by rw [Q.out], ?_⟩
        all_goals repeat (first | exact HB3.out | refine Below.drew ?_ | refine Below.setCell ?_ (Nat.le_succ _) _)
      · have q : rcountS l c most = (N, l2, 0) := by rw [rcountS, HH.out, cEnd, if_neg (by simp), if_neg hf, if_neg k3]
        have d3 : decide (most < N) = false := by simpa using k3
        have Q := Lib.hid q
        clear q k3 hf
        go_wp2
        go_region
        all_goals go_wp2
        all_goals refine bodyPost_ret (v := .tuple #[.int .u64 (N : Nat), .agg #[.string (bstr (l2)), .int .i64 (0)]]) (by simp [results, Try.results51, go_sem, c0, c1, d0, d1, f0, f1]) rfl ⟨by rw [Q.out], ?_⟩
        all_goals repeat (first | exact HB3.out | refine Below.drew ?_ | refine Below.setCell ?_ (Nat.le_succ _) _)
    · have hl2 := HK.out k1
      subst hl2
      have q : rcountS l c most = (0, [], e2) := by rw [rcountS, HH.out, cEnd, if_pos k1]
      have dE : (e2 != 0) = true := by simpa using k1
      have Q := Lib.hid q
      clear q k1
      go_wp2
      go_region
      all_goals go_wp2
      all_goals refine bodyPost_ret (v := .tuple #[.int .u64 (0 : Nat), .agg #[.string (bstr ([])), .int .i64 (e2)]]) (by simp [results, Try.results51, go_sem, c0, c1, d0, d1, f0, f1]; rfl) rfl ⟨by rw [Q.out], ?_⟩
      all_goals repeat (first | exact HB3.out | refine Below.drew ?_ | refine Below.setCell ?_ (Nat.le_succ _) _)
set_option linter.unusedSimpArgs false in
set_option maxRecDepth 20000 in
set_option maxHeartbeats 4000000 in
theorem number06_low (l : List UInt8) (c : Int) (most : Nat) (w : World) (hl : l.length < 1000000000000) (hok : okSt l c) (hcase : ¬ numOf (rawO l 1) = 253 ∧ ¬ numOf (rawO l 1) = 254 ∧ ¬ numOf (rawO l 1) = 255) :
    Calls Try.prog 51 #[stV l c, .int .u64 (most : Int)] w fun e w' => e = .returned (.tuple #[.int .u64 ((rcountS l c most).1 : Nat), stV (rcountS l c most).2.1 (rcountS l c most).2.2]) ∧ Below w.heap.size w w' := by
  have HL := Lib.hid hl
  have HCASE := Lib.hid hcase
  have HOK := Lib.hid hok
  have T1 := Lib.hid (fun w' => take06_any l c 1 w' hl)
  unfold stV
  unfold stV at T1
  clear hl hok hcase
  go_enter Try.func51, Try.ntmps51
  go_wp2_with fail
  refine (T1.out _).mono ?_
  rintro e1 w1 ⟨rfl, a1⟩
  have hB : Below w.heap.size w w1 := ((((Below.refl _ _).alloc (Nat.le_refl _) _).alloc (by simp) _)).trans (a1.mono (by simp; omega))
  have hb0 : Blk w1 w.heap.size 92 #[.string (bstr l), .int .i64 c] := ((Blk.new w _ _).alloc _).below a1 (by simp; omega)
  have hb1 : Blk w1 (w.heap.size + 1) 92 #[.string ⟨#[]⟩, .int .i64 0] := by
    have := (Blk.new (w.alloc (.cells #[.string (bstr l), .int .i64 c] 92)) 92 #[.string ⟨#[]⟩, .int .i64 0]).below a1 (by simp)
    simpa using this
  clear a1
  have HB := Lib.hid hB
  have HB1 := Lib.hid hb1
  clear hB hb1
  obtain ⟨X, hX⟩ : ∃ X, rawO l 1 = X := ⟨_, rfl⟩
  obtain ⟨L1, hL1⟩ : ∃ X, rawL l 1 = X := ⟨_, rfl⟩
  obtain ⟨E1, hE1⟩ : ∃ X, rawE l c 1 = X := ⟨_, rfl⟩
  rw [hX, hL1, hE1]
  have HX := Lib.hid hX
  have HL1 := Lib.hid hL1
  have HE1 := Lib.hid hE1
  clear hX hL1 hE1
  go_wp2_with (with_reducible refine wpList_stb rfl 92 (.tmp 2) (.tmp 13) rfl w.heap.size 0 _ rfl rfl 92 _ hb0 ?h1 ?h2 ?h3 ?_)
  case h1 => simp
  case h2 => rw [infoST]; simp
  case h3 => exact ⟨rfl, rfl⟩
  intro w2 b2 o2
  rw [over_all _ _ (by simp)] at b2
  have B2 := Lib.hid b2
  have B2' := Lib.hid (HB1.out.only o2 (by omega))
  have B3 := Lib.hid (show Below w.heap.size w w2 from HB.out.trans (o2.below HB.out.size (fun b hb e => by omega)))
  clear b2 o2 hb0
  have hXl : X.length < 1000000000000 := by rw [← HX.out]; have := rawO_len l 1; have := HL.out; omega
  have LW := Lib.hid (low06_any X w2 hXl)
  clear hXl
  go_wp2_with fail
  refine LW.out.mono ?_
  rintro e3 w3 ⟨rfl, rfl⟩
  obtain ⟨N1, hN1⟩ : ∃ N1, numOf X = N1 := ⟨_, rfl⟩
  rw [hN1]
  have HN1 := Lib.hid hN1
  clear hN1 LW
  go_upto_if 17 with fail
  go_cut [6, 7, 8] (fun v6 v7 v8 wc => ∃ (N least : Nat) (l2 : List UInt8) (e2 : Int), v7 = .int .u64 (N : Int) ∧ Hid (cHead l c = (N, least, l2, e2)) ∧ Hid (e2 = 0 → ¬ N < least) ∧ Hid (okSt l2 e2) ∧ Blk wc w.heap.size 92 #[.string (bstr l2), .int .i64 e2] ∧ Blk wc (w.heap.size + 1) 92 #[.string ⟨#[]⟩, .int .i64 0] ∧ Hid (Below w.heap.size w wc))
  case first =>
    obtain ⟨k1, k2, k3⟩ : ¬ N1 = 253 ∧ ¬ N1 = 254 ∧ ¬ N1 = 255 := by rw [← HN1.out, ← HX.out]; exact HCASE.out
    have HN253 := Lib.hid (show ¬ N1 = 253 ∧ ¬ N1 = 254 ∧ ¬ N1 = 255 from ⟨k1, k2, k3⟩)
    have hlt0 : N1 < 256 ^ 1 := by rw [← HN1.out, ← HX.out]; exact rawO_take_lt l 1 (by omega)
    have hh : cHead l c = (N1, 0, L1, E1) := by rw [← HL1.out, ← HE1.out, cHead, HX.out, HN1.out, if_neg k1, if_neg k2, if_neg k3]
    have HH := Lib.hid hh
    have hok1 : okSt L1 E1 := by rw [← HL1.out, ← HE1.out]; exact HOK.out.raw 1
    have HK2 := Lib.hid hok1
    have hlt2 : N1 < 253 := by omega
    have d1 : ((N1 : Int) == 254) = false := by simp; omega
    have d2 : ((N1 : Int) == 255) = false := by simp; omega
    have dn : ¬ ((253 : Int) ≤ (N1 : Int)) := by omega
    clear hh hok1 hlt0 k1 k2 k3 hlt2
    go_wp2_with fail
    go_meet
    exact ⟨N1, 0, L1, E1, rfl, HH, fun _ => Nat.not_lt_zero _, HK2, B2.out, B2'.out, B3⟩
  case rest =>
    obtain ⟨N, least, l2, e2, rfl, HH, HF, HK, b0, b1, HB3⟩ := hcut
    have c0 := b0.cell 0
    have c1 := b0.cell 1
    have d0 := b1.cell 0
    have d1 := b1.cell 1
    have f0 := b1.frozen 0
    have f1 := b1.frozen 1
    simp only [List.getElem?_toArray, List.getElem?_cons_zero, List.getElem?_cons_succ] at c0 c1 d0 d1
    have HB0 := Lib.hid b0
    have HB1 := Lib.hid b1
    clear b0 b1
    by_cases k1 : e2 = 0
    · subst k1
      have hf := HF.out rfl
      by_cases k3 : most < N
      · have q : rcountS l c most = (0, [], 2) := by rw [rcountS, HH.out, cEnd, if_neg (by simp), if_neg hf, if_pos k3]; rfl
        have d3 : decide (most < N) = true := by simpa using k3
        have Q := Lib.hid q
        clear q k3 hf
        go_wp2
        all_goals refine bodyPost_ret (v := .tuple #[.int .u64 (0 : Nat), .agg #[.string (bstr ([])), .int .i64 (2)]]) (by simp [results, Try.results51, go_sem, c0, c1, d0, d1, f0, f1]; rfl) rfl ⟨by rw [Q.out], ?_⟩
        all_goals repeat (first | exact HB3.out | refine Below.drew ?_ | refine Below.setCell ?_ (Nat.le_succ _) _)
      · have q : rcountS l c most = (N, l2, 0) := by rw [rcountS, HH.out, cEnd, if_neg (by simp), if_neg hf, if_neg k3]
        have d3 : decide (most < N) = false := by simpa using k3
        have Q := Lib.hid q
        clear q k3 hf
        go_wp2
        go_region
        all_goals go_wp2
        all_goals refine bodyPost_ret (v := .tuple #[.int .u64 (N : Nat), .agg #[.string (bstr (l2)), .int .i64 (0)]]) (by simp [results, Try.results51, go_sem, c0, c1, d0, d1, f0, f1]) rfl ⟨by rw [Q.out], ?_⟩
        all_goals repeat (first | exact HB3.out | refine Below.drew ?_ | refine Below.setCell ?_ (Nat.le_succ _) _)
    · have hl2 := HK.out k1
      subst hl2
      have q : rcountS l c most = (0, [], e2) := by rw [rcountS, HH.out, cEnd, if_pos k1]
      have dE : (e2 != 0) = true := by simpa using k1
      have Q := Lib.hid q
      clear q k1
      go_wp2
      go_region
      all_goals go_wp2
      all_goals refine bodyPost_ret (v := .tuple #[.int .u64 (0 : Nat), .agg #[.string (bstr ([])), .int .i64 (e2)]]) (by simp [results, Try.results51, go_sem, c0, c1, d0, d1, f0, f1]; rfl) rfl ⟨by rw [Q.out], ?_⟩
      all_goals repeat (first | exact HB3.out | refine Below.drew ?_ | refine Below.setCell ?_ (Nat.le_succ _) _)
theorem number06_any (l : List UInt8) (c : Int) (most : Nat) (w : World) (hl : l.length < 1000000000000) (hok : okSt l c) :
    Calls Try.prog 51 #[stV l c, .int .u64 (most : Int)] w fun e w' => e = .returned (.tuple #[.int .u64 ((rcountS l c most).1 : Nat), stV (rcountS l c most).2.1 (rcountS l c most).2.2]) ∧ Below w.heap.size w w' := by
  by_cases h1 : numOf (rawO l 1) = 253
  · exact number06_253 l c most w hl hok h1
  · by_cases h2 : numOf (rawO l 1) = 254
    · exact number06_254 l c most w hl hok h2
    · by_cases h3 : numOf (rawO l 1) = 255
      · exact number06_255 l c most w hl hok h3
      · exact number06_low l c most w hl hok ⟨h1, h2, h3⟩
end Go.Proofs.Ytpcombaecbjmfaa
