/- the document's layer 7: next, end, Reads, ReadsBlock. -/
import Derived.Test.YtpcombaecbjmfaaRp
import Derived.Test.YtpcombaecbjmfaaRt
import Derived.Test.YtpcombaecbjmfaaHc
import Derived.Test.YtpcombaecbjmfaaShw
namespace Go.Proofs.Ytpcombaecbjmfaa
open Go.RowKit
set_option maxRecDepth 20000 in
set_option maxHeartbeats 4000000 in
theorem end07_any (s : RS) (w : World) :
    Calls Try.prog 42 #[stV s.1 s.2] w fun e w' => e = .returned (.int .i64 (endS s.1 s.2)) ∧ Below w.heap.size w w' := by
  obtain ⟨l, c⟩ := s
  unfold stV
  by_cases hc : c = 0
  · subst hc
    by_cases hl : l = []
    · subst hl
      go_enter Try.func42, Try.ntmps42
      go_wp2
      go_ret
      exact ⟨rfl, (Below.refl _ _).alloc (Nat.le_refl _) _⟩
    · have h1 : (bstr l != ⟨#[]⟩) = true := str_ne_empty l hl
      have h2 : (l == []) = false := by simpa using hl
      have h3 : l.isEmpty = false := by simpa using hl
      have hE : endS l 0 = 70 := by unfold endS; rw [if_pos ⟨rfl, hl⟩]
      rw [hE]
      clear hE
      go_enter Try.func42, Try.ntmps42
      go_wp2
      go_ret
      exact ⟨rfl, (Below.refl _ _).alloc (Nat.le_refl _) _⟩
  · have h1 : (c == 0) = false := by simpa using hc
    have hE : endS l c = c := by unfold endS; rw [if_neg (fun h => hc h.1)]
    rw [hE]
    clear hE hc
    go_enter Try.func42, Try.ntmps42
    go_wp2
    go_ret
    exact ⟨rfl, (Below.refl _ _).alloc (Nat.le_refl _) _⟩
theorem take07 (s : RS) (n : Int) (w : World) (hl : s.1.length < 1000000000000) :
    Calls Try.prog 50 #[stV s.1 s.2, .int .i64 n] w fun e w' => e = .returned (.tuple #[.string (bstr (rawO s.1 n)), stV (tk n s).1 (tk n s).2]) ∧ Below w.heap.size w w' := take06_any s.1 s.2 n w hl
theorem count07 (s : RS) (most : Nat) (w : World) (hl : s.1.length < 1000000000000) (hok : OkR s) :
    Calls Try.prog 51 #[stV s.1 s.2, .int .u64 (most : Int)] w fun e w' => e = .returned (.tuple #[.int .u64 ((cnt most s).1 : Nat), stV (cnt most s).2.1 (cnt most s).2.2]) ∧ Below w.heap.size w w' := number06_any s.1 s.2 most w hl hok
/-- a state that is read on: fit for what follows -/
structure Fit07 (s : RS) : Prop where
  ok : OkR s
  len : s.1.length < 1000000000000
theorem fit07_tk {s : RS} (h : Fit07 s) (n : Int) : Fit07 (tk n s) := ⟨okR_tk h.ok n, Nat.lt_of_le_of_lt (tk_len n s) h.len⟩
theorem fit07_cnt {s : RS} (h : Fit07 s) (n : Nat) : Fit07 (cnt n s).2 := ⟨okR_cnt h.ok n, Nat.lt_of_le_of_lt (cnt_len n s) h.len⟩
set_option maxRecDepth 20000 in
set_option maxHeartbeats 4000000 in
theorem next07_any (s : RS) (w : World) (hs : Fit07 s) :
    Calls Try.prog 43 #[stV s.1 s.2] w fun e w' => e = .returned (stV (txR s).2.1 (txR s).2.2) ∧ Below w.heap.size w w' := by
  have HF := Lib.hid hs
  clear hs
  rw [show stV s.1 s.2 = .agg #[.string (bstr s.1), .int .i64 s.2] from rfl]
  go_enter Try.func43, Try.ntmps43
  go_wp2_with fail
  generalize hW : World.alloc (World.alloc w _) _ = W
  have hb : Blk W w.heap.size 92 #[.string (bstr s.1), .int .i64 s.2] := by rw [← hW]; exact (Blk.new _ _ _).alloc _
  have hz : Blk W (w.heap.size + 1) 92 [.string ⟨#[]⟩, .int .i64 0].toArray := by rw [← hW]; exact Blk.newS w _ _ _
  have hbl : Below w.heap.size w W := by rw [← hW]; exact ((Below.refl _ _).alloc (Nat.le_refl _) _).alloc (by simp) _
  clear hW
  obtain ⟨q, hq⟩ : ∃ q, w.heap.size = q := ⟨_, rfl⟩
  rw [hq] at hb hz ⊢
  have HQ := Lib.hid hq
  have HB := Lib.hid hb
  have HZ := Lib.hid hz
  have HBL := Lib.hid hbl
  clear hq hb hz hbl
  -- so many bytes, the number: from a state to the next one
  have c0 := HB.out.cell 0
  have c1 := HB.out.cell 1
  simp only [List.getElem?_toArray, List.getElem?_cons_zero, List.getElem?_cons_succ] at c0 c1
  obtain ⟨n0, hk⟩ : ∃ k, (cnt 32 s).1 = k := ⟨_, rfl⟩
  obtain ⟨s0, ht⟩ : ∃ t, (cnt 32 s).2 = t := ⟨_, rfl⟩
  have TK := count07 s 32 W HF.out.len HF.out.ok
  have Fs0 := fit07_cnt HF.out 32
  have hle := cnt_le 32 s
  rw [hk] at TK hle
  rw [ht] at TK Fs0
  replace TK := Lib.hid TK
  replace Fs0 := Lib.hid Fs0
  have Es0 := Lib.hid (show cnt 32 s = (n0, s0) by rw [← hk, ← ht])
  clear hk ht
  go_wp2_with fail
  refine TK.out.mono ?_
  rintro e1 w1 ⟨rfl, a1⟩
  rw [show stV s0.1 s0.2 = .agg #[.string (bstr s0.1), .int .i64 s0.2] from rfl]
  replace HB := Lib.hid (HB.out.below a1 HB.out.lt)
  replace HZ := Lib.hid (HZ.out.below a1 HZ.out.lt)
  replace HBL := Lib.hid (HBL.out.trans (a1.mono HBL.out.size))
  clear a1 TK
  try clear c0 c1
  go_wp2_with (with_reducible refine wpList_stb rfl 92 (.tmp 1) (.tmp 12) rfl q 0 _ rfl rfl 92 [.string (bstr s.1), .int .i64 s.2] HB.out ?h1 ?h2 ?h3 ?_)
  case h1 => simp
  case h2 => rw [infoST]; rfl
  case h3 => exact ⟨rfl, rfl⟩
  intro w2 b2 o2
  rw [over_all _ _ (by simp)] at b2
  replace HB := Lib.hid (show Blk w2 q 92 #[.string (bstr s0.1), .int .i64 s0.2] from b2)
  replace HZ := Lib.hid (HZ.out.only o2 (by omega))
  replace HBL := Lib.hid (HBL.out.trans (o2.below HBL.out.size (fun b hb e => by have := HQ.out; omega)))
  clear b2 o2
  have hn0 : IntKind.i64.wrap (n0 : Int) = (n0 : Int) := w64 _ (by omega)
  have HN0 := Lib.hid hn0
  go_wp2_with fail
  clear hn0
  go_loopg [4] n0 (fun k v4 wr => ∃ (i : Nat) (si : RS), i + k = n0 ∧ v4 = .int .i64 (i : Int) ∧ Hid ((many inR i s0).2 = si) ∧ Hid (Fit07 si) ∧ Hid (Blk wr q 92 #[.string (bstr si.1), .int .i64 si.2]) ∧ Hid (Blk wr (q + 1) 92 [.string ⟨#[]⟩, .int .i64 0].toArray) ∧ Hid (Below w.heap.size w wr))
  case atStart => exact ⟨0, s0, by omega, rfl, rfl, Fs0.out, HB.out, HZ.out, HBL.out⟩
  case round =>
    clear HB HZ HBL
    obtain ⟨i, si, hik, rfl, HSI, FI, HB, HZ, HBL⟩ := hrel
    have hn0 : IntKind.i64.wrap (n0 : Int) = (n0 : Int) := HN0.out
    by_cases hlt : i < n0
    · have d2 : decide (i < n0) = true := by simpa using hlt
      have c0 := HB.out.cell 0
      have c1 := HB.out.cell 1
      simp only [List.getElem?_toArray, List.getElem?_cons_zero, List.getElem?_cons_succ] at c0 c1
      obtain ⟨t1, ht⟩ : ∃ t, tk 32 si = t := ⟨_, rfl⟩
      have TK := take07 si 32 wr FI.out.len
      have Ft1 := fit07_tk FI.out 32
      rw [ht] at TK Ft1
      replace TK := Lib.hid TK
      replace Ft1 := Lib.hid Ft1
      have Et1 := Lib.hid ht
      clear ht
      go_wp2_with fail
      refine TK.out.mono ?_
      rintro e1 w3 ⟨rfl, a1⟩
      rw [show stV t1.1 t1.2 = .agg #[.string (bstr t1.1), .int .i64 t1.2] from rfl]
      replace HB := Lib.hid (HB.out.below a1 HB.out.lt)
      replace HZ := Lib.hid (HZ.out.below a1 HZ.out.lt)
      replace HBL := Lib.hid (HBL.out.trans (a1.mono HBL.out.size))
      clear a1 TK
      try clear c0 c1
      go_wp2_with (with_reducible refine wpList_stb rfl 92 (.tmp 1) (.tmp 23) rfl q 0 _ rfl rfl 92 [.string (bstr si.1), .int .i64 si.2] HB.out ?h1 ?h2 ?h3 ?_)
      case h1 => simp
      case h2 => rw [infoST]; rfl
      case h3 => exact ⟨rfl, rfl⟩
      intro w4 b2 o2
      rw [over_all _ _ (by simp)] at b2
      replace HB := Lib.hid (show Blk w4 q 92 #[.string (bstr t1.1), .int .i64 t1.2] from b2)
      replace HZ := Lib.hid (HZ.out.only o2 (by omega))
      replace HBL := Lib.hid (HBL.out.trans (o2.below HBL.out.size (fun b hb e => by have := HQ.out; omega)))
      clear b2 o2
      have c0 := HB.out.cell 0
      have c1 := HB.out.cell 1
      simp only [List.getElem?_toArray, List.getElem?_cons_zero, List.getElem?_cons_succ] at c0 c1
      obtain ⟨t2, ht⟩ : ∃ t, tk 4 t1 = t := ⟨_, rfl⟩
      have TK := take07 t1 4 w4 Ft1.out.len
      have Ft2 := fit07_tk Ft1.out 4
      rw [ht] at TK Ft2
      replace TK := Lib.hid TK
      replace Ft2 := Lib.hid Ft2
      have Et2 := Lib.hid ht
      clear ht
      go_wp2_with fail
      refine TK.out.mono ?_
      rintro e1 w5 ⟨rfl, a1⟩
      rw [show stV t2.1 t2.2 = .agg #[.string (bstr t2.1), .int .i64 t2.2] from rfl]
      replace HB := Lib.hid (HB.out.below a1 HB.out.lt)
      replace HZ := Lib.hid (HZ.out.below a1 HZ.out.lt)
      replace HBL := Lib.hid (HBL.out.trans (a1.mono HBL.out.size))
      clear a1 TK
      try clear c0 c1
      go_wp2_with (with_reducible refine wpList_stb rfl 92 (.tmp 1) (.tmp 28) rfl q 0 _ rfl rfl 92 [.string (bstr t1.1), .int .i64 t1.2] HB.out ?h1 ?h2 ?h3 ?_)
      case h1 => simp
      case h2 => rw [infoST]; rfl
      case h3 => exact ⟨rfl, rfl⟩
      intro w6 b2 o2
      rw [over_all _ _ (by simp)] at b2
      replace HB := Lib.hid (show Blk w6 q 92 #[.string (bstr t2.1), .int .i64 t2.2] from b2)
      replace HZ := Lib.hid (HZ.out.only o2 (by omega))
      replace HBL := Lib.hid (HBL.out.trans (o2.below HBL.out.size (fun b hb e => by have := HQ.out; omega)))
      clear b2 o2
      have c0 := HB.out.cell 0
      have c1 := HB.out.cell 1
      simp only [List.getElem?_toArray, List.getElem?_cons_zero, List.getElem?_cons_succ] at c0 c1
      obtain ⟨kk, hk⟩ : ∃ k, (cnt 100 t2).1 = k := ⟨_, rfl⟩
      obtain ⟨t3, ht⟩ : ∃ t, (cnt 100 t2).2 = t := ⟨_, rfl⟩
      have TK := count07 t2 100 w6 Ft2.out.len Ft2.out.ok
      have Ft3 := fit07_cnt Ft2.out 100
      have hle := cnt_le 100 t2
      rw [hk] at TK hle
      rw [ht] at TK Ft3
      replace TK := Lib.hid TK
      replace Ft3 := Lib.hid Ft3
      have Et3 := Lib.hid (show cnt 100 t2 = (kk, t3) by rw [← hk, ← ht])
      clear hk ht
      go_wp2_with fail
      refine TK.out.mono ?_
      rintro e1 w7 ⟨rfl, a1⟩
      rw [show stV t3.1 t3.2 = .agg #[.string (bstr t3.1), .int .i64 t3.2] from rfl]
      replace HB := Lib.hid (HB.out.below a1 HB.out.lt)
      replace HZ := Lib.hid (HZ.out.below a1 HZ.out.lt)
      replace HBL := Lib.hid (HBL.out.trans (a1.mono HBL.out.size))
      clear a1 TK
      try clear c0 c1
      go_wp2_with (with_reducible refine wpList_stb rfl 92 (.tmp 6) (.tmp 33) rfl w7.heap.size 0 _ rfl rfl 92 _ (Blk.new w7 _ _) ?h1 ?h2 ?h3 ?_)
      case h1 => simp
      case h2 => rw [infoST]; rfl
      case h3 => exact ⟨rfl, rfl⟩
      intro w8 b8 o8
      rw [over_all _ _ (by simp)] at b8
      have hO8 : Below w7.heap.size w7 w8 := (((Only.refl (fun b => w7.heap.size ≤ b) w7).alloc _).trans o8 (fun b _ e => by omega)).below (Nat.le_refl _) (fun b hb h => by omega)
      replace HB := Lib.hid (HB.out.below hO8 HB.out.lt)
      replace HZ := Lib.hid (HZ.out.below hO8 HZ.out.lt)
      replace HBL := Lib.hid (HBL.out.trans (hO8.mono HBL.out.size))
      have q0 := b8.cell 0
      have q1 := b8.cell 1
      simp only [List.getElem?_toArray, List.getElem?_cons_zero, List.getElem?_cons_succ] at q0 q1
      clear b8 o8 hO8
      generalize w7.heap.size = p at q0 q1 ⊢
      have hk0 : IntKind.i64.wrap (kk : Int) = (kk : Int) := w64 _ (by omega)
      obtain ⟨t4, ht⟩ : ∃ t, tk (kk : Int) t3 = t := ⟨_, rfl⟩
      have TK := take07 t3 (kk : Int) w8 Ft3.out.len
      have Ft4 := fit07_tk Ft3.out (kk : Int)
      rw [ht] at TK Ft4
      replace TK := Lib.hid TK
      replace Ft4 := Lib.hid Ft4
      have Et4 := Lib.hid ht
      clear ht
      go_wp2_with fail
      refine TK.out.mono ?_
      rintro e1 w9 ⟨rfl, a1⟩
      rw [show stV t4.1 t4.2 = .agg #[.string (bstr t4.1), .int .i64 t4.2] from rfl]
      replace HB := Lib.hid (HB.out.below a1 HB.out.lt)
      replace HZ := Lib.hid (HZ.out.below a1 HZ.out.lt)
      replace HBL := Lib.hid (HBL.out.trans (a1.mono HBL.out.size))
      clear a1 TK
      try clear c0 c1
      go_wp2_with (with_reducible refine wpList_stb rfl 92 (.tmp 1) (.tmp 40) rfl q 0 _ rfl rfl 92 [.string (bstr t2.1), .int .i64 t2.2] HB.out ?h1 ?h2 ?h3 ?_)
      case h1 => simp
      case h2 => rw [infoST]; rfl
      case h3 => exact ⟨rfl, rfl⟩
      intro w10 b2 o2
      rw [over_all _ _ (by simp)] at b2
      replace HB := Lib.hid (show Blk w10 q 92 #[.string (bstr t4.1), .int .i64 t4.2] from b2)
      replace HZ := Lib.hid (HZ.out.only o2 (by omega))
      replace HBL := Lib.hid (HBL.out.trans (o2.below HBL.out.size (fun b hb e => by have := HQ.out; omega)))
      clear b2 o2
      clear q0 q1 hk0
      have hstep : (many inR (i + 1) s0).2 = t4 := by
        rw [show (many inR (i + 1) s0).2 = (inR (many inR i s0).2).2 from rfl, HSI.out, inR_2, Et1.out, Et2.out, Et3.out]
        exact Et4.out
      have HST := Lib.hid hstep
      clear hstep
      go_wp2
      go_roundg (n0 - (i + 1))
      case measure => omega
      case rel => exact ⟨i + 1, t4, by omega, by first | rfl | (rw [IntWalk.wrap64_in _ (by omega)]; rfl), HST.out, Ft4.out, HB.out, HZ.out, HBL.out⟩
    · have d2 : decide (i < n0) = false := by simpa using hlt
      obtain rfl : n0 = i := by omega
      clear hlt hik
      have hI : txI s = ((many inR n0 s0).1, si) := by
        unfold txI
        rw [Es0.out, ← HSI.out]
      have HII := Lib.hid hI
      clear hI hn0 d2
      have c0 := HB.out.cell 0
      have c1 := HB.out.cell 1
      simp only [List.getElem?_toArray, List.getElem?_cons_zero, List.getElem?_cons_succ] at c0 c1
      obtain ⟨m0, hk⟩ : ∃ k, (cnt 32 si).1 = k := ⟨_, rfl⟩
      obtain ⟨u0, ht⟩ : ∃ t, (cnt 32 si).2 = t := ⟨_, rfl⟩
      have TK := count07 si 32 wr FI.out.len FI.out.ok
      have Fu0 := fit07_cnt FI.out 32
      have hle := cnt_le 32 si
      rw [hk] at TK hle
      rw [ht] at TK Fu0
      replace TK := Lib.hid TK
      replace Fu0 := Lib.hid Fu0
      have Eu0 := Lib.hid (show cnt 32 si = (m0, u0) by rw [← hk, ← ht])
      clear hk ht
      go_wp2_with fail
      refine TK.out.mono ?_
      rintro e1 w3 ⟨rfl, a1⟩
      rw [show stV u0.1 u0.2 = .agg #[.string (bstr u0.1), .int .i64 u0.2] from rfl]
      replace HB := Lib.hid (HB.out.below a1 HB.out.lt)
      replace HZ := Lib.hid (HZ.out.below a1 HZ.out.lt)
      replace HBL := Lib.hid (HBL.out.trans (a1.mono HBL.out.size))
      clear a1 TK
      try clear c0 c1
      go_wp2_with (with_reducible refine wpList_stb rfl 92 (.tmp 1) (.tmp 45) rfl q 0 _ rfl rfl 92 [.string (bstr si.1), .int .i64 si.2] HB.out ?h1 ?h2 ?h3 ?_)
      case h1 => simp
      case h2 => rw [infoST]; rfl
      case h3 => exact ⟨rfl, rfl⟩
      intro w4 b2 o2
      rw [over_all _ _ (by simp)] at b2
      replace HB := Lib.hid (show Blk w4 q 92 #[.string (bstr u0.1), .int .i64 u0.2] from b2)
      replace HZ := Lib.hid (HZ.out.only o2 (by omega))
      replace HBL := Lib.hid (HBL.out.trans (o2.below HBL.out.size (fun b hb e => by have := HQ.out; omega)))
      clear b2 o2
      have hm0 : IntKind.i64.wrap (m0 : Int) = (m0 : Int) := w64 _ (by omega)
      have HM0 := Lib.hid hm0
      go_wp2_with fail
      clear hm0
      go_loopg [7] m0 (fun k v7 wr => ∃ (i : Nat) (si : RS), i + k = m0 ∧ v7 = .int .i64 (i : Int) ∧ Hid ((many outR i u0).2 = si) ∧ Hid (Fit07 si) ∧ Hid (Blk wr q 92 #[.string (bstr si.1), .int .i64 si.2]) ∧ Hid (Blk wr (q + 1) 92 [.string ⟨#[]⟩, .int .i64 0].toArray) ∧ Hid (Below w.heap.size w wr))
      case atStart => exact ⟨0, u0, by omega, rfl, rfl, Fu0.out, HB.out, HZ.out, HBL.out⟩
      case round =>
        clear HB HZ HBL
        obtain ⟨j, sj, hik, rfl, HSJ, FJ, HB, HZ, HBL⟩ := hrel
        have hm0 : IntKind.i64.wrap (m0 : Int) = (m0 : Int) := HM0.out
        by_cases hlt : j < m0
        · have d2 : decide (j < m0) = true := by simpa using hlt
          have c0 := HB.out.cell 0
          have c1 := HB.out.cell 1
          simp only [List.getElem?_toArray, List.getElem?_cons_zero, List.getElem?_cons_succ] at c0 c1
          obtain ⟨t1, ht⟩ : ∃ t, tk 8 sj = t := ⟨_, rfl⟩
          have TK := take07 sj 8 wr FJ.out.len
          have Ft1 := fit07_tk FJ.out 8
          rw [ht] at TK Ft1
          replace TK := Lib.hid TK
          replace Ft1 := Lib.hid Ft1
          have Et1 := Lib.hid ht
          clear ht
          go_wp2_with fail
          refine TK.out.mono ?_
          rintro e1 w5 ⟨rfl, a1⟩
          rw [show stV t1.1 t1.2 = .agg #[.string (bstr t1.1), .int .i64 t1.2] from rfl]
          replace HB := Lib.hid (HB.out.below a1 HB.out.lt)
          replace HZ := Lib.hid (HZ.out.below a1 HZ.out.lt)
          replace HBL := Lib.hid (HBL.out.trans (a1.mono HBL.out.size))
          clear a1 TK
          try clear c0 c1
          go_wp2_with (with_reducible refine wpList_stb rfl 92 (.tmp 1) (.tmp 56) rfl q 0 _ rfl rfl 92 [.string (bstr sj.1), .int .i64 sj.2] HB.out ?h1 ?h2 ?h3 ?_)
          case h1 => simp
          case h2 => rw [infoST]; rfl
          case h3 => exact ⟨rfl, rfl⟩
          intro w6 b2 o2
          rw [over_all _ _ (by simp)] at b2
          replace HB := Lib.hid (show Blk w6 q 92 #[.string (bstr t1.1), .int .i64 t1.2] from b2)
          replace HZ := Lib.hid (HZ.out.only o2 (by omega))
          replace HBL := Lib.hid (HBL.out.trans (o2.below HBL.out.size (fun b hb e => by have := HQ.out; omega)))
          clear b2 o2
          have c0 := HB.out.cell 0
          have c1 := HB.out.cell 1
          simp only [List.getElem?_toArray, List.getElem?_cons_zero, List.getElem?_cons_succ] at c0 c1
          obtain ⟨t2, ht⟩ : ∃ t, tk 32 t1 = t := ⟨_, rfl⟩
          have TK := take07 t1 32 w6 Ft1.out.len
          have Ft2 := fit07_tk Ft1.out 32
          rw [ht] at TK Ft2
          replace TK := Lib.hid TK
          replace Ft2 := Lib.hid Ft2
          have Et2 := Lib.hid ht
          clear ht
          go_wp2_with fail
          refine TK.out.mono ?_
          rintro e1 w7 ⟨rfl, a1⟩
          rw [show stV t2.1 t2.2 = .agg #[.string (bstr t2.1), .int .i64 t2.2] from rfl]
          replace HB := Lib.hid (HB.out.below a1 HB.out.lt)
          replace HZ := Lib.hid (HZ.out.below a1 HZ.out.lt)
          replace HBL := Lib.hid (HBL.out.trans (a1.mono HBL.out.size))
          clear a1 TK
          try clear c0 c1
          go_wp2_with (with_reducible refine wpList_stb rfl 92 (.tmp 1) (.tmp 61) rfl q 0 _ rfl rfl 92 [.string (bstr t1.1), .int .i64 t1.2] HB.out ?h1 ?h2 ?h3 ?_)
          case h1 => simp
          case h2 => rw [infoST]; rfl
          case h3 => exact ⟨rfl, rfl⟩
          intro w8 b2 o2
          rw [over_all _ _ (by simp)] at b2
          replace HB := Lib.hid (show Blk w8 q 92 #[.string (bstr t2.1), .int .i64 t2.2] from b2)
          replace HZ := Lib.hid (HZ.out.only o2 (by omega))
          replace HBL := Lib.hid (HBL.out.trans (o2.below HBL.out.size (fun b hb e => by have := HQ.out; omega)))
          clear b2 o2
          have hstep : (many outR (j + 1) u0).2 = t2 := by
            rw [show (many outR (j + 1) u0).2 = (outR (many outR j u0).2).2 from rfl, HSJ.out, show (outR sj).2 = tk 32 (tk 8 sj) from rfl, Et1.out]
            exact Et2.out
          have HST := Lib.hid hstep
          clear hstep
          go_wp2
          go_roundg (m0 - (j + 1))
          case measure => omega
          case rel => exact ⟨j + 1, t2, by omega, by first | rfl | (rw [IntWalk.wrap64_in _ (by omega)]; rfl), HST.out, Ft2.out, HB.out, HZ.out, HBL.out⟩
        · have d2 : decide (j < m0) = false := by simpa using hlt
          obtain rfl : m0 = j := by omega
          clear hlt hik
          have hO : (txR s).2 = sj := by
            rw [txR_2]
            unfold txO
            rw [HII.out]
            simp only [Eu0.out]
            exact HSJ.out
          have HOO := Lib.hid hO
          clear hO
          have c0 := HB.out.cell 0
          have c1 := HB.out.cell 1
          simp only [List.getElem?_toArray, List.getElem?_cons_zero, List.getElem?_cons_succ] at c0 c1
          go_wp2_with (with_reducible refine wpList_stb rfl 92 (.tmp 2) (.tmp 62) rfl (q + 1) 0 _ rfl rfl 92 [.string ⟨#[]⟩, .int .i64 0] HZ.out ?h1 ?h2 ?h3 ?_)
          case h1 => simp
          case h2 => rw [infoST]; rfl
          case h3 => exact ⟨rfl, rfl⟩
          intro w9 b9 o9
          rw [over_all _ _ (by simp)] at b9
          have HB9 := Lib.hid b9
          have O9 := Lib.hid o9
          clear b9 o9
          go_wp2
          refine bodyPost_ret (results_cell_row rfl _ _ (q + 1) 92 (#[.string (bstr sj.1), .int .i64 sj.2] : Array Value) (0, 0) _ rfl HB9.out Try.underlying92 rfl (by rw [infoST]; rfl)) rfl ?_
          exact ⟨by rw [HOO.out]; rfl, HBL.out.trans (O9.out.below HBL.out.size (fun b hb e => by have := HQ.out; omega))⟩
set_option maxRecDepth 20000 in
set_option maxHeartbeats 4000000 in
theorem reads07_any (l : List UInt8) (w : World) (hl : l.length < 1000000000000) :
    Calls Try.prog 20 #[.string (bstr l)] w fun e w' => e = .returned (.int .i64 (txE l)) ∧ Below w.heap.size w w' := by
  have NX := next07_any (l, 0) w ⟨(fun h => absurd rfl h), hl⟩
  rw [show stV (l, (0 : Int)).1 (l, (0 : Int)).2 = .agg #[.string (bstr l), .int .i64 0] from rfl] at NX
  obtain ⟨t, ht⟩ : ∃ t, (txR (l, 0)).2 = t := ⟨_, rfl⟩
  rw [ht] at NX
  replace NX := Lib.hid NX
  have HT := Lib.hid (show txE l = endS t.1 t.2 by rw [txE, ht])
  clear ht
  go_enter Try.func20, Try.ntmps20
  go_wp2_with fail
  refine NX.out.mono ?_
  rintro e1 w1 ⟨rfl, a1⟩
  have HBL := Lib.hid a1
  clear a1 NX
  go_wp2_with fail
  refine (end07_any t w1).mono ?_
  rintro e2 w2 ⟨rfl, a2⟩
  replace HBL := Lib.hid (HBL.out.trans (a2.mono HBL.out.size))
  clear a2
  go_wp2
  go_ret
  exact ⟨by rw [HT.out]; rfl, HBL.out⟩
theorem fit07_tx {s : RS} (h : Fit07 s) : Fit07 (txR s).2 := ⟨okR_tx h.ok, Nat.lt_of_le_of_lt (txR_len s) h.len⟩
set_option maxRecDepth 20000 in
set_option maxHeartbeats 4000000 in
theorem readsBlock07_any (l : List UInt8) (w : World) (hl : l.length < 1000000000000) :
    Calls Try.prog 24 #[.string (bstr l)] w fun e w' => e = .returned (.int .i64 (blkE l)) ∧ Below w.heap.size w w' := by
  by_cases hbig : 8192 < l.length
  · have d1 : decide ((8192 : Int) < (l.length : Int)) = true := by simp; omega
    have hE : blkE l = 2 := by rw [blkE, if_pos hbig]
    rw [hE]
    clear hE hbig
    go_enter Try.func24, Try.ntmps24
    go_wp2
    go_ret
    exact ⟨rfl, Below.refl _ _⟩
  · have d1 : decide ((8192 : Int) < (l.length : Int)) = false := by simp; omega
    have hE : blkE l = endS (blkR (l, 0)).2.1 (blkR (l, 0)).2.2 := by rw [blkE, if_neg hbig]
    obtain ⟨s, hs⟩ : ∃ s : RS, (l, (0 : Int)) = s := ⟨_, rfl⟩
    have hF : Fit07 s := by rw [← hs]; exact ⟨(fun h => absurd rfl h), hl⟩
    have HF := Lib.hid hF
    obtain ⟨s1, h1⟩ : ∃ t, tk 80 s = t := ⟨_, rfl⟩
    have TK := take07 s 80 w hF.len
    have F1 := fit07_tk hF 80
    rw [h1] at TK F1
    rw [← hs] at TK
    rw [show stV (l, (0 : Int)).1 (l, (0 : Int)).2 = .agg #[.string (bstr l), .int .i64 0] from rfl] at TK
    replace TK := Lib.hid TK
    replace F1 := Lib.hid F1
    rw [hs] at hE
    have HE := Lib.hid hE
    have H1 := Lib.hid h1
    clear hs h1 hF hl hE hbig
    go_enter Try.func24, Try.ntmps24
    go_wp2_with fail
    refine TK.out.mono ?_
    rintro e1 w1 ⟨rfl, a1⟩
    have HBL := Lib.hid a1
    clear a1 TK d1
    rw [show stV s1.1 s1.2 = .agg #[.string (bstr s1.1), .int .i64 s1.2] from rfl]
    go_wp2_with (with_reducible refine wpList_stb rfl 92 (.tmp 4) (.tmp 15) rfl w1.heap.size 0 _ rfl rfl 92 _ (Blk.new w1 _ _) ?h1 ?h2 ?h3 ?_)
    case h1 => simp
    case h2 => rw [infoST]; rfl
    case h3 => exact ⟨rfl, rfl⟩
    intro w2 b2 o2
    rw [over_all _ _ (by simp)] at b2
    have hO2 : Below w1.heap.size w1 w2 := (((Only.refl (fun b => w1.heap.size ≤ b) w1).alloc _).trans o2 (fun b _ e => by omega)).below (Nat.le_refl _) (fun b hb h => by omega)
    have hwq : w.heap.size ≤ w1.heap.size := HBL.out.size
    replace HBL := Lib.hid (HBL.out.trans (hO2.mono HBL.out.size))
    obtain ⟨q, hq⟩ : ∃ q, w1.heap.size = q := ⟨_, rfl⟩
    rw [hq] at b2 hwq ⊢
    have HB := Lib.hid (show Blk w2 q 92 #[.string (bstr s1.1), .int .i64 s1.2] from b2)
    have HWQ := Lib.hid hwq
    clear hq b2 o2 hO2 hwq
    have c0 := HB.out.cell 0
    have c1 := HB.out.cell 1
    simp only [List.getElem?_toArray, List.getElem?_cons_zero, List.getElem?_cons_succ] at c0 c1
    obtain ⟨n0, hk⟩ : ∃ k, (cnt 32 s1).1 = k := ⟨_, rfl⟩
    obtain ⟨s2, ht⟩ : ∃ t, (cnt 32 s1).2 = t := ⟨_, rfl⟩
    have TK := count07 s1 32 w2 F1.out.len F1.out.ok
    have F2 := fit07_cnt F1.out 32
    have hle := cnt_le 32 s1
    rw [hk] at TK hle
    rw [ht] at TK F2
    replace TK := Lib.hid TK
    replace F2 := Lib.hid F2
    have H2 := Lib.hid (show cnt 32 s1 = (n0, s2) by rw [← hk, ← ht])
    clear hk ht
    go_wp2_with fail
    refine TK.out.mono ?_
    rintro e3 w3 ⟨rfl, a3⟩
    rw [show stV s2.1 s2.2 = .agg #[.string (bstr s2.1), .int .i64 s2.2] from rfl]
    replace HB := Lib.hid (HB.out.below a3 HB.out.lt)
    replace HBL := Lib.hid (HBL.out.trans (a3.mono HBL.out.size))
    clear a3 TK c0 c1
    go_wp2_with (with_reducible refine wpList_stb rfl 92 (.tmp 4) (.tmp 20) rfl q 0 _ rfl rfl 92 [.string (bstr s1.1), .int .i64 s1.2] HB.out ?h1 ?h2 ?h3 ?_)
    case h1 => simp
    case h2 => rw [infoST]; rfl
    case h3 => exact ⟨rfl, rfl⟩
    intro w4 b2 o2
    rw [over_all _ _ (by simp)] at b2
    replace HB := Lib.hid (show Blk w4 q 92 #[.string (bstr s2.1), .int .i64 s2.2] from b2)
    replace HBL := Lib.hid (HBL.out.trans (o2.below HBL.out.size (fun b hb e => by have := HWQ.out; omega)))
    clear b2 o2
    have hn0 : IntKind.i64.wrap (n0 : Int) = (n0 : Int) := w64 _ (by omega)
    have HN0 := Lib.hid hn0
    go_wp2_with fail
    clear hn0
    go_loopg [6] n0 (fun k v6 wr => ∃ (i : Nat) (si : RS), i + k = n0 ∧ v6 = .int .i64 (i : Int) ∧ Hid ((many txR i s2).2 = si) ∧ Hid (Fit07 si) ∧ Hid (Blk wr q 92 #[.string (bstr si.1), .int .i64 si.2]) ∧ Hid (Below w.heap.size w wr))
    case atStart => exact ⟨0, s2, by omega, rfl, rfl, F2.out, HB.out, HBL.out⟩
    case round =>
      clear HB HBL
      obtain ⟨i, si, hik, rfl, HSI, FI, HB, HBL⟩ := hrel
      have hn0 : IntKind.i64.wrap (n0 : Int) = (n0 : Int) := HN0.out
      have c0 := HB.out.cell 0
      have c1 := HB.out.cell 1
      simp only [List.getElem?_toArray, List.getElem?_cons_zero, List.getElem?_cons_succ] at c0 c1
      by_cases hlt : i < n0
      · have d2 : decide (i < n0) = true := by simpa using hlt
        obtain ⟨t1, ht⟩ : ∃ t, (txR si).2 = t := ⟨_, rfl⟩
        have NX := next07_any si wr FI.out
        have Ft1 := fit07_tx FI.out
        rw [ht] at NX Ft1
        rw [show stV si.1 si.2 = .agg #[.string (bstr si.1), .int .i64 si.2] from rfl] at NX
        replace NX := Lib.hid NX
        replace Ft1 := Lib.hid Ft1
        have HST := Lib.hid (show (many txR (i + 1) s2).2 = t1 by rw [many, HSI.out, ht])
        clear ht
        go_wp2_with fail
        refine NX.out.mono ?_
        rintro e5 w5 ⟨rfl, a5⟩
        rw [show stV t1.1 t1.2 = .agg #[.string (bstr t1.1), .int .i64 t1.2] from rfl]
        replace HB := Lib.hid (HB.out.below a5 HB.out.lt)
        replace HBL := Lib.hid (HBL.out.trans (a5.mono HBL.out.size))
        clear a5 NX c0 c1
        go_wp2_with (with_reducible refine wpList_stb rfl 92 (.tmp 4) (.tmp 28) rfl q 0 _ rfl rfl 92 [.string (bstr si.1), .int .i64 si.2] HB.out ?h1 ?h2 ?h3 ?_)
        case h1 => simp
        case h2 => rw [infoST]; rfl
        case h3 => exact ⟨rfl, rfl⟩
        intro w6 b2 o2
        rw [over_all _ _ (by simp)] at b2
        replace HB := Lib.hid (show Blk w6 q 92 #[.string (bstr t1.1), .int .i64 t1.2] from b2)
        replace HBL := Lib.hid (HBL.out.trans (o2.below HBL.out.size (fun b hb e => by have := HWQ.out; omega)))
        clear b2 o2
        go_wp2
        go_roundg (n0 - (i + 1))
        case measure => omega
        case rel => exact ⟨i + 1, t1, by omega, by first | rfl | (rw [IntWalk.wrap64_in _ (by omega)]; rfl), HST.out, Ft1.out, HB.out, HBL.out⟩
      · have d2 : decide (i < n0) = false := by simpa using hlt
        obtain rfl : n0 = i := by omega
        have hR : (blkR s).2 = si := by
          unfold blkR
          rw [H1.out, H2.out]
          exact HSI.out
        have HR := Lib.hid hR
        clear hlt hik hR
        go_wp2_with fail
        refine (end07_any si wr).mono ?_
        rintro e5 w5 ⟨rfl, a5⟩
        replace HBL := Lib.hid (HBL.out.trans (a5.mono HBL.out.size))
        clear a5 c0 c1
        go_wp2
        go_ret
        exact ⟨by rw [HE.out, HR.out]; rfl, HBL.out⟩
end Go.Proofs.Ytpcombaecbjmfaa
