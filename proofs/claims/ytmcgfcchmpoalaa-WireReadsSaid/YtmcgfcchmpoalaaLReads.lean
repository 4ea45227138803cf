/- WireReads: for every input the law returns true: whatever is read of any bytes, one behind the other, is the document's, and what went wrong first. No conditions. -/
import Derived.Test.YtmcgfcchmpoalaaWj
import Derived.Test.YtmcgfcchmpoalaaRb
import Derived.Test.YtmcgfcchmpoalaaSp
import Derived.Test.YtmcgfcchmpoalaaEq
namespace Go.Proofs.Ytmcgfcchmpoalaa
open Go.RowKit Go.WideShapes Go.ChangeShapes Go.ChangeAt
open Go.ChangeMaps (open_string)

/-- what a part reads: what is left, and what went wrong -/
def partS (l : List UInt8) (e : Int) (k sz : Int) (most : Nat) : List UInt8 × Int :=
  if k = 0 then (rawL l sz, rawE l e sz) else if k = 1 then ((rcountS l e most).2.1, (rcountS l e most).2.2) else if k = 2 then (rawL l sz, rawE l e sz)
  else if k = 3 then ((textS l e sz).2.1, (textS l e sz).2.2) else if k = 4 then (rawL l 32, rawE l e 32) else (l, e)
theorem cHead_ok (l : List UInt8) (e : Int) (h : okSt l e) : okSt (cHead l e).2.2.1 (cHead l e).2.2.2 := by
  unfold cHead
  repeat' split
  · exact (h.raw 1).raw 2
  · exact (h.raw 1).raw 4
  · exact (h.raw 1).raw 8
  · exact h.raw 1
theorem cHead_len (l : List UInt8) (e : Int) : (cHead l e).2.2.1.length ≤ l.length := by
  have h1 := rawL_len l 1
  unfold cHead
  repeat' split
  · have := rawL_len (rawL l 1) 2; simp only; omega
  · have := rawL_len (rawL l 1) 4; simp only; omega
  · have := rawL_len (rawL l 1) 8; simp only; omega
  · exact h1
theorem okSt.count {l : List UInt8} {e : Int} (h : okSt l e) (most : Nat) : okSt (rcountS l e most).2.1 (rcountS l e most).2.2 := by
  have h1 := cHead_ok l e h
  unfold rcountS
  generalize cHead l e = x at h1 ⊢
  rcases x with ⟨n, least, l2, e2⟩
  simp only [cEnd]
  repeat' split
  · exact h1
  · intro _; rfl
  · intro _; rfl
  · exact h1
theorem rcountS_len (l : List UInt8) (e : Int) (most : Nat) : (rcountS l e most).2.1.length ≤ l.length := by
  have h1 := cHead_len l e
  unfold rcountS
  generalize cHead l e = x at h1 ⊢
  rcases x with ⟨n, least, l2, e2⟩
  simp only [cEnd]
  repeat' split
  · exact h1
  · simp
  · simp
  · exact h1
theorem idS_self (o : List UInt8) (h : o.length = 32) : idS o = o := by rw [idS, h, List.take_of_length_le (by omega)]; simp
theorem idS_nil : idS [] = List.replicate 32 0 := by rfl
theorem IsB.of_blk {w : World} {q : Nat} {t : TypeId} {l : List UInt8} (h : Blk w q t (bts l).toArray) (hl : l.length = 32) : IsB w (fun b => b = q) (.slice (some ⟨q, 0, none⟩) 32 32) l :=
  ⟨some ⟨q, 0, none⟩, 32, 32, rfl, hl.symm, Nat.le_refl _, by simp [hl], fun _ => ⟨q, 0, rfl, rfl, fun j u hj => by rw [Nat.zero_add, h.cell j]; simpa using hj⟩⟩
theorem zero32 : (bts (List.replicate 32 0)).toArray = #[.int .u8 0, .int .u8 0, .int .u8 0, .int .u8 0, .int .u8 0, .int .u8 0, .int .u8 0, .int .u8 0, .int .u8 0, .int .u8 0, .int .u8 0, .int .u8 0, .int .u8 0, .int .u8 0, .int .u8 0, .int .u8 0, .int .u8 0, .int .u8 0, .int .u8 0, .int .u8 0, .int .u8 0, .int .u8 0, .int .u8 0, .int .u8 0, .int .u8 0, .int .u8 0, .int .u8 0, .int .u8 0, .int .u8 0, .int .u8 0, .int .u8 0, .int .u8 0] := rfl
theorem run_eq_zero (w : World) : (Op.equalIn 10000 42 (.agg #[.int .u8 0, .int .u8 0, .int .u8 0, .int .u8 0, .int .u8 0, .int .u8 0, .int .u8 0, .int .u8 0, .int .u8 0, .int .u8 0, .int .u8 0, .int .u8 0, .int .u8 0, .int .u8 0, .int .u8 0, .int .u8 0, .int .u8 0, .int .u8 0, .int .u8 0, .int .u8 0, .int .u8 0, .int .u8 0, .int .u8 0, .int .u8 0, .int .u8 0, .int .u8 0, .int .u8 0, .int .u8 0, .int .u8 0, .int .u8 0, .int .u8 0, .int .u8 0]) (.agg #[.int .u8 0, .int .u8 0, .int .u8 0, .int .u8 0, .int .u8 0, .int .u8 0, .int .u8 0, .int .u8 0, .int .u8 0, .int .u8 0, .int .u8 0, .int .u8 0, .int .u8 0, .int .u8 0, .int .u8 0, .int .u8 0, .int .u8 0, .int .u8 0, .int .u8 0, .int .u8 0, .int .u8 0, .int .u8 0, .int .u8 0, .int .u8 0, .int .u8 0, .int .u8 0, .int .u8 0, .int .u8 0, .int .u8 0, .int .u8 0, .int .u8 0, .int .u8 0])).run Try.prog w = .ok true w := by
  have h := run_eq_arr (P := Try.prog) (t := 42) Try.underlying42 Try.underlying5 (by kernel_rfl) (by kernel_rfl) (by kernel_rfl) (List.replicate 32 0) (List.replicate 32 0) (by simp) (by simp) w 9998
  rw [zero32, beq_self_eq_true] at h
  exact h
theorem run_eq_zero' {Z : List UInt8} (h : Z = List.replicate 32 0) (w : World) : (Op.equalIn 10000 42 (.agg (bts Z).toArray) (.agg #[.int .u8 0, .int .u8 0, .int .u8 0, .int .u8 0, .int .u8 0, .int .u8 0, .int .u8 0, .int .u8 0, .int .u8 0, .int .u8 0, .int .u8 0, .int .u8 0, .int .u8 0, .int .u8 0, .int .u8 0, .int .u8 0, .int .u8 0, .int .u8 0, .int .u8 0, .int .u8 0, .int .u8 0, .int .u8 0, .int .u8 0, .int .u8 0, .int .u8 0, .int .u8 0, .int .u8 0, .int .u8 0, .int .u8 0, .int .u8 0, .int .u8 0, .int .u8 0])).run Try.prog w = .ok true w := by
  rw [h, zero32]
  exact run_eq_zero w
section
variable {P : Program} {ops : Array Oper} {rest : List Oper} {o : Oper} {a : Act} {w : World} {Q : Exit → Act → World → Prop}
/-- a load under a guard that lets it go -/
theorem wpList_ldg (hw : Region.wanted o (yielded ops a.tmps) = true) (ty : TypeId) (x : Operand) (ho : o.op = .load ty x) (b oo : Nat) (hx : a.eval x = .pointer (some ⟨b, oo, none⟩)) (cs : List Value) (hc : RowAt w b oo cs)
    (d : TypeDesc) (hu : P.underlying ty = some d) (hd : d.isRow = true) (n : Nat) (hi : (P.info? ty).map (·.size) = some n) (hn : n = cs.length)
    (h : wpList P ops Q rest (a.put o.dst (.agg cs.toArray)) w) : wpList P ops Q (o :: rest) a w := by
  unfold wpList
  rw [if_pos hw]
  exact .inl (wp_load_mid ty x ho b oo hx cs d hc hu hd (by rw [hi, hn]) h)
end
theorem infoPart : (Try.prog.info? 44).map (·.size) = some 37 := by kernel_rfl
theorem rawL_len' (l : List UInt8) (n : Int) : (rawL l n).length ≤ l.length := rawL_len l n
set_option maxRecDepth 20000 in
set_option maxHeartbeats 8000000 in
theorem wireReads_any (v vl : Value) (l : List UInt8) (ps : List Part) (w : World) (hv : IsB w (fun b => b < w.heap.size) v l) (hl : partsSh.rel w (fun b => b < w.heap.size) [vl] ps) :
    Calls Try.prog 8 #[v, vl] w fun e w' => e = .returned (.bool true) ∧ Below w.heap.size w w' := by
  have HV := Lib.hid hv
  obtain ⟨A, m, c, rfl, hm, hmc, hs⟩ := hv
  obtain ⟨B, d, rfl, h2, h3⟩ := shSlice_form hl
  have HL := Lib.hid hl
  have HM := Lib.hid hm
  obtain ⟨pn, hpn⟩ : ∃ pn, ps.length = pn := ⟨_, rfl⟩
  rw [hpn] at HL
  have HPN := Lib.hid hpn
  rw [hpn]
  clear hm hs hmc h2 h3 hl hpn
  by_cases hlong : m ≤ 2000 ∧ pn ≤ 50
  · have dl : decide ((2000 : Int) < (m : Int)) = false := by simp; omega
    have dp : decide ((50 : Int) < (pn : Int)) = false := by simp; omega
    have HLONG := Lib.hid hlong
    clear hlong
    go_enter Try.func8, Try.ntmps8
    go_wp2_with fail
    refine (writes_any w).mono ?_
    rintro e1 w1 ⟨rfl, a1⟩
    have A1 := Lib.hid (a1)
    have HV1 := Lib.hid (HV.out.below a1 (fun b _ h => h))
    clear a1
    go_wp2_with fail
    refine (read_any w1 _ l _ HV1.out (by have := HM.out; have := HLONG.out; omega)).mono ?_
    rintro e2 w2 ⟨g, rfl, a2, a3⟩
    have A2 := Lib.hid (a2)
    have A3 := Lib.hid (A1.out.trans (a3.mono A1.out.size))
    have HV2 := Lib.hid (HV1.out.below a3 (fun b hb h => by have := A1.out.size; omega))
    have hsz2 := Lib.hid a3.size
    clear a2 a3
    have hst := HV2.out.str (P := Try.prog) (src := 22) (dst := 9) Try.underlying22 Try.underlying5 Try.underlying9
    obtain ⟨lo, hlo⟩ : ∃ lo, w1.heap.size = lo := ⟨_, rfl⟩
    obtain ⟨top, htop⟩ : ∃ hi, w2.heap.size = hi := ⟨_, rfl⟩
    rw [hlo, htop] at A2
    have HLO := Lib.hid hlo
    clear hlo
    go_wp2_with fail
    have hS : Blk (w2.alloc (.cells #[.string (bstr l), .int .i64 0] 56)) top 56 #[.string (bstr l), .int .i64 0] := by rw [← htop]; exact Blk.new _ _ _
    have hB : Below w.heap.size w (w2.alloc (.cells #[.string (bstr l), .int .i64 0] 56)) := A3.out.alloc A3.out.size _
    have hR : IsRd (w2.alloc (.cells #[.string (bstr l), .int .i64 0] 56)) lo top g l 0 := A2.out.only ((Only.refl (fun _ => False) _).alloc _) (fun _ _ _ _ h => h)
    have hww : w.heap.size ≤ lo ∧ lo ≤ top := by have := A1.out.size; have := HLO.out; have := hsz2.out; omega
    have h20 : l.length ≤ 2000 := by have := HM.out; have := HLONG.out; omega
    have HWW := Lib.hid hww
    try rw [htop]
    generalize w2.alloc (.cells #[.string (bstr l), .int .i64 0] 56) = w3 at hS hB hR ⊢
    clear hst hsz2 A2 A3 HV2 HLO htop A1 HV1
    clear w1 w2
    go_loopg [35] pn (fun q v35 wr => ∃ (i : Nat) (l' : List UInt8) (e' : Int), i + q = pn ∧ v35 = .int .i64 i ∧ Hid (okSt l' e') ∧ Hid (l'.length ≤ 2000) ∧ Hid (IsRd wr lo top g l' e') ∧ Blk wr top 56 #[.string (bstr l'), .int .i64 e'] ∧ Hid (Below w.heap.size w wr))
    case atStart => exact ⟨0, l, 0, by omega, rfl, fun h => absurd rfl h, h20, hR, hS, hB⟩
    case round =>
      clear hS hB hR h20
      obtain ⟨i, l', e', hi, rfl, HOK, HLN, HRD, hst, HB⟩ := hrel
      by_cases hlt : i < pn
      · have dlt : decide (i < pn) = true := by simpa using hlt
        obtain ⟨b, o, k, sz, nn, mo, pl, id, v, rfl, hbw, hpe, hbv, hid, hrow, hsz1, hsz2, hn64, hm64⟩ := parts_at (HL.out) (by rw [HPN.out]; exact hlt)
        have hb37 : (partC k sz nn mo v id).length = 37 := partC_len _ _ _ _ _ _ hid
        have hv1 : v.oneCell' = true := by obtain ⟨A', n', c', rfl, _⟩ := hbv; rfl
        have hrow' := hrow.only (Only.of_below HB.out) (fun h => absurd hbw (by omega))
        have hone := partC_one k sz nn mo v id hv1
        have HROW := Lib.hid hrow'
        have H37 := Lib.hid hb37
        have HONE := Lib.hid hone
        have HSZ := Lib.hid (And.intro hsz1 (And.intro hsz2 (And.intro hn64 hm64)))
        clear hpe hid hrow hrow' hb37 hv1 hone hsz1 hsz2 hn64 hm64 hbv
        have HST := Lib.hid hst
        clear hst
        have LT := Lib.hid HST.out.lt
        go_wp2_with (first
          | (with_reducible refine wpList_ld rfl 44 (.tmp 37) rfl b (o + i * 37) rfl (partC k sz nn mo v id) HROW.out _ Try.underlying44 rfl 37 infoPart H37.out.symm ?_)
          | (with_reducible refine wpList_stb rfl 44 (.tmp 8) (.tmp 38) rfl wr.heap.size 0 _ rfl rfl 44 _ (Blk.new wr _ _) ?h1 ?h2 ?h3 ?_))
        case h1 => simp [H37.out]
        case h2 => rw [infoPart]; simp [H37.out]
        case h3 => exact HONE.out
        intro w4 b4 o4
        rw [over_all _ _ (by simp [H37.out])] at b4
        have hO4 : Below wr.heap.size wr w4 := (((Only.refl (fun b => wr.heap.size ≤ b) wr).alloc _).trans o4 (fun b _ e => by omega)).below (Nat.le_refl _) (fun b hb h => by omega)
        have hrd4 := HRD.out.only (Only.of_new hO4 (fun _ => False)) (fun _ _ _ _ h => h)
        have hst4 := HST.out.below hO4 HST.out.lt
        have HPB := Lib.hid b4
        have hB4 := HB.out.trans (hO4.mono HB.out.size)
        have HRD4 := Lib.hid hrd4
        have HST4 := Lib.hid hst4
        have HB4 := Lib.hid hB4
        have c0 := b4.cell 0
        have c1 := b4.cell 1
        have c3 := b4.cell 3
        simp only [partC, List.getElem?_toArray, List.getElem?_cons_zero, List.getElem?_cons_succ] at c0 c1 c3
        clear b4 o4 hO4 hrd4 hst4 hB4 HRD HST HROW HB
        obtain ⟨pb, hpb⟩ : ∃ pb, wr.heap.size = pb := ⟨_, rfl⟩
        rw [hpb] at c0 c1 c3 HPB LT ⊢
        clear hpb
        go_upto_block 2 with fail
        go_cut [9] (fun _ wc => ∃ (l2 : List UInt8) (e2 : Int), Hid (okSt l2 e2) ∧ Hid (l2.length ≤ 2000) ∧ Hid (IsRd wc lo top g l2 e2) ∧ Blk wc top 56 #[.string (bstr l2), .int .i64 e2] ∧ Hid (Below w.heap.size w wc))
        case first =>
          clear hbw hlt dlt
          have s0 := HST4.out.cell 0
          have s1 := HST4.out.cell 1
          simp only [List.getElem?_toArray, List.getElem?_cons_zero, List.getElem?_cons_succ] at s0 s1
          have HGT := Lib.hid HRD4.out.mid
          have RD4 := HRD4
          have ST4 := HST4
          have PB4 := HPB
          have BW4 := HB4
          have hlt12 : l'.length < 1000000000000 := by have := HLN.out; omega
          clear HRD4 HST4 HPB HB4
          by_cases k0 : k = 0
          · subst k0
            by_cases hbig : 1048576 < sz
            · have d1 : decide ((1048576 : Int) < sz) = true := by simpa using hbig
              clear hbig
              go_wp2_with fail
              go_ret
              exact ⟨rfl, BW4.out⟩
            · have d1 : decide ((1048576 : Int) < sz) = false := by simpa using hbig
              have T6 := Lib.hid (fun w' => take06_any l' e' sz w' hlt12)
              unfold stV at T6
              clear hbig
              go_wp2_with fail
              refine (rnum_any w4 lo top g l' e' sz RD4.out).mono ?_
              rintro e5 w5 ⟨rfl, a2, a3⟩
              have RD5 := Lib.hid a2
              have ST5 := Lib.hid (ST4.out.only a3 (by have := HGT.out; omega))
              have PB5 := Lib.hid (PB4.out.only a3 (by have := HGT.out; have := LT.out; omega))
              have BW5 := Lib.hid (BW4.out.trans (a3.below (by have := BW4.out.size; omega) (fun b hb e => by have := HGT.out; have := HWW.out; omega)))
              clear a2 a3
              have s05 := ST5.out.cell 0
              have s15 := ST5.out.cell 1
              have p15 := PB5.out.cell 1
              have p35 := PB5.out.cell 3
              simp only [partC, List.getElem?_toArray, List.getElem?_cons_zero, List.getElem?_cons_succ] at s05 s15 p15 p35
              have hox : (rawO l' sz).length < 1000000000000 := by have := rawO_len l' sz; omega
              have HOX := Lib.hid hox
              clear hox s0 s1 c1 c3
              generalize hO : rawO l' sz = O at *
              go_wp2_with fail
              refine (T6.out w5).mono ?_
              rintro e6 w6 ⟨rfl, a6⟩
              have RD6 := Lib.hid (RD5.out.only (Only.of_new a6 (fun _ => False)) (fun _ _ _ _ h => h))
              have ST6 := Lib.hid (ST5.out.below a6 ST5.out.lt)
              have PB6 := Lib.hid (PB5.out.below a6 PB5.out.lt)
              have BW6 := Lib.hid (BW5.out.trans (a6.mono BW5.out.size))
              clear a6 s05 s15 p15 p35
              have hst := ST6.out
              go_wp2_with (with_reducible refine wpList_stb rfl 56 (.tmp 6) (.tmp 56) rfl top 0 _ rfl rfl 56 _ hst ?h1 ?h2 ?h3 ?_)
              case h1 => simp
              case h2 => rw [infoST]; simp
              case h3 => exact ⟨rfl, rfl⟩
              intro w7 b7 o7
              rw [over_all _ _ (by simp)] at b7
              have ST7 := Lib.hid b7
              have PB7 := Lib.hid (PB6.out.only o7 (by have := LT.out; omega))
              have RD7 := Lib.hid (RD6.out.only o7 (fun b _ _ h e => by omega))
              have BW7 := Lib.hid (BW6.out.trans (o7.below (by have := BW6.out.size; omega) (fun b hb e => by have := HWW.out; omega)))
              clear b7 hst
              clear o7
              go_wp2_with fail
              refine (low06_any O w7 HOX.out).mono ?_
              rintro e8 w8 ⟨rfl, rfl⟩
              go_wp2_with fail
              go_meet
              exact ⟨rawL l' sz, rawE l' e' sz, HOK.out.raw sz, by have := HLN.out; have := rawL_len l' sz; rw [Hid]; omega, RD7, ST7.out, BW7⟩
          · by_cases k1 : k = 1
            · subst k1
              have T6 := Lib.hid (fun w' => number06_any l' e' mo w' hlt12 HOK.out)
              unfold stV at T6
              clear k0
              go_wp2_with fail
              refine (rcount_any w4 lo top g l' e' mo RD4.out).mono ?_
              rintro e5 w5 ⟨rfl, a2, a3⟩
              have RD5 := Lib.hid a2
              have ST5 := Lib.hid (ST4.out.only a3 (by have := HGT.out; omega))
              have PB5 := Lib.hid (PB4.out.only a3 (by have := HGT.out; have := LT.out; omega))
              have BW5 := Lib.hid (BW4.out.trans (a3.below (by have := BW4.out.size; omega) (fun b hb e => by have := HGT.out; have := HWW.out; omega)))
              clear a2 a3
              have s05 := ST5.out.cell 0
              have s15 := ST5.out.cell 1
              have p15 := PB5.out.cell 1
              have p35 := PB5.out.cell 3
              simp only [partC, List.getElem?_toArray, List.getElem?_cons_zero, List.getElem?_cons_succ] at s05 s15 p15 p35
              clear s0 s1 c1 c3
              have OKC := Lib.hid (HOK.out.count mo)
              have LNC := Lib.hid (rcountS_len l' e' mo)
              obtain ⟨C, hC⟩ : ∃ C, rcountS l' e' mo = C := ⟨_, rfl⟩
              rw [hC] at RD5 OKC LNC
              rw [hC] at T6
              try rw [hC]
              clear hC
              obtain ⟨N, L2, E2⟩ := C
              try dsimp only at RD5 OKC LNC T6 ⊢
              go_wp2_with fail
              refine (T6.out w5).mono ?_
              rintro e6 w6 ⟨rfl, a6⟩
              have RD6 := Lib.hid (RD5.out.only (Only.of_new a6 (fun _ => False)) (fun _ _ _ _ h => h))
              have ST6 := Lib.hid (ST5.out.below a6 ST5.out.lt)
              have PB6 := Lib.hid (PB5.out.below a6 PB5.out.lt)
              have BW6 := Lib.hid (BW5.out.trans (a6.mono BW5.out.size))
              clear a6 s05 s15 p15 p35
              have hst := ST6.out
              go_wp2_with (with_reducible refine wpList_stb rfl 56 (.tmp 6) (.tmp 73) rfl top 0 _ rfl rfl 56 _ hst ?h1 ?h2 ?h3 ?_)
              case h1 => simp
              case h2 => rw [infoST]; simp
              case h3 => exact ⟨rfl, rfl⟩
              intro w7 b7 o7
              rw [over_all _ _ (by simp)] at b7
              have ST7 := Lib.hid b7
              have PB7 := Lib.hid (PB6.out.only o7 (by have := LT.out; omega))
              have RD7 := Lib.hid (RD6.out.only o7 (fun b _ _ h e => by omega))
              have BW7 := Lib.hid (BW6.out.trans (o7.below (by have := BW6.out.size; omega) (fun b hb e => by have := HWW.out; omega)))
              clear b7 hst
              clear o7
              go_wp2_with fail
              go_meet
              exact ⟨L2, E2, OKC, by have := HLN.out; have := LNC.out; rw [Hid]; omega, RD7, ST7.out, BW7⟩
            · by_cases k2 : k = 2
              · subst k2
                have T6 := Lib.hid (fun w' => take06_any l' e' sz w' hlt12)
                unfold stV at T6
                clear k0 k1
                go_wp2_with fail
                refine (rraw_any w4 lo top g l' e' sz RD4.out).mono ?_
                rintro e5 w5 ⟨vv, rfl, a1, a2, a3⟩
                have hvb := a1.isB
                clear a1
                have RD5 := Lib.hid a2
                have ST5 := Lib.hid (ST4.out.only a3 (by have := HGT.out; omega))
                have PB5 := Lib.hid (PB4.out.only a3 (by have := HGT.out; have := LT.out; omega))
                have BW5 := Lib.hid (BW4.out.trans (a3.below (by have := BW4.out.size; omega) (fun b hb e => by have := HGT.out; have := HWW.out; omega)))
                clear a2 a3
                have s05 := ST5.out.cell 0
                have s15 := ST5.out.cell 1
                have p15 := PB5.out.cell 1
                have p35 := PB5.out.cell 3
                simp only [partC, List.getElem?_toArray, List.getElem?_cons_zero, List.getElem?_cons_succ] at s05 s15 p15 p35
                clear s0 s1 c1 c3
                generalize hO : rawO l' sz = O at *
                have HVB := Lib.hid hvb
                clear hvb
                go_wp2_with fail
                refine (T6.out w5).mono ?_
                rintro e6 w6 ⟨rfl, a6⟩
                have RD6 := Lib.hid (RD5.out.only (Only.of_new a6 (fun _ => False)) (fun _ _ _ _ h => h))
                have ST6 := Lib.hid (ST5.out.below a6 ST5.out.lt)
                have PB6 := Lib.hid (PB5.out.below a6 PB5.out.lt)
                have BW6 := Lib.hid (BW5.out.trans (a6.mono BW5.out.size))
                have HVB6 := Lib.hid (HVB.out.below a6 (fun b hb h => h.2))
                clear a6 s05 s15 p15 p35
                have hst := ST6.out
                go_wp2_with (with_reducible refine wpList_stb rfl 56 (.tmp 6) (.tmp 89) rfl top 0 _ rfl rfl 56 _ hst ?h1 ?h2 ?h3 ?_)
                case h1 => simp
                case h2 => rw [infoST]; simp
                case h3 => exact ⟨rfl, rfl⟩
                intro w7 b7 o7
                rw [over_all _ _ (by simp)] at b7
                have ST7 := Lib.hid b7
                have PB7 := Lib.hid (PB6.out.only o7 (by have := LT.out; omega))
                have RD7 := Lib.hid (RD6.out.only o7 (fun b _ _ h e => by omega))
                have BW7 := Lib.hid (BW6.out.trans (o7.below (by have := BW6.out.size; omega) (fun b hb e => by have := HWW.out; omega)))
                clear b7 hst
                have hst7 := (HVB6.out.only o7 (fun b hb h e => by have := h.1; have := LT.out; have := PB4.out.lt; omega)).str (P := Try.prog) (src := 22) (dst := 9) Try.underlying22 Try.underlying5 Try.underlying9
                clear o7
                go_wp2_with fail
                go_meet
                exact ⟨rawL l' sz, rawE l' e' sz, HOK.out.raw sz, by have := HLN.out; have := rawL_len l' sz; rw [Hid]; omega, RD7, ST7.out, BW7⟩
              · by_cases k3 : k = 3
                · subst k3
                  by_cases hpos : 0 < sz
                  · obtain ⟨M, rfl⟩ := Int.eq_ofNat_of_zero_le (Int.le_of_lt hpos)
                    have hu : IntKind.u64.wrap (M : Int) = (M : Int) := by have := HSZ.out.2.1; rw [IntKind.wrap_u64]; omega
                    have hx : 0 < M := by omega
                    have hMb : M < 9223372036854775808 := by have := HSZ.out.2.1; omega
                    clear hpos
                    have T6 := Lib.hid (fun w' => number06_any l' e' M w' hlt12 HOK.out)
                    unfold stV at T6
                    have hTX := rtext_any w4 lo top g l' e' (M : Int) RD4.out HSZ.out.2.1
                    have OKC := Lib.hid (HOK.out.count M)
                    have LNC := Lib.hid (rcountS_len l' e' M)
                    have hle := rcountS_le l' e' M
                    have hq : textS l' e' (M : Int) = (rawO (rcountS l' e' M).2.1 ((rcountS l' e' M).1 : Nat), rawL (rcountS l' e' M).2.1 ((rcountS l' e' M).1 : Nat), rawE (rcountS l' e' M).2.1 (rcountS l' e' M).2.2 ((rcountS l' e' M).1 : Nat)) := by rw [textS, Int.toNat_natCast]
                    rw [hq] at hTX
                    clear hq
                    obtain ⟨C, hC⟩ : ∃ C, rcountS l' e' M = C := ⟨_, rfl⟩
                    rw [hC] at OKC LNC T6 hTX hle
                    clear hC
                    obtain ⟨N, L2, E2⟩ := C
                    try dsimp only at OKC LNC T6 hTX hle
                    have hL2 : L2.length < 1000000000000 := by have := LNC.out; have := HLN.out; omega
                    have T8 := Lib.hid (fun w' => take06_any L2 E2 (N : Int) w' hL2)
                    unfold stV at T8
                    have hw : IntKind.i64.wrap ((N : Nat) : Int) = (N : Nat) := IntWalk.i64_in _ (by omega)
                    have hw2 : wrap64 ((N : Nat) : Int) = (N : Nat) := IntWalk.wrap64_in _ (by omega)
                    have HTX := Lib.hid hTX
                    have HLE := Lib.hid hle
                    clear hTX hMb hL2 k0 k1 k2 hle
                    go_wp2_with fail
                    refine HTX.out.mono ?_
                    rintro e5 w5 ⟨vv, rfl, a1, a2, a3⟩
                    have hvb := a1.isB
                    clear a1
                    have RD5 := Lib.hid a2
                    have ST5 := Lib.hid (ST4.out.only a3 (by have := HGT.out; omega))
                    have PB5 := Lib.hid (PB4.out.only a3 (by have := HGT.out; have := LT.out; omega))
                    have BW5 := Lib.hid (BW4.out.trans (a3.below (by have := BW4.out.size; omega) (fun b hb e => by have := HGT.out; have := HWW.out; omega)))
                    clear a2 a3
                    have s05 := ST5.out.cell 0
                    have s15 := ST5.out.cell 1
                    have p15 := PB5.out.cell 1
                    have p35 := PB5.out.cell 3
                    simp only [partC, List.getElem?_toArray, List.getElem?_cons_zero, List.getElem?_cons_succ] at s05 s15 p15 p35
                    clear s0 s1 c1 c3
                    generalize hO : rawO L2 (N : Int) = O at *
                    have HVB := Lib.hid hvb
                    clear hvb HTX
                    go_wp2_with fail
                    refine (T6.out w5).mono ?_
                    rintro e6 w6 ⟨rfl, a6⟩
                    have RD6 := Lib.hid (RD5.out.only (Only.of_new a6 (fun _ => False)) (fun _ _ _ _ h => h))
                    have ST6 := Lib.hid (ST5.out.below a6 ST5.out.lt)
                    have PB6 := Lib.hid (PB5.out.below a6 PB5.out.lt)
                    have BW6 := Lib.hid (BW5.out.trans (a6.mono BW5.out.size))
                    have HVB6 := Lib.hid (HVB.out.below a6 (fun b hb h => h.2))
                    clear a6 s05 s15 p15 p35
                    have hst := ST6.out
                    go_wp2_with (with_reducible refine wpList_stb rfl 56 (.tmp 6) (.tmp 108) rfl top 0 _ rfl rfl 56 _ hst ?h1 ?h2 ?h3 ?_)
                    case h1 => simp
                    case h2 => rw [infoST]; simp
                    case h3 => exact ⟨rfl, rfl⟩
                    intro w7 b7 o7
                    rw [over_all _ _ (by simp)] at b7
                    have ST7 := Lib.hid b7
                    have PB7 := Lib.hid (PB6.out.only o7 (by have := LT.out; omega))
                    have RD7 := Lib.hid (RD6.out.only o7 (fun b _ _ h e => by omega))
                    have BW7 := Lib.hid (BW6.out.trans (o7.below (by have := BW6.out.size; omega) (fun b hb e => by have := HWW.out; omega)))
                    clear b7 hst
                    have HVB7 := Lib.hid (HVB6.out.only o7 (fun b hb h e => by have := h.1; have := LT.out; have := PB4.out.lt; omega))
                    clear o7
                    have s07 := ST7.out.cell 0
                    have s17 := ST7.out.cell 1
                    simp only [List.getElem?_toArray, List.getElem?_cons_zero, List.getElem?_cons_succ] at s07 s17
                    go_wp2_with fail
                    refine (T8.out w7).mono ?_
                    rintro e8 w8 ⟨rfl, a6⟩
                    have RD8 := Lib.hid (RD7.out.only (Only.of_new a6 (fun _ => False)) (fun _ _ _ _ h => h))
                    have ST8 := Lib.hid (ST7.out.below a6 ST7.out.lt)
                    have PB8 := Lib.hid (PB7.out.below a6 PB7.out.lt)
                    have BW8 := Lib.hid (BW7.out.trans (a6.mono BW7.out.size))
                    have HVB8 := Lib.hid (HVB7.out.only (Only.of_new a6 (fun _ => False)) (fun _ _ _ h => h))
                    clear a6 s07 s17
                    have hst := ST8.out
                    go_wp2_with (with_reducible refine wpList_stb rfl 56 (.tmp 6) (.tmp 115) rfl top 0 _ rfl rfl 56 _ hst ?h1 ?h2 ?h3 ?_)
                    case h1 => simp
                    case h2 => rw [infoST]; simp
                    case h3 => exact ⟨rfl, rfl⟩
                    intro w9 b7 o7
                    rw [over_all _ _ (by simp)] at b7
                    have ST9 := Lib.hid b7
                    have PB9 := Lib.hid (PB8.out.only o7 (by have := LT.out; omega))
                    have RD9 := Lib.hid (RD8.out.only o7 (fun b _ _ h e => by omega))
                    have BW9 := Lib.hid (BW8.out.trans (o7.below (by have := BW8.out.size; omega) (fun b hb e => by have := HWW.out; omega)))
                    clear b7 hst
                    have hst9 := (HVB8.out.only o7 (fun b hb h e => by have := h.1; have := LT.out; have := PB4.out.lt; omega)).str (P := Try.prog) (src := 22) (dst := 9) Try.underlying22 Try.underlying5 Try.underlying9
                    clear o7
                    go_wp2_with fail
                    go_meet
                    exact ⟨rawL L2 (N : Int), rawE L2 E2 (N : Int), OKC.out.raw _, by have := HLN.out; have := LNC.out; have := rawL_len L2 (N : Int); rw [Hid]; omega, RD9, ST9.out, BW9⟩
                  · obtain ⟨M, hM⟩ : ∃ M : Nat, M = 0 := ⟨_, rfl⟩
                    have hMb : M < 9223372036854775808 := by omega
                    have hMt : sz.toNat = M := by omega
                    have T6 := Lib.hid (fun w' => number06_any l' e' M w' hlt12 HOK.out)
                    unfold stV at T6
                    have hTX := rtext_any w4 lo top g l' e' sz RD4.out HSZ.out.2.1
                    have OKC := Lib.hid (HOK.out.count M)
                    have LNC := Lib.hid (rcountS_len l' e' M)
                    have hle := rcountS_le l' e' M
                    have hq : textS l' e' sz = (rawO (rcountS l' e' M).2.1 ((rcountS l' e' M).1 : Nat), rawL (rcountS l' e' M).2.1 ((rcountS l' e' M).1 : Nat), rawE (rcountS l' e' M).2.1 (rcountS l' e' M).2.2 ((rcountS l' e' M).1 : Nat)) := by rw [textS, hMt]
                    rw [hq] at hTX
                    clear hq
                    obtain ⟨C, hC⟩ : ∃ C, rcountS l' e' M = C := ⟨_, rfl⟩
                    rw [hC] at OKC LNC T6 hTX hle
                    clear hC
                    obtain ⟨N, L2, E2⟩ := C
                    try dsimp only at OKC LNC T6 hTX hle
                    have hL2 : L2.length < 1000000000000 := by have := LNC.out; have := HLN.out; omega
                    have T8 := Lib.hid (fun w' => take06_any L2 E2 (N : Int) w' hL2)
                    unfold stV at T8
                    have hw : IntKind.i64.wrap ((N : Nat) : Int) = (N : Nat) := IntWalk.i64_in _ (by omega)
                    have hw2 : wrap64 ((N : Nat) : Int) = (N : Nat) := IntWalk.wrap64_in _ (by omega)
                    subst hM
                    have HTX := Lib.hid hTX
                    have HLE := Lib.hid hle
                    clear hTX hMb hL2 k0 k1 k2 hle
                    go_wp2_with fail
                    refine HTX.out.mono ?_
                    rintro e5 w5 ⟨vv, rfl, a1, a2, a3⟩
                    have hvb := a1.isB
                    clear a1
                    have RD5 := Lib.hid a2
                    have ST5 := Lib.hid (ST4.out.only a3 (by have := HGT.out; omega))
                    have PB5 := Lib.hid (PB4.out.only a3 (by have := HGT.out; have := LT.out; omega))
                    have BW5 := Lib.hid (BW4.out.trans (a3.below (by have := BW4.out.size; omega) (fun b hb e => by have := HGT.out; have := HWW.out; omega)))
                    clear a2 a3
                    have s05 := ST5.out.cell 0
                    have s15 := ST5.out.cell 1
                    have p15 := PB5.out.cell 1
                    have p35 := PB5.out.cell 3
                    simp only [partC, List.getElem?_toArray, List.getElem?_cons_zero, List.getElem?_cons_succ] at s05 s15 p15 p35
                    clear s0 s1 c1 c3
                    generalize hO : rawO L2 (N : Int) = O at *
                    have HVB := Lib.hid hvb
                    clear hvb HTX
                    go_wp2_with fail
                    refine (T6.out w5).mono ?_
                    rintro e6 w6 ⟨rfl, a6⟩
                    have RD6 := Lib.hid (RD5.out.only (Only.of_new a6 (fun _ => False)) (fun _ _ _ _ h => h))
                    have ST6 := Lib.hid (ST5.out.below a6 ST5.out.lt)
                    have PB6 := Lib.hid (PB5.out.below a6 PB5.out.lt)
                    have BW6 := Lib.hid (BW5.out.trans (a6.mono BW5.out.size))
                    have HVB6 := Lib.hid (HVB.out.below a6 (fun b hb h => h.2))
                    clear a6 s05 s15 p15 p35
                    have hst := ST6.out
                    go_wp2_with (with_reducible refine wpList_stb rfl 56 (.tmp 6) (.tmp 108) rfl top 0 _ rfl rfl 56 _ hst ?h1 ?h2 ?h3 ?_)
                    case h1 => simp
                    case h2 => rw [infoST]; simp
                    case h3 => exact ⟨rfl, rfl⟩
                    intro w7 b7 o7
                    rw [over_all _ _ (by simp)] at b7
                    have ST7 := Lib.hid b7
                    have PB7 := Lib.hid (PB6.out.only o7 (by have := LT.out; omega))
                    have RD7 := Lib.hid (RD6.out.only o7 (fun b _ _ h e => by omega))
                    have BW7 := Lib.hid (BW6.out.trans (o7.below (by have := BW6.out.size; omega) (fun b hb e => by have := HWW.out; omega)))
                    clear b7 hst
                    have HVB7 := Lib.hid (HVB6.out.only o7 (fun b hb h e => by have := h.1; have := LT.out; have := PB4.out.lt; omega))
                    clear o7
                    have s07 := ST7.out.cell 0
                    have s17 := ST7.out.cell 1
                    simp only [List.getElem?_toArray, List.getElem?_cons_zero, List.getElem?_cons_succ] at s07 s17
                    go_wp2_with fail
                    refine (T8.out w7).mono ?_
                    rintro e8 w8 ⟨rfl, a6⟩
                    have RD8 := Lib.hid (RD7.out.only (Only.of_new a6 (fun _ => False)) (fun _ _ _ _ h => h))
                    have ST8 := Lib.hid (ST7.out.below a6 ST7.out.lt)
                    have PB8 := Lib.hid (PB7.out.below a6 PB7.out.lt)
                    have BW8 := Lib.hid (BW7.out.trans (a6.mono BW7.out.size))
                    have HVB8 := Lib.hid (HVB7.out.only (Only.of_new a6 (fun _ => False)) (fun _ _ _ h => h))
                    clear a6 s07 s17
                    have hst := ST8.out
                    go_wp2_with (with_reducible refine wpList_stb rfl 56 (.tmp 6) (.tmp 115) rfl top 0 _ rfl rfl 56 _ hst ?h1 ?h2 ?h3 ?_)
                    case h1 => simp
                    case h2 => rw [infoST]; simp
                    case h3 => exact ⟨rfl, rfl⟩
                    intro w9 b7 o7
                    rw [over_all _ _ (by simp)] at b7
                    have ST9 := Lib.hid b7
                    have PB9 := Lib.hid (PB8.out.only o7 (by have := LT.out; omega))
                    have RD9 := Lib.hid (RD8.out.only o7 (fun b _ _ h e => by omega))
                    have BW9 := Lib.hid (BW8.out.trans (o7.below (by have := BW8.out.size; omega) (fun b hb e => by have := HWW.out; omega)))
                    clear b7 hst
                    have hst9 := (HVB8.out.only o7 (fun b hb h e => by have := h.1; have := LT.out; have := PB4.out.lt; omega)).str (P := Try.prog) (src := 22) (dst := 9) Try.underlying22 Try.underlying5 Try.underlying9
                    clear o7
                    go_wp2_with fail
                    go_meet
                    exact ⟨rawL L2 (N : Int), rawE L2 E2 (N : Int), OKC.out.raw _, by have := HLN.out; have := LNC.out; have := rawL_len L2 (N : Int); rw [Hid]; omega, RD9, ST9.out, BW9⟩
                · by_cases k4 : k = 4
                  · subst k4
                    by_cases h32 : 32 ≤ l'.length
                    · have hro : rawO l' 32 = l'.take 32 := by rw [rawO, if_neg (by omega)]; rfl
                      have h32' : (l'.take 32).length = 32 := by rw [List.length_take]; omega
                      obtain ⟨O, hO⟩ : ∃ O, l'.take 32 = O := ⟨_, rfl⟩
                      rw [hO] at hro h32'
                      have hRI := rid_any w4 lo top g l' e' RD4.out
                      unfold idV at hRI
                      rw [hro, idS_self O h32'] at hRI
                      have T6 := Lib.hid (fun w' => take06_any l' e' 32 w' hlt12)
                      unfold stV at T6
                      rw [hro] at T6
                      have HX := Lib.hid h32'
                      have n0 : ¬ (bstr O = ⟨#[]⟩) := by rw [bstr_nil]; intro e; have := bstr_inj e; subst this; simp at h32'
                      have n2 : (bstr O == ⟨#[]⟩) = false := str_ne n0
                      have n1 : (bstr O != ⟨#[]⟩) = true := by rw [bne, n2]; rfl
                      have n3 : ¬ O = [] := by intro e; subst e; simp at h32'
                      have n4 : (O == []) = false := by simpa using n3
                      have n5 : O.isEmpty = false := by simpa using n3
                      have HRI := Lib.hid hRI
                      clear hRI k0 k1 k2 k3 h32 hro h32' hO
                      go_wp2_with fail
                      refine HRI.out.mono ?_
                      rintro e5 w5 ⟨rfl, a2, a3⟩
                      have RD5 := Lib.hid a2
                      have ST5 := Lib.hid (ST4.out.only a3 (by have := HGT.out; omega))
                      have PB5 := Lib.hid (PB4.out.only a3 (by have := HGT.out; have := LT.out; omega))
                      have BW5 := Lib.hid (BW4.out.trans (a3.below (by have := BW4.out.size; omega) (fun b hb e => by have := HGT.out; have := HWW.out; omega)))
                      clear a2 a3
                      clear s0 s1 c1 c3
                      go_wp2_with (with_reducible refine wpList_stb rfl 42 (.tmp 16) (.tmp 123) rfl w5.heap.size 0 _ rfl rfl 42 _ (Blk.new w5 _ _) ?h1 ?h2 ?h3 ?_)
                      case h1 => simp [HX.out]
                      case h2 => rw [infoID]; simp [HX.out]
                      case h3 => exact bts_one _
                      intro w6 b4 o4
                      rw [over_all _ _ (by simp [HX.out])] at b4
                      have a6 : Below w5.heap.size w5 w6 := (((Only.refl (fun b => w5.heap.size ≤ b) w5).alloc _).trans o4 (fun b _ e => by omega)).below (Nat.le_refl _) (fun b hb h => by omega)
                      have XB6 := Lib.hid b4
                      have RD6 := Lib.hid (RD5.out.only (Only.of_new a6 (fun _ => False)) (fun _ _ _ _ h => h))
                      have ST6 := Lib.hid (ST5.out.below a6 ST5.out.lt)
                      have PB6 := Lib.hid (PB5.out.below a6 PB5.out.lt)
                      have BW6 := Lib.hid (BW5.out.trans (a6.mono BW5.out.size))
                      clear a6 b4 o4
                      have QLT := Lib.hid (And.intro PB5.out.lt ST5.out.lt)
                      obtain ⟨qb, hqb⟩ : ∃ qb, w5.heap.size = qb := ⟨_, rfl⟩
                      rw [hqb] at XB6 QLT ⊢
                      clear hqb
                      have s06 := ST6.out.cell 0
                      have s16 := ST6.out.cell 1
                      have p16 := PB6.out.cell 1
                      have p36 := PB6.out.cell 3
                      simp only [partC, List.getElem?_toArray, List.getElem?_cons_zero, List.getElem?_cons_succ] at s06 s16 p16 p36
                      clear HRI
                      go_wp2_with fail
                      refine (T6.out w6).mono ?_
                      rintro e7 w7 ⟨rfl, a6⟩
                      have RD7 := Lib.hid (RD6.out.only (Only.of_new a6 (fun _ => False)) (fun _ _ _ _ h => h))
                      have ST7 := Lib.hid (ST6.out.below a6 ST6.out.lt)
                      have PB7 := Lib.hid (PB6.out.below a6 PB6.out.lt)
                      have BW7 := Lib.hid (BW6.out.trans (a6.mono BW6.out.size))
                      have XB7 := Lib.hid (XB6.out.below a6 XB6.out.lt)
                      clear a6 s06 s16 p16 p36
                      have hst := ST7.out
                      go_wp2_with (with_reducible refine wpList_stb rfl 56 (.tmp 6) (.tmp 128) rfl top 0 _ rfl rfl 56 _ hst ?h1 ?h2 ?h3 ?_)
                      case h1 => simp
                      case h2 => rw [infoST]; simp
                      case h3 => exact ⟨rfl, rfl⟩
                      intro w8 b7 o7
                      rw [over_all _ _ (by simp)] at b7
                      have ST8 := Lib.hid b7
                      have PB8 := Lib.hid (PB7.out.only o7 (by have := LT.out; omega))
                      have RD8 := Lib.hid (RD7.out.only o7 (fun b _ _ h e => by omega))
                      have BW8 := Lib.hid (BW7.out.trans (o7.below (by have := BW7.out.size; omega) (fun b hb e => by have := HWW.out; omega)))
                      clear b7 hst
                      have XB8 := Lib.hid (XB7.out.only o7 (by have := QLT.out.2; omega))
                      clear o7
                      have hst8 := (IsB.of_blk XB8.out HX.out).str (P := Try.prog) (src := 22) (dst := 9) Try.underlying22 Try.underlying5 Try.underlying9
                      go_wp2_with fail
                      go_meet
                      exact ⟨rawL l' 32, rawE l' e' 32, HOK.out.raw 32, by have := HLN.out; have := rawL_len l' 32; rw [Hid]; omega, RD8, ST8.out, BW8⟩
                    · have hro : rawO l' 32 = [] := by rw [rawO, if_pos (by omega)]
                      obtain ⟨Z, hZ⟩ : ∃ Z : List UInt8, List.replicate 32 0 = Z := ⟨_, rfl⟩
                      have hRI := rid_any w4 lo top g l' e' RD4.out
                      unfold idV at hRI
                      rw [hro, idS_nil, hZ] at hRI
                      have T6 := Lib.hid (fun w' => take06_any l' e' 32 w' hlt12)
                      unfold stV at T6
                      rw [hro, ← bstr_nil] at T6
                      have HX := Lib.hid (show Z.length = 32 by rw [← hZ]; simp)
                      have HZ := Lib.hid hZ.symm
                      clear hZ
                      have HRI := Lib.hid hRI
                      clear hRI k0 k1 k2 k3 h32 hro
                      go_wp2_with fail
                      refine HRI.out.mono ?_
                      rintro e5 w5 ⟨rfl, a2, a3⟩
                      have RD5 := Lib.hid a2
                      have ST5 := Lib.hid (ST4.out.only a3 (by have := HGT.out; omega))
                      have PB5 := Lib.hid (PB4.out.only a3 (by have := HGT.out; have := LT.out; omega))
                      have BW5 := Lib.hid (BW4.out.trans (a3.below (by have := BW4.out.size; omega) (fun b hb e => by have := HGT.out; have := HWW.out; omega)))
                      clear a2 a3
                      clear s0 s1 c1 c3
                      go_wp2_with (with_reducible refine wpList_stb rfl 42 (.tmp 16) (.tmp 123) rfl w5.heap.size 0 _ rfl rfl 42 _ (Blk.new w5 _ _) ?h1 ?h2 ?h3 ?_)
                      case h1 => simp [HX.out]
                      case h2 => rw [infoID]; simp [HX.out]
                      case h3 => exact bts_one _
                      intro w6 b4 o4
                      rw [over_all _ _ (by simp [HX.out])] at b4
                      have a6 : Below w5.heap.size w5 w6 := (((Only.refl (fun b => w5.heap.size ≤ b) w5).alloc _).trans o4 (fun b _ e => by omega)).below (Nat.le_refl _) (fun b hb h => by omega)
                      have XB6 := Lib.hid b4
                      have RD6 := Lib.hid (RD5.out.only (Only.of_new a6 (fun _ => False)) (fun _ _ _ _ h => h))
                      have ST6 := Lib.hid (ST5.out.below a6 ST5.out.lt)
                      have PB6 := Lib.hid (PB5.out.below a6 PB5.out.lt)
                      have BW6 := Lib.hid (BW5.out.trans (a6.mono BW5.out.size))
                      clear a6 b4 o4
                      have QLT := Lib.hid (And.intro PB5.out.lt ST5.out.lt)
                      obtain ⟨qb, hqb⟩ : ∃ qb, w5.heap.size = qb := ⟨_, rfl⟩
                      rw [hqb] at XB6 QLT ⊢
                      clear hqb
                      have s06 := ST6.out.cell 0
                      have s16 := ST6.out.cell 1
                      have p16 := PB6.out.cell 1
                      have p36 := PB6.out.cell 3
                      simp only [partC, List.getElem?_toArray, List.getElem?_cons_zero, List.getElem?_cons_succ] at s06 s16 p16 p36
                      clear HRI
                      go_wp2_with fail
                      refine (T6.out w6).mono ?_
                      rintro e7 w7 ⟨rfl, a6⟩
                      have RD7 := Lib.hid (RD6.out.only (Only.of_new a6 (fun _ => False)) (fun _ _ _ _ h => h))
                      have ST7 := Lib.hid (ST6.out.below a6 ST6.out.lt)
                      have PB7 := Lib.hid (PB6.out.below a6 PB6.out.lt)
                      have BW7 := Lib.hid (BW6.out.trans (a6.mono BW6.out.size))
                      have XB7 := Lib.hid (XB6.out.below a6 XB6.out.lt)
                      clear a6 s06 s16 p16 p36
                      have hst := ST7.out
                      go_wp2_with (with_reducible refine wpList_stb rfl 56 (.tmp 6) (.tmp 128) rfl top 0 _ rfl rfl 56 _ hst ?h1 ?h2 ?h3 ?_)
                      case h1 => simp
                      case h2 => rw [infoST]; simp
                      case h3 => exact ⟨rfl, rfl⟩
                      intro w8 b7 o7
                      rw [over_all _ _ (by simp)] at b7
                      have ST8 := Lib.hid b7
                      have PB8 := Lib.hid (PB7.out.only o7 (by have := LT.out; omega))
                      have RD8 := Lib.hid (RD7.out.only o7 (fun b _ _ h e => by omega))
                      have BW8 := Lib.hid (BW7.out.trans (o7.below (by have := BW7.out.size; omega) (fun b hb e => by have := HWW.out; omega)))
                      clear b7 hst
                      have XB8 := Lib.hid (XB7.out.only o7 (by have := QLT.out.2; omega))
                      clear o7
                      have he8' := run_eq_zero' HZ.out w8
                      have hrow8 := XB8.out.rowAll
                      go_wp2_with (refine wpList_ldg (by rfl) 42 (.tmp 16) rfl qb 0 rfl (bts Z) hrow8 _ Try.underlying42 rfl 32 infoID (by rw [bts_length, HX.out]) ?_)
                      go_wp2_with fail
                      go_meet
                      exact ⟨rawL l' 32, rawE l' e' 32, HOK.out.raw 32, by have := HLN.out; have := rawL_len l' 32; rw [Hid]; omega, RD8, ST8.out, BW8⟩
                  · have n0 : (k == 0) = false := by simpa using k0
                    have n1 : (k == 1) = false := by simpa using k1
                    have n2 : (k == 2) = false := by simpa using k2
                    have n3 : (k == 3) = false := by simpa using k3
                    have n4 : (k == 4) = false := by simpa using k4
                    clear k0 k1 k2 k3 k4
                    go_wp2_with fail
                    go_meet
                    exact ⟨l', e', HOK, HLN, RD4, ST4.out, BW4⟩
        case rest =>
          obtain ⟨l2, e2, HOK2, HLN2, HRD2, hst2, HB2⟩ := hcut
          have s0 := hst2.cell 0
          have s1 := hst2.cell 1
          simp only [List.getElem?_toArray, List.getElem?_cons_zero, List.getElem?_cons_succ] at s0 s1
          have HST2 := Lib.hid hst2
          clear hst2 c0 c1 c3
          have HER := Lib.hid (rerr_any wc.drew lo top g l2 e2 HRD2.out)
          have HLF := Lib.hid (rleft_any wc.drew lo top g l2 e2 HRD2.out)
          go_wp2
          go_region_with (first
            | (go_at_call 17; refine HER.out.mono ?_; rintro e7 w7 ⟨rfl, rfl⟩)
            | (go_at_call 19; refine HLF.out.mono ?_; rintro e7 w7 ⟨rfl, rfl⟩))
          all_goals
            go_wp2
            have hp50 : pn ≤ 50 := HLONG.out.2
            go_roundg (pn - 1 - i)
            case measure => omega
            case rel => exact ⟨i + 1, l2, e2, by omega, by rw [IntWalk.wrap64_in _ (by omega)]; rfl, HOK2, HLN2, HRD2.out, HST2.out, HB2.out.drew⟩
      · have dlt : decide (i < pn) = false := by simpa using hlt
        have s0 := hst.cell 0
        have s1 := hst.cell 1
        simp only [List.getElem?_toArray, List.getElem?_cons_zero, List.getElem?_cons_succ] at s0 s1
        clear hlt hst
        have HEN := Lib.hid (rend_any wr lo top g l' e' HRD.out)
        by_cases ke : e' = 0
        · subst ke
          by_cases kl : l' = []
          · subst kl
            rw [show endS [] 0 = 0 from rfl] at HEN
            go_wp2_with fail
            refine HEN.out.mono ?_
            rintro e7 w7 ⟨rfl, n7, rfl⟩
            go_wp2
            go_ret
            exact ⟨rfl, below_drewN' HB.out n7⟩
          · rw [show endS l' 0 = 70 by rw [endS, if_pos ⟨rfl, kl⟩]] at HEN
            have n0 : ¬ (bstr l' = ⟨#[]⟩) := by rw [bstr_nil]; intro e; exact kl (bstr_inj e)
            have n2 : (bstr l' == ⟨#[]⟩) = false := str_ne n0
            have n1 : (bstr l' != ⟨#[]⟩) = true := by rw [bne, n2]; rfl
            have n4 : (l' == []) = false := by simpa using kl
            have n5 : l'.isEmpty = false := by simpa using kl
            go_wp2_with fail
            refine HEN.out.mono ?_
            rintro e7 w7 ⟨rfl, n7, rfl⟩
            go_wp2
            go_ret
            exact ⟨rfl, below_drewN' HB.out n7⟩
        · rw [show endS l' e' = e' by rw [endS, if_neg (fun h => ke h.1)]] at HEN
          have dE : (e' == 0) = false := by simpa using ke
          clear ke
          go_wp2_with fail
          refine HEN.out.mono ?_
          rintro e7 w7 ⟨rfl, n7, rfl⟩
          go_wp2
          go_ret
          exact ⟨rfl, below_drewN' HB.out n7⟩
  · by_cases hlo : 2000 < m
    · have dl : decide ((2000 : Int) < (m : Int)) = true := by simp; omega
      clear hlong hlo
      go_enter Try.func8, Try.ntmps8
      go_wp2_with fail
      refine (writes_any w).mono ?_
      rintro e1 w1 ⟨rfl, a1⟩
      have A1 := Lib.hid (a1)
      clear a1
      go_wp2
      go_ret
      exact ⟨rfl, A1.out⟩
    · have dl : decide ((2000 : Int) < (m : Int)) = false := by simp; omega
      have dp : decide ((50 : Int) < (pn : Int)) = true := by simp; omega
      clear hlong hlo
      go_enter Try.func8, Try.ntmps8
      go_wp2_with fail
      refine (writes_any w).mono ?_
      rintro e1 w1 ⟨rfl, a1⟩
      have A1 := Lib.hid (a1)
      clear a1
      go_wp2
      go_ret
      exact ⟨rfl, A1.out⟩

theorem wireReads_lifted (os : Os) (started : os.Started) (H : Type) (enc : TypeId × Value → H) :
    ReturnsInHanded {} Try.checked os 8 .any (Rows.wireReadsSpec.pre6 enc Try.prog Try.f8 Rows.wireReadsRow.domain false) (Rows.wireReadsSpec.post enc Try.prog Try.f8 false true false false) := by
  refine law_lift (C := Try.checked) own started (by kernel_rfl) Try.func8
    (ChangeSpec.witness6 (enc := enc) (C := Try.checked) false ⟨#[], #[.slice none 0 0, .slice none 0 0], []⟩ 8 (by kernel_rfl) (by kernel_rfl) (by kernel_rfl) (by kernel_rfl)) rfl Try.underlying4 laidOut ?hread rfl ?hs ?walk
  case hread =>
    intro t ht
    rw [Try.params8] at ht
    simp at ht
    rcases ht with rfl | rfl <;> exact ⟨by kernel_rfl, of_decide_eq_true (by kernel_rfl)⟩
  case hs =>
    intro ds hl
    match ds, hl with
    | [d0, d1], _ => exact ⟨rfl, rfl, rfl⟩
  case walk =>
    intro W base args ds p hval hA
    rw [Try.params8] at hA hval
    obtain ⟨v0, vs0, d0, ds0, p0, q0, hargs, rfl, rfl, h0, r0⟩ := trodAll_cons hA
    obtain ⟨v1, vs1, d1, ds1, p1, q1, rfl, rfl, rfl, h1, r1⟩ := trodAll_cons r0
    obtain ⟨rfl, rfl, rfl⟩ := trodAll_nil r1
    obtain rfl : args = #[v0, v1] := by cases args; simp_all
    obtain ⟨l0, hl0⟩ := open_bytes Try.underlying22 Try.underlying5 (by kernel_rfl) (hval 0 22 v0 rfl rfl) h0
    obtain ⟨a1, ha1⟩ := open_sl Try.underlying40 opens_parts (hval 1 40 v1 rfl rfl) h1
    exact wireReads_any _ _ l0 a1 W hl0 ha1

theorem wireReads_over : Rows.wireReadsRow.holds Try.pinned (OpenSpec.ofChange Rows.wireReadsSpec) :=
  OpenClaim.holds_of_wide 8 Try.f8 rfl rfl rfl rfl rfl rfl rfl ⟨rfl, rfl, rfl, rfl, rfl⟩ rfl rfl rfl rfl rfl (by kernel_rfl) Try.func8 (by kernel_rfl)
    (of_decide_eq_true (by kernel_rfl)) (by unfold Func.isWrapper; first | (rw [if_pos (by decide +kernel)]; kernel_rfl) | (rw [if_neg (by decide +kernel)]; exact ⟨rfl, rfl⟩))
    (fun os started H enc _ => wireReads_lifted os started H enc)

/-- the statement -/
theorem WireReads_holds : Rows.WireReadsSaid := wireReads_over
#print axioms WireReads_holds
end Go.Proofs.Ytmcgfcchmpoalaa
