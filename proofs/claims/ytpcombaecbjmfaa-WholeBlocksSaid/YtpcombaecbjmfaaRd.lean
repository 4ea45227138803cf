/- tx.read: the next transaction. -/
import Derived.Test.YtpcombaecbjmfaaRp
import Derived.Test.YtpcombaecbjmfaaRt
import Derived.Test.YtpcombaecbjmfaaShw
import Derived.Test.YtpcombaecbjmfaaHe
import Derived.Test.YtpcombaecbjmfaaTr
import Derived.Laws.Tables
namespace Go.Proofs.Ytpcombaecbjmfaa
open Go.RowKit
/-! ### what is built of parts -/
theorem exec_build {P : Program} {o : Oper} {a : Act} {w : World} {t : TypeId} {parts : Array (Nat × Operand)} {l : List (Nat × Value)} {cells : Array Value} (ho : o.op = .build t parts)
    (hl : (parts.map fun p => (p.1, a.eval p.2)).toList = l) (hb : P.built t l = some cells) : (execOp a.eval o).run P w = .ok (.value (.agg cells)) w := by
  unfold execOp
  simp only [ho, Sem.run_bind, run_build w t _ cells (by rw [← hb, ← hl]), Result.andThen_ok]
  rfl
theorem built_pt (id : List UInt8) (ix : Int) (h : id.length = 32) : Try.prog.built 59 [(0, .agg (bts id).toArray), (1, .int .u32 ix)] = some (bts id ++ [Value.int .u32 ix]).toArray := by
    match id, h with
    | [_, _, _, _, _, _, _, _, _, _, _, _, _, _, _, _, _, _, _, _, _, _, _, _, _, _, _, _, _, _, _, _], _ => (show _ = _; kernel_rfl)
theorem built_in (id : List UInt8) (ix : Int) (A : Option Addr) (n c : Nat) (h : id.length = 32) : Try.prog.built 61 [(0, .agg (bts id ++ [Value.int .u32 ix]).toArray), (1, .slice A n c)] = some (bts id ++ [Value.int .u32 ix, Value.slice A n c]).toArray := by
    match id, h with
    | [_, _, _, _, _, _, _, _, _, _, _, _, _, _, _, _, _, _, _, _, _, _, _, _, _, _, _, _, _, _, _, _], _ => (show _ = _; kernel_rfl)
theorem built_out (amt : Int) (id : List UInt8) (h : id.length = 32) : Try.prog.built 63 [(0, .int .i64 amt), (1, .agg (bts id).toArray)] = some (outC amt id).toArray := by
    match id, h with
    | [_, _, _, _, _, _, _, _, _, _, _, _, _, _, _, _, _, _, _, _, _, _, _, _, _, _, _, _, _, _, _, _], _ => (show _ = _; kernel_rfl)
theorem infoInzz : (Try.prog.info? 61).map (fun i => (i.zero, i.size, i.bytes)) = some (some (.agg (inC (List.replicate 32 0) 0 (.slice none 0 0)).toArray), 34, 64) := by kernel_rfl
theorem infoOutzz : (Try.prog.info? 63).map (fun i => (i.zero, i.size, i.bytes)) = some (some (.agg (outC 0 (List.replicate 32 0)).toArray), 33, 40) := by kernel_rfl
theorem weak_in3 : inSh.Weak := weak_pair (weak_pair (weak_arr 32) (weak_pair (weak_int _) weak_unit)) (weak_pair weak_bytes weak_unit)
theorem weak_out3 : outSh.Weak := weak_pair (weak_int _) (weak_pair (weak_arr 32) weak_unit)
/-! ### bytes that the reader has handed out: from a block on, blocks of bytes -/
def U8 (w : World) (B : Nat) : Nat → Prop := fun b => B ≤ b ∧ ∃ cs fr, w.heap[b]? = some (.cells cs 5 fr)
theorem U8.lt {w : World} {B b : Nat} (h : U8 w B b) : b < w.heap.size := by
  obtain ⟨_, cs, fr, h⟩ := h
  exact blk_lt h
theorem U8.only {w w' : World} {B b : Nat} {S : Nat → Prop} (h : U8 w B b) (ho : Only S w w') (hn : ¬ S b) : U8 w' B b := by
  obtain ⟨h0, cs, fr, h⟩ := h
  exact ⟨h0, cs, fr, (ho.block b (blk_lt h) hn).trans h⟩
theorem each_u8 {α : Type} {s : Shape α} (hw : s.Weak) {w w' : World} {B : Nat} {S : Nat → Prop} {cells : List (List Value)} {ls : List α} (h : Each (s.rel w (U8 w B)) cells ls) (ho : Only S w w') (hn : ∀ b, U8 w B b → ¬ S b) : Each (s.rel w' (U8 w' B)) cells ls :=
  h.mono (fun _ _ h => hw _ _ _ _ _ (s.only h ho (fun b _ hb => hn b hb)) (fun b _ hb => hb.only ho (hn b hb)))
theorem own_not_u8 {w : World} {base B size n b : Nat} {e : TypeId} {v : Value} {xs : List Value} (h : w.ownsRow base e size v n xs) (he : e ≠ 5) (hb : U8 w B b) : ¬ (v.ownBlock = some b) := by
  obtain ⟨_, cs, fr, hb⟩ := hb
  rcases h.2 with ⟨rfl, _⟩ | ⟨g', cap, cur, rfl, _, hh, _⟩
  · simp [Value.ownBlock]
  · intro e2
    have e3 : g' = b := by simpa [Value.ownBlock] using e2
    subst e3
    rw [hh] at hb
    injection hb with hb
    injection hb with _ ht
    exact he ht
theorem OwnB.u8 {w : World} {base B : Nat} {v : Value} {l : List UInt8} (h : OwnB w base v l) (hB : B ≤ base) : IsB w (U8 w B) v l := by
  obtain ⟨A, n, c, rfl, hn, ho⟩ := h
  obtain ⟨A', n', c', e, h1, h2, h3⟩ := IsB.of_own ho
  injection e with e1 e2 e3
  subst e1 e2 e3
  refine ⟨A, n, c, rfl, h1, h2, h3.1, fun hp => ?_⟩
  obtain ⟨b, o, rfl, hb, hr⟩ := h3.2 hp
  refine ⟨b, o, rfl, ⟨Nat.le_trans hB hb.1, ?_⟩, hr⟩
  rcases ho.2 with ⟨hv, h0⟩ | ⟨g', cap, cur, hv, _, hh, _⟩
  · omega
  · injection hv with hv _ _
    injection hv with hv
    injection hv with hv _ _
    subst hv
    exact ⟨_, _, hh⟩
theorem in_made {w : World} {ok : Nat → Prop} {id key : List UInt8} {ix : Nat} {v : Value} (hid : id.length = 32) (hix : ix < 4294967296) (hv : IsB w ok v key) : inSh.rel w ok (bts id ++ [Value.int .u32 (ix : Int), v]) ((id, ((ix : Nat) : Int), ()), key, ()) :=
  ⟨bts id ++ [Value.int .u32 (ix : Int)], [v], by simp, ⟨bts id, [.int .u32 (ix : Int)], rfl, ⟨rfl, hid⟩, ⟨[.int .u32 (ix : Int)], [], rfl, ⟨rfl, by simp only [Lit.wf, IntKind.min, IntKind.max, IntKind.signed, IntKind.bits, Bool.and_eq_true]; simp; omega⟩, rfl⟩⟩, ⟨[v], [], rfl, ⟨v, rfl, hv⟩, rfl⟩⟩
theorem out_made {w : World} {ok : Nat → Prop} {lock : List UInt8} {amt : Int} (hl : lock.length = 32) (ha : (Lit.int .i64 amt).wf = true) : outSh.rel w ok (outC amt lock) (amt, lock, ()) :=
  ⟨[.int .i64 amt], bts lock, rfl, ⟨rfl, ha⟩, ⟨bts lock, [], by simp, ⟨rfl, hl⟩, rfl⟩⟩
theorem out_free {w w' : World} {ok ok' : Nat → Prop} {cs : List Value} {o : OutT} (h : outSh.rel w ok cs o) : outSh.rel w' ok' cs o := by
  obtain ⟨amt, lock, rfl, rfl, hl, h0, h1⟩ := out_cells h
  exact out_made hl (by simp only [Lit.wf, IntKind.min, IntKind.max, IntKind.signed, IntKind.bits, Bool.and_eq_true, decide_eq_true_eq]; simp; omega)
theorem each_out {w : World} {ok : Nat → Prop} {cells : List (List Value)} {os : List OutT} (h : Each (outSh.rel w ok) cells os) (w' : World) {ok' : Nat → Prop} : Each (outSh.rel w' ok') cells os := h.mono (fun _ _ h => out_free h)
theorem numO_lt (l : List UInt8) (k : Nat) (hk : k ≤ 8) : numOf (rawO l k) < 256 ^ k := rawO_take_lt l k hk
set_option linter.unusedSimpArgs false in
set_option maxRecDepth 20000 in
set_option maxHeartbeats 4000000 in
theorem tx_read_any (w : World) (lo hi g : Nat) (s : RS) (h : IsRd w lo hi g s.1 s.2) :
    Calls Try.prog 40 #[.pointer (some ⟨g, 0, none⟩)] w fun e w' => ∃ A n c A' n' c', e = .returned (.agg #[.slice A n c, .slice A' n' c']) ∧ insSh.rel w' (fun b => w.heap.size ≤ b) [.slice A n c] (txR s).1.1 ∧ outsSh.rel w' (fun b => w.heap.size ≤ b) [.slice A' n' c'] (txR s).1.2.1 ∧ n ≤ 32 ∧ n' ≤ 32 ∧ IsRd w' lo hi g (txR s).2.1 (txR s).2.2 ∧ Only (fun b => b = g) w w' := by
  have hgh : g < hi ∧ hi ≤ w.heap.size := ⟨h.mid.2, h.hi_le⟩
  have HGH := Lib.hid hgh
  have HRD := Lib.hid h
  clear h hgh
  go_enter Try.func40, Try.ntmps40
  go_upto_region 2 with fail
  generalize hW : World.alloc (World.alloc w _) _ = W
  have hoW : Only (fun b => b = g) w W := by rw [← hW]; exact ((Only.refl _ w).alloc _).alloc _
  have hoF : Only (fun _ => False) w W := by rw [← hW]; exact ((Only.refl _ w).alloc _).alloc _
  have hq2 : Blk W w.heap.size 25 #[.slice none 0 0, .slice none 0 0] := by rw [← hW]; exact (Blk.new _ _ _).alloc _
  have hq3 : Blk W (w.heap.size + 1) 25 #[.slice none 0 0, .slice none 0 0] := by rw [← hW]; exact Blk.newS w _ _ [.slice none 0 0, .slice none 0 0]
  have hBs : w.heap.size + 2 ≤ W.heap.size := by rw [← hW]; simp
  clear hW
  obtain ⟨q, hq⟩ : ∃ q, w.heap.size = q := ⟨_, rfl⟩
  rw [hq] at hq2 hq3 hBs ⊢
  have HQ := Lib.hid hq
  have HZ := Lib.hid hq2
  have HT := Lib.hid hq3
  have HON := Lib.hid hoW
  have HBS := Lib.hid hBs
  replace HRD := Lib.hid (HRD.out.only hoF (fun _ _ _ _ h => h))
  clear hq hq2 hq3 hoW hoF hBs
  -- who leaves alone what lies ahead of q, but for the reader
  obtain ⟨n0, hk⟩ : ∃ k, (cnt 32 s).1 = k := ⟨_, rfl⟩
  obtain ⟨s0, ht⟩ : ∃ t, (cnt 32 s).2 = t := ⟨_, rfl⟩
  have RC := rcount_any W lo hi g s.1 s.2 32 HRD.out
  have hle := cnt_le 32 s
  rw [hk] at hle
  have Es0 := Lib.hid (show cnt 32 s = (n0, s0) by rw [← hk, ← ht])
  rw [show rcountS s.1 s.2 32 = (n0, s0) from Es0.out] at RC
  replace RC := Lib.hid RC
  clear hk ht
  go_wp2_with fail
  refine RC.out.mono ?_
  rintro e1 w1 ⟨rfl, r1, o1⟩
  try dsimp only at r1
  replace HRD := Lib.hid r1
  replace HZ := Lib.hid (HZ.out.only o1 (by have := HGH.out; have := HQ.out; omega))
  replace HT := Lib.hid (HT.out.only o1 (by have := HGH.out; have := HQ.out; omega))
  replace HON := Lib.hid (HON.out.trans o1 (fun _ _ h => h))
  replace HBS := Lib.hid (Nat.le_trans HBS.out o1.size)
  clear r1 o1 RC
  go_wp2_with fail
  go_loopg [6] n0 (fun k v6 wr => ∃ (i : Nat) (si : RS) (ls : List InT) (A5 : Option Addr) (c5 : Nat) (cells : List (List Value)), i + k = n0 ∧ v6 = .int .u64 (i : Int) ∧ Hid (many inR i s0 = (ls, si)) ∧ Hid (IsRd wr lo hi g si.1 si.2) ∧ Hid (Blk wr q 25 #[.slice none 0 0, .slice none 0 0]) ∧ Hid (Blk wr (q + 1) 25 #[.slice A5 i c5, .slice none 0 0]) ∧ Hid (wr.ownsRow (q + 2) 61 34 (.slice A5 i c5) i cells.flatten) ∧ Hid (Each (inSh.rel wr (U8 wr (q + 2))) cells ls) ∧ Hid (Only (fun b => b = g) w wr) ∧ Hid (q + 2 ≤ wr.heap.size))
  case atStart => exact ⟨0, s0, [], none, 0, [], by omega, rfl, rfl, HRD.out, HZ.out, HT.out, World.ownsRow_nil _ _ _ _, .nil, HON.out, HBS.out⟩
  case round =>
    clear HRD HZ HT HON HBS
    obtain ⟨i, si, ls, A5, c5, cells, hik, rfl, HSI, HRD, HZ, HT, HOW, HE, HON, HBS⟩ := hrel
    by_cases hlt : i < n0
    · have d2 : decide (i < n0) = true := by simpa using hlt
      obtain ⟨x, hx⟩ : ∃ x, idS (rawO si.1 32) = x := ⟨_, rfl⟩
      have hx32 : x.length = 32 := by rw [← hx]; exact idS_len _
      obtain ⟨t1, ht1⟩ : ∃ t, tk 32 si = t := ⟨_, rfl⟩
      obtain ⟨ix, hix⟩ : ∃ n, numOf (rawO t1.1 4) = n := ⟨_, rfl⟩
      have hixl : ix < 4294967296 := by rw [← hix]; have := numO_lt t1.1 4 (by omega); simpa using this
      obtain ⟨t2, ht2⟩ : ∃ t, tk 4 t1 = t := ⟨_, rfl⟩
      obtain ⟨ky, hky⟩ : ∃ k, (textS t2.1 t2.2 100).1 = k := ⟨_, rfl⟩
      obtain ⟨t3, ht3⟩ : ∃ t, (textS t2.1 t2.2 100).2 = t := ⟨_, rfl⟩
      have hin : inR si = (((x, ((ix : Nat) : Int), ()), ky, ()), t3) := by
        rw [inR]
        simp only [hx, ht1, hix, ht2, hky, ht3]
      have hst : many inR (i + 1) s0 = (ls ++ [((x, ((ix : Nat) : Int), ()), ky, ())], t3) := by
        rw [many, HSI.out, hin]
      have HST := Lib.hid hst
      have HX := Lib.hid hx
      have HT1 := Lib.hid ht1
      have HIX := Lib.hid hix
      have HT2 := Lib.hid ht2
      have HKY := Lib.hid hky
      have HT3 := Lib.hid ht3
      clear hx ht1 hix ht2 hky ht3 hin hst
      have hw32 : IntKind.u32.wrap (ix : Int) = (ix : Int) := by rw [IntKind.wrap_u32]; omega
      have hi32 : i < 32 := by omega
      have hbp := Lib.hid (built_pt x (ix : Int) hx32)
      go_wp2
      replace HRD := Lib.hid (HRD.out.only ((Only.refl (fun _ => False) wr).drew) (fun _ _ _ _ h => h))
      replace HOW := Lib.hid (own_only HOW.out ((Only.refl (fun _ => False) wr).drew) (fun _ _ h => h))
      replace HE := Lib.hid (each_u8 weak_in3 HE.out ((Only.refl (fun _ => False) wr).drew) (fun _ _ h => h))
      refine wp_region_tail (S := (fun w' => Blk w' (q + 1) 25 #[.slice A5 i c5, .slice none 0 0] ∧ Blk w' q 25 #[.slice none 0 0, .slice none 0 0] ∧ Only (fun b => b = g) w w' ∧ q + 2 ≤ w'.heap.size)) 14 (by kernel_rfl) (by decide) (by kernel_rfl) (⟨HT.out.drew, HZ.out.drew, HON.out.drew, HBS.out⟩) ?_
      simp only [List.take_succ_cons, List.take_zero, List.drop_succ_cons, List.drop_zero]
      intro hSw
      refine wpAnyH_take (i := 0) (oi := ⟨some 8, _, _, _, _, _⟩) (v := (.pointer (some ⟨q + 1, 0, none⟩))) rfl (by kernel_rfl) (by kernel_rfl) (by kernel_rfl) (fun _ _ _ h => h) (Or.inl ⟨by rfl, ?_⟩) hSw ?_
      · intro w' hSw'
        have c0 := hSw'.1.cell 0
        simp only [List.getElem?_toArray, List.getElem?_cons_zero, List.getElem?_cons_succ] at c0
        go_simp
      simp only [Act.put, List.setIfInBounds_toArray, List.set_cons_zero, List.set_cons_succ]
      refine wpAnyH_take (i := 1) (oi := ⟨some 9, _, _, _, _, _⟩) (v := (.slice A5 i c5)) rfl (by kernel_rfl) (by kernel_rfl) (by kernel_rfl) (fun _ _ _ h => h) (Or.inl ⟨by rfl, ?_⟩) hSw ?_
      · intro w' hSw'
        have c0 := hSw'.1.cell 0
        simp only [List.getElem?_toArray, List.getElem?_cons_zero, List.getElem?_cons_succ] at c0
        go_simp
      simp only [Act.put, List.setIfInBounds_toArray, List.set_cons_zero, List.set_cons_succ]
      refine wpAnyH_take (i := 2) (oi := ⟨some 10, _, _, _, _, _⟩) (v := (.pointer (some ⟨g, 0, none⟩))) rfl (by kernel_rfl) (by kernel_rfl) (by kernel_rfl) (fun _ _ _ h => h) (Or.inl ⟨by rfl, ?_⟩) hSw ?_
      · intro w' hSw'
        have c0 := hSw'.1.cell 0
        simp only [List.getElem?_toArray, List.getElem?_cons_zero, List.getElem?_cons_succ] at c0
        go_simp
      simp only [Act.put, List.setIfInBounds_toArray, List.set_cons_zero, List.set_cons_succ]
      refine wpAnyH_take (i := 4) (oi := ⟨some 12, _, _, _, _, _⟩) (v := (.pointer (some ⟨g, 0, none⟩))) rfl (by kernel_rfl) (by kernel_rfl) (by kernel_rfl) (fun _ _ _ h => h) (Or.inl ⟨by rfl, ?_⟩) hSw ?_
      · intro w' hSw'
        have c0 := hSw'.1.cell 0
        simp only [List.getElem?_toArray, List.getElem?_cons_zero, List.getElem?_cons_succ] at c0
        go_simp
      simp only [Act.put, List.setIfInBounds_toArray, List.set_cons_zero, List.set_cons_succ]
      refine wpAnyH_take (i := 8) (oi := ⟨some 16, _, _, _, _, _⟩) (v := (.pointer (some ⟨g, 0, none⟩))) rfl (by kernel_rfl) (by kernel_rfl) (by kernel_rfl) (fun _ _ _ h => h) (Or.inl ⟨by rfl, ?_⟩) hSw ?_
      · intro w' hSw'
        have c0 := hSw'.1.cell 0
        simp only [List.getElem?_toArray, List.getElem?_cons_zero, List.getElem?_cons_succ] at c0
        go_simp
      simp only [Act.put, List.setIfInBounds_toArray, List.set_cons_zero, List.set_cons_succ]
      refine wpAnyH_ready (rs := [3]) (by kernel_rfl) (by simp) (AllReadyH.cons (o := ⟨some 11, _, _, _, _, _⟩) rfl (fun K hK => ?_) AllReadyH.nil)
      have hgq : g < q := by have := HGH.out; have := HQ.out; omega
      have hiq : hi ≤ q := by have := HGH.out; have := HQ.out; omega
      have RI := rid_any _ lo hi g si.1 si.2 HRD.out
      have e1 : rawL si.1 32 = t1.1 := by rw [← HT1.out]; rfl
      have e2 : rawE si.1 si.2 32 = t1.2 := by rw [← HT1.out]; rfl
      rw [HX.out, e1, e2] at RI
      unfold idV at RI
      replace RI := Lib.hid RI
      clear e1 e2
      go_simp
      go_at_call 63
      refine RI.out.mono ?_
      rintro e5 w5 ⟨rfl, r5, o5⟩
      replace HRD := Lib.hid r5
      replace HOW := Lib.hid (own_only HOW.out o5 (fun k e h => by have := own_ge HOW.out e; omega))
      replace HE := Lib.hid (each_u8 weak_in3 HE.out o5 (fun b hb h => by have := hb.1; omega))
      clear r5 RI
      dsimp only
      refine hK.out _ _ (⟨hSw.1.only o5 (by omega), hSw.2.1.only o5 (by omega), hSw.2.2.1.trans o5 (fun _ _ h => h), Nat.le_trans hSw.2.2.2 o5.size⟩) ?_
      intro hSw
      clear hK K
      try simp only [Act.put, List.setIfInBounds_toArray, List.set_cons_zero, List.set_cons_succ]
      refine wpAnyH_ready (rs := [5]) (by kernel_rfl) (by simp) (AllReadyH.cons (o := ⟨some 13, _, _, _, _, _⟩) rfl (fun K hK => ?_) AllReadyH.nil)
      have RN := rnum_any _ lo hi g t1.1 t1.2 4 HRD.out
      have e1 : rawL t1.1 4 = t2.1 := by rw [← HT2.out]; rfl
      have e2 : rawE t1.1 t1.2 4 = t2.2 := by rw [← HT2.out]; rfl
      rw [HIX.out, e1, e2] at RN
      replace RN := Lib.hid RN
      clear e1 e2
      go_simp
      go_at_call 64
      refine RN.out.mono ?_
      rintro e6 w6 ⟨rfl, r6, o6⟩
      replace HRD := Lib.hid r6
      replace HOW := Lib.hid (own_only HOW.out o6 (fun k e h => by have := own_ge HOW.out e; omega))
      replace HE := Lib.hid (each_u8 weak_in3 HE.out o6 (fun b hb h => by have := hb.1; omega))
      clear r6 RN
      dsimp only
      refine hK.out _ _ (⟨hSw.1.only o6 (by omega), hSw.2.1.only o6 (by omega), hSw.2.2.1.trans o6 (fun _ _ h => h), Nat.le_trans hSw.2.2.2 o6.size⟩) ?_
      intro hSw
      clear hK K
      try simp only [Act.put, List.setIfInBounds_toArray, List.set_cons_zero, List.set_cons_succ]
      refine wpAnyH_take (i := 6) (oi := ⟨some 14, _, _, _, _, _⟩) (v := (.int .u32 (ix : Int))) rfl (by kernel_rfl) (by kernel_rfl) (by kernel_rfl) (fun _ _ _ h => h) (Or.inl ⟨by rfl, ?_⟩) hSw ?_
      · intro w' hSw'
        have c0 := hSw'.1.cell 0
        simp only [List.getElem?_toArray, List.getElem?_cons_zero, List.getElem?_cons_succ] at c0
        go_simp
      simp only [Act.put, List.setIfInBounds_toArray, List.set_cons_zero, List.set_cons_succ]
      refine wpAnyH_take (i := 7) (oi := ⟨some 15, _, _, _, _, _⟩) (v := (.agg (bts x ++ [Value.int .u32 (ix : Int)]).toArray)) rfl (by kernel_rfl) (by kernel_rfl) (by kernel_rfl) (fun _ _ _ h => h) (Or.inl ⟨by rfl, ?_⟩) hSw ?_
      · intro w' hSw'
        exact exec_build rfl (by simp [Act.eval]) (hbp.out)
      simp only [Act.put, List.setIfInBounds_toArray, List.set_cons_zero, List.set_cons_succ]
      refine wpAnyH_ready (rs := [9]) (by kernel_rfl) (by simp) (AllReadyH.cons (o := ⟨some 17, _, _, _, _, _⟩) rfl (fun K hK => ?_) AllReadyH.nil)
      have RT := rtext_any _ lo hi g t2.1 t2.2 100 HRD.out (by omega)
      rw [HKY.out, HT3.out] at RT
      replace RT := Lib.hid RT
      clear hbp
      go_simp
      go_at_call 65
      refine RT.out.mono ?_
      rintro e7 w7 ⟨v7, rfl, hv7, r7, o7⟩
      have hu7 := (hv7.u8 (B := q + 2) hSw.2.2.2)
      obtain ⟨Av, nv, cv, rfl, _, _⟩ := hv7
      replace HRD := Lib.hid r7
      replace HOW := Lib.hid (own_only HOW.out o7 (fun k e h => by have := own_ge HOW.out e; omega))
      replace HE := Lib.hid (each_u8 weak_in3 HE.out o7 (fun b hb h => by have := hb.1; omega))
      have hbi := built_in x (ix : Int) Av nv cv hx32
      have hxr := in_made hx32 hixl hu7
      obtain ⟨X, hX⟩ : ∃ X, bts x ++ [Value.int .u32 (ix : Int), Value.slice Av nv cv] = X := ⟨_, rfl⟩
      have hXl : X.length = 34 := by rw [← hX]; simp [hx32]
      have hX1 : ∀ u ∈ X, u.oneCell' = true := by rw [← hX]; exact inC_one x ix (.slice Av nv cv) rfl
      rw [hX] at hbi hxr
      replace hbi := Lib.hid hbi
      replace HE := Lib.hid (HE.out.append (.cons hxr .nil))
      have hfold := fun (z : Array Value) (hz : z.size = 34) => fold_set X z (by rw [hz, hXl])
      clear hX hxr hu7 r7 RT
      dsimp only
      refine hK.out _ _ (⟨hSw.1.only o7 (by omega), hSw.2.1.only o7 (by omega), hSw.2.2.1.trans o7 (fun _ _ h => h), Nat.le_trans hSw.2.2.2 o7.size⟩) ?_
      intro hSw
      clear hK K
      try simp only [Act.put, List.setIfInBounds_toArray, List.set_cons_zero, List.set_cons_succ]
      refine wpAnyH_take (i := 10) (oi := ⟨some 18, _, _, _, _, _⟩) (v := (.agg X.toArray)) rfl (by kernel_rfl) (by kernel_rfl) (by kernel_rfl) (fun _ _ _ h => h) (Or.inl ⟨by rfl, ?_⟩) hSw ?_
      · intro w' hSw'
        exact exec_build rfl (by simp [Act.eval]) (hbi.out)
      simp only [Act.put, List.setIfInBounds_toArray, List.set_cons_zero, List.set_cons_succ]
      refine wpAnyH_ready (rs := [11]) (by kernel_rfl) (by simp) (AllReadyH.cons (o := ⟨some 19, _, _, _, _, _⟩) rfl (fun K hK => ?_) AllReadyH.nil)
      clear hbi
      go_simp
      replace HOW := Lib.hid (HOW.out.alloc (.cells X.toArray 61))
      replace HE := Lib.hid (each_u8 weak_in3 HE.out ((Only.refl (fun _ => False) w7).alloc (.cells X.toArray 61)) (fun _ _ h => h))
      replace HRD := Lib.hid (HRD.out.only ((Only.refl (fun _ => False) w7).alloc (.cells X.toArray 61)) (fun _ _ _ _ h => h))
      refine hK.out _ _ (⟨hSw.1.alloc _, hSw.2.1.alloc _, hSw.2.2.1.alloc _, Nat.le_trans hSw.2.2.2 (by simp)⟩) ?_
      intro hSw
      clear hK K
      try simp only [Act.put, List.setIfInBounds_toArray, List.set_cons_zero, List.set_cons_succ]
      refine wpAnyH_ready (rs := [12]) (by kernel_rfl) (by simp) (AllReadyH.cons (o := ⟨some 20, _, _, _, _, _⟩) rfl (fun K hK => ?_) AllReadyH.nil)
      refine step_app rfl (.tmp 9) (.tmp 19) 22 rfl (q + 2) 61 _ 34 64 Try.underlying22 infoInzz (by rfl) (by decide) A5 i c5 rfl _ 1 1 rfl _ HOW.out _ _ (Sl.one_row w7 61 X 34 hXl) hX1 (by unfold maxLen; omega) (by omega) hSw.2.2.2 ?_
      intro A7 c7 w9 hown9 ho9 hat9
      have ho8 := ho9.mono (S' := fun b => q + 2 ≤ b) (fun b hb e => own_ge HOW.out e)
      replace HE := Lib.hid (each_u8 weak_in3 HE.out ho9 (fun b hb => own_not_u8 HOW.out (by decide) hb))
      replace HRD := Lib.hid (HRD.out.only ho8 (fun b _ _ hb e => by omega))
      replace HOW := Lib.hid hown9
      clear hown9 ho9 hat9
      refine hK.out _ _ (⟨hSw.1.only ho8 (by omega), hSw.2.1.only ho8 (by omega), hSw.2.2.1.trans ho8 (fun b hb e => by have := HQ.out; omega), Nat.le_trans hSw.2.2.2 ho8.size⟩) ?_
      intro hSw
      clear hK K
      try simp only [Act.put, List.setIfInBounds_toArray, List.set_cons_zero, List.set_cons_succ]
      refine wpAnyH_take (i := 13) (oi := ⟨some 21, _, _, _, _, _⟩) (v := (.pointer (some ⟨q + 1, 0, none⟩))) rfl (by kernel_rfl) (by kernel_rfl) (by kernel_rfl) (fun _ _ _ h => h) (Or.inl ⟨by rfl, ?_⟩) hSw ?_
      · intro w' hSw'
        have c0 := hSw'.1.cell 0
        simp only [List.getElem?_toArray, List.getElem?_cons_zero, List.getElem?_cons_succ] at c0
        go_simp
      simp only [Act.put, List.setIfInBounds_toArray, List.set_cons_zero, List.set_cons_succ]
      refine wpAnyH_done (by kernel_rfl) ?_ _
      show wpList _ _ _ _ _ _
      replace HT := Lib.hid hSw.1
      replace HZ := Lib.hid hSw.2.1
      replace HON := Lib.hid hSw.2.2.1
      replace HBS := Lib.hid hSw.2.2.2
      have c1 := HT.out.cell 0
      have f1 := HT.out.frozen 0
      simp only [List.getElem?_toArray, List.getElem?_cons_zero, List.getElem?_cons_succ] at c1
      clear hSw hfold d2 hX1 hXl hx32 hixl hw32 hi32
      go_wp2
      go_roundg (n0 - (i + 1))
      case measure => omega
      case rel =>
        have hob : Only (fun b => b = q + 1) w9 (w9.setCell ⟨q + 1, 0, none⟩ (.slice A7 (i + 1) c7)) := (Only.refl (fun b => b = q + 1) _).setCell (p := ⟨q + 1, 0, none⟩) (fun _ => rfl) _
        refine ⟨i + 1, t3, _, A7, c7, cells ++ [X], by omega, ?_, HST.out, HRD.out.only hob (fun b _ _ hb e => by omega), HZ.out.only hob (by omega), HT.out.set_ 0 _, own_only ?_ hob (fun k e h => by have := own_ge HOW.out e; omega), each_u8 weak_in3 HE.out hob (fun b hb e => by have := hb.1; omega), HON.out.trans hob (fun b hb e => by have := HQ.out; omega), Nat.le_trans HBS.out hob.size⟩
        · first | rfl | (rw [IntKind.wrap_u64]; congr 1; omega)
        · have := HOW.out
          rw [List.flatten_append]
          simpa using this
    · have d2 : decide (i < n0) = false := by simpa using hlt
      obtain rfl : n0 = i := by omega
      clear hlt hik
      have hI : txI s = (ls, si) := by
        unfold txI
        rw [Es0.out]
        exact HSI.out
      have HII := Lib.hid hI
      have hll : ls.length = n0 := by have := many_len inR n0 s0; rw [HSI.out] at this; exact this
      have HLL := Lib.hid hll
      obtain ⟨B2, hB2⟩ : ∃ B2, wr.heap.size = B2 := ⟨_, rfl⟩
      have hins : insSh.rel wr (fun b => q + 2 ≤ b ∧ b < B2) [.slice A5 n0 c5] ls := own_shut HOW.out (HE.out.mono (fun _ _ h => weak_in3 _ _ _ _ _ h (fun b hb h => ⟨h.1, by rw [← hB2]; exact hb⟩))) hll (fun b h1 h2 => ⟨h1, by rw [← hB2]; exact h2⟩)
      have HINS := Lib.hid hins
      have HB2 := Lib.hid (show B2 ≤ wr.heap.size by omega)
      have HQB := Lib.hid (show q + 2 ≤ B2 by rw [← hB2]; exact HBS.out)
      clear hI hll hins hB2 HOW HE HBS d2
      obtain ⟨m0, hk⟩ : ∃ k, (cnt 32 si).1 = k := ⟨_, rfl⟩
      obtain ⟨u0, ht⟩ : ∃ t, (cnt 32 si).2 = t := ⟨_, rfl⟩
      have RC := rcount_any wr lo hi g si.1 si.2 32 HRD.out
      have hle2 := cnt_le 32 si
      rw [hk] at hle2
      have Eu0 := Lib.hid (show cnt 32 si = (m0, u0) by rw [← hk, ← ht])
      rw [show rcountS si.1 si.2 32 = (m0, u0) from Eu0.out] at RC
      replace RC := Lib.hid RC
      have hgq : g < q := by have := HGH.out; have := HQ.out; omega
      have hiq : hi ≤ q := by have := HGH.out; have := HQ.out; omega
      clear hk ht
      go_wp2_with fail
      refine RC.out.mono ?_
      rintro e1 w1 ⟨rfl, r1, o1⟩
      try dsimp only at r1
      replace HRD := Lib.hid r1
      replace HZ := Lib.hid (HZ.out.only o1 (by omega))
      replace HT := Lib.hid (HT.out.only o1 (by omega))
      replace HON := Lib.hid (HON.out.trans o1 (fun _ _ h => h))
      replace HB2 := Lib.hid (Nat.le_trans HB2.out o1.size)
      replace HINS := Lib.hid (insSh.only HINS.out o1 (fun b _ hb e => by omega))
      clear r1 o1 RC
      go_wp2_with fail
      go_loopg [25] m0 (fun k v25 wr => ∃ (j : Nat) (sj : RS) (os : List OutT) (A6 : Option Addr) (c6 : Nat) (cells : List (List Value)), j + k = m0 ∧ v25 = .int .u64 (j : Int) ∧ Hid (many outR j u0 = (os, sj)) ∧ Hid (IsRd wr lo hi g sj.1 sj.2) ∧ Hid (Blk wr q 25 #[.slice none 0 0, .slice none 0 0]) ∧ Hid (Blk wr (q + 1) 25 #[.slice A5 n0 c5, .slice A6 j c6]) ∧ Hid (wr.ownsRow B2 63 33 (.slice A6 j c6) j cells.flatten) ∧ Hid (Each (outSh.rel wr (fun _ => True)) cells os) ∧ Hid (Only (fun b => b = g) w wr) ∧ Hid (B2 ≤ wr.heap.size) ∧ Hid (insSh.rel wr (fun b => q + 2 ≤ b ∧ b < B2) [.slice A5 n0 c5] ls))
      case atStart => exact ⟨0, u0, [], none, 0, [], by omega, rfl, rfl, HRD.out, HZ.out, HT.out, World.ownsRow_nil _ _ _ _, .nil, HON.out, HB2.out, HINS.out⟩
      case round =>
        clear HRD HZ HT HON HB2 HINS
        obtain ⟨j, sj, os, A6, c6, cells, hjk, rfl, HSJ, HRD, HZ, HT, HOW, HE, HON, HB2, HINS⟩ := hrel
        by_cases hlt : j < m0
        · have d2 : decide (j < m0) = true := by simpa using hlt
          obtain ⟨z, hz⟩ : ∃ n, numOf (rawO sj.1 8) = n := ⟨_, rfl⟩
          obtain ⟨am, ham⟩ : ∃ a, IntKind.i64.wrap ((z : Nat) : Int) = a := ⟨_, rfl⟩
          obtain ⟨t1, ht1⟩ : ∃ t, tk 8 sj = t := ⟨_, rfl⟩
          obtain ⟨x, hx⟩ : ∃ x, idS (rawO t1.1 32) = x := ⟨_, rfl⟩
          have hx32 : x.length = 32 := by rw [← hx]; exact idS_len _
          obtain ⟨t2, ht2⟩ : ∃ t, tk 32 t1 = t := ⟨_, rfl⟩
          have hwf : (Lit.int .i64 am).wf = true := by
            rw [← ham]
            simp only [Lit.wf, IntKind.min, IntKind.max, IntKind.signed, IntKind.bits, Bool.and_eq_true, decide_eq_true_eq]
            rw [IntKind.wrap_i64]
            simp
            omega
          have hout : outR sj = ((am, x, ()), t2) := by
            rw [outR]
            simp only [hz, ham, ht1, hx, ht2]
          have hst : many outR (j + 1) u0 = (os ++ [(am, x, ())], t2) := by
            rw [many, HSJ.out, hout]
          have HST := Lib.hid hst
          have HX := Lib.hid hx
          have HT1 := Lib.hid ht1
          have HZZ := Lib.hid hz
          have HT2 := Lib.hid ht2
          have HWF := Lib.hid hwf
          have hbo := built_out am x hx32
          have hXl : (outC am x).length = 33 := outC_len am x hx32
          have hfold := fun (z : Array Value) (hz : z.size = 33) => fold_set (outC am x) z (by rw [hz, hXl])
          obtain ⟨X, hX⟩ : ∃ X, outC am x = X := ⟨_, rfl⟩
          have HXX := Lib.hid hX
          rw [hX] at hbo hXl hfold
          replace hbo := Lib.hid hbo
          clear hx ht1 hz ht2 hwf hout hst hX
          go_wp2
          replace HRD := Lib.hid (HRD.out.only ((Only.refl (fun _ => False) wr).drew) (fun _ _ _ _ h => h))
          replace HOW := Lib.hid (own_only HOW.out ((Only.refl (fun _ => False) wr).drew) (fun _ _ h => h))
          replace HE := Lib.hid (HE.out.mono (fun _ _ h => outSh.only h ((Only.refl (fun _ => False) wr).drew) (fun _ _ _ h => h)))
          refine wp_region_tail (S := (fun w' => Blk w' (q + 1) 25 #[.slice A5 n0 c5, .slice A6 j c6] ∧ Blk w' q 25 #[.slice none 0 0, .slice none 0 0] ∧ Only (fun b => b = g) w w' ∧ B2 ≤ w'.heap.size ∧ insSh.rel w' (fun b => q + 2 ≤ b ∧ b < B2) [.slice A5 n0 c5] ls)) 11 (by kernel_rfl) (by decide) (by kernel_rfl) (⟨HT.out.drew, HZ.out.drew, HON.out.drew, HB2.out, insSh.only HINS.out ((Only.refl (fun _ => False) wr).drew) (fun _ _ _ h => h)⟩) ?_
          simp only [List.take_succ_cons, List.take_zero, List.drop_succ_cons, List.drop_zero]
          intro hSw
          refine wpAnyH_take (i := 0) (oi := ⟨some 27, _, _, _, _, _⟩) (v := (.pointer (some ⟨q + 1, 1, none⟩))) rfl (by kernel_rfl) (by kernel_rfl) (by kernel_rfl) (fun _ _ _ h => h) (Or.inl ⟨by rfl, ?_⟩) hSw ?_
          · intro w' hSw'
            have c0 := hSw'.1.cell 1
            simp only [List.getElem?_toArray, List.getElem?_cons_zero, List.getElem?_cons_succ] at c0
            go_simp
          simp only [Act.put, List.setIfInBounds_toArray, List.set_cons_zero, List.set_cons_succ]
          refine wpAnyH_take (i := 1) (oi := ⟨some 28, _, _, _, _, _⟩) (v := (.slice A6 j c6)) rfl (by kernel_rfl) (by kernel_rfl) (by kernel_rfl) (fun _ _ _ h => h) (Or.inl ⟨by rfl, ?_⟩) hSw ?_
          · intro w' hSw'
            have c0 := hSw'.1.cell 1
            simp only [List.getElem?_toArray, List.getElem?_cons_zero, List.getElem?_cons_succ] at c0
            go_simp
          simp only [Act.put, List.setIfInBounds_toArray, List.set_cons_zero, List.set_cons_succ]
          refine wpAnyH_take (i := 2) (oi := ⟨some 29, _, _, _, _, _⟩) (v := (.pointer (some ⟨g, 0, none⟩))) rfl (by kernel_rfl) (by kernel_rfl) (by kernel_rfl) (fun _ _ _ h => h) (Or.inl ⟨by rfl, ?_⟩) hSw ?_
          · intro w' hSw'
            have c0 := hSw'.1.cell 1
            simp only [List.getElem?_toArray, List.getElem?_cons_zero, List.getElem?_cons_succ] at c0
            go_simp
          simp only [Act.put, List.setIfInBounds_toArray, List.set_cons_zero, List.set_cons_succ]
          refine wpAnyH_take (i := 5) (oi := ⟨some 32, _, _, _, _, _⟩) (v := (.pointer (some ⟨g, 0, none⟩))) rfl (by kernel_rfl) (by kernel_rfl) (by kernel_rfl) (fun _ _ _ h => h) (Or.inl ⟨by rfl, ?_⟩) hSw ?_
          · intro w' hSw'
            have c0 := hSw'.1.cell 1
            simp only [List.getElem?_toArray, List.getElem?_cons_zero, List.getElem?_cons_succ] at c0
            go_simp
          simp only [Act.put, List.setIfInBounds_toArray, List.set_cons_zero, List.set_cons_succ]
          refine wpAnyH_ready (rs := [3]) (by kernel_rfl) (by simp) (AllReadyH.cons (o := ⟨some 30, _, _, _, _, _⟩) rfl (fun K hK => ?_) AllReadyH.nil)
          have hqb : q + 2 ≤ B2 := HQB.out
          have RN := rnum_any _ lo hi g sj.1 sj.2 8 HRD.out
          have e1 : rawL sj.1 8 = t1.1 := by rw [← HT1.out]; rfl
          have e2 : rawE sj.1 sj.2 8 = t1.2 := by rw [← HT1.out]; rfl
          rw [HZZ.out, e1, e2] at RN
          replace RN := Lib.hid RN
          clear e1 e2
          go_simp
          go_at_call 64
          refine RN.out.mono ?_
          rintro e6 w6 ⟨rfl, r6, o6⟩
          replace HRD := Lib.hid r6
          replace HOW := Lib.hid (own_only HOW.out o6 (fun k e h => by have := own_ge HOW.out e; omega))
          replace HE := Lib.hid (each_out HE.out w6 (ok' := fun _ => True))
          clear r6 RN
          dsimp only
          refine hK.out _ _ (⟨hSw.1.only o6 (by omega), hSw.2.1.only o6 (by omega), hSw.2.2.1.trans o6 (fun _ _ h => h), Nat.le_trans hSw.2.2.2.1 o6.size, insSh.only hSw.2.2.2.2 o6 (fun b _ hb e => by omega)⟩) ?_
          intro hSw
          clear hK K
          try simp only [Act.put, List.setIfInBounds_toArray, List.set_cons_zero, List.set_cons_succ]
          refine wpAnyH_take (i := 4) (oi := ⟨some 31, _, _, _, _, _⟩) (v := (.int .i64 am)) rfl (by kernel_rfl) (by kernel_rfl) (by kernel_rfl) (fun _ _ _ h => h) (Or.inl ⟨by rfl, ?_⟩) hSw ?_
          · intro w' hSw'
            have c0 := hSw'.1.cell 1
            simp only [List.getElem?_toArray, List.getElem?_cons_zero, List.getElem?_cons_succ] at c0
            go_simp
          simp only [Act.put, List.setIfInBounds_toArray, List.set_cons_zero, List.set_cons_succ]
          refine wpAnyH_ready (rs := [6]) (by kernel_rfl) (by simp) (AllReadyH.cons (o := ⟨some 33, _, _, _, _, _⟩) rfl (fun K hK => ?_) AllReadyH.nil)
          have RI := rid_any _ lo hi g t1.1 t1.2 HRD.out
          have e1 : rawL t1.1 32 = t2.1 := by rw [← HT2.out]; rfl
          have e2 : rawE t1.1 t1.2 32 = t2.2 := by rw [← HT2.out]; rfl
          rw [HX.out, e1, e2] at RI
          unfold idV at RI
          replace RI := Lib.hid RI
          clear e1 e2
          go_simp
          go_at_call 63
          refine RI.out.mono ?_
          rintro e5 w5 ⟨rfl, r5, o5⟩
          replace HRD := Lib.hid r5
          replace HOW := Lib.hid (own_only HOW.out o5 (fun k e h => by have := own_ge HOW.out e; omega))
          replace HE := Lib.hid (each_out HE.out w5 (ok' := fun _ => True))
          clear r5 RI
          dsimp only
          refine hK.out _ _ (⟨hSw.1.only o5 (by omega), hSw.2.1.only o5 (by omega), hSw.2.2.1.trans o5 (fun _ _ h => h), Nat.le_trans hSw.2.2.2.1 o5.size, insSh.only hSw.2.2.2.2 o5 (fun b _ hb e => by omega)⟩) ?_
          intro hSw
          clear hK K
          try simp only [Act.put, List.setIfInBounds_toArray, List.set_cons_zero, List.set_cons_succ]
          refine wpAnyH_take (i := 7) (oi := ⟨some 34, _, _, _, _, _⟩) (v := (.agg X.toArray)) rfl (by kernel_rfl) (by kernel_rfl) (by kernel_rfl) (fun _ _ _ h => h) (Or.inl ⟨by rfl, ?_⟩) hSw ?_
          · intro w' hSw'
            exact exec_build rfl (by simp [Act.eval]) (hbo.out)
          simp only [Act.put, List.setIfInBounds_toArray, List.set_cons_zero, List.set_cons_succ]
          refine wpAnyH_ready (rs := [8]) (by kernel_rfl) (by simp) (AllReadyH.cons (o := ⟨some 35, _, _, _, _, _⟩) rfl (fun K hK => ?_) AllReadyH.nil)
          clear hbo
          go_simp
          replace HOW := Lib.hid (HOW.out.alloc (.cells X.toArray 63))
          replace HE := Lib.hid (HE.out.mono (fun _ _ h => outSh.only h ((Only.refl (fun _ => False) w5).alloc (.cells X.toArray 63)) (fun _ _ _ h => h)))
          replace HRD := Lib.hid (HRD.out.only ((Only.refl (fun _ => False) w5).alloc (.cells X.toArray 63)) (fun _ _ _ _ h => h))
          refine hK.out _ _ (⟨hSw.1.alloc _, hSw.2.1.alloc _, hSw.2.2.1.alloc _, Nat.le_trans hSw.2.2.2.1 (by simp), insSh.only hSw.2.2.2.2 ((Only.refl (fun _ => False) w5).alloc _) (fun _ _ _ h => h)⟩) ?_
          intro hSw
          clear hK K
          try simp only [Act.put, List.setIfInBounds_toArray, List.set_cons_zero, List.set_cons_succ]
          refine wpAnyH_ready (rs := [9]) (by kernel_rfl) (by simp) (AllReadyH.cons (o := ⟨some 36, _, _, _, _, _⟩) rfl (fun K hK => ?_) AllReadyH.nil)
          have hX1 : ∀ u ∈ X, u.oneCell' = true := by rw [← HXX.out]; exact outC_one am x
          refine step_app rfl (.tmp 28) (.tmp 35) 23 rfl B2 63 _ 33 40 Try.underlying23 infoOutzz (by rfl) (by decide) A6 j c6 rfl _ 1 1 rfl _ HOW.out _ _ (Sl.one_row w5 63 X 33 hXl) hX1 (by unfold maxLen; omega) (by omega) hSw.2.2.2.1 ?_
          intro A7 c7 w9 hown9 ho9 hat9
          have ho8 := ho9.mono (S' := fun b => B2 ≤ b) (fun b hb e => own_ge HOW.out e)
          have hE9 : Each (outSh.rel w9 (fun _ => True)) (cells ++ [X]) (os ++ [(am, x, ())]) := (each_out HE.out w9).append (.cons (by rw [← HXX.out]; exact out_made hx32 HWF.out) .nil)
          replace HE := Lib.hid hE9
          replace HRD := Lib.hid (HRD.out.only ho8 (fun b _ _ hb e => by omega))
          replace HOW := Lib.hid hown9
          clear hown9 ho9 hat9 hE9
          refine hK.out _ _ (⟨hSw.1.only ho8 (by omega), hSw.2.1.only ho8 (by omega), hSw.2.2.1.trans ho8 (fun b hb e => by have := HQ.out; omega), Nat.le_trans hSw.2.2.2.1 ho8.size, insSh.only hSw.2.2.2.2 ho8 (fun b _ hb e => by omega)⟩) ?_
          intro hSw
          clear hK K
          try simp only [Act.put, List.setIfInBounds_toArray, List.set_cons_zero, List.set_cons_succ]
          refine wpAnyH_take (i := 10) (oi := ⟨some 37, _, _, _, _, _⟩) (v := (.pointer (some ⟨q + 1, 1, none⟩))) rfl (by kernel_rfl) (by kernel_rfl) (by kernel_rfl) (fun _ _ _ h => h) (Or.inl ⟨by rfl, ?_⟩) hSw ?_
          · intro w' hSw'
            have c0 := hSw'.1.cell 1
            simp only [List.getElem?_toArray, List.getElem?_cons_zero, List.getElem?_cons_succ] at c0
            go_simp
          simp only [Act.put, List.setIfInBounds_toArray, List.set_cons_zero, List.set_cons_succ]
          refine wpAnyH_done (by kernel_rfl) ?_ _
          show wpList _ _ _ _ _ _
          replace HT := Lib.hid hSw.1
          replace HZ := Lib.hid hSw.2.1
          replace HON := Lib.hid hSw.2.2.1
          replace HB2 := Lib.hid hSw.2.2.2.1
          replace HINS := Lib.hid hSw.2.2.2.2
          have c1 := HT.out.cell 1
          have f1 := HT.out.frozen 1
          simp only [List.getElem?_toArray, List.getElem?_cons_zero, List.getElem?_cons_succ] at c1
          clear hSw hfold d2 hX1 hXl hx32
          go_wp2
          go_roundg (m0 - (j + 1))
          case measure => omega
          case rel =>
            have hob : Only (fun b => b = q + 1) w9 (w9.setCell ⟨q + 1, 1, none⟩ (.slice A7 (j + 1) c7)) := (Only.refl (fun b => b = q + 1) _).setCell (p := ⟨q + 1, 1, none⟩) (fun _ => rfl) _
            refine ⟨j + 1, t2, _, A7, c7, cells ++ [X], by omega, ?_, HST.out, HRD.out.only hob (fun b _ _ hb e => by omega), HZ.out.only hob (by omega), HT.out.set_ 1 _, own_only ?_ hob (fun k e h => by have := own_ge HOW.out e; omega), HE.out.mono (fun _ _ h => out_free h), HON.out.trans hob (fun b hb e => by have := HQ.out; omega), Nat.le_trans HB2.out hob.size, insSh.only HINS.out hob (fun b _ hb e => by omega)⟩
            · first | rfl | (rw [IntKind.wrap_u64]; congr 1; omega)
            · have := HOW.out
              rw [List.flatten_append]
              simpa using this
        · have d2 : decide (j < m0) = false := by simpa using hlt
          obtain rfl : m0 = j := by omega
          clear hlt hjk
          have hO : txR s = ((ls, os, ()), sj) := by
            have e : txO s = (os, sj) := by
              unfold txO
              rw [HII.out]
              simp only [Eu0.out]
              exact HSJ.out
            simp only [txR, HII.out, e]
          have HOO := Lib.hid hO
          have hol : os.length = m0 := by have := many_len outR m0 u0; rw [HSJ.out] at this; exact this
          have houts : outsSh.rel wr (fun b => B2 ≤ b) [.slice A6 m0 c6] os := own_shut HOW.out (HE.out.mono (fun _ _ h => out_free h)) hol (fun b h1 _ => h1)
          have HOUT := Lib.hid houts
          clear hO hol houts HOW HE d2
          have c0 := HT.out.cell 0
          have c1 := HT.out.cell 1
          simp only [List.getElem?_toArray, List.getElem?_cons_zero, List.getElem?_cons_succ] at c0 c1
          go_wp2_with (with_reducible refine wpList_stb rfl 25 (.tmp 2) (.tmp 39) rfl q 0 _ rfl rfl 25 [.slice none 0 0, .slice none 0 0] HZ.out ?h1 ?h2 ?h3 ?_)
          case h1 => simp
          case h2 => rw [infoTx]; rfl
          case h3 => exact ⟨rfl, rfl⟩
          intro w4 b4 o4
          rw [over_all _ _ (by simp)] at b4
          have HB4 := Lib.hid b4
          have O4 := Lib.hid o4
          clear b4 o4 c0 c1
          have hqb : q + 2 ≤ B2 := HQB.out
          go_wp2
          refine bodyPost_ret (results_cell_row rfl _ _ q 25 (#[.slice A5 n0 c5, .slice A6 m0 c6] : Array Value) (0, 0) _ rfl HB4.out Try.underlying25 rfl (by rw [infoTx]; rfl)) rfl ?_
          refine ⟨A5, n0, c5, A6, m0, c6, rfl, ?_, ?_, by omega, by omega, ?_, HON.out.trans O4.out (fun b hb e => by have := HQ.out; omega)⟩
          · rw [HOO.out, HQ.out]
            exact weak_slice weak_in3 _ _ _ _ _ (insSh.only HINS.out O4.out (fun b _ hb e => by omega)) (fun b _ hb => by omega)
          · rw [HOO.out, HQ.out]
            exact weak_slice weak_out3 _ _ _ _ _ (outsSh.only HOUT.out O4.out (fun b _ hb e => by omega)) (fun b _ hb => by omega)
          · rw [HOO.out]
            exact HRD.out.only O4.out (fun b _ _ hb e => by omega)
end Go.Proofs.Ytpcombaecbjmfaa
