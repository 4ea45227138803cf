/- coins.Set: Clone, All, Len, Get, Connect. -/
import Derived.Test.YtlbpeihdedhjiaaCnn
import Derived.Test.YtlbpeihdedhjiaaBl
namespace Go.Proofs.Ytlbpeihdedhjiaa
open Go.RowKit
set_option maxRecDepth 20000 in
set_option maxHeartbeats 4000000 in
/-- maps.Clone -/
theorem mclone_any (w : World) (B : Nat) (p : Option Nat) (L : CoL) (hm : MapAt w B p L) :
    Calls Try.prog 33 #[.map p] w fun e w' => ∃ p', e = .returned (.map p') ∧ Below w.heap.size w w' ∧ MapAt w' w.heap.size p' L := by
  have hq := fun w => run_eql_map_nil_sl (P := Try.prog) w 40 28 61 p Try.underlying40
  cases p with
  | none =>
    have h0 : L = [] := hm
    subst h0
    have hq := hq w
    go_enter Try.func33, Try.ntmps33
    go_wp2
    go_ret
    first
      | exact ⟨none, rfl, Below.refl _ _, rfl⟩
      | skip
  | some b =>
    obtain ⟨es, clock, e1, e2, e3, e4⟩ := hm.2
    have hq := hq w
    go_enter Try.func33, Try.ntmps33
    go_wp2
    rw [run_callFunc_extern Try.func48 (by kernel_rfl) (by kernel_rfl) (by kernel_rfl) (e := Extern.MapsClone.clone) (by kernel_rfl), run_maps_clone_sl w 40 e1]
    simp only [Result.andThen]
    rw [Oper.upon_value]
    go_wp2
    rw [run_typeAssert_map_sl _ 40 _ _ _ _ Try.underlying40]
    simp only [Result.andThen]
    rw [Oper.upon_value]
    go_wp2
    go_ret
    exact ⟨some w.heap.size, rfl, (Below.refl _ _).alloc (Nat.le_refl _) _, Nat.le_refl _, es, clock, heap_alloc_new _ _, e2, e3, e4⟩
theorem built_set (p : Option Nat) : Try.prog.built 42 [(0, .map p)] = some #[Value.map p] := by show _ = _; kernel_rfl
set_option maxRecDepth 20000 in
set_option maxHeartbeats 4000000 in
theorem clone_any (w : World) (B gs : Nat) (p : Option Nat) (L : CoL) (hs : Blk w gs 42 [Value.map p].toArray) (hm : MapAt w B p L) :
    Calls Try.prog 26 #[.pointer (some ⟨gs, 0, none⟩)] w fun e w' => ∃ gc p', e = .returned (.pointer (some ⟨gc, 0, none⟩)) ∧ Below w.heap.size w w' ∧ w.heap.size ≤ gc ∧ Blk w' gc 42 [Value.map p'].toArray ∧ MapAt w' w.heap.size p' L := by
  have HM := Lib.hid hm
  have c0 := hs.cell 0
  simp only [List.getElem?_toArray, List.getElem?_cons_zero] at c0
  have hbs := built_set
  clear hm hs
  go_enter Try.func26, Try.ntmps26
  go_wp2_with fail
  refine (mclone_any w B p L HM.out).mono ?_
  rintro e1 w1 ⟨p', rfl, a1, m1⟩
  have HM1 := Lib.hid m1
  have HA := Lib.hid a1
  clear m1 a1 c0
  go_wp2_with (first
    | (refine wpList_bld rfl 42 _ rfl [(0, .map p')] _ (built_set p') (by simp [Act.eval, Act.put]) ?_))
  go_ret
  exact ⟨w1.heap.size, p', rfl, HA.out.trans (((Below.refl _ _).alloc (Nat.le_refl _) _).mono HA.out.size), HA.out.size, Blk.new _ _ _, HM1.out.new ((Below.refl _ _).alloc (Nat.le_refl _) _)⟩
theorem weak_in13 : inSh.Weak := weak_pair (weak_pair (weak_arr 32) (weak_pair (weak_int _) weak_unit)) (weak_pair weak_bytes weak_unit)
theorem weak_out13 : outSh.Weak := weak_pair (weak_int _) (weak_pair (weak_arr 32) weak_unit)
theorem weak_tx13 : txSh.Weak := weak_pair (weak_slice weak_in13) (weak_pair (weak_slice weak_out13) weak_unit)
/-- what Connect leaves -/
def cL (R : CoL × CoL × Int) (L : CoL) : CoL := if R.2.2 = 0 then R.1 else L
def cU (R : CoL × CoL × Int) : CoL := if R.2.2 = 0 then R.2.1 else []
theorem built_undo0 : Try.prog.built 46 [] = some #[.slice none 0 0, .slice none 0 0] := by show _ = _; kernel_rfl
set_option maxRecDepth 20000 in
set_option maxHeartbeats 8000000 in
set_option linter.unusedSimpArgs false in
theorem cconnect_any (w : World) (B gs : Nat) (p : Option Nat) (L : CoL) (v t b n : Nat) (prev root : List UInt8) (A : Option Addr) (m c : Nat) (txs : List TxT) (h sub : Int) (h1 : prev.length = 32) (h2 : root.length = 32)
    (hB : B ≤ w.heap.size) (hset : Blk w gs 42 [Value.map p].toArray) (hmap : MapAt w B p L)
    (ht : txsSh.rel w (fun b => b < w.heap.size) [.slice A m c] txs) (hm : txs.length = m) (hf : ∀ t ∈ txs, TxFit t) (hm2 : m ≤ 100) :
    Calls Try.prog 12 #[.pointer (some ⟨gs, 0, none⟩), .agg (blkC v prev root t b n (.slice A m c)).toArray, .int .i64 h, .int .i64 sub] w fun e w' => ∃ A1 c1 A2 c2, e = .returned (.tuple #[.agg #[.slice A1 (cU (connM h sub txs L)).length c1, .slice A2 (cU (connM h sub txs L)).length c2], .int .i64 (connM h sub txs L).2.2]) ∧ Only (fun k => k = gs) w w' ∧
      w'.ownsRow w.heap.size 28 33 (.slice A1 (cU (connM h sub txs L)).length c1) (cU (connM h sub txs L)).length (ptsC (cU (connM h sub txs L))) ∧ w'.ownsRow w.heap.size 61 34 (.slice A2 (cU (connM h sub txs L)).length c2) (cU (connM h sub txs L)).length (cosC (cU (connM h sub txs L))) ∧
      ∃ p', Blk w' gs 42 [Value.map p'].toArray ∧ MapAt w' B p' (cL (connM h sub txs L) L) := by
  obtain ⟨R, hR⟩ : ∃ R, connM h sub txs L = R := ⟨_, rfl⟩
  obtain ⟨LL, hLL⟩ : ∃ LL, cL R L = LL := ⟨_, rfl⟩
  obtain ⟨UU, hUU⟩ : ∃ UU, cU R = UU := ⟨_, rfl⟩
  rw [hR, hLL, hUU]
  have HR := Lib.hid hR
  have HLL := Lib.hid hLL
  have HUU := Lib.hid hUU
  have HT := Lib.hid (fun W (a : Below w.heap.size w W) => txsSh.below ht a (fun _ h _ => h))
  have HM := Lib.hid hm
  have HF := Lib.hid hf
  have HM2 := Lib.hid hm2
  have HBW := Lib.hid hB
  have HSET := Lib.hid hset
  have HMAP := Lib.hid hmap
  clear hR hLL hUU ht hm hf hm2 hB hset hmap
  go_enter Try.func12, Try.ntmps12
  go_upto_region 1 with fail
  obtain ⟨W1, hW1⟩ : ∃ W1, w.alloc (.cells (blkC v prev root t b n (.slice A m c)).toArray 54) = W1 := ⟨_, rfl⟩
  have z1 : W1.heap.size = w.heap.size + 1 := by rw [← hW1]; simp
  have l1 : Below w.heap.size w W1 := by rw [← hW1]; exact (Below.refl _ _).alloc (Nat.le_refl _) _
  have k1 : Blk W1 w.heap.size 54 (blkC v prev root t b n (.slice A m c)).toArray := by rw [← hW1]; exact Blk.new _ _ _
  rw [hW1]
  clear hW1
  obtain ⟨W2, hW2⟩ : ∃ W2, W1.alloc (.cells #[.slice none 0 0, .slice none 0 0] 46) = W2 := ⟨_, rfl⟩
  have z2 : W2.heap.size = w.heap.size + 2 := by rw [← hW2]; simp [z1]
  have l2 : Below W1.heap.size W1 W2 := by rw [← hW2]; exact (Below.refl _ _).alloc (Nat.le_refl _) _
  have k2 : Blk W2 W1.heap.size 46 [Value.slice none 0 0, Value.slice none 0 0].toArray := by rw [← hW2]; exact Blk.new _ _ _
  rw [hW2]
  clear hW2
  have hbl : Below w.heap.size w W2 := l1.trans (l2.mono (by omega))
  have hk1 : Blk W2 w.heap.size 54 (blkC v prev root t b n (.slice A m c)).toArray := k1.below l2 (by omega)
  obtain ⟨g8, hg8⟩ : ∃ g8, W1.heap.size = g8 := ⟨_, rfl⟩
  obtain ⟨q, hq⟩ : ∃ q, w.heap.size = q := ⟨_, rfl⟩
  have hgl := HSET.out.lt
  have HQ := Lib.hid (show g8 = q + 1 ∧ W2.heap.size = q + 2 ∧ gs < q ∧ w.heap.size = q by omega)
  have HBL := Lib.hid hbl
  rw [hg8] at k2
  rw [hq] at hk1 ⊢
  rw [show q + 1 = g8 by have := HQ.out; omega]
  have HB := Lib.hid hk1
  have HB8 := Lib.hid k2
  clear z1 l1 k1 z2 l2 k2 hbl hk1 hg8 hgl hq
  go_wp2_with fail
  refine (clone_any W2 B gs p L (HSET.out.below HBL.out HSET.out.lt) (HMAP.out.new HBL.out)).mono ?_
  rintro e3 w3 ⟨gc, pc, rfl, a3, hgc, hsc, hmc⟩
  have HA3 := Lib.hid a3
  have HGC := Lib.hid hgc
  have HSC := Lib.hid hsc
  have HMC := Lib.hid hmc
  have HBL3 := Lib.hid (HBL.out.trans (a3.mono HBL.out.size))
  have HB3 := Lib.hid (HB.out.below a3 HB.out.lt)
  have HB83 := Lib.hid (HB8.out.below a3 HB8.out.lt)
  clear a3 hgc hsc hmc HB HB8
  go_wp2_with (with_reducible refine wpList_ld rfl 54 (.tmp 5) rfl q 0 rfl (blkC v prev root t b n (.slice A m c)) HB3.out.rowAll _ Try.underlying54 rfl 69 infoBlk (blkC_len _ _ _ _ _ _ _ h1 h2).symm ?_)
  have CN := connect_any w3 W2.heap.size gc pc L v t b n prev root A m c txs h sub h1 h2 HA3.out.size HGC.out HSC.out HMC.out (weak_slice weak_tx13 _ _ (fun b => b < W2.heap.size) _ _ (HT.out _ HBL3.out) (fun b _ hb => Nat.lt_of_lt_of_le hb HBL.out.size)) HM.out HF.out HM2.out
  rw [HR.out] at CN
  refine CN.mono ?_
  clear CN
  rintro e4 w4 ⟨A1, c1, A2, c2, rfl, a4, gu, p4, hsp⟩
  have HSP := Lib.hid hsp
  have HA4 := Lib.hid a4
  have HB84 := Lib.hid (HB83.out.below a4 (by have := HQ.out; omega))
  have HS4 := Lib.hid ((HSET.out.below HBL3.out HSET.out.lt).below a4 (by have := HQ.out; omega))
  have HM4 := Lib.hid ((HMAP.out.new HBL3.out).only (Only.of_below a4) (fun b hb => by
    have := HMAP.out
    subst hb
    have := this.2.lt
    have := HQ.out
    omega))
  have HF4 := Lib.hid (HBL3.out.trans (a4.mono HBL.out.size))
  clear a4 hsp HB3 HB83
  go_wp2_with (with_reducible refine wpList_stb rfl 46 (.tmp 11) (.tmp 21) rfl w4.heap.size 0 _ rfl rfl 46 [Value.slice none 0 0, Value.slice none 0 0] (Blk.new w4 _ _) ?s1 ?s2 ?s3 ?_)
  case s1 => simp
  case s2 => rw [infoUndo]; rfl
  case s3 => simp [Value.oneCell']
  intro w5 b5 o5
  rw [over_all _ _ (by simp)] at b5
  have hO5 : Below w4.heap.size w4 w5 := (((Only.refl (fun b => w4.heap.size ≤ b) w4).alloc _).trans o5 (fun b _ e => by omega)).below (Nat.le_refl _) (fun b hb h => by omega)
  have HP := Lib.hid b5
  have HSP5 := Lib.hid (HSP.out.new hO5)
  have HB85 := Lib.hid (HB84.out.below hO5 HB84.out.lt)
  have HS5 := Lib.hid (HS4.out.below hO5 HS4.out.lt)
  have HM5 := Lib.hid (HM4.out.new hO5)
  have HF5 := Lib.hid (HF4.out.trans (hO5.mono HF4.out.size))
  have HW4 := Lib.hid HSP.out.hB
  have HZ4 := Lib.hid HF4.out.size
  have hg84 := HB84.out.lt
  obtain ⟨p11, hp11⟩ : ∃ p11, w4.heap.size = p11 := ⟨_, rfl⟩
  have HPN := Lib.hid (show g8 ≠ p11 ∧ gs ≠ p11 by have := HQ.out; have := HS4.out.lt; omega)
  rw [hp11] at HP ⊢
  clear b5 o5 hO5 HSP HB84 HS4 HM4 HF4 hp11 hg84
  by_cases hE : R.2.2 = 0
  · have g2 : (R.2.2 != 0) = false := by simpa using hE
    have hl : LL = R.1 := by rw [← HLL.out, cL, if_pos hE]
    have hu : UU = R.2.1 := by rw [← HUU.out, cU, if_pos hE]
    subst hl hu
    have HE := Lib.hid hE
    clear hE
    have c0 := HSP5.out.set.cell 0
    have d0 := HS5.out.cell 0
    have f0 := HS5.out.frozen 0
    simp only [List.getElem?_toArray, List.getElem?_cons_zero] at c0 d0
    have hb6 : Blk (w5.setCell ⟨gs, 0, none⟩ (.map p4)) gs 42 [Value.map p4].toArray := HS5.out.set_ 0 _
    have ho6 : Only (fun k => k = gs) w5 (w5.setCell ⟨gs, 0, none⟩ (.map p4)) := (Only.refl (fun b => b = gs) w5).setCell (p := ⟨gs, 0, none⟩) (fun _ => rfl) _
    have hsp5 := HSP5.out
    have hqq := HQ.out
    have HP6 := Lib.hid (HP.out.only ho6 (fun e => HPN.out.2 e.symm))
    have HB86 := Lib.hid (HB85.out.only ho6 (by omega))
    have HM6 := Lib.hid (hsp5.map.only ho6 (fun b hb e => by
      subst hb
      have := hsp5.map.1
      omega))
    have HR1 := Lib.hid (own_only hsp5.r1 ho6 (fun k hk e => by have := (hsp5.r1.lt k hk).1; omega))
    have HR2 := Lib.hid (own_only hsp5.r2 ho6 (fun k hk e => by have := (hsp5.r2.lt k hk).1; omega))
    have HF6 := Lib.hid ((Only.of_new HF5.out (fun k => k = gs)).trans ho6 (fun b _ e => e))
    have HS6 := Lib.hid hb6
    clear hb6 ho6 hsp5 hqq
    go_wp2_with (first
      | (with_reducible refine wpList_ld rfl 46 (.tmp 11) rfl p11 0 rfl [Value.slice A1 R.2.1.length c1, Value.slice A2 R.2.1.length c2] HP6.out.rowAll _ Try.underlying46 rfl 2 infoUndo rfl ?_)
      | (with_reducible refine wpList_stb rfl 46 (.tmp 8) (.tmp 34) rfl g8 0 _ rfl rfl 46 _ HB86.out ?t1 ?t2 ?t3 ?_))
    case t1 => simp
    case t2 => rw [infoUndo]; rfl
    case t3 => simp [Value.oneCell']
    intro wz bz oz
    rw [over_all _ _ (by simp)] at bz
    have hqq := HQ.out
    have q1 := HS6.out.only oz (by omega)
    have q2 := own_only HR1.out oz (fun k hk e => by have := (HR1.out.lt k hk).1; omega)
    have q3 := own_only HR2.out oz (fun k hk e => by have := (HR2.out.lt k hk).1; omega)
    have q4 := HM6.out.only oz (fun b hb e => by
      have h7 := HM6.out
      subst hb
      have := h7.1
      omega)
    have q5 := HF6.out.trans oz (fun b hb e => by omega)
    clear c0 d0 f0 g2
    have hE := HE.out
    go_wp2
    refine bodyPost_ret (results_row_tmp rfl _ _ g8 46 #[Value.slice A1 R.2.1.length c1, Value.slice A2 R.2.1.length c2] (0, 0) _ rfl bz Try.underlying46 rfl (by rw [infoUndo]; rfl)) rfl ?_
    refine ⟨A1, c1, A2, c2, ?_, q5, own_low q2 (by have := hqq; omega), own_low q3 (by omega), p4, q1, ?_⟩
    · first | rfl | (rw [hE]; rfl)
    · cases p4 with
      | none => exact q4
      | some b => exact ⟨Nat.le_trans HBW.out (by have := q4.1; omega), q4.2⟩
  · have g2 : (R.2.2 != 0) = true := by simpa using hE
    have hl : LL = L := by rw [← HLL.out, cL, if_neg hE]
    have hu : UU = [] := by rw [← HUU.out, cU, if_neg hE]
    subst hl hu
    clear hE
    go_wp2_with (first
      | (refine wpList_bld rfl 46 _ rfl [] _ built_undo0 (by simp [Act.eval, Act.put]) ?_)
      | (with_reducible refine wpList_stb rfl 46 (.tmp 8) (.tmp 25) rfl g8 0 _ rfl rfl 46 _ HB85.out ?u1 ?u2 ?u3 ?_))
    case u1 => simp
    case u2 => rw [infoUndo]; rfl
    case u3 => simp [Value.oneCell']
    intro wz bz oz
    rw [over_all _ _ (by simp)] at bz
    have hqq := HQ.out
    have q1 := HS5.out.only oz (by omega)
    have q4 := HM5.out.only oz (fun b hb e => by
      have h7 := HMAP.out
      subst hb
      have := h7.2.lt
      omega)
    have q5 := (Only.of_new HF5.out (fun k => k = gs)).trans oz (fun b hb e => by omega)
    clear g2
    go_wp2
    refine bodyPost_ret (results_row_tmp rfl _ _ g8 46 #[Value.slice none 0 0, Value.slice none 0 0] (0, 0) _ rfl bz Try.underlying46 rfl (by rw [infoUndo]; rfl)) rfl ?_
    exact ⟨none, 0, none, 0, rfl, q5, World.ownsRow_nil _ _ _ _, World.ownsRow_nil _ _ _ _, p, q1, q4⟩
end Go.Proofs.Ytlbpeihdedhjiaa
