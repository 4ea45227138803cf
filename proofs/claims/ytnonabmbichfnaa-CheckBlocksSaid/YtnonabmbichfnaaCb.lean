/- check.Root. -/
import Derived.Test.YtnonabmbichfnaaCt
import Derived.Test.YtnonabmbichfnaaTk
import Derived.Test.YtnonabmbichfnaaTr
namespace Go.Proofs.Ytnonabmbichfnaa
open Go.RowKit
section
variable {P : Program} {ops : Array Oper} {rest : List Oper} {o : Oper} {a : Act} {w : World} {Q : Exit → Act → World → Prop}
theorem wpList_ldg2 (hw : Region.wanted o (yielded ops a.tmps) = true) (ty : TypeId) (x : Operand) (ho : o.op = .load ty x) (b oo : Nat) (hx : a.eval x = .pointer (some ⟨b, oo, none⟩)) (cs : List Value) (hc : RowAt w b oo cs)
    (d : TypeDesc) (hu : P.underlying ty = some d) (hd : d.isRow = true) (n : Nat) (hi : (P.info? ty).map (·.size) = some n) (hn : n = cs.length)
    (h : wpList P ops Q rest (a.put o.dst (.agg cs.toArray)) w) : wpList P ops Q (o :: rest) a w := by
  unfold wpList
  rw [if_pos hw]
  exact .inl (wp_load_mid ty x ho b oo hx cs d hc hu hd (by rw [hi, hn]) h)
end
theorem blk_root {w : World} {q : Nat} {T : TypeId} {v t b n : Nat} {prev root : List UInt8} {sv : Value} (h : Blk w q T (blkC v prev root t b n sv).toArray) (h1 : prev.length = 32) (h2 : root.length = 32) : RowAt w q 33 (bts root) := by
  intro j u hj
  have hjl := (List.getElem?_eq_some_iff.1 hj).1
  have hjl2 : j < 32 := by simpa [h2] using hjl
  rw [h.cell (33 + j), List.getElem?_toArray, blkC, List.getElem?_append_left (by rw [hdrC_len _ _ _ _ _ _ h1 h2]; omega), hdrC, show 33 + j = (32 + j) + 1 by omega, List.getElem?_cons_succ, List.getElem?_append_right (by simp [h1]), show 32 + j - (bts prev).length = j by simp [h1], List.getElem?_append_left hjl]
  exact hj
/-- has a transaction as many bytes as two names? -/
def pairT (txs : List TxT) : Bool := txs.any fun t => (txB t).length == 64
def txIds (txs : List TxT) : List Id32 := txs.map fun t => sha2 (txB t)
/-- what check.Root answers -/
def croot (root : List UInt8) (txs : List TxT) : Int := if pairT txs = true then 40 else if ((mroot (txIds txs)).2 || !((mroot (txIds txs)).1 == root)) = true then 40 else 0
set_option maxRecDepth 20000 in
set_option maxHeartbeats 4000000 in
theorem check_root_any (w : World) (v t b n : Nat) (prev root : List UInt8) (A : Option Addr) (m c : Nat) (txs : List TxT) (ok : Nat → Prop) (h1 : prev.length = 32) (h2 : root.length = 32) (hmk : MerkleOk m)
    (ht : txsSh.rel w ok [.slice A m c] txs) (hm : txs.length = m) (hok : ∀ b, ok b → b < w.heap.size) (hf : ∀ t ∈ txs, TxFit t) (hm2 : m ≤ 90) :
    Calls Try.prog 21 #[.agg (blkC v prev root t b n (.slice A m c)).toArray] w fun e w' => e = .returned (.int .i64 (croot root txs)) ∧ Below w.heap.size w w' := by
  have HMK := Lib.hid hmk
  have HTL := Lib.hid (txs_len ht hf)
  have HT := Lib.hid ht
  have HM := Lib.hid hm
  have HOK := Lib.hid hok
  have HF := Lib.hid hf
  clear ht hm hok hf hmk
  go_enter Try.func21, Try.ntmps21
  go_upto_region 1 with fail
  generalize hW : World.alloc w _ = W
  have hb1 : Blk W w.heap.size 42 (blkC v prev root t b n (.slice A m c)).toArray := by rw [← hW]; exact Blk.new _ _ _
  have hbl : Below w.heap.size w W := by rw [← hW]; exact (Below.refl _ _).alloc (Nat.le_refl _) _
  clear hW
  obtain ⟨q, hq⟩ : ∃ q, w.heap.size = q := ⟨_, rfl⟩
  rw [hq] at hb1 ⊢
  have HQ := Lib.hid hq
  have HB1 := Lib.hid hb1
  have HBL := Lib.hid hbl
  have c68 := blk_cell68 hb1 h1 h2
  clear hq hb1 hbl
  go_wp2_with fail
  go_loopg [10] m (fun k v10 wr => ∃ (j : Nat), j + k = m ∧ v10 = .int .i64 j ∧ Hid (pairT (txs.take j) = false) ∧ Hid (Below w.heap.size w wr) ∧ Hid (Blk wr q 42 (blkC v prev root t b n (.slice A m c)).toArray))
  case atStart => exact ⟨0, by omega, rfl, by simp [Hid, pairT], HBL, HB1⟩
  case round =>
    clear HBL HB1 c68
    obtain ⟨j, hj, rfl, HC, HBL, HB⟩ := hrel
    by_cases hlt : j < m
    · have ht' := txsSh.below HT.out HBL.out (fun _ h _ => h)
      obtain ⟨b', o, cs, rfl, hb, hcs, hrow⟩ := txs_at ht' (by rw [HM.out]; exact hlt)
      obtain ⟨ins, outs, A3, A4, c3, c4, het, rfl, hi, ho⟩ := tx_cells hcs
      have hfit : TxFit (ins, outs, ()) := by rw [← het]; exact HF.out _ (List.getElem_mem _)
      have HET := Lib.hid het
      have HI := Lib.hid hi
      have HO := Lib.hid ho
      have HFT := Lib.hid hfit
      have HROW := Lib.hid hrow
      clear ht' hcs het hi ho hfit hrow hb
      obtain ⟨n1, hn1⟩ : ∃ n1, ins.length = n1 := ⟨_, rfl⟩
      obtain ⟨n2, hn2⟩ : ∃ n2, outs.length = n2 := ⟨_, rfl⟩
      rw [hn1] at HI HROW
      rw [hn2] at HO HROW
      have HN1 := Lib.hid hn1
      have HN2 := Lib.hid hn2
      clear hn1 hn2
      go_wp2_with (first
        | (with_reducible refine wpList_ld rfl 25 (.tmp 12) rfl b' (o + j * 2) rfl [.slice A3 n1 c3, .slice A4 n2 c4] HROW.out _ Try.underlying25 rfl 2 infoTx rfl ?_)
        | (with_reducible refine wpList_stb rfl 25 (.tmp 4) (.tmp 13) rfl wr.heap.size 0 _ rfl rfl 25 _ (Blk.new wr _ _) ?h1 ?h2 ?h3 ?_))
      case h1 => simp
      case h2 => rw [infoTx]; rfl
      case h3 => exact ⟨rfl, rfl⟩
      intro w4 b4 o4
      rw [over_all _ _ (by simp)] at b4
      have hO4 : Below wr.heap.size wr w4 := (((Only.refl (fun b => wr.heap.size ≤ b) wr).alloc _).trans o4 (fun b _ e => by omega)).below (Nat.le_refl _) (fun b hb h => by omega)
      have HI4 := Lib.hid (insSh.below HI.out hO4 (fun _ h _ => h))
      have HO4' := Lib.hid (outsSh.below HO.out hO4 (fun _ h _ => h))
      have q0 := b4.cell 0
      have q1 := b4.cell 1
      simp only [List.getElem?_toArray, List.getElem?_cons_zero, List.getElem?_cons_succ] at q0 q1
      have HB4 := Lib.hid (HB.out.below hO4 HB.out.lt)
      have HBL4 := Lib.hid (HBL.out.trans (hO4.mono HBL.out.size))
      clear b4 o4 hO4 HROW HI HO HB HBL
      generalize wr.heap.size = p at q0 q1 ⊢
      have TB := Lib.hid (tx_bytes_any w4 A3 A4 n1 n2 c3 c4 ins outs _ HI4.out HO4'.out HN1.out HN2.out (fun b hb => Nat.lt_of_lt_of_le (HOK.out b hb) HBL4.out.size) HFT.out)
      go_wp2_with fail
      refine TB.out.mono ?_
      rintro e5 w5 ⟨A5, n5, c5, rfl, hn5, a5, _⟩
      have HB5 := Lib.hid (HB4.out.below a5 HB4.out.lt)
      have HBL5 := Lib.hid (HBL4.out.trans (a5.mono HBL4.out.size))
      have HN5 := Lib.hid hn5
      clear a5 TB HB4 HBL4 HI4 HO4' q0 q1 hn5
      by_cases h64 : n5 = 64
      · have hres : croot root txs = 40 := by
          rw [croot, if_pos]
          rw [pairT, List.any_eq_true]
          exact ⟨_, List.getElem_mem (by rw [HM.out]; exact hlt : j < txs.length), by rw [HET.out, ← HN5.out, h64]; rfl⟩
        have HR := Lib.hid hres
        subst h64
        clear hres
        go_wp2
        go_ret
        exact ⟨by rw [HR.out]; rfl, HBL5.out⟩
      · have hp : pairT (txs.take (j + 1)) = false := by
          rw [take_snoc' txs j (by rw [HM.out]; exact hlt), HET.out, pairT, List.any_append]
          have := HC.out
          rw [pairT] at this
          rw [this]
          simp [← HN5.out, h64]
        have HPP := Lib.hid hp
        have e0 : (n5 == 64) = false := by simpa using h64
        have e1 : ((n5 : Int) == 64) = false := by simp; omega
        clear hp h64
        go_wp2
        go_roundg (m - 1 - j)
        case measure => omega
        case rel => exact ⟨j + 1, by omega, rfl, HPP.out, HBL5.out, HB5.out⟩
    · obtain rfl : j = m := by omega
      have hp : pairT txs = false := by
        have := HC.out
        rwa [List.take_of_length_le (by rw [HM.out]; exact Nat.le_refl _)] at this
      have HPP := Lib.hid hp
      have c68 := blk_cell68 HB.out h1 h2
      have TR := Lib.hid (tx_root_any j HMK.out wr A c txs ok (txsSh.below HT.out HBL.out (fun _ h _ => h)) HM.out (fun b hb => Nat.lt_of_lt_of_le (HOK.out b hb) HBL.out.size) HF.out (by omega))
      have hm32 : (mroot (txIds txs)).1.length = 32 := mroot_len _ (by
        intro x hx
        rw [txIds, List.mem_map] at hx
        obtain ⟨t, _, rfl⟩ := hx
        exact sha2_len _)
      have hcr : croot root txs = if ((mroot (txIds txs)).2 || !((mroot (txIds txs)).1 == root)) = true then 40 else 0 := by rw [croot, if_neg (by rw [HPP.out]; decide)]
      obtain ⟨R, hR⟩ : ∃ R, mroot (txIds txs) = R := ⟨_, rfl⟩
      rw [hR] at hcr hm32
      unfold txIds at hR
      rw [hR] at TR
      obtain ⟨x, tw⟩ := R
      unfold idV at TR
      have HCR := Lib.hid hcr
      clear hp hlt hj hR hcr
      go_wp2_with fail
      refine TR.out.mono ?_
      rintro e3 w3 ⟨rfl, a3⟩
      have HB3 := Lib.hid (HB.out.below a3 HB.out.lt)
      have HBL3 := Lib.hid (HBL.out.trans (a3.mono HBL.out.size))
      clear a3 TR c68 HB HBL
      go_wp2_with (with_reducible refine wpList_stb rfl 37 (.tmp 5) (.tmp 23) rfl w3.heap.size 0 _ rfl rfl 37 _ (Blk.new w3 _ _) ?h1 ?h2 ?h3 ?_)
      case h1 => simp [hm32]
      case h2 => rw [infoID]; simp [hm32]
      case h3 => exact bts_one _
      intro w5 b5 o5
      rw [over_all _ _ (by simp [hm32])] at b5
      have hO5 : Below w3.heap.size w3 w5 := (((Only.refl (fun b => w3.heap.size ≤ b) w3).alloc _).trans o5 (fun b _ e => by omega)).below (Nat.le_refl _) (fun b hb h => by omega)
      have HB5 := Lib.hid (HB3.out.below hO5 HB3.out.lt)
      have HBL5 := Lib.hid (HBL3.out.trans (hO5.mono HBL3.out.size))
      have HP5 := Lib.hid b5
      clear b5 o5 hO5
      generalize w3.heap.size = p at HP5 ⊢
      cases tw with
      | true =>
        go_wp2
        go_ret
        exact ⟨by rw [HCR.out]; rfl, HBL5.out⟩
      | false =>
        have heqA := fun w' => run_eq_arr (P := Try.prog) (t := 37) Try.underlying37 Try.underlying5 (by kernel_rfl) (by kernel_rfl) (by kernel_rfl) x root hm32 h2 w' 9998
        obtain ⟨eqb, heqb⟩ : ∃ eqb, (x == root) = eqb := ⟨_, rfl⟩
        rw [heqb] at heqA
        have HEQ := Lib.hid heqb
        clear heqb
        cases eqb
        all_goals
          go_wp2_with (first
            | (refine wpList_ldg2 (by rfl) 37 (.tmp 5) rfl p 0 rfl (bts x) HP5.out.rowAll _ Try.underlying37 rfl 32 infoID (by rw [bts_length, hm32]) ?_)
            | (refine wpList_ldg2 (by rfl) 37 (.tmp 29) rfl q 33 rfl (bts root) (blk_root HB5.out h1 h2) _ Try.underlying37 rfl 32 infoID (by rw [bts_length, h2]) ?_))
          go_ret
          exact ⟨by rw [HCR.out]; simp only [Bool.false_or]; rw [HEQ.out]; rfl, HBL5.out⟩
/-- which transaction of a block is wrong first, and how -/
def ctxs (first : Bool) : List TxT → Int
  | [] => 0
  | t :: r => if ctx t first = 0 then ctxs false r else ctx t first
/-- what check.Block answers -/
def cblk (v : Nat) (prev root : List UInt8) (t b n : Nat) (txs : List TxT) : Int :=
  if txs.length = 0 ∨ 32 < txs.length then 120 else if ctxs true txs = 0 then (if 8192 < (blkB v prev root t b n txs).length then 2 else croot root txs) else ctxs true txs
theorem blk_all {w : World} {q : Nat} {T : TypeId} {cs : List Value} (h : Blk w q T cs.toArray) : RowAt w q 0 cs := h.rowAll
set_option maxRecDepth 20000 in
set_option maxHeartbeats 4000000 in
theorem check_block_any (w : World) (v t b n : Nat) (prev root : List UInt8) (A : Option Addr) (m c : Nat) (txs : List TxT) (ok : Nat → Prop) (h1 : prev.length = 32) (h2 : root.length = 32) (hmk : MerkleOk m)
    (ht : txsSh.rel w ok [.slice A m c] txs) (hm : txs.length = m) (hok : ∀ b, ok b → b < w.heap.size) (hf : ∀ t ∈ txs, TxFit t) :
    Calls Try.prog 17 #[.agg (blkC v prev root t b n (.slice A m c)).toArray] w fun e w' => e = .returned (.int .i64 (cblk v prev root t b n txs)) ∧ Below w.heap.size w w' := by
  have HMK := Lib.hid hmk
  have HT := Lib.hid ht
  have HM := Lib.hid hm
  have HOK := Lib.hid hok
  have HF := Lib.hid hf
  clear ht hm hok hf hmk
  go_enter Try.func17, Try.ntmps17
  go_upto_region 1 with fail
  generalize hW : World.alloc w _ = W
  have hb1 : Blk W w.heap.size 42 (blkC v prev root t b n (.slice A m c)).toArray := by rw [← hW]; exact Blk.new _ _ _
  have hbl : Below w.heap.size w W := by rw [← hW]; exact (Below.refl _ _).alloc (Nat.le_refl _) _
  clear hW
  obtain ⟨q, hq⟩ : ∃ q, w.heap.size = q := ⟨_, rfl⟩
  rw [hq] at hb1 ⊢
  have HQ := Lib.hid hq
  have HB1 := Lib.hid hb1
  have HBL := Lib.hid hbl
  have c68 := blk_cell68 hb1 h1 h2
  clear hq hb1 hbl
  by_cases hm0 : m = 0
  · have hres : cblk v prev root t b n txs = 120 := by rw [cblk, if_pos]; rw [HM.out]; exact .inl hm0
    have HR := Lib.hid hres
    subst hm0
    clear hres
    go_wp2
    go_ret
    exact ⟨by rw [HR.out]; rfl, HBL.out⟩
  · have e0 : (m == 0) = false := by simpa using hm0
    have e1 : ((m : Int) == 0) = false := by simp; omega
    by_cases hm32 : 32 < m
    · have hres : cblk v prev root t b n txs = 120 := by rw [cblk, if_pos]; rw [HM.out]; exact .inr hm32
      have HR := Lib.hid hres
      have d1 : decide ((32 : Int) < (m : Int)) = true := by simp; omega
      clear hres hm0 hm32
      go_wp2
      go_ret
      exact ⟨by rw [HR.out]; rfl, HBL.out⟩
    · have d1 : decide ((32 : Int) < (m : Int)) = false := by simp; omega
      have hcb : cblk v prev root t b n txs = if ctxs true txs = 0 then (if 8192 < (blkB v prev root t b n txs).length then 2 else croot root txs) else ctxs true txs := by rw [cblk, if_neg]; rw [HM.out]; omega
      have HCB := Lib.hid hcb
      have HM32 := Lib.hid (show m ≤ 32 by omega)
      have HM0 := Lib.hid hm0
      clear hcb hm0 hm32
      go_wp2_with fail
      go_loopg [19] m (fun k v19 wr => ∃ (j : Nat), j + k = m ∧ v19 = .int .i64 j ∧ Hid (ctxs (j == 0) (txs.drop j) = ctxs true txs) ∧ Hid (Below w.heap.size w wr) ∧ Hid (Blk wr q 42 (blkC v prev root t b n (.slice A m c)).toArray))
      case atStart => exact ⟨0, by omega, rfl, by simp [Hid], HBL, HB1⟩
      case round =>
        clear HBL HB1 c68 e0 e1 d1
        obtain ⟨j, hj, rfl, HC, HBL, HB⟩ := hrel
        by_cases hlt : j < m
        · have ht' := txsSh.below HT.out HBL.out (fun _ h _ => h)
          obtain ⟨b', o, cs, rfl, hb, hcs, hrow⟩ := txs_at ht' (by rw [HM.out]; exact hlt)
          obtain ⟨ins, outs, A3, A4, c3, c4, het, rfl, hi, ho⟩ := tx_cells hcs
          obtain ⟨fb, hfb⟩ : ∃ fb, (j == 0) = fb := ⟨_, rfl⟩
          have hfi : ((j : Int) == 0) = fb := by rw [← hfb, Bool.eq_iff_iff]; simp
          have hdr : txs.drop j = (ins, outs, ()) :: txs.drop (j + 1) := by rw [List.drop_eq_getElem_cons (by rw [HM.out]; exact hlt), het]
          have hst := HC.out
          rw [hdr, hfb, ctxs] at hst
          have HST := Lib.hid hst
          have HI := Lib.hid hi
          have HO := Lib.hid ho
          have HROW := Lib.hid hrow
          clear ht' hcs het hi ho hrow hb hdr hst
          obtain ⟨n1, hn1⟩ : ∃ n1, ins.length = n1 := ⟨_, rfl⟩
          obtain ⟨n2, hn2⟩ : ∃ n2, outs.length = n2 := ⟨_, rfl⟩
          rw [hn1] at HI HROW
          rw [hn2] at HO HROW
          have HN1 := Lib.hid hn1
          have HN2 := Lib.hid hn2
          clear hn1 hn2
          go_wp2_with (first
            | (with_reducible refine wpList_ld rfl 25 (.tmp 22) rfl b' (o + j * 2) rfl [.slice A3 n1 c3, .slice A4 n2 c4] HROW.out _ Try.underlying25 rfl 2 infoTx rfl ?_)
            | (with_reducible refine wpList_stb rfl 25 (.tmp 4) (.tmp 23) rfl wr.heap.size 0 _ rfl rfl 25 _ (Blk.new wr _ _) ?h1 ?h2 ?h3 ?_))
          case h1 => simp
          case h2 => rw [infoTx]; rfl
          case h3 => exact ⟨rfl, rfl⟩
          intro w4 b4 o4
          rw [over_all _ _ (by simp)] at b4
          have hO4 : Below wr.heap.size wr w4 := (((Only.refl (fun b => wr.heap.size ≤ b) wr).alloc _).trans o4 (fun b _ e => by omega)).below (Nat.le_refl _) (fun b hb h => by omega)
          have q0 := b4.cell 0
          have q1 := b4.cell 1
          simp only [List.getElem?_toArray, List.getElem?_cons_zero, List.getElem?_cons_succ] at q0 q1
          have HB4 := Lib.hid (HB.out.below hO4 HB.out.lt)
          have HBL4 := Lib.hid (HBL.out.trans (hO4.mono HBL.out.size))
          have CT := Lib.hid (check_tx_any w4 A3 A4 n1 n2 c3 c4 ins outs _ fb (insSh.below HI.out hO4 (fun _ h _ => h)) (outsSh.below HO.out hO4 (fun _ h _ => h)) HN1.out HN2.out)
          clear b4 o4 hO4 HROW HI HO HB HBL
          generalize wr.heap.size = p at q0 q1 ⊢
          go_wp2_with fail
          refine CT.out.mono ?_
          rintro e5 w5 ⟨rfl, a5⟩
          have HB5 := Lib.hid (HB4.out.below a5 HB4.out.lt)
          have HBL5 := Lib.hid (HBL4.out.trans (a5.mono HBL4.out.size))
          clear a5 CT HB4 HBL4 q0 q1 hfi
          obtain ⟨E, hE⟩ : ∃ E, ctx (ins, outs, ()) fb = E := ⟨_, rfl⟩
          rw [hE] at HST ⊢
          clear hE
          by_cases hz : E = 0
          · subst hz
            have hn : ctxs (j + 1 == 0) (txs.drop (j + 1)) = ctxs true txs := by
              have := HST.out
              rw [if_pos rfl] at this
              rw [← this]
              rfl
            have HNX := Lib.hid hn
            clear hn hfb
            go_wp2
            go_roundg (m - 1 - j)
            case measure => omega
            case rel => exact ⟨j + 1, by omega, by have := HM32.out; first | rfl | (rw [IntWalk.wrap64_in _ (by omega)]; rfl), HNX.out, HBL5.out, HB5.out⟩
          · have hr : ctxs true txs = E := by rw [← HST.out, if_neg hz]
            have HR := Lib.hid hr
            have HZ := Lib.hid hz
            have ez : (E == 0) = false := by simpa using hz
            have ez2 : (E != 0) = true := by simpa using hz
            clear hr hz
            go_wp2
            go_ret
            exact ⟨by rw [HCB.out, HR.out, if_neg HZ.out]; rfl, HBL5.out⟩
        · obtain rfl : j = m := by omega
          have hz : ctxs true txs = 0 := by
            rw [← HC.out, List.drop_of_length_le (by rw [HM.out]; exact Nat.le_refl _), ctxs]
          have hcb : cblk v prev root t b n txs = if 8192 < (blkB v prev root t b n txs).length then 2 else croot root txs := by rw [HCB.out, if_pos hz]
          have HCB2 := Lib.hid hcb
          clear hz hcb hlt hj
          have BK := Lib.hid (tx_block_any wr v t b n prev root A j c txs ok h1 h2 (txsSh.below HT.out HBL.out (fun _ h _ => h)) HM.out (fun b hb => Nat.lt_of_lt_of_le (HOK.out b hb) HBL.out.size) HF.out (by have := HM32.out; omega))
          have r1 := HB.out.rowAll
          have hbl69 := blkC_len v prev root t b n (.slice A j c) h1 h2
          go_wp2_with (with_reducible refine wpList_ld rfl 42 (.tmp 1) rfl q 0 rfl (blkC v prev root t b n (.slice A j c)) r1 _ Try.underlying42 rfl 69 infoBlk hbl69.symm ?_)
          refine BK.out.mono ?_
          rintro e5 w5 ⟨A5, c5, n5, rfl, hn5, a5, _⟩
          have HB5 := Lib.hid (HB.out.below a5 HB.out.lt)
          have HBL5 := Lib.hid (HBL.out.trans (a5.mono HBL.out.size))
          have HN5 := Lib.hid hn5
          clear a5 BK r1 hn5
          by_cases hbig : 8192 < n5
          · have d1 : decide ((8192 : Int) < (n5 : Int)) = true := by simp; omega
            have hr : cblk v prev root t b n txs = 2 := by rw [HCB2.out, if_pos (by rw [← HN5.out]; exact hbig)]
            have HR := Lib.hid hr
            clear hr hbig hbl69
            go_wp2
            go_ret
            exact ⟨by rw [HR.out]; rfl, HBL5.out⟩
          · have d1 : decide ((8192 : Int) < (n5 : Int)) = false := by simp; omega
            have hr : cblk v prev root t b n txs = croot root txs := by rw [HCB2.out, if_neg (by rw [← HN5.out]; exact hbig)]
            have HR := Lib.hid hr
            have r2 := HB5.out.rowAll
            have CR := Lib.hid (check_root_any w5 v t b n prev root A j c txs ok h1 h2 HMK.out (txsSh.below HT.out HBL5.out (fun _ h _ => h)) HM.out (fun b hb => Nat.lt_of_lt_of_le (HOK.out b hb) HBL5.out.size) HF.out (by have := HM32.out; omega))
            clear hr hbig
            go_wp2_with (with_reducible refine wpList_ld rfl 42 (.tmp 1) rfl q 0 rfl (blkC v prev root t b n (.slice A j c)) r2 _ Try.underlying42 rfl 69 infoBlk hbl69.symm ?_)
            refine CR.out.mono ?_
            rintro e6 w6 ⟨rfl, a6⟩
            have HBL6 := Lib.hid (HBL5.out.trans (a6.mono HBL5.out.size))
            clear a6 CR r2
            go_wp2
            go_ret
            exact ⟨by rw [HR.out]; rfl, HBL6.out⟩
end Go.Proofs.Ytnonabmbichfnaa
