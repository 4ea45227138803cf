/- tx.write: a transaction behind what is written. -/
import Derived.Test.YtlbpeihdedhjiaaSt
import Derived.Test.YtlbpeihdedhjiaaWi
import Derived.Test.YtlbpeihdedhjiaaPa
import Derived.Test.YtlbpeihdedhjiaaHa
namespace Go.Proofs.Ytlbpeihdedhjiaa
open Go.RowKit
/-- an input's bytes -/
def inB (i : InT) : List UInt8 := i.1.1 ++ les 4 i.1.2.1.toNat ++ (countB i.2.1.length ++ i.2.1)
/-- a number of 64 bits with a sign, as it is written -/
def u64n (z : Int) : Nat := (z % 18446744073709551616).toNat
def outB (o : OutT) : List UInt8 := les 8 (u64n o.1) ++ o.2.1
/-- a transaction's bytes -/
def txB (t : TxT) : List UInt8 := countB t.1.length ++ t.1.flatMap inB ++ (countB t.2.1.length ++ t.2.1.flatMap outB)
/-- small enough -/
def TxFit (t : TxT) : Prop := t.1.length ≤ 1000 ∧ t.2.1.length ≤ 1000 ∧ ∀ i ∈ t.1, i.2.1.length ≤ 10000
theorem inB_len {i : InT} (h : i.1.1.length = 32) (hk : i.2.1.length ≤ 10000) : (inB i).length ≤ 10045 := by
  have := countB_len i.2.1.length
  simp only [inB, List.length_append, h, les_length]; omega
theorem outB_len {o : OutT} (h : o.2.1.length = 32) : (outB o).length = 40 := by simp [outB, les_length, h]
/-- the writer has gone on -/
structure Wst (W wr : World) (B g : Nat) (r r' : Option Nat) (cur : List UInt8) : Prop where
  iw : IsWr wr B g r' cur
  rr : WrR W r r'
  only : Only (WrS g r) W wr
theorem Wst.refl {W : World} {B g : Nat} {r : Option Nat} {cur : List UInt8} (h : IsWr W B g r cur) : Wst W W B g r r cur := ⟨h, .inl rfl, Only.refl _ _⟩
theorem Wst.step {W w1 w2 : World} {B g : Nat} {r r1 r2 : Option Nat} {cur cur2 : List UInt8} (h : Wst W w1 B g r r1 cur) (hw : IsWr w2 B g r2 cur2) (hr : WrR w1 r1 r2) (ho : Only (WrS g r1) w1 w2) : Wst W w2 B g r r2 cur2 :=
  ⟨hw, h.rr.trans hr h.only.size, WrS.trans h.only h.rr ho⟩
theorem Wst.trans {W w1 w2 : World} {B g : Nat} {r r1 r2 : Option Nat} {cur cur2 : List UInt8} (h : Wst W w1 B g r r1 cur) (k : Wst w1 w2 B g r1 r2 cur2) : Wst W w2 B g r r2 cur2 := h.step k.iw k.rr k.only
theorem Wst.new {W w1 w2 : World} {B g : Nat} {r r1 : Option Nat} {cur : List UInt8} (h : Wst W w1 B g r r1 cur) (hb : Below w1.heap.size w1 w2) : Wst W w2 B g r r1 cur :=
  ⟨h.iw.only (Only.of_new hb (fun _ => False)) (fun h => h) (fun _ _ h => h), h.rr, h.only.trans (Only.of_new hb (fun _ => False)) (fun _ _ h => h.elim)⟩
theorem Wst.not_new {W w1 : World} {B g : Nat} {r r1 : Option Nat} {cur : List UInt8} (h : Wst W w1 B g r r1 cur) : ¬ WrS g r1 w1.heap.size := by
  rintro (e | e)
  · have := h.iw.lt; omega
  · have := (h.iw.row e).2.1; omega
theorem IsB.of_in {w : World} {q : Nat} {t : TypeId} {id : List UInt8} {ix : Nat} {v : Value} (h : Blk w q t (inC id ix v).toArray) (hl : id.length = 32) : IsB w (fun b => b = q) (.slice (some ⟨q, 0, none⟩) 32 32) id :=
  ⟨some ⟨q, 0, none⟩, 32, 32, rfl, hl.symm, Nat.le_refl _, by simp [hl], fun _ => ⟨q, 0, rfl, rfl, fun j u hj => by
    have hjl := (List.getElem?_eq_some_iff.1 hj).1
    rw [Nat.zero_add, h.cell j, List.getElem?_toArray, inC, List.getElem?_append_left hjl]; exact hj⟩⟩
theorem IsB.of_out {w : World} {q : Nat} {t : TypeId} {amt : Int} {lock : List UInt8} (h : Blk w q t (outC amt lock).toArray) (hl : lock.length = 32) : IsB w (fun b => b = q) (.slice (some ⟨q, 1, none⟩) 32 32) lock :=
  ⟨some ⟨q, 1, none⟩, 32, 32, rfl, hl.symm, Nat.le_refl _, by simp [hl], fun _ => ⟨q, 1, rfl, rfl, fun j u hj => by
    rw [Nat.add_comm, h.cell (j + 1), List.getElem?_toArray, outC, List.getElem?_cons_succ]; exact hj⟩⟩
theorem in_cell32 {w : World} {q : Nat} {t : TypeId} {id : List UInt8} {ix : Nat} {v : Value} (h : Blk w q t (inC id ix v).toArray) (hl : id.length = 32) : w.cell? ⟨q, 32, none⟩ = some (.int .u32 ((ix : Nat) : Int)) := by
  rw [h.cell 32, List.getElem?_toArray, inC, List.getElem?_append_right (by simp [hl])]; simp [hl]
theorem in_cell33 {w : World} {q : Nat} {t : TypeId} {id : List UInt8} {ix : Nat} {v : Value} (h : Blk w q t (inC id ix v).toArray) (hl : id.length = 32) : w.cell? ⟨q, 33, none⟩ = some v := by
  rw [h.cell 33, List.getElem?_toArray, inC, List.getElem?_append_right (by simp [hl])]; simp [hl]
theorem take_snoc' {α : Type} (l : List α) (i : Nat) (h : i < l.length) : l.take (i + 1) = l.take i ++ [l[i]] := by
  rw [List.take_add_one, List.getElem?_eq_getElem h]; rfl
theorem u64v_eq (z : Int) : Value.int .u64 (z % 18446744073709551616) = u64v (u64n z) := by
  unfold u64v u64n
  congr 1
  omega
set_option maxRecDepth 20000 in
set_option maxHeartbeats 4000000 in
theorem tx_write_any (g B : Nat) (r : Option Nat) (l : List UInt8) (w : World) (A A' : Option Addr) (n n' c c' : Nat) (ins : List InT) (outs : List OutT) (ok : Nat → Prop)
    (h : IsWr w B g r l) (hi : insSh.rel w ok [.slice A n c] ins) (ho : outsSh.rel w ok [.slice A' n' c'] outs) (hn : ins.length = n) (hn' : outs.length = n') (hok : ∀ b, ok b → b < w.heap.size ∧ ¬ WrS g r b)
    (hf : TxFit (ins, outs, ())) (hl : l.length ≤ 1000000000) :
    Calls Try.prog 46 #[.pointer (some ⟨g, 0, none⟩), .agg #[.slice A n c, .slice A' n' c']] w fun e w' => e = .returned (.tuple #[]) ∧
      ∃ r', IsWr w' B g r' (l ++ txB (ins, outs, ())) ∧ WrR w r r' ∧ Only (WrS g r) w w' := by
  have hw64 : IntKind.u64.wrap ((n : Nat) : Int) = ((n : Nat) : Int) := by have := hf.1; simp only at this; rw [hn] at this; rw [IntKind.wrap_u64]; omega
  have hw64' : IntKind.u64.wrap ((n' : Nat) : Int) = ((n' : Nat) : Int) := by have := hf.2.1; simp only at this; rw [hn'] at this; rw [IntKind.wrap_u64]; omega
  have HN := Lib.hid hn
  have HN' := Lib.hid hn'
  have HF := Lib.hid hf
  have HLL := Lib.hid hl
  have HOK := Lib.hid hok
  have HI := Lib.hid hi
  have HO := Lib.hid ho
  have H0 := Lib.hid h
  clear hn hn' hf hl hok hi ho h
  go_enter Try.func46, Try.ntmps46
  go_upto_region 1 with fail
  generalize hW : World.alloc w _ = W
  have hb3 : Blk W w.heap.size 39 #[.slice A n c, .slice A' n' c'] := by rw [← hW]; exact Blk.new _ _ _
  have hoW : ∀ S, Only S w W := fun S => by rw [← hW]; exact (Only.refl S w).alloc _
  have hWs : W.heap.size = w.heap.size + 1 := by rw [← hW]; simp
  have hgs := H0.out.lt
  have hrs : ∀ b, r = some b → b < w.heap.size := fun b e => (H0.out.row e).2.1
  have hwr : IsWr W B g r l := H0.out.only (hoW (fun _ => False)) (fun h => h) (fun _ _ h => h)
  have K := Lib.hid (Wst.refl hwr)
  clear hwr hW
  obtain ⟨p3, hp3⟩ : ∃ p3, w.heap.size = p3 := ⟨_, rfl⟩
  rw [hp3] at hb3 hgs hrs hWs ⊢
  have HP3 := Lib.hid hp3
  have HOW := Lib.hid hoW
  have HGS := Lib.hid hgs
  have HRS := Lib.hid hrs
  have HB3 := Lib.hid hb3
  have c0 := hb3.cell 0
  simp only [List.getElem?_toArray, List.getElem?_cons_zero] at c0
  have HWS := Lib.hid hWs
  clear hp3 hoW hgs hrs hb3 hWs
  go_wp2_with fail
  refine (wcount_any g B r l W n K.out.iw (by have := HLL.out; omega)).mono ?_
  rintro e1 w1 ⟨rfl, r1, a1, a2, a3⟩
  have K1 := Lib.hid (K.out.step a1 a2 a3)
  have B1 := Lib.hid (HB3.out.only a3 (fun e => e.elim (fun e => by have := HGS.out; omega) (fun e => by have := HRS.out _ e; omega)))
  clear a1 a2 a3 c0 K
  have c0 := B1.out.cell 0
  simp only [List.getElem?_toArray, List.getElem?_cons_zero] at c0
  go_wp2_with fail
  go_loopg [17] n (fun q v17 wr => ∃ (j : Nat) (r' : Option Nat) (cur : List UInt8), j + q = n ∧ v17 = .int .i64 j ∧ Hid (cur = l ++ countB n ++ (ins.take j).flatMap inB) ∧ Hid (cur.length ≤ l.length + 9 + 10045 * j) ∧ Hid (Wst W wr B g r r' cur))
  case atStart => exact ⟨0, r1, l ++ countB n, by omega, rfl, by simp [Hid], by rw [Hid, List.length_append]; have := countB_len n; omega, K1⟩
  case round =>
    clear K1 B1 c0
    obtain ⟨j, r', cur, hj, rfl, HC, HCL, K⟩ := hrel
    have h3 := HB3.out.only K.out.only (fun e => e.elim (fun e => by have := HGS.out; omega) (fun e => by have := HRS.out _ e; omega))
    have B3 := Lib.hid h3
    clear h3
    by_cases hlt : j < n
    · have hi' := insSh.only HI.out ((HOW.out (WrS g r)).trans K.out.only (fun _ _ h => h)) (fun b _ h => (HOK.out b h).2)
      obtain ⟨b, o, id, ix, key, v, rfl, hb, hij, hrow, hkb, hid, hix⟩ := ins_at hi' (by rw [HN.out]; exact hlt)
      have hkey : key.length ≤ 10000 := by have := HF.out.2.2 _ (List.getElem_mem (by rw [HN.out]; exact hlt : j < ins.length)); rw [hij] at this; exact this
      have hv1 : v.oneCell' = true := by obtain ⟨_, _, _, rfl, _⟩ := hkb; rfl
      have HIJ := Lib.hid hij
      have HROW := Lib.hid hrow
      have HKB := Lib.hid hkb
      have HID := Lib.hid hid
      have HKL := Lib.hid hkey
      have HV1 := Lib.hid hv1
      have HBK := Lib.hid hb
      have hn1000 : n ≤ 1000 := by have := HF.out.1; rw [← HN.out]; exact this
      have hcl : cur.length ≤ 1100000000 := by have := HCL.out; have := HLL.out; omega
      have HCL2 := Lib.hid hcl
      clear hi' hij hrow hkb hid hkey hv1 hb hcl
      go_wp2_with (first
        | (with_reducible refine wpList_ld rfl 32 (.tmp 19) rfl b (o + j * 34) rfl (inC id ix v) HROW.out _ Try.underlying32 rfl 34 infoIn (inC_len _ _ _ HID.out).symm ?_)
        | (with_reducible refine wpList_stb rfl 32 (.tmp 5) (.tmp 20) rfl wr.heap.size 0 _ rfl rfl 32 _ (Blk.new wr _ _) ?h1 ?h2 ?h3 ?_))
      case h1 => simp [inC_len _ _ _ HID.out]
      case h2 => rw [infoIn]; simp [inC_len _ _ _ HID.out]
      case h3 => exact inC_one _ _ _ HV1.out
      intro w4 b4 o4
      rw [over_all _ _ (by simp [inC_len _ _ _ HID.out])] at b4
      have hO4 : Below wr.heap.size wr w4 := (((Only.refl (fun b => wr.heap.size ≤ b) wr).alloc _).trans o4 (fun b _ e => by omega)).below (Nat.le_refl _) (fun b hb h => by omega)
      have hng := K.out.not_new
      have hk4 := K.out.new hO4
      have HKB4 := Lib.hid (HKB.out.below hO4 (fun _ h _ => h))
      have B34 := Lib.hid (B3.out.below hO4 B3.out.lt)
      have hbk : ∀ b, ok b → ¬ WrS g r' b := fun b hb e => by
        have hb3 := HOK.out b hb
        rw [HP3.out] at hb3
        rcases e with e | e
        · exact hb3.2 (.inl e)
        · rcases K.out.rr with e2 | ⟨x, e2, hx⟩
          · exact hb3.2 (.inr (e2 ▸ e))
          · rw [e2] at e; cases e; have := HWS.out; omega
      have hwl : wr.heap.size < w4.heap.size := b4.lt
      have HBK2 := Lib.hid hbk
      have hgw := K.out.iw.lt
      have hrw : ∀ x, r' = some x → x < wr.heap.size := fun x e => (K.out.iw.row e).2.1
      have HP := Lib.hid b4
      have K4 := Lib.hid hk4
      have HNG := Lib.hid hng
      have HWLT := Lib.hid hwl
      clear hk4 hbk hng b4 o4 hO4 hwl K B3 HROW HKB
      obtain ⟨p, hp⟩ : ∃ p, wr.heap.size = p := ⟨_, rfl⟩
      rw [hp] at HP HNG hgw hrw HWLT ⊢
      have HGW := Lib.hid hgw
      have HRW := Lib.hid hrw
      clear hp hgw hrw
      have L0 := Lib.hid (Wst.refl K4.out.iw)
      go_wp2_with fail
      refine (wraw_new g B r' cur w4 _ _ [.slice (some ⟨p, 0, none⟩) 32 32] [id] _ 1 1 _ rfl rfl rfl K4.out.iw (Each1.one (IsB.of_in HP.out HID.out)) (fun b _ h e => HNG.out (h ▸ e)) (by simp) (by simp [HID.out]) (by have := HCL2.out; omega)).mono ?_
      rintro e5 w5 ⟨rfl, r5, a1, a2, a3⟩
      have L1 := Lib.hid (L0.out.step a1 a2 a3)
      have P1 := Lib.hid (HP.out.only L1.out.only HNG.out)
      have p32 := in_cell32 P1.out HID.out
      clear a1 a2 a3
      go_wp2_with fail
      refine (put1 g B r5 _ w5 _ 4 ix _ _ rfl _ rfl rfl L1.out.iw (by simp [HID.out]; have := HCL2.out; omega)).mono ?_
      rintro e6 w6 ⟨rfl, r6, a1, a2, a3⟩
      have L2 := Lib.hid (L1.out.step a1 a2 a3)
      have P2 := Lib.hid (HP.out.only L2.out.only HNG.out)
      have p33 := in_cell33 P2.out HID.out
      clear a1 a2 a3 p32 P1 L1
      go_wp2_with fail
      refine (wtext_any g B r6 _ w6 v key ok L2.out.iw (HKB4.out.only L2.out.only (fun b _ h => HBK2.out b h)) (fun b _ h e => ?_) (by have := HKL.out; omega) (by simp [HID.out, le, les_length]; have := HCL2.out; omega)).mono ?_
      · rcases e with e | e
        · exact HBK2.out b h (.inl e)
        · rcases L2.out.rr with e2 | ⟨x, e2, hx⟩
          · exact HBK2.out b h (.inr (e2 ▸ e))
          · rw [e2] at e; cases e; have := (HOK.out b h).1; rw [HP3.out] at this; have := HWLT.out; have := K4.out.only.size; have := HWS.out; omega
      rintro e7 w7 ⟨rfl, r7, a1, a2, a3⟩
      have L3 := Lib.hid (K4.out.trans (L2.out.step a1 a2 a3))
      clear a1 a2 a3 p33 P2 L2 L0
      go_wp2
      go_roundg (n - 1 - j)
      case measure => omega
      case rel =>
        refine ⟨j + 1, r7, _, by omega, rfl, ?_, ?_, L3⟩
        · rw [Hid, take_snoc' ins j (by rw [HN.out]; exact hlt), HIJ.out, List.flatMap_append, HC.out]
          simp [inB, le]
          rfl
        · have h1 := countB_len key.length
          have := HCL.out
          have := HKL.out
          rw [Hid]
          simp [HID.out, le, les_length]
          omega
    · obtain rfl : j = n := by omega
      have hcur : cur = l ++ (countB j ++ ins.flatMap inB) := by
        have := HC.out
        rw [List.take_of_length_le (by rw [HN.out]; exact Nat.le_refl _), List.append_assoc] at this
        exact this
      have hn1000 : j ≤ 1000 := by have := HF.out.1; rw [← HN.out]; exact this
      have hcl : cur.length ≤ l.length + 9 + 10045 * 1000 := by have := HCL.out; omega
      have HCU := Lib.hid hcur
      have HCL2 := Lib.hid hcl
      have c1 := B3.out.cell 1
      simp only [List.getElem?_toArray, List.getElem?_cons_zero, List.getElem?_cons_succ] at c1
      clear hcur hcl HC HCL hlt hj hn1000
      go_wp2_with fail
      refine (wcount_any g B r' cur wr n' K.out.iw (by have := HCL2.out; have := HLL.out; omega)).mono ?_
      rintro e1 w1 ⟨rfl, r1, a1, a2, a3⟩
      have K1 := Lib.hid (K.out.step a1 a2 a3)
      have B1 := Lib.hid (HB3.out.only K1.out.only (fun e => e.elim (fun e => by have := HGS.out; omega) (fun e => by have := HRS.out _ e; omega)))
      clear a1 a2 a3 c1 K B3
      have c1 := B1.out.cell 1
      simp only [List.getElem?_toArray, List.getElem?_cons_zero, List.getElem?_cons_succ] at c1
      obtain ⟨c0, hc0⟩ : ∃ c0, cur ++ countB n' = c0 := ⟨_, rfl⟩
      rw [hc0] at K1
      have HC0 := Lib.hid hc0
      have hc0l : c0.length ≤ l.length + 18 + 10045 * 1000 := by rw [← hc0, List.length_append]; have := HCL2.out; have := countB_len n'; omega
      have HC0L := Lib.hid hc0l
      clear hc0 hc0l
      go_wp2_with fail
      go_loopg [48] n' (fun q v48 wr => ∃ (j : Nat) (r' : Option Nat) (cur : List UInt8), j + q = n' ∧ v48 = .int .i64 j ∧ Hid (cur = c0 ++ (outs.take j).flatMap outB) ∧ Hid (cur.length ≤ c0.length + 40 * j) ∧ Hid (Wst W wr B g r r' cur))
      case atStart => exact ⟨0, r1, c0, by omega, rfl, by simp [Hid], by simp [Hid], K1⟩
      case round =>
        clear K1 B1 c1
        obtain ⟨i, r', cur, hj, rfl, HC, HCL, K⟩ := hrel
        by_cases hlt : i < n'
        · have ho' := outsSh.only HO.out ((HOW.out (WrS g r)).trans K.out.only (fun _ _ h => h)) (fun b _ h => (HOK.out b h).2)
          obtain ⟨b, o, amt, lock, rfl, hb, hij, hrow, hid, ham⟩ := outs_at ho' (by rw [HN'.out]; exact hlt)
          have HIJ := Lib.hid hij
          have HROW := Lib.hid hrow
          have HID := Lib.hid hid
          have hn1000 : n' ≤ 1000 := by have := HF.out.2.1; rw [← HN'.out]; exact this
          have hcl : cur.length ≤ 1100000000 := by have := HCL.out; have := HLL.out; have := HC0L.out; omega
          have HCL3 := Lib.hid hcl
          clear ho' hij hrow hid hb hcl ham
          go_wp2_with (first
            | (with_reducible refine wpList_ld rfl 36 (.tmp 50) rfl b (o + i * 33) rfl (outC amt lock) HROW.out _ Try.underlying36 rfl 33 infoOut (outC_len _ _ HID.out).symm ?_)
            | (with_reducible refine wpList_stb rfl 36 (.tmp 7) (.tmp 51) rfl wr.heap.size 0 _ rfl rfl 36 _ (Blk.new wr _ _) ?h1 ?h2 ?h3 ?_))
          case h1 => simp [outC_len _ _ HID.out]
          case h2 => rw [infoOut]; simp [outC_len _ _ HID.out]
          case h3 => exact outC_one _ _
          intro w4 b4 o4
          rw [over_all _ _ (by simp [outC_len _ _ HID.out])] at b4
          have hO4 : Below wr.heap.size wr w4 := (((Only.refl (fun b => wr.heap.size ≤ b) wr).alloc _).trans o4 (fun b _ e => by omega)).below (Nat.le_refl _) (fun b hb h => by omega)
          have hng := K.out.not_new
          have hk4 := K.out.new hO4
          have hwl : wr.heap.size < w4.heap.size := b4.lt
          have HP := Lib.hid b4
          have K4 := Lib.hid hk4
          have HNG := Lib.hid hng
          clear hk4 hng b4 o4 hO4 hwl K HROW
          obtain ⟨p, hp⟩ : ∃ p, wr.heap.size = p := ⟨_, rfl⟩
          rw [hp] at HP HNG ⊢
          clear hp
          have L0 := Lib.hid (Wst.refl K4.out.iw)
          have q0 := HP.out.cell 0
          simp only [outC, List.getElem?_toArray, List.getElem?_cons_zero] at q0
          go_wp2_with fail
          refine (put1 g B r' cur w4 _ 8 (u64n amt) _ _ (u64v_eq amt) _ rfl rfl L0.out.iw (by have := HCL3.out; omega)).mono ?_
          rintro e6 w6 ⟨rfl, r6, a1, a2, a3⟩
          have L2 := Lib.hid (L0.out.step a1 a2 a3)
          have P2 := Lib.hid (HP.out.only L2.out.only HNG.out)
          clear a1 a2 a3 q0 L0
          go_wp2_with fail
          refine (wraw_new g B r6 _ w6 _ _ [.slice (some ⟨p, 1, none⟩) 32 32] [lock] _ 1 1 _ rfl rfl rfl L2.out.iw (Each1.one (IsB.of_out P2.out HID.out)) (fun b _ h e => ?_) (by simp) (by simp [HID.out]) (by simp [le, les_length]; have := HCL3.out; omega)).mono ?_
          · subst h
            rcases e with e | e
            · exact HNG.out (.inl e)
            · rcases L2.out.rr with e2 | ⟨x, e2, hx⟩
              · exact HNG.out (.inr (e2 ▸ e))
              · rw [e2] at e; cases e; have := HP.out.lt; omega
          rintro e7 w7 ⟨rfl, r7, a1, a2, a3⟩
          have L3 := Lib.hid (K4.out.trans (L2.out.step a1 a2 a3))
          clear a1 a2 a3 P2 L2
          go_wp2
          go_roundg (n' - 1 - i)
          case measure => omega
          case rel =>
            refine ⟨i + 1, r7, _, by omega, rfl, ?_, ?_, L3⟩
            · rw [Hid, take_snoc' outs i (by rw [HN'.out]; exact hlt), HIJ.out, List.flatMap_append, HC.out]
              simp [outB, le]
            · have := HCL.out
              rw [Hid]
              simp [HID.out, le, les_length]
              omega
        · obtain rfl : i = n' := by omega
          go_wp2
          go_end0
          refine ⟨rfl, r', ?_, ?_, ?_⟩
          · have hcc : cur = l ++ txB (ins, outs, ()) := by
              have := HC.out
              rw [List.take_of_length_le (by rw [HN'.out]; exact Nat.le_refl _), ← HC0.out, HCU.out, ← HN.out, ← HN'.out] at this
              rw [this, txB]
              simp
            rw [← hcc]
            exact K.out.iw
          · rcases K.out.rr with e | ⟨x, e, hx⟩
            · exact .inl e
            · exact .inr ⟨x, e, by have := HWS.out; rw [HP3.out]; omega⟩
          · exact (HOW.out (WrS g r)).trans K.out.only (fun _ _ h => h)
end Go.Proofs.Ytlbpeihdedhjiaa
