/- law12.asks. -/
import Derived.Test.YtnonabmbichfnaaAp
namespace Go.Proofs.Ytnonabmbichfnaa
open Go.RowKit
theorem Blk.new2 (w : World) (o : Obj) (t : TypeId) (L : List Value) : Blk ((w.alloc o).alloc (.cells L.toArray t)) (w.heap.size + 1) t L.toArray := by
  have := Blk.new (w.alloc o) t L.toArray
  simpa using this
abbrev slM (p : Nat) : Value := .slice (some ⟨p, 0, none⟩) 1 1
/-- the first transaction lies in memory -/
structure As (w0 w : World) (a : Int) (p q : Nat) : Prop where
  bi : Blk w p 56 (inC zid 4294967295 (.slice none 0 0)).toArray
  bo : Blk w q 58 (outC a zid).toArray
  below : Below w0.heap.size w0 w
  gp : w0.heap.size ≤ p
  gq : w0.heap.size ≤ q
theorem As.step {w0 w w' : World} {a : Int} {p q : Nat} (h : As w0 w a p q) (hb : Below w.heap.size w w') : As w0 w' a p q :=
  ⟨h.bi.below hb h.bi.lt, h.bo.below hb h.bo.lt, h.below.trans (hb.mono h.below.size), h.gp, h.gq⟩
theorem As.only {w0 w w' : World} {a : Int} {p q g : Nat} (h : As w0 w a p q) (ho : Only (fun b => b = g) w w') (h1 : g ≠ p) (h2 : g ≠ q) (h3 : w0.heap.size ≤ g) : As w0 w' a p q :=
  ⟨h.bi.only ho (fun e => h1 e.symm), h.bo.only ho (fun e => h2 e.symm), h.below.trans (ho.below h.below.size (fun b hb e => by omega)), h.gp, h.gq⟩
theorem As.ins {w0 w : World} {a : Int} {p q : Nat} (h : As w0 w a p q) (ok : Nat → Prop) (hp : ok p) : insSh.rel w ok [slM p] [inM] := one_sl h.bi.rowAll hp inM_rel
theorem As.outs {w0 w : World} {a : Int} {p q : Nat} (h : As w0 w a p q) (ha : (Lit.int .i64 a).wf = true) (ok : Nat → Prop) (hq : ok q) : outsSh.rel w ok [slM q] [(a, zid, ())] := one_sl h.bo.rowAll hq (outM_rel ha)
theorem As.txs {w0 w : World} {a : Int} {p q g : Nat} (h : As w0 w a p q) (ha : (Lit.int .i64 a).wf = true) (hb : Blk w g 25 #[slM p, slM q]) (ok : Nat → Prop) (hp : ok p) (hq : ok q) (hg : ok g) : txsSh.rel w ok [slM g] [txM a] :=
  one_sl (cs := [slM p, slM q]) hb.rowAll hg ⟨[slM p], [slM q], rfl, h.ins ok hp, ⟨[slM q], [], rfl, h.outs ha ok hq, rfl⟩⟩
theorem over_root (v t b n : Nat) (prev root r : List UInt8) (sv : Value) (h1 : prev.length = 32) (h2 : root.length = 32) (h3 : r.length = 32) : over (blkC v prev root t b n sv) 33 (bts r) = blkC v prev r t b n sv := by
  have e : blkC v prev root t b n sv = (.int .u32 ((v : Nat) : Int) :: bts prev) ++ (bts root ++ [.int .u32 ((t : Nat) : Int), .int .u32 ((b : Nat) : Int), .int .u32 ((n : Nat) : Int), sv]) := by simp [blkC, hdrC]
  have e' : blkC v prev r t b n sv = (.int .u32 ((v : Nat) : Int) :: bts prev) ++ (bts r ++ [.int .u32 ((t : Nat) : Int), .int .u32 ((b : Nat) : Int), .int .u32 ((n : Nat) : Int), sv]) := by simp [blkC, hdrC]
  have hl : (Value.int .u32 ((v : Nat) : Int) :: bts prev).length = 33 := by simp [h1]
  rw [e, e', over, List.take_append_of_le_length (by omega), List.take_of_length_le (by omega), List.drop_append, List.drop_of_length_le (by omega), hl]
  simp [h2, h3]
theorem zid_len : zid.length = 32 := rfl
set_option maxRecDepth 20000 in
set_option maxHeartbeats 4000000 in
theorem asks_any (w : World) : Calls Try.prog 10 #[] w fun e w' => e = .returned (.bool true) ∧ Below w.heap.size w w' := by
  have h5 : (Lit.int .i64 5).wf = true := by decide
  have hzv : ∀ w : World, (zeroValue 42).run Try.prog w = .ok (.agg #[.int .u32 0, .int .u8 0, .int .u8 0, .int .u8 0, .int .u8 0, .int .u8 0, .int .u8 0, .int .u8 0, .int .u8 0, .int .u8 0, .int .u8 0, .int .u8 0, .int .u8 0, .int .u8 0, .int .u8 0, .int .u8 0, .int .u8 0, .int .u8 0, .int .u8 0, .int .u8 0, .int .u8 0, .int .u8 0, .int .u8 0, .int .u8 0, .int .u8 0, .int .u8 0, .int .u8 0, .int .u8 0, .int .u8 0, .int .u8 0, .int .u8 0, .int .u8 0, .int .u8 0, .int .u8 0, .int .u8 0, .int .u8 0, .int .u8 0, .int .u8 0, .int .u8 0, .int .u8 0, .int .u8 0, .int .u8 0, .int .u8 0, .int .u8 0, .int .u8 0, .int .u8 0, .int .u8 0, .int .u8 0, .int .u8 0, .int .u8 0, .int .u8 0, .int .u8 0, .int .u8 0, .int .u8 0, .int .u8 0, .int .u8 0, .int .u8 0, .int .u8 0, .int .u8 0, .int .u8 0, .int .u8 0, .int .u8 0, .int .u8 0, .int .u8 0, .int .u8 0, .int .u32 0, .int .u32 0, .int .u32 0, .slice none 0 0]) w := fun _ => by kernel_rfl
  have H5 := Lib.hid h5
  clear h5
  go_enter Try.func10, Try.ntmps10
  go_wp2_with fail
  refine (first_any w 5).mono ?_
  rintro e1 w1 ⟨p, q, rfl, a1, g1, g2, b1, b2⟩
  have K1 := Lib.hid (show As w w1 5 p q from ⟨b1, b2, a1, g1, g2⟩)
  clear a1 g1 g2 b1 b2
  go_wp2_with (with_reducible refine wpList_stb rfl 25 (.tmp 1) (.tmp 6) rfl w1.heap.size 0 _ rfl rfl 25 _ (Blk.new w1 _ _) ?h1 ?h2 ?h3 ?_)
  case h1 => simp
  case h2 => rw [infoTx]; rfl
  case h3 => exact ⟨rfl, rfl⟩
  intro w2 b2 o2
  rw [over_all _ _ (by simp)] at b2
  have hO2 : Below w1.heap.size w1 w2 := (((Only.refl (fun b => w1.heap.size ≤ b) w1).alloc _).trans o2 (fun b _ e => by omega)).below (Nat.le_refl _) (fun b hb h => by omega)
  have K2 := Lib.hid (K1.out.step hO2)
  have T2 := Lib.hid b2
  have hgt := K1.out.below.size
  have hpl := K1.out.bi.lt
  have hql := K1.out.bo.lt
  have c0 := b2.cell 0
  have c1 := b2.cell 1
  simp only [List.getElem?_toArray, List.getElem?_cons_zero, List.getElem?_cons_succ] at c0 c1
  clear b2 o2 hO2 K1
  obtain ⟨t1, ht1⟩ : ∃ t1, w1.heap.size = t1 := ⟨_, rfl⟩
  rw [ht1] at T2 hgt hpl hql c0 c1 ⊢
  have HT1 := Lib.hid (And.intro hgt (And.intro hpl hql))
  clear ht1 hgt hpl hql
  go_wp2_with (with_reducible refine wpList_stb rfl 42 (.tmp 2) (.tmp 9) rfl (w2.heap.size + 1) 0 _ rfl rfl 42 _ (Blk.new2 w2 _ _ _) ?h1 ?h2 ?h3 ?_)
  case h1 => simp
  case h2 => rw [infoBlk]; rfl
  case h3 => first | exact blkC_one 0 zid zid 0 0 0 (slM w2.heap.size) rfl | simp [Value.oneCell'] | (intro v hv; exact blkC_one 0 zid zid 0 0 0 (slM w2.heap.size) rfl v hv)
  intro w3 b3 o3
  rw [over_all _ _ (by simp)] at b3
  have hO3 : Below w2.heap.size w2 w3 := ((((Only.refl (fun b => w2.heap.size ≤ b) w2).alloc _).alloc _).trans o3 (fun b _ e => by omega)).below (Nat.le_refl _) (fun b hb h => by omega)
  have hp8 : Blk w3 w2.heap.size 25 #[slM p, slM q] := ((Blk.new w2 25 #[slM p, slM q]).alloc _).only o3 (by omega)
  have K3 := Lib.hid (K2.out.step hO3)
  have T3 := Lib.hid (T2.out.below hO3 T2.out.lt)
  have P8 := Lib.hid hp8
  have B3 := Lib.hid (show Blk w3 (w2.heap.size + 1) 42 (blkC 0 zid zid 0 0 0 (slM w2.heap.size)).toArray from b3)
  have ht2 := T2.out.lt
  have hp2 := K2.out.bi.lt
  have hq2 := K2.out.bo.lt
  have hg2 := K2.out.below.size
  clear b3 o3 hO3 hp8 K2 T2 c0 c1
  obtain ⟨p8, hp8⟩ : ∃ p8, w2.heap.size = p8 := ⟨_, rfl⟩
  rw [hp8] at P8 B3 ht2 hp2 hq2 hg2 ⊢
  have HS2 := Lib.hid (And.intro ht2 (And.intro hp2 (And.intro hq2 hg2)))
  clear hp8 ht2 hp2 hq2 hg2
  have CB := Lib.hid (check_block_any w3 0 0 0 0 zid zid (some ⟨p8, 0, none⟩) 1 1 [txM 5] (fun b => b = p ∨ b = q ∨ b = p8) zid_len zid_len merkle1 (K3.out.txs H5.out P8.out _ (.inl rfl) (.inr (.inl rfl)) (.inr (.inr rfl))) rfl (fun b h => by rcases h with rfl | rfl | rfl <;> first | exact K3.out.bi.lt | exact K3.out.bo.lt | exact P8.out.lt) (fun t ht => by rw [List.mem_singleton] at ht; rw [ht]; exact txM_fit 5))
  rw [blkM_0] at CB
  go_wp2_with (with_reducible refine wpList_ld rfl 42 (.tmp 2) rfl (p8 + 1) 0 rfl (blkC 0 zid zid 0 0 0 (slM p8)) B3.out.rowAll _ Try.underlying42 rfl 69 infoBlk (blkC_len _ _ _ _ _ _ _ zid_len zid_len).symm ?_)
  refine CB.out.mono ?_
  rintro e4 w4 ⟨rfl, a4⟩
  have K4 := Lib.hid (K3.out.step a4)
  have T4 := Lib.hid (T3.out.below a4 T3.out.lt)
  have B4 := Lib.hid (B3.out.below a4 B3.out.lt)
  have P84 := Lib.hid (P8.out.below a4 P8.out.lt)
  clear a4 CB K3 T3 B3 P8
  have c0 := T4.out.cell 0
  have c1 := T4.out.cell 1
  simp only [List.getElem?_toArray, List.getElem?_cons_zero, List.getElem?_cons_succ] at c0 c1
  have hn14 := Blk.new w4 25 #[slM p, slM q]
  have ha14 : Below w4.heap.size w4 (w4.alloc (.cells #[slM p, slM q] 25)) := (Below.refl _ _).alloc (Nat.le_refl _) _
  have K14 := Lib.hid (K4.out.step ha14)
  have TR := Lib.hid (tx_root_any 1 merkle1 (w4.alloc (.cells #[slM p, slM q] 25)) (some ⟨w4.heap.size, 0, none⟩) 1 [txM 5] (fun b => b = p ∨ b = q ∨ b = w4.heap.size) (K14.out.txs H5.out hn14 _ (.inl rfl) (.inr (.inl rfl)) (.inr (.inr rfl))) rfl (fun b h => by rcases h with rfl | rfl | rfl <;> first | exact K14.out.bi.lt | exact K14.out.bo.lt | exact hn14.lt) (fun t ht => by rw [List.mem_singleton] at ht; rw [ht]; exact txM_fit 5) (by omega))
  rw [List.map_singleton, mroot_one] at TR
  obtain ⟨R, hR⟩ : ∃ R, sha2 (txB (txM 5)) = R := ⟨_, rfl⟩
  have hR32 : R.length = 32 := by rw [← hR]; exact sha2_len _
  rw [hR] at TR
  unfold idV at TR
  have HRR := Lib.hid hR
  clear hR
  have T14 := Lib.hid (T4.out.below ha14 T4.out.lt)
  have B14 := Lib.hid (B4.out.below ha14 B4.out.lt)
  have P814 := Lib.hid (P84.out.below ha14 P84.out.lt)
  clear hn14 ha14 K4 T4 B4 P84
  go_wp2_with fail
  refine TR.out.mono ?_
  rintro e5 w5 ⟨rfl, a5⟩
  have K5 := Lib.hid (K14.out.step a5)
  have T5 := Lib.hid (T14.out.below a5 T14.out.lt)
  have B5 := Lib.hid (B14.out.below a5 B14.out.lt)
  have P85 := Lib.hid (P814.out.below a5 P814.out.lt)
  clear a5 TR K14 T14 B14 c0 c1 P814
  go_wp2_with (with_reducible refine wpList_stb rfl 37 (.tmp 19) (.tmp 16) rfl (p8 + 1) 33 _ rfl rfl 42 (blkC 0 zid zid 0 0 0 (slM p8)) B5.out ?h1 ?h2 ?h3 ?_)
  case h1 => simp [blkC_len _ _ _ _ _ _ _ zid_len zid_len, hR32]
  case h2 => rw [infoID]; simp [hR32]
  case h3 => exact bts_one _
  intro w6 b6 o6
  rw [over_root 0 0 0 0 zid zid R _ zid_len zid_len hR32] at b6
  have K6 := Lib.hid (K5.out.only o6 (by have := HS2.out; omega) (by have := HS2.out; omega) (by have := HS2.out; omega))
  have T6 := Lib.hid (T5.out.only o6 (by have := HS2.out; omega))
  have B6 := Lib.hid b6
  have P86 := Lib.hid (P85.out.only o6 (by omega))
  clear b6 o6 K5 T5 B5 P85
  have c0 := T6.out.cell 0
  have c1 := T6.out.cell 1
  simp only [List.getElem?_toArray, List.getElem?_cons_zero, List.getElem?_cons_succ] at c0 c1
  have CS := Lib.hid (csum_any w6 (some ⟨q, 0, none⟩) 1 1 [(5, zid, ())] _ (K6.out.outs H5.out (fun b => b = q) rfl) rfl)
  rw [txM_sum] at CS
  go_wp2_with fail
  refine CS.out.mono ?_
  rintro e7 w7 ⟨rfl, a7⟩
  have K7 := Lib.hid (K6.out.step a7)
  have T7 := Lib.hid (T6.out.below a7 T6.out.lt)
  have B7 := Lib.hid (B6.out.below a7 B6.out.lt)
  have P87 := Lib.hid (P86.out.below a7 P86.out.lt)
  clear a7 CS K6 T6 B6 c0 c1 P86
  have c0 := T7.out.cell 0
  have c1 := T7.out.cell 1
  simp only [List.getElem?_toArray, List.getElem?_cons_zero, List.getElem?_cons_succ] at c0 c1
  have C1 := Lib.hid (check_tx_any w7 (some ⟨p, 0, none⟩) (some ⟨q, 0, none⟩) 1 1 1 1 [inM] [(5, zid, ())] (fun b => b = p ∨ b = q) true (K7.out.ins _ (.inl rfl)) (K7.out.outs H5.out _ (.inr rfl)) rfl rfl)
  rw [show ctx ([inM], [(5, zid, ())], ()) true = 0 from txM_ctx1] at C1
  go_wp2_with fail
  refine C1.out.mono ?_
  rintro e8 w8 ⟨rfl, a8⟩
  have K8 := Lib.hid (K7.out.step a8)
  have T8 := Lib.hid (T7.out.below a8 T7.out.lt)
  have B8 := Lib.hid (B7.out.below a8 B7.out.lt)
  have P88 := Lib.hid (P87.out.below a8 P87.out.lt)
  clear a8 C1 K7 T7 B7 c0 c1 P87
  have c0 := T8.out.cell 0
  have c1 := T8.out.cell 1
  simp only [List.getElem?_toArray, List.getElem?_cons_zero, List.getElem?_cons_succ] at c0 c1
  have C1 := Lib.hid (check_tx_any w8 (some ⟨p, 0, none⟩) (some ⟨q, 0, none⟩) 1 1 1 1 [inM] [(5, zid, ())] (fun b => b = p ∨ b = q) false (K8.out.ins _ (.inl rfl)) (K8.out.outs H5.out _ (.inr rfl)) rfl rfl)
  rw [show ctx ([inM], [(5, zid, ())], ()) false = 120 from txM_ctx0] at C1
  go_wp2_with fail
  refine C1.out.mono ?_
  rintro e9 w9 ⟨rfl, a9⟩
  have K9 := Lib.hid (K8.out.step a9)
  have B9 := Lib.hid (B8.out.below a9 B8.out.lt)
  have P89 := Lib.hid (P88.out.below a9 P88.out.lt)
  clear a9 C1 K8 T8 B8 c0 c1 P88
  have CB := Lib.hid (check_block_any w9 0 0 0 0 zid R (some ⟨p8, 0, none⟩) 1 1 [txM 5] (fun b => b = p ∨ b = q ∨ b = p8) zid_len hR32 merkle1 (K9.out.txs H5.out P89.out _ (.inl rfl) (.inr (.inl rfl)) (.inr (.inr rfl))) rfl (fun b h => by rcases h with rfl | rfl | rfl <;> first | exact K9.out.bi.lt | exact K9.out.bo.lt | exact P89.out.lt) (fun t ht => by rw [List.mem_singleton] at ht; rw [ht]; exact txM_fit 5))
  rw [show cblk 0 zid R 0 0 0 [txM 5] = 0 by rw [← HRR.out]; exact blkM_1] at CB
  go_wp2_with (refine wpList_ldg2 (by rfl) 42 (.tmp 2) rfl (p8 + 1) 0 rfl (blkC 0 zid R 0 0 0 (slM p8)) B9.out.rowAll _ Try.underlying42 rfl 69 infoBlk (blkC_len _ _ _ _ _ _ _ zid_len hR32).symm ?_)
  refine CB.out.mono ?_
  rintro e10 w10 ⟨rfl, a10⟩
  have K10 := Lib.hid (K9.out.step a10)
  have B10 := Lib.hid (B9.out.below a10 B9.out.lt)
  have P810 := Lib.hid (P89.out.below a10 P89.out.lt)
  clear a10 CB K9 B9 P89
  have CR := Lib.hid (check_root_any w10 0 0 0 0 zid R (some ⟨p8, 0, none⟩) 1 1 [txM 5] (fun b => b = p ∨ b = q ∨ b = p8) zid_len hR32 merkle1 (K10.out.txs H5.out P810.out _ (.inl rfl) (.inr (.inl rfl)) (.inr (.inr rfl))) rfl (fun b h => by rcases h with rfl | rfl | rfl <;> first | exact K10.out.bi.lt | exact K10.out.bo.lt | exact P810.out.lt) (fun t ht => by rw [List.mem_singleton] at ht; rw [ht]; exact txM_fit 5) (by omega))
  rw [show croot R [txM 5] = 0 by rw [← HRR.out]; exact txM_root1] at CR
  go_wp2_with (refine wpList_ldg2 (by rfl) 42 (.tmp 2) rfl (p8 + 1) 0 rfl (blkC 0 zid R 0 0 0 (slM p8)) B10.out.rowAll _ Try.underlying42 rfl 69 infoBlk (blkC_len _ _ _ _ _ _ _ zid_len hR32).symm ?_)
  refine CR.out.mono ?_
  rintro e11 w11 ⟨rfl, a11⟩
  have K11 := Lib.hid (K10.out.step a11)
  clear a11 CR K10 B10 P810
  have MK := Lib.hid (maker_any w11)
  go_wp2_with fail
  refine MK.out.mono ?_
  rintro e12 w12 ⟨rfl, a12⟩
  have K12 := Lib.hid (K11.out.step a12)
  clear a12 MK K11
  have hfd : ∀ w : World, (Instr.field 53 (ptV zid 4294967295) 1).run Try.prog w = .ok (.int .u32 4294967295) w := fun _ => by kernel_rfl
  go_wp2
  go_ret
  exact ⟨rfl, K12.out.below⟩
end Go.Proofs.Ytnonabmbichfnaa
