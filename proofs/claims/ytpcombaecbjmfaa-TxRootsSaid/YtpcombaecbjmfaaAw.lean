/- law07.writes = true. -/
import Derived.Test.YtpcombaecbjmfaaRk
import Derived.Test.YtpcombaecbjmfaaMr
import Derived.Test.YtpcombaecbjmfaaRe
import Derived.Test.YtpcombaecbjmfaaRf
namespace Go.Proofs.Ytpcombaecbjmfaa
open Go.RowKit
/-- the transaction of law07.writes -/
def inW : InT := ((z32, 0, ()), [107], ())
def txW : TxT := ([inW], [(5, z32, ())], ())
def rawW : List UInt8 := blkB 0 z32 z32 0 0 0 [txW]
theorem txW_sha : (sha2 (txB txW) == z32) = false := by kernel_rfl
theorem txW_len : (txB txW).length = 80 := by kernel_rfl
theorem txW_E : txE (txB txW) = 0 := by kernel_rfl
theorem txW_G : txG (txB txW) = txW := by kernel_rfl
theorem rawW_len : rawW.length = 161 := by kernel_rfl
theorem blkW_E : blkE rawW = 0 := by kernel_rfl
theorem blkW_T : (blkT rawW).length = 1 := by kernel_rfl
theorem txW_fit : TxFit txW := ⟨by simp [txW], by simp [txW], by intro i hi; simp only [txW, List.mem_singleton] at hi; subst hi; simp [inW]⟩
theorem txW_root : mroot ([txW].map fun t => sha2 (txB t)) = (sha2 (txB txW), false) := by
  rw [List.map_singleton, mroot_one]
theorem one_sl7 {α : Type} {s : Shape α} {hs : 0 < s.size} {w : World} {ok : Nat → Prop} {b : Nat} {cs : List Value} {a : α} (hb : RowAt w b 0 cs) (hok : ok b) (hr : s.rel w ok cs a) : (shSlice s hs).rel w ok [.slice (some ⟨b, 0, none⟩) 1 1] [a] :=
  ⟨some ⟨b, 0, none⟩, 1, [cs], rfl, by simp, by simp [maxLen], .cons hr .nil, by simp [s.len hr], fun _ => ⟨b, 0, rfl, hok, by simpa using hb⟩⟩
theorem inW_rel {w : World} {ok : Nat → Prop} {k : Nat} (hk : RowAt w k 0 [.int .u8 107]) (h : ok k) : inSh.rel w ok (inC z32 0 (.slice (some ⟨k, 0, none⟩) 1 1)) inW :=
  ⟨bts z32 ++ [.int .u32 0], [.slice (some ⟨k, 0, none⟩) 1 1], by simp [inC], ⟨bts z32, [.int .u32 0], rfl, ⟨rfl, rfl⟩, ⟨[.int .u32 0], [], rfl, ⟨rfl, by decide⟩, rfl⟩⟩, ⟨[.slice (some ⟨k, 0, none⟩) 1 1], [], rfl, ⟨_, rfl, ⟨some ⟨k, 0, none⟩, 1, 1, rfl, rfl, Nat.le_refl _, rfl, fun _ => ⟨k, 0, rfl, h, hk⟩⟩⟩, rfl⟩⟩
theorem outW_rel {w : World} {ok : Nat → Prop} : outSh.rel w ok (outC 5 z32) (5, z32, ()) :=
  ⟨[.int .i64 5], bts z32, rfl, ⟨rfl, by decide⟩, ⟨bts z32, [], by simp, ⟨rfl, rfl⟩, rfl⟩⟩
theorem infoTx7 : (Try.prog.info? 25).map (·.size) = some 2 := by kernel_rfl
theorem zeroB7 (sv : Value) : Try.zeroCells46.setIfInBounds 68 sv = (blkC 0 z32 z32 0 0 0 sv).toArray := by
  rw [show Try.zeroCells46 = (blkC 0 z32 z32 0 0 0 (.slice none 0 0)).toArray by kernel_rfl]
  rfl
theorem blkH_len (l : List UInt8) : (blkH l).length = 68 := by
  rw [blkH]
  split
  · exact hdrR_len _
  · exact hdrC_len 0 z32 z32 0 0 0 rfl rfl
theorem blkH_one (l : List UInt8) : ∀ u ∈ blkH l, u.oneCell' = true := by
  rw [blkH]
  split
  · exact hdrR_one _
  · exact hdrC_one _ _ _ _ _ _
theorem zeroB_len : Try.zeroCells46.toList.length = 69 := by kernel_rfl
theorem cell_below {w w' : World} {p : Addr} {v : Value} (a : Below w.heap.size w w') (h : w.cell? p = some v) : w'.cell? p = some v := by
  obtain ⟨b, o, n⟩ := p
  exact ((Only.of_below a).cell (World.block_lt_of_cell? w _ h) (by have := World.block_lt_of_cell? w _ h; simp only at this ⊢; omega)).trans h
/-- the transaction, wherever it lies -/
structure Tw7 (w0 : World) (g : Nat) (A A' : Option Addr) (w : World) : Prop where
  ins : insSh.rel w (fun b => w0.heap.size ≤ b ∧ b < g) [.slice A 1 1] [inW]
  outs : outsSh.rel w (fun b => w0.heap.size ≤ b ∧ b < g) [.slice A' 1 1] [(5, z32, ())]
  tx : Blk w g 25 #[.slice A 1 1, .slice A' 1 1]
  bel : Below w0.heap.size w0 w
  ge : w0.heap.size ≤ g
theorem Tw7.step {w0 w w' : World} {g : Nat} {A A' : Option Addr} (h : Tw7 w0 g A A' w) (a : Below w.heap.size w w') : Tw7 w0 g A A' w' :=
  ⟨insSh.only h.ins (Only.of_below a) (fun b hb _ hk => by omega), outsSh.only h.outs (Only.of_below a) (fun b hb _ hk => by omega), h.tx.below a h.tx.lt, h.bel.trans (a.mono h.bel.size), h.ge⟩
theorem Tw7.txs {w0 w : World} {g q : Nat} {A A' : Option Addr} (h : Tw7 w0 g A A' w) (hb : Blk w q 25 #[.slice A 1 1, .slice A' 1 1]) (hq : g ≤ q) : txsSh.rel w (fun b => w0.heap.size ≤ b ∧ b < w.heap.size) [.slice (some ⟨q, 0, none⟩) 1 1] [txW] :=
  one_sl7 (cs := [.slice A 1 1, .slice A' 1 1]) hb.rowAll ⟨by have := h.ge; omega, hb.lt⟩ ⟨[.slice A 1 1], [.slice A' 1 1], rfl, weak_slice weak_in3 _ _ _ _ _ h.ins (fun b _ hb => ⟨hb.1, by have := h.tx.lt; omega⟩), ⟨[.slice A' 1 1], [], rfl, weak_slice weak_out3 _ _ _ _ _ h.outs (fun b _ hb => ⟨hb.1, by have := h.tx.lt; omega⟩), rfl⟩⟩
set_option maxRecDepth 20000 in
set_option maxHeartbeats 4000000 in
set_option linter.unusedSimpArgs false in
theorem writes7_any (w : World) : Calls Try.prog 11 #[] w fun e w' => e = .returned (.bool true) ∧ Below w.heap.size w w' := by
  have kc := fun (w : World) (C : Array Value) (n c : Nat) => Lib.run_convert_bytes_const (P := Try.prog) w 28 5 C n c Try.underlying28 Try.underlying5
  go_enter Try.func11, Try.ntmps11
  go_wp2_with fail
  generalize hW : World.alloc (World.alloc _ _) _ = W
  have hsz : W.heap.size = w.heap.size + 4 := by rw [← hW]; simp
  have hk : RowAt W w.heap.size 0 [.int .u8 107] := by
    rw [← hW]
    have h0 : RowAt (w.alloc (.cells #[.int .u8 107] 5 (1, 2))) w.heap.size 0 [.int .u8 107] := fun j u hj => by
      match j, hj with
      | 0, hj => rw [← hj]; exact cell_of_row _ _ _ _ _ _ (heap_alloc_new w _)
    have hlt : w.heap.size < (w.alloc (.cells #[.int .u8 107] 5 (1, 2))).heap.size := by simp
    exact h0.only (S := fun _ => False) ((((Only.refl _ _).alloc _).alloc _).alloc _) (fun h => h)
  have hin : Blk W (w.heap.size + 1) 61 (inC z32 0 (.slice (some ⟨w.heap.size, 0, none⟩) 1 1)).toArray := by
    rw [← hW]
    have h0 := Blk.new (w.alloc (.cells #[.int .u8 107] 5 (1, 2))) 61 (inC z32 0 (.slice (some ⟨w.heap.size, 0, none⟩) 1 1)).toArray
    simp only [World.size_alloc] at h0
    exact (h0.alloc _).alloc _
  have hout : Blk W (w.heap.size + 1 + 1) 63 (outC 5 z32).toArray := by
    rw [← hW]
    have h0 := Blk.new ((w.alloc (.cells #[.int .u8 107] 5 (1, 2))).alloc (.cells (inC z32 0 (.slice (some ⟨w.heap.size, 0, none⟩) 1 1)).toArray 61)) 63 (outC 5 z32).toArray
    simp only [World.size_alloc] at h0
    exact h0.alloc _
  have htx : Blk W (w.heap.size + 1 + 1 + 1) 25 #[.slice (some ⟨w.heap.size + 1, 0, none⟩) 1 1, .slice (some ⟨w.heap.size + 1 + 1, 0, none⟩) 1 1] := by
    rw [← hW]
    have h0 := Blk.new (((w.alloc (.cells #[.int .u8 107] 5 (1, 2))).alloc (.cells (inC z32 0 (.slice (some ⟨w.heap.size, 0, none⟩) 1 1)).toArray 61)).alloc (.cells (outC 5 z32).toArray 63)) 25 #[.slice (some ⟨w.heap.size + 1, 0, none⟩) 1 1, .slice (some ⟨w.heap.size + 1 + 1, 0, none⟩) 1 1]
    simp only [World.size_alloc] at h0
    exact h0
  have hbl : Below w.heap.size w W := by
    rw [← hW]
    exact ((((Below.refl w.heap.size w).alloc (Nat.le_refl _) _).alloc (by simp) _).alloc (by simp; omega) _).alloc (by simp; omega) _
  clear hW
  obtain ⟨g, hg⟩ : ∃ g, w.heap.size + 1 + 1 + 1 = g := ⟨_, rfl⟩
  have K1 := Lib.hid (show Tw7 w g (some ⟨w.heap.size + 1, 0, none⟩) (some ⟨w.heap.size + 1 + 1, 0, none⟩) W from ⟨one_sl7 hin.rowAll (by omega) (inW_rel hk (by omega)), one_sl7 hout.rowAll (by omega) outW_rel, hg ▸ htx, hbl, by omega⟩)
  rw [hg]
  obtain ⟨A, hA⟩ : ∃ A, (some ⟨w.heap.size + 1, 0, none⟩ : Option Addr) = A := ⟨_, rfl⟩
  obtain ⟨A', hA'⟩ : ∃ A, (some ⟨w.heap.size + 1 + 1, 0, none⟩ : Option Addr) = A := ⟨_, rfl⟩
  rw [hA, hA'] at K1 ⊢
  clear hA hA' hg hsz hk hin hout htx hbl kc
  have BY := Lib.hid (fun W (K : Tw7 w g A A' W) => tx_bytes_any W A A' 1 1 1 1 _ _ _ K.ins K.outs rfl rfl (fun b h => by have := K.tx.lt; omega) txW_fit)
  refine (BY.out _ K1.out).mono ?_
  rintro e1 w1 ⟨B1, n1, c1, rfl, hn1, a1, o1⟩
  rw [show ([inW], [(5, z32, ())], ()) = txW from rfl] at hn1 o1
  have K2 := Lib.hid (K1.out.step a1)
  have IB := Lib.hid (IsB.of_own o1)
  clear a1 o1 K1 hn1
  go_wp2_with fail
  refine (tx_Read_any w1 _ _ _ IB.out (by rw [txW_len]; omega)).mono ?_
  rintro e2 w2 ⟨A2, n2, c2, A3, n3, c3, rfl, r1, r2, hn2, hn3, a2⟩
  rw [txW_G] at r1 r2
  rw [txW_E]
  have K3 := Lib.hid (K2.out.step a2)
  have HO := Lib.hid r2
  clear r1 r2 hn2 hn3 a2 K2 IB
  go_wp2_with (with_reducible refine wpList_stb rfl 25 (.tmp 2) (.tmp 19) rfl w2.heap.size 0 _ rfl rfl 25 _ (Blk.new w2 _ _) ?h1 ?h2 ?h3 ?_)
  case h1 => simp
  case h2 => rw [infoTx7]; rfl
  case h3 => exact ⟨rfl, rfl⟩
  intro w4 b4 o4
  rw [over_all _ _ (by simp)] at b4
  have hO4 : Below w2.heap.size w2 w4 := (((Only.refl (fun b => w2.heap.size ≤ b) w2).alloc _).trans o4 (fun b _ e => by omega)).below (Nat.le_refl _) (fun b hb h => by omega)
  have K4 := Lib.hid (K3.out.step hO4)
  have HO4 := Lib.hid (outsSh.only HO.out (Only.of_below hO4) (fun b hb _ hk => by omega))
  have U4 := Lib.hid b4
  obtain ⟨u, hu⟩ : ∃ u, w2.heap.size = u := ⟨_, rfl⟩
  rw [hu] at U4 ⊢
  clear hu b4 o4 hO4 K3 HO
  have c0 := K4.out.tx.cell 0
  have c1 := K4.out.tx.cell 1
  simp only [List.getElem?_toArray, List.getElem?_cons_zero, List.getElem?_cons_succ] at c0 c1
  go_wp2_with fail
  rw [zeroB7]
  have hn5 := Blk.new w4 25 #[.slice A 1 1, .slice A' 1 1]
  have ha5 : Below w4.heap.size w4 (w4.alloc (.cells #[.slice A 1 1, .slice A' 1 1] 25)) := (Below.refl _ _).alloc (Nat.le_refl _) _
  have K5 := Lib.hid (K4.out.step ha5)
  have T5 := Lib.hid (K5.out.txs hn5 (by have := K4.out.tx.lt; omega))
  have HO5 := Lib.hid (outsSh.only HO4.out (Only.of_below ha5) (fun b hb _ hk => by omega))
  have U5 := Lib.hid (U4.out.below ha5 U4.out.lt)
  clear hn5 ha5 K4 HO4 U4 c0 c1
  refine (tx_block_any _ 0 0 0 0 z32 z32 (some ⟨w4.heap.size, 0, none⟩) 1 1 [txW] _ rfl rfl T5.out rfl (fun b h => h.2) (fun t ht => by rw [List.mem_singleton] at ht; rw [ht]; exact txW_fit) (by omega)).mono ?_
  rintro e6 w6 ⟨B6, c6, n6, rfl, hn6, a6, o6⟩
  have K6 := Lib.hid (K5.out.step a6)
  have IB := Lib.hid (IsB.of_own o6)
  have HO6 := Lib.hid (outsSh.only HO5.out (Only.of_below a6) (fun b hb _ hk => by omega))
  have U6 := Lib.hid (U5.out.below a6 U5.out.lt)
  clear a6 o6 K5 hn6 T5 HO5 U5
  go_wp2_with fail
  refine (tx_ReadBlock_any w6 _ _ _ IB.out (by rw [show blkB 0 z32 z32 0 0 0 [txW] = rawW from rfl, rawW_len]; omega)).mono ?_
  rintro e7 w7 ⟨B7, n7, c7, rfl, r7, hn7, a7⟩
  rw [show blkB 0 z32 z32 0 0 0 [txW] = rawW from rfl] at r7 ⊢
  rw [blkW_E]
  obtain rfl : n7 = 1 := by obtain ⟨_, _, _, he, _⟩ := r7; injection he with he; injection he with _ he
  have K7 := Lib.hid (K6.out.step a7)
  have HO7 := Lib.hid (outsSh.only HO6.out (Only.of_below a7) (fun b hb _ hk => by omega))
  have U7 := Lib.hid (U6.out.below a7 U6.out.lt)
  clear a7 r7 K6 HO6 U6 IB hn7
  have HH := Lib.hid (show (blkH rawW).length = 68 from blkH_len _)
  go_wp2_with (with_reducible refine wpList_stb rfl 46 (.tmp 4) (.tmp 27) rfl w7.heap.size 0 _ rfl rfl 46 _ (Blk.new w7 _ _) ?h4 ?h5 ?h6 ?_)
  case h4 => rw [zeroB_len]; simp [HH.out]
  case h5 => rw [infoBlk]; simp [HH.out]
  case h6 => intro v hv; rcases hv with h | h; exact blkH_one _ v h; rw [h]; rfl
  intro w8 b8 o8
  rw [over_all _ _ (by rw [zeroB_len]; simp [HH.out])] at b8
  have hO8 : Below w7.heap.size w7 w8 := (((Only.refl (fun b => w7.heap.size ≤ b) w7).alloc _).trans o8 (fun b _ e => by omega)).below (Nat.le_refl _) (fun b hb h => by omega)
  have K8 := Lib.hid (K7.out.step hO8)
  have HO8 := Lib.hid (outsSh.only HO7.out (Only.of_below hO8) (fun b hb _ hk => by omega))
  have U8 := Lib.hid (U7.out.below hO8 U7.out.lt)
  have V8 := Lib.hid (show Blk w8 w7.heap.size 46 (blkH rawW ++ [Value.slice B7 1 c7]).toArray by simpa using b8)
  obtain ⟨v, hv⟩ : ∃ v, w7.heap.size = v := ⟨_, rfl⟩
  rw [hv] at V8 ⊢
  clear hv b8 o8 hO8 K7 HO7 U7
  have c0 := K8.out.tx.cell 0
  have c1 := K8.out.tx.cell 1
  simp only [List.getElem?_toArray, List.getElem?_cons_zero, List.getElem?_cons_succ] at c0 c1
  have hn9 := Blk.new w8 25 #[.slice A 1 1, .slice A' 1 1]
  have ha9 : Below w8.heap.size w8 (w8.alloc (.cells #[.slice A 1 1, .slice A' 1 1] 25)) := (Below.refl _ _).alloc (Nat.le_refl _) _
  have K9 := Lib.hid (K8.out.step ha9)
  have T9 := Lib.hid (K9.out.txs hn9 (by have := K8.out.tx.lt; omega))
  have HO9 := Lib.hid (outsSh.only HO8.out (Only.of_below ha9) (fun b hb _ hk => by omega))
  have U9 := Lib.hid (U8.out.below ha9 U8.out.lt)
  have V9 := Lib.hid (V8.out.below ha9 V8.out.lt)
  have TR := tx_root_any 1 merkle1 _ (some ⟨w8.heap.size, 0, none⟩) 1 [txW] _ T9.out rfl (fun b h => h.2) (fun t ht => by rw [List.mem_singleton] at ht; rw [ht]; exact txW_fit) (by omega)
  rw [txW_root] at TR
  obtain ⟨R, hR⟩ : ∃ R, sha2 (txB txW) = R := ⟨_, rfl⟩
  have hR32 : R.length = 32 := by rw [← hR]; exact sha2_len _
  rw [hR] at TR
  unfold idV at TR
  have HR := Lib.hid hR
  have heqA : ∀ w', (Op.equalIn 10000 32 (.agg (bts R).toArray) (.agg (bts R).toArray)).run Try.prog w' = .ok true w' := fun w' => by rw [run_eq_id R R hR32 hR32 w']; simp
  have heqB : ∀ w', (Op.equalIn 10000 32 (.agg (bts R).toArray) (.agg (bts z32).toArray)).run Try.prog w' = .ok false w' := fun w' => by rw [run_eq_id R z32 hR32 rfl w', ← hR, txW_sha]
  replace TR := Lib.hid TR
  clear hn9 ha9 hR
  go_wp2_with fail
  clear K8 HO8 U8 V8 c0 c1
  refine TR.out.mono ?_
  rintro e10 w10 ⟨rfl, a10⟩
  have K10 := Lib.hid (K9.out.step a10)
  have HO10 := Lib.hid (outsSh.only HO9.out (Only.of_below a10) (fun b hb _ hk => by omega))
  have U10 := Lib.hid (U9.out.below a10 U9.out.lt)
  have V10 := Lib.hid (V9.out.below a10 V9.out.lt)
  clear a10 K9 HO9 U9 V9 TR T9
  go_wp2_with (with_reducible refine wpList_stb rfl 32 (.tmp 6) (.tmp 33) rfl w10.heap.size 0 _ rfl rfl 32 _ (Blk.new w10 _ _) ?h7 ?h8 ?h9 ?_)
  case h7 => simp [hR32]
  case h8 => rw [infoID]; simp [hR32]
  case h9 => exact bts_one _
  intro w11 b11 o11
  rw [over_all _ _ (by simp [hR32])] at b11
  have hO11 : Below w10.heap.size w10 w11 := (((Only.refl (fun b => w10.heap.size ≤ b) w10).alloc _).trans o11 (fun b _ e => by omega)).below (Nat.le_refl _) (fun b hb h => by omega)
  have K11 := Lib.hid (K10.out.step hO11)
  have HO11 := Lib.hid (outsSh.only HO10.out (Only.of_below hO11) (fun b hb _ hk => by omega))
  have U11 := Lib.hid (U10.out.below hO11 U10.out.lt)
  have V11 := Lib.hid (V10.out.below hO11 V10.out.lt)
  have X11 := Lib.hid (show Blk w11 w10.heap.size 32 (bts R).toArray by simpa using b11)
  obtain ⟨x, hx⟩ : ∃ x, w10.heap.size = x := ⟨_, rfl⟩
  rw [hx] at X11 ⊢
  clear hx b11 o11 hO11 K10 HO10 U10 V10
  -- what is asked
  obtain rfl : n3 = 1 := by obtain ⟨_, _, _, he, _⟩ := HO11.out; injection he with he; injection he with _ he
  obtain ⟨oA, oB, rfl, hout⟩ : ∃ ob oo, A3 = some ⟨ob, oo, none⟩ ∧ w11.cell? ⟨ob, oo, none⟩ = some (.int .i64 5) := by
    obtain ⟨cells, _, _, _, he, hs, hc1, _⟩ := shSlice_open HO11.out
    obtain ⟨b, o, rfl, _, hr⟩ := hs.2 (by omega)
    cases he with
    | cons h1 h2 =>
      obtain ⟨amt, lock, e1, rfl, _⟩ := out_cells h1
      injection e1 with e1 _
      subst e1
      exact ⟨b, o, rfl, hr 0 _ (by rfl)⟩
  have hob : oA < w11.heap.size := World.block_lt_of_cell? w11 _ hout
  have HOUT := Lib.hid hout
  have HOB := Lib.hid hob
  have HHL := Lib.hid (show (blkH rawW).length = 68 from blkH_len _)
  clear HO11 hout hob
  go_wp2
  refine wp_region_held_drew (S := (fun w' => Tw7 w g A A' w' ∧ Blk w' u 25 #[.slice A2 n2 c2, .slice (some ⟨oA, oB, none⟩) 1 c3] ∧ w'.cell? ⟨oA, oB, none⟩ = some (.int .i64 5) ∧ Blk w' v 46 (blkH rawW ++ [Value.slice B7 1 c7]).toArray ∧ Blk w' x 32 (bts R).toArray)) (by kernel_rfl) (⟨K11.out.step (Below.drew (Below.refl _ _)), U11.out.drew, HOUT.out, V11.out.drew, X11.out.drew⟩) ?_
  intro hSw
  refine wpAnyH_take (i := 0) (oi := ⟨some 35, _, _, _, _, _⟩) (v := (.int .i64 0)) rfl (by kernel_rfl) (by kernel_rfl) (by kernel_rfl) (fun _ _ _ h => h) (Or.inl ⟨by rfl, ?_⟩) hSw ?_
  · intro w' hSw'
    have c0 := hSw'.1.tx.cell 0
    have c1 := hSw'.1.tx.cell 1
    have c2 := hSw'.2.1.cell 1
    have c3 := hSw'.2.2.1
    have c4 := blk_last hSw'.2.2.2.1 HHL.out
    simp only [List.getElem?_toArray, List.getElem?_cons_zero, List.getElem?_cons_succ] at c0 c1 c2
    go_simp
  simp only [Act.put, List.setIfInBounds_toArray, List.set_cons_zero, List.set_cons_succ]
  refine wpAnyH_take (i := 1) (oi := ⟨some 36, _, _, _, _, _⟩) (v := (.bool true)) rfl (by kernel_rfl) (by kernel_rfl) (by kernel_rfl) (fun _ _ _ h => h) (Or.inl ⟨by rfl, ?_⟩) hSw ?_
  · intro w' hSw'
    have c0 := hSw'.1.tx.cell 0
    have c1 := hSw'.1.tx.cell 1
    have c2 := hSw'.2.1.cell 1
    have c3 := hSw'.2.2.1
    have c4 := blk_last hSw'.2.2.2.1 HHL.out
    simp only [List.getElem?_toArray, List.getElem?_cons_zero, List.getElem?_cons_succ] at c0 c1 c2
    go_simp
  simp only [Act.put, List.setIfInBounds_toArray, List.set_cons_zero, List.set_cons_succ]
  refine wpAnyH_take (i := 2) (oi := ⟨some 37, _, _, _, _, _⟩) (v := (.bool true)) rfl (by kernel_rfl) (by kernel_rfl) (by kernel_rfl) (fun _ _ _ h => h) (Or.inl ⟨by rfl, ?_⟩) hSw ?_
  · intro w' hSw'
    have c0 := hSw'.1.tx.cell 0
    have c1 := hSw'.1.tx.cell 1
    have c2 := hSw'.2.1.cell 1
    have c3 := hSw'.2.2.1
    have c4 := blk_last hSw'.2.2.2.1 HHL.out
    simp only [List.getElem?_toArray, List.getElem?_cons_zero, List.getElem?_cons_succ] at c0 c1 c2
    go_simp
  simp only [Act.put, List.setIfInBounds_toArray, List.set_cons_zero, List.set_cons_succ]
  refine wpAnyH_take (i := 3) (oi := ⟨some 38, _, _, _, _, _⟩) (v := (.int .i64 0)) rfl (by kernel_rfl) (by kernel_rfl) (by kernel_rfl) (fun _ _ _ h => h) (Or.inl ⟨by rfl, ?_⟩) hSw ?_
  · intro w' hSw'
    have c0 := hSw'.1.tx.cell 0
    have c1 := hSw'.1.tx.cell 1
    have c2 := hSw'.2.1.cell 1
    have c3 := hSw'.2.2.1
    have c4 := blk_last hSw'.2.2.2.1 HHL.out
    simp only [List.getElem?_toArray, List.getElem?_cons_zero, List.getElem?_cons_succ] at c0 c1 c2
    go_simp
  simp only [Act.put, List.setIfInBounds_toArray, List.set_cons_zero, List.set_cons_succ]
  refine wpAnyH_take (i := 4) (oi := ⟨some 39, _, _, _, _, _⟩) (v := (.bool true)) rfl (by kernel_rfl) (by kernel_rfl) (by kernel_rfl) (fun _ _ _ h => h) (Or.inl ⟨by rfl, ?_⟩) hSw ?_
  · intro w' hSw'
    have c0 := hSw'.1.tx.cell 0
    have c1 := hSw'.1.tx.cell 1
    have c2 := hSw'.2.1.cell 1
    have c3 := hSw'.2.2.1
    have c4 := blk_last hSw'.2.2.2.1 HHL.out
    simp only [List.getElem?_toArray, List.getElem?_cons_zero, List.getElem?_cons_succ] at c0 c1 c2
    go_simp
  simp only [Act.put, List.setIfInBounds_toArray, List.set_cons_zero, List.set_cons_succ]
  refine wpAnyH_take (i := 5) (oi := ⟨some 40, _, _, _, _, _⟩) (v := (.bool true)) rfl (by kernel_rfl) (by kernel_rfl) (by kernel_rfl) (fun _ _ _ h => h) (Or.inl ⟨by rfl, ?_⟩) hSw ?_
  · intro w' hSw'
    have c0 := hSw'.1.tx.cell 0
    have c1 := hSw'.1.tx.cell 1
    have c2 := hSw'.2.1.cell 1
    have c3 := hSw'.2.2.1
    have c4 := blk_last hSw'.2.2.2.1 HHL.out
    simp only [List.getElem?_toArray, List.getElem?_cons_zero, List.getElem?_cons_succ] at c0 c1 c2
    go_simp
  simp only [Act.put, List.setIfInBounds_toArray, List.set_cons_zero, List.set_cons_succ]
  refine wpAnyH_take (i := 6) (oi := ⟨some 41, _, _, _, _, _⟩) (v := (.bool true)) rfl (by kernel_rfl) (by kernel_rfl) (by kernel_rfl) (fun _ _ _ h => h) (Or.inl ⟨by rfl, ?_⟩) hSw ?_
  · intro w' hSw'
    have c0 := hSw'.1.tx.cell 0
    have c1 := hSw'.1.tx.cell 1
    have c2 := hSw'.2.1.cell 1
    have c3 := hSw'.2.2.1
    have c4 := blk_last hSw'.2.2.2.1 HHL.out
    simp only [List.getElem?_toArray, List.getElem?_cons_zero, List.getElem?_cons_succ] at c0 c1 c2
    go_simp
  simp only [Act.put, List.setIfInBounds_toArray, List.set_cons_zero, List.set_cons_succ]
  refine wpAnyH_take (i := 7) (oi := ⟨some 42, _, _, _, _, _⟩) (v := (.agg #[.slice A 1 1, .slice A' 1 1])) rfl (by kernel_rfl) (by kernel_rfl) (by kernel_rfl) (fun _ _ _ h => h) (Or.inl ⟨by rfl, ?_⟩) hSw ?_
  · intro w' hSw'
    have c0 := hSw'.1.tx.cell 0
    have c1 := hSw'.1.tx.cell 1
    have c2 := hSw'.2.1.cell 1
    have c3 := hSw'.2.2.1
    have c4 := blk_last hSw'.2.2.2.1 HHL.out
    simp only [List.getElem?_toArray, List.getElem?_cons_zero, List.getElem?_cons_succ] at c0 c1 c2
    go_simp
  simp only [Act.put, List.setIfInBounds_toArray, List.set_cons_zero, List.set_cons_succ]
  refine wpAnyH_ready (rs := [8]) (by kernel_rfl) (by simp) (AllReadyH.cons (o := ⟨some 43, _, _, _, _, _⟩) rfl (fun K hK => ?_) AllReadyH.nil)
  go_simp
  go_at_call 13
  refine (BY.out _ hSw.1).mono ?_
  rintro e12 w12 ⟨B12, n12, c12, rfl, hn12, a12, o12⟩
  rw [show ([inW], [(5, z32, ())], ()) = txW from rfl, txW_len] at hn12
  clear o12
  subst hn12
  dsimp only
  refine hK.out _ _ (⟨hSw.1.step a12, hSw.2.1.below a12 hSw.2.1.lt, cell_below a12 hSw.2.2.1, hSw.2.2.2.1.below a12 hSw.2.2.2.1.lt, hSw.2.2.2.2.below a12 hSw.2.2.2.2.lt⟩) ?_
  intro hSw
  clear hK K
  try simp only [Act.put, List.setIfInBounds_toArray, List.set_cons_zero, List.set_cons_succ]
  refine wpAnyH_take (i := 9) (oi := ⟨some 44, _, _, _, _, _⟩) (v := (.int .i64 80)) rfl (by kernel_rfl) (by kernel_rfl) (by kernel_rfl) (fun _ _ _ h => h) (Or.inl ⟨by rfl, ?_⟩) hSw ?_
  · intro w' hSw'
    have c0 := hSw'.1.tx.cell 0
    have c1 := hSw'.1.tx.cell 1
    have c2 := hSw'.2.1.cell 1
    have c3 := hSw'.2.2.1
    have c4 := blk_last hSw'.2.2.2.1 HHL.out
    simp only [List.getElem?_toArray, List.getElem?_cons_zero, List.getElem?_cons_succ] at c0 c1 c2
    go_simp
  simp only [Act.put, List.setIfInBounds_toArray, List.set_cons_zero, List.set_cons_succ]
  refine wpAnyH_take (i := 10) (oi := ⟨some 45, _, _, _, _, _⟩) (v := (.bool true)) rfl (by kernel_rfl) (by kernel_rfl) (by kernel_rfl) (fun _ _ _ h => h) (Or.inl ⟨by rfl, ?_⟩) hSw ?_
  · intro w' hSw'
    have c0 := hSw'.1.tx.cell 0
    have c1 := hSw'.1.tx.cell 1
    have c2 := hSw'.2.1.cell 1
    have c3 := hSw'.2.2.1
    have c4 := blk_last hSw'.2.2.2.1 HHL.out
    simp only [List.getElem?_toArray, List.getElem?_cons_zero, List.getElem?_cons_succ] at c0 c1 c2
    go_simp
  simp only [Act.put, List.setIfInBounds_toArray, List.set_cons_zero, List.set_cons_succ]
  refine wpAnyH_take (i := 11) (oi := ⟨some 46, _, _, _, _, _⟩) (v := (.bool true)) rfl (by kernel_rfl) (by kernel_rfl) (by kernel_rfl) (fun _ _ _ h => h) (Or.inl ⟨by rfl, ?_⟩) hSw ?_
  · intro w' hSw'
    have c0 := hSw'.1.tx.cell 0
    have c1 := hSw'.1.tx.cell 1
    have c2 := hSw'.2.1.cell 1
    have c3 := hSw'.2.2.1
    have c4 := blk_last hSw'.2.2.2.1 HHL.out
    simp only [List.getElem?_toArray, List.getElem?_cons_zero, List.getElem?_cons_succ] at c0 c1 c2
    go_simp
  simp only [Act.put, List.setIfInBounds_toArray, List.set_cons_zero, List.set_cons_succ]
  refine wpAnyH_take (i := 12) (oi := ⟨some 47, _, _, _, _, _⟩) (v := (.bool true)) rfl (by kernel_rfl) (by kernel_rfl) (by kernel_rfl) (fun _ _ _ h => h) (Or.inl ⟨by rfl, ?_⟩) hSw ?_
  · intro w' hSw'
    have c0 := hSw'.1.tx.cell 0
    have c1 := hSw'.1.tx.cell 1
    have c2 := hSw'.2.1.cell 1
    have c3 := hSw'.2.2.1
    have c4 := blk_last hSw'.2.2.2.1 HHL.out
    simp only [List.getElem?_toArray, List.getElem?_cons_zero, List.getElem?_cons_succ] at c0 c1 c2
    go_simp
  simp only [Act.put, List.setIfInBounds_toArray, List.set_cons_zero, List.set_cons_succ]
  refine wpAnyH_take (i := 13) (oi := ⟨some 48, _, _, _, _, _⟩) (v := (.pointer (some ⟨u, 1, none⟩))) rfl (by kernel_rfl) (by kernel_rfl) (by kernel_rfl) (fun _ _ _ h => h) (Or.inl ⟨by rfl, ?_⟩) hSw ?_
  · intro w' hSw'
    have c0 := hSw'.1.tx.cell 0
    have c1 := hSw'.1.tx.cell 1
    have c2 := hSw'.2.1.cell 1
    have c3 := hSw'.2.2.1
    have c4 := blk_last hSw'.2.2.2.1 HHL.out
    simp only [List.getElem?_toArray, List.getElem?_cons_zero, List.getElem?_cons_succ] at c0 c1 c2
    go_simp
  simp only [Act.put, List.setIfInBounds_toArray, List.set_cons_zero, List.set_cons_succ]
  refine wpAnyH_take (i := 14) (oi := ⟨some 49, _, _, _, _, _⟩) (v := (.slice (some ⟨oA, oB, none⟩) 1 c3)) rfl (by kernel_rfl) (by kernel_rfl) (by kernel_rfl) (fun _ _ _ h => h) (Or.inl ⟨by rfl, ?_⟩) hSw ?_
  · intro w' hSw'
    have c0 := hSw'.1.tx.cell 0
    have c1 := hSw'.1.tx.cell 1
    have c2 := hSw'.2.1.cell 1
    have c3 := hSw'.2.2.1
    have c4 := blk_last hSw'.2.2.2.1 HHL.out
    simp only [List.getElem?_toArray, List.getElem?_cons_zero, List.getElem?_cons_succ] at c0 c1 c2
    go_simp
  simp only [Act.put, List.setIfInBounds_toArray, List.set_cons_zero, List.set_cons_succ]
  refine wpAnyH_take (i := 15) (oi := ⟨some 50, _, _, _, _, _⟩) (v := (.int .i64 1)) rfl (by kernel_rfl) (by kernel_rfl) (by kernel_rfl) (fun _ _ _ h => h) (Or.inl ⟨by rfl, ?_⟩) hSw ?_
  · intro w' hSw'
    have c0 := hSw'.1.tx.cell 0
    have c1 := hSw'.1.tx.cell 1
    have c2 := hSw'.2.1.cell 1
    have c3 := hSw'.2.2.1
    have c4 := blk_last hSw'.2.2.2.1 HHL.out
    simp only [List.getElem?_toArray, List.getElem?_cons_zero, List.getElem?_cons_succ] at c0 c1 c2
    go_simp
  simp only [Act.put, List.setIfInBounds_toArray, List.set_cons_zero, List.set_cons_succ]
  refine wpAnyH_take (i := 16) (oi := ⟨some 51, _, _, _, _, _⟩) (v := (.bool true)) rfl (by kernel_rfl) (by kernel_rfl) (by kernel_rfl) (fun _ _ _ h => h) (Or.inl ⟨by rfl, ?_⟩) hSw ?_
  · intro w' hSw'
    have c0 := hSw'.1.tx.cell 0
    have c1 := hSw'.1.tx.cell 1
    have c2 := hSw'.2.1.cell 1
    have c3 := hSw'.2.2.1
    have c4 := blk_last hSw'.2.2.2.1 HHL.out
    simp only [List.getElem?_toArray, List.getElem?_cons_zero, List.getElem?_cons_succ] at c0 c1 c2
    go_simp
  simp only [Act.put, List.setIfInBounds_toArray, List.set_cons_zero, List.set_cons_succ]
  refine wpAnyH_take (i := 17) (oi := ⟨some 52, _, _, _, _, _⟩) (v := (.bool true)) rfl (by kernel_rfl) (by kernel_rfl) (by kernel_rfl) (fun _ _ _ h => h) (Or.inl ⟨by rfl, ?_⟩) hSw ?_
  · intro w' hSw'
    have c0 := hSw'.1.tx.cell 0
    have c1 := hSw'.1.tx.cell 1
    have c2 := hSw'.2.1.cell 1
    have c3 := hSw'.2.2.1
    have c4 := blk_last hSw'.2.2.2.1 HHL.out
    simp only [List.getElem?_toArray, List.getElem?_cons_zero, List.getElem?_cons_succ] at c0 c1 c2
    go_simp
  simp only [Act.put, List.setIfInBounds_toArray, List.set_cons_zero, List.set_cons_succ]
  refine wpAnyH_take (i := 18) (oi := ⟨some 53, _, _, _, _, _⟩) (v := (.bool true)) rfl (by kernel_rfl) (by kernel_rfl) (by kernel_rfl) (fun _ _ _ h => h) (Or.inl ⟨by rfl, ?_⟩) hSw ?_
  · intro w' hSw'
    have c0 := hSw'.1.tx.cell 0
    have c1 := hSw'.1.tx.cell 1
    have c2 := hSw'.2.1.cell 1
    have c3 := hSw'.2.2.1
    have c4 := blk_last hSw'.2.2.2.1 HHL.out
    simp only [List.getElem?_toArray, List.getElem?_cons_zero, List.getElem?_cons_succ] at c0 c1 c2
    go_simp
  simp only [Act.put, List.setIfInBounds_toArray, List.set_cons_zero, List.set_cons_succ]
  refine wpAnyH_take (i := 19) (oi := ⟨some 54, _, _, _, _, _⟩) (v := (.pointer (some ⟨u, 1, none⟩))) rfl (by kernel_rfl) (by kernel_rfl) (by kernel_rfl) (fun _ _ _ h => h) (Or.inl ⟨by rfl, ?_⟩) hSw ?_
  · intro w' hSw'
    have c0 := hSw'.1.tx.cell 0
    have c1 := hSw'.1.tx.cell 1
    have c2 := hSw'.2.1.cell 1
    have c3 := hSw'.2.2.1
    have c4 := blk_last hSw'.2.2.2.1 HHL.out
    simp only [List.getElem?_toArray, List.getElem?_cons_zero, List.getElem?_cons_succ] at c0 c1 c2
    go_simp
  simp only [Act.put, List.setIfInBounds_toArray, List.set_cons_zero, List.set_cons_succ]
  refine wpAnyH_take (i := 20) (oi := ⟨some 55, _, _, _, _, _⟩) (v := (.slice (some ⟨oA, oB, none⟩) 1 c3)) rfl (by kernel_rfl) (by kernel_rfl) (by kernel_rfl) (fun _ _ _ h => h) (Or.inl ⟨by rfl, ?_⟩) hSw ?_
  · intro w' hSw'
    have c0 := hSw'.1.tx.cell 0
    have c1 := hSw'.1.tx.cell 1
    have c2 := hSw'.2.1.cell 1
    have c3 := hSw'.2.2.1
    have c4 := blk_last hSw'.2.2.2.1 HHL.out
    simp only [List.getElem?_toArray, List.getElem?_cons_zero, List.getElem?_cons_succ] at c0 c1 c2
    go_simp
  simp only [Act.put, List.setIfInBounds_toArray, List.set_cons_zero, List.set_cons_succ]
  refine wpAnyH_take (i := 21) (oi := ⟨some 56, _, _, _, _, _⟩) (v := (.pointer (some ⟨oA, oB, none⟩))) rfl (by kernel_rfl) (by kernel_rfl) (by kernel_rfl) (fun _ _ _ h => h) (Or.inl ⟨by rfl, ?_⟩) hSw ?_
  · intro w' hSw'
    have c0 := hSw'.1.tx.cell 0
    have c1 := hSw'.1.tx.cell 1
    have c2 := hSw'.2.1.cell 1
    have c3 := hSw'.2.2.1
    have c4 := blk_last hSw'.2.2.2.1 HHL.out
    simp only [List.getElem?_toArray, List.getElem?_cons_zero, List.getElem?_cons_succ] at c0 c1 c2
    go_simp
  simp only [Act.put, List.setIfInBounds_toArray, List.set_cons_zero, List.set_cons_succ]
  refine wpAnyH_take (i := 22) (oi := ⟨some 57, _, _, _, _, _⟩) (v := (.pointer (some ⟨oA, oB, none⟩))) rfl (by kernel_rfl) (by kernel_rfl) (by kernel_rfl) (fun _ _ _ h => h) (Or.inl ⟨by rfl, ?_⟩) hSw ?_
  · intro w' hSw'
    have c0 := hSw'.1.tx.cell 0
    have c1 := hSw'.1.tx.cell 1
    have c2 := hSw'.2.1.cell 1
    have c3 := hSw'.2.2.1
    have c4 := blk_last hSw'.2.2.2.1 HHL.out
    simp only [List.getElem?_toArray, List.getElem?_cons_zero, List.getElem?_cons_succ] at c0 c1 c2
    go_simp
  simp only [Act.put, List.setIfInBounds_toArray, List.set_cons_zero, List.set_cons_succ]
  refine wpAnyH_take (i := 23) (oi := ⟨some 58, _, _, _, _, _⟩) (v := (.int .i64 5)) rfl (by kernel_rfl) (by kernel_rfl) (by kernel_rfl) (fun _ _ _ h => h) (Or.inl ⟨by rfl, ?_⟩) hSw ?_
  · intro w' hSw'
    have c0 := hSw'.1.tx.cell 0
    have c1 := hSw'.1.tx.cell 1
    have c2 := hSw'.2.1.cell 1
    have c3 := hSw'.2.2.1
    have c4 := blk_last hSw'.2.2.2.1 HHL.out
    simp only [List.getElem?_toArray, List.getElem?_cons_zero, List.getElem?_cons_succ] at c0 c1 c2
    go_simp
  simp only [Act.put, List.setIfInBounds_toArray, List.set_cons_zero, List.set_cons_succ]
  refine wpAnyH_take (i := 24) (oi := ⟨some 59, _, _, _, _, _⟩) (v := (.bool true)) rfl (by kernel_rfl) (by kernel_rfl) (by kernel_rfl) (fun _ _ _ h => h) (Or.inl ⟨by rfl, ?_⟩) hSw ?_
  · intro w' hSw'
    have c0 := hSw'.1.tx.cell 0
    have c1 := hSw'.1.tx.cell 1
    have c2 := hSw'.2.1.cell 1
    have c3 := hSw'.2.2.1
    have c4 := blk_last hSw'.2.2.2.1 HHL.out
    simp only [List.getElem?_toArray, List.getElem?_cons_zero, List.getElem?_cons_succ] at c0 c1 c2
    go_simp
  simp only [Act.put, List.setIfInBounds_toArray, List.set_cons_zero, List.set_cons_succ]
  refine wpAnyH_take (i := 25) (oi := ⟨some 60, _, _, _, _, _⟩) (v := (.bool true)) rfl (by kernel_rfl) (by kernel_rfl) (by kernel_rfl) (fun _ _ _ h => h) (Or.inl ⟨by rfl, ?_⟩) hSw ?_
  · intro w' hSw'
    have c0 := hSw'.1.tx.cell 0
    have c1 := hSw'.1.tx.cell 1
    have c2 := hSw'.2.1.cell 1
    have c3 := hSw'.2.2.1
    have c4 := blk_last hSw'.2.2.2.1 HHL.out
    simp only [List.getElem?_toArray, List.getElem?_cons_zero, List.getElem?_cons_succ] at c0 c1 c2
    go_simp
  simp only [Act.put, List.setIfInBounds_toArray, List.set_cons_zero, List.set_cons_succ]
  refine wpAnyH_take (i := 26) (oi := ⟨some 61, _, _, _, _, _⟩) (v := (.bool true)) rfl (by kernel_rfl) (by kernel_rfl) (by kernel_rfl) (fun _ _ _ h => h) (Or.inl ⟨by rfl, ?_⟩) hSw ?_
  · intro w' hSw'
    have c0 := hSw'.1.tx.cell 0
    have c1 := hSw'.1.tx.cell 1
    have c2 := hSw'.2.1.cell 1
    have c3 := hSw'.2.2.1
    have c4 := blk_last hSw'.2.2.2.1 HHL.out
    simp only [List.getElem?_toArray, List.getElem?_cons_zero, List.getElem?_cons_succ] at c0 c1 c2
    go_simp
  simp only [Act.put, List.setIfInBounds_toArray, List.set_cons_zero, List.set_cons_succ]
  refine wpAnyH_take (i := 27) (oi := ⟨some 62, _, _, _, _, _⟩) (v := (.pointer (some ⟨v, 68, none⟩))) rfl (by kernel_rfl) (by kernel_rfl) (by kernel_rfl) (fun _ _ _ h => h) (Or.inl ⟨by rfl, ?_⟩) hSw ?_
  · intro w' hSw'
    have c0 := hSw'.1.tx.cell 0
    have c1 := hSw'.1.tx.cell 1
    have c2 := hSw'.2.1.cell 1
    have c3 := hSw'.2.2.1
    have c4 := blk_last hSw'.2.2.2.1 HHL.out
    simp only [List.getElem?_toArray, List.getElem?_cons_zero, List.getElem?_cons_succ] at c0 c1 c2
    go_simp
  simp only [Act.put, List.setIfInBounds_toArray, List.set_cons_zero, List.set_cons_succ]
  refine wpAnyH_take (i := 28) (oi := ⟨some 63, _, _, _, _, _⟩) (v := (.slice B7 1 c7)) rfl (by kernel_rfl) (by kernel_rfl) (by kernel_rfl) (fun _ _ _ h => h) (Or.inl ⟨by rfl, ?_⟩) hSw ?_
  · intro w' hSw'
    have c0 := hSw'.1.tx.cell 0
    have c1 := hSw'.1.tx.cell 1
    have c2 := hSw'.2.1.cell 1
    have c3 := hSw'.2.2.1
    have c4 := blk_last hSw'.2.2.2.1 HHL.out
    simp only [List.getElem?_toArray, List.getElem?_cons_zero, List.getElem?_cons_succ] at c0 c1 c2
    go_simp
  simp only [Act.put, List.setIfInBounds_toArray, List.set_cons_zero, List.set_cons_succ]
  refine wpAnyH_take (i := 29) (oi := ⟨some 64, _, _, _, _, _⟩) (v := (.int .i64 1)) rfl (by kernel_rfl) (by kernel_rfl) (by kernel_rfl) (fun _ _ _ h => h) (Or.inl ⟨by rfl, ?_⟩) hSw ?_
  · intro w' hSw'
    have c0 := hSw'.1.tx.cell 0
    have c1 := hSw'.1.tx.cell 1
    have c2 := hSw'.2.1.cell 1
    have c3 := hSw'.2.2.1
    have c4 := blk_last hSw'.2.2.2.1 HHL.out
    simp only [List.getElem?_toArray, List.getElem?_cons_zero, List.getElem?_cons_succ] at c0 c1 c2
    go_simp
  simp only [Act.put, List.setIfInBounds_toArray, List.set_cons_zero, List.set_cons_succ]
  refine wpAnyH_take (i := 30) (oi := ⟨some 65, _, _, _, _, _⟩) (v := (.bool true)) rfl (by kernel_rfl) (by kernel_rfl) (by kernel_rfl) (fun _ _ _ h => h) (Or.inl ⟨by rfl, ?_⟩) hSw ?_
  · intro w' hSw'
    have c0 := hSw'.1.tx.cell 0
    have c1 := hSw'.1.tx.cell 1
    have c2 := hSw'.2.1.cell 1
    have c3 := hSw'.2.2.1
    have c4 := blk_last hSw'.2.2.2.1 HHL.out
    simp only [List.getElem?_toArray, List.getElem?_cons_zero, List.getElem?_cons_succ] at c0 c1 c2
    go_simp
  simp only [Act.put, List.setIfInBounds_toArray, List.set_cons_zero, List.set_cons_succ]
  refine wpAnyH_take (i := 31) (oi := ⟨some 66, _, _, _, _, _⟩) (v := (.bool true)) rfl (by kernel_rfl) (by kernel_rfl) (by kernel_rfl) (fun _ _ _ h => h) (Or.inl ⟨by rfl, ?_⟩) hSw ?_
  · intro w' hSw'
    have c0 := hSw'.1.tx.cell 0
    have c1 := hSw'.1.tx.cell 1
    have c2 := hSw'.2.1.cell 1
    have c3 := hSw'.2.2.1
    have c4 := blk_last hSw'.2.2.2.1 HHL.out
    simp only [List.getElem?_toArray, List.getElem?_cons_zero, List.getElem?_cons_succ] at c0 c1 c2
    go_simp
  simp only [Act.put, List.setIfInBounds_toArray, List.set_cons_zero, List.set_cons_succ]
  refine wpAnyH_take (i := 32) (oi := ⟨some 67, _, _, _, _, _⟩) (v := (.bool true)) rfl (by kernel_rfl) (by kernel_rfl) (by kernel_rfl) (fun _ _ _ h => h) (Or.inl ⟨by rfl, ?_⟩) hSw ?_
  · intro w' hSw'
    have c0 := hSw'.1.tx.cell 0
    have c1 := hSw'.1.tx.cell 1
    have c2 := hSw'.2.1.cell 1
    have c3 := hSw'.2.2.1
    have c4 := blk_last hSw'.2.2.2.1 HHL.out
    simp only [List.getElem?_toArray, List.getElem?_cons_zero, List.getElem?_cons_succ] at c0 c1 c2
    go_simp
  simp only [Act.put, List.setIfInBounds_toArray, List.set_cons_zero, List.set_cons_succ]
  refine wpAnyH_take (i := 33) (oi := ⟨some 68, _, _, _, _, _⟩) (v := .agg (bts R).toArray) rfl (by kernel_rfl) (by kernel_rfl) (by kernel_rfl) (fun _ _ _ h => h) (yieldsIf_load_mid (by rfl) _ _ rfl x (0) rfl (bts R) _ (fun _ h => h.2.2.2.2.rowAll) Try.underlying32 rfl (infoIDb R hR32)) hSw ?_
  simp only [Act.put, List.setIfInBounds_toArray, List.set_cons_zero, List.set_cons_succ]
  refine wpAnyH_take (i := 34) (oi := ⟨some 69, _, _, _, _, _⟩) (v := (.agg #[.slice A 1 1, .slice A' 1 1])) rfl (by kernel_rfl) (by kernel_rfl) (by kernel_rfl) (fun _ _ _ h => h) (Or.inl ⟨by rfl, ?_⟩) hSw ?_
  · intro w' hSw'
    have c0 := hSw'.1.tx.cell 0
    have c1 := hSw'.1.tx.cell 1
    have c2 := hSw'.2.1.cell 1
    have c3 := hSw'.2.2.1
    have c4 := blk_last hSw'.2.2.2.1 HHL.out
    simp only [List.getElem?_toArray, List.getElem?_cons_zero, List.getElem?_cons_succ] at c0 c1 c2
    go_simp
  simp only [Act.put, List.setIfInBounds_toArray, List.set_cons_zero, List.set_cons_succ]
  refine wpAnyH_ready (rs := [35]) (by kernel_rfl) (by simp) (AllReadyH.cons (o := ⟨some 70, _, _, _, _, _⟩) rfl (fun K hK => ?_) AllReadyH.nil)
  go_simp
  go_at_call 15
  refine (tx_id_any _ A A' 1 1 1 1 _ _ _ hSw.1.ins hSw.1.outs rfl rfl (fun b h => by have := hSw.1.tx.lt; omega) txW_fit).mono ?_
  rintro e13 w13 ⟨rfl, a13⟩
  rw [show sha2 (txB ([inW], [(5, z32, ())], ())) = R from HR.out]
  unfold idV
  dsimp only
  refine hK.out _ _ (⟨hSw.1.step a13, hSw.2.1.below a13 hSw.2.1.lt, cell_below a13 hSw.2.2.1, hSw.2.2.2.1.below a13 hSw.2.2.2.1.lt, hSw.2.2.2.2.below a13 hSw.2.2.2.2.lt⟩) ?_
  intro hSw
  clear hK K
  try simp only [Act.put, List.setIfInBounds_toArray, List.set_cons_zero, List.set_cons_succ]
  refine wpAnyH_take (i := 36) (oi := ⟨some 71, _, _, _, _, _⟩) (v := (.bool true)) rfl (by kernel_rfl) (by kernel_rfl) (by kernel_rfl) (fun _ _ _ h => h) (Or.inl ⟨by rfl, ?_⟩) hSw ?_
  · intro w' hSw'
    have c0 := hSw'.1.tx.cell 0
    have c1 := hSw'.1.tx.cell 1
    have c2 := hSw'.2.1.cell 1
    have c3 := hSw'.2.2.1
    have c4 := blk_last hSw'.2.2.2.1 HHL.out
    simp only [List.getElem?_toArray, List.getElem?_cons_zero, List.getElem?_cons_succ] at c0 c1 c2
    go_simp
  simp only [Act.put, List.setIfInBounds_toArray, List.set_cons_zero, List.set_cons_succ]
  refine wpAnyH_take (i := 37) (oi := ⟨some 72, _, _, _, _, _⟩) (v := (.bool true)) rfl (by kernel_rfl) (by kernel_rfl) (by kernel_rfl) (fun _ _ _ h => h) (Or.inl ⟨by rfl, ?_⟩) hSw ?_
  · intro w' hSw'
    have c0 := hSw'.1.tx.cell 0
    have c1 := hSw'.1.tx.cell 1
    have c2 := hSw'.2.1.cell 1
    have c3 := hSw'.2.2.1
    have c4 := blk_last hSw'.2.2.2.1 HHL.out
    simp only [List.getElem?_toArray, List.getElem?_cons_zero, List.getElem?_cons_succ] at c0 c1 c2
    go_simp
  simp only [Act.put, List.setIfInBounds_toArray, List.set_cons_zero, List.set_cons_succ]
  refine wpAnyH_take (i := 38) (oi := ⟨some 73, _, _, _, _, _⟩) (v := (.bool true)) rfl (by kernel_rfl) (by kernel_rfl) (by kernel_rfl) (fun _ _ _ h => h) (Or.inl ⟨by rfl, ?_⟩) hSw ?_
  · intro w' hSw'
    have c0 := hSw'.1.tx.cell 0
    have c1 := hSw'.1.tx.cell 1
    have c2 := hSw'.2.1.cell 1
    have c3 := hSw'.2.2.1
    have c4 := blk_last hSw'.2.2.2.1 HHL.out
    simp only [List.getElem?_toArray, List.getElem?_cons_zero, List.getElem?_cons_succ] at c0 c1 c2
    go_simp
  simp only [Act.put, List.setIfInBounds_toArray, List.set_cons_zero, List.set_cons_succ]
  refine wpAnyH_take (i := 39) (oi := ⟨some 74, _, _, _, _, _⟩) (v := (.bool false)) rfl (by kernel_rfl) (by kernel_rfl) (by kernel_rfl) (fun _ _ _ h => h) (Or.inl ⟨by rfl, ?_⟩) hSw ?_
  · intro w' hSw'
    have c0 := hSw'.1.tx.cell 0
    have c1 := hSw'.1.tx.cell 1
    have c2 := hSw'.2.1.cell 1
    have c3 := hSw'.2.2.1
    have c4 := blk_last hSw'.2.2.2.1 HHL.out
    simp only [List.getElem?_toArray, List.getElem?_cons_zero, List.getElem?_cons_succ] at c0 c1 c2
    go_simp
  simp only [Act.put, List.setIfInBounds_toArray, List.set_cons_zero, List.set_cons_succ]
  refine wpAnyH_take (i := 40) (oi := ⟨some 75, _, _, _, _, _⟩) (v := (.bool true)) rfl (by kernel_rfl) (by kernel_rfl) (by kernel_rfl) (fun _ _ _ h => h) (Or.inl ⟨by rfl, ?_⟩) hSw ?_
  · intro w' hSw'
    have c0 := hSw'.1.tx.cell 0
    have c1 := hSw'.1.tx.cell 1
    have c2 := hSw'.2.1.cell 1
    have c3 := hSw'.2.2.1
    have c4 := blk_last hSw'.2.2.2.1 HHL.out
    simp only [List.getElem?_toArray, List.getElem?_cons_zero, List.getElem?_cons_succ] at c0 c1 c2
    go_simp
  simp only [Act.put, List.setIfInBounds_toArray, List.set_cons_zero, List.set_cons_succ]
  refine wpAnyH_take (i := 41) (oi := ⟨some 76, _, _, _, _, _⟩) (v := (.bool true)) rfl (by kernel_rfl) (by kernel_rfl) (by kernel_rfl) (fun _ _ _ h => h) (Or.inl ⟨by rfl, ?_⟩) hSw ?_
  · intro w' hSw'
    have c0 := hSw'.1.tx.cell 0
    have c1 := hSw'.1.tx.cell 1
    have c2 := hSw'.2.1.cell 1
    have c3 := hSw'.2.2.1
    have c4 := blk_last hSw'.2.2.2.1 HHL.out
    simp only [List.getElem?_toArray, List.getElem?_cons_zero, List.getElem?_cons_succ] at c0 c1 c2
    go_simp
  simp only [Act.put, List.setIfInBounds_toArray, List.set_cons_zero, List.set_cons_succ]
  refine wpAnyH_take (i := 42) (oi := ⟨some 77, _, _, _, _, _⟩) (v := (.bool true)) rfl (by kernel_rfl) (by kernel_rfl) (by kernel_rfl) (fun _ _ _ h => h) (Or.inl ⟨by rfl, ?_⟩) hSw ?_
  · intro w' hSw'
    have c0 := hSw'.1.tx.cell 0
    have c1 := hSw'.1.tx.cell 1
    have c2 := hSw'.2.1.cell 1
    have c3 := hSw'.2.2.1
    have c4 := blk_last hSw'.2.2.2.1 HHL.out
    simp only [List.getElem?_toArray, List.getElem?_cons_zero, List.getElem?_cons_succ] at c0 c1 c2
    go_simp
  simp only [Act.put, List.setIfInBounds_toArray, List.set_cons_zero, List.set_cons_succ]
  refine wpAnyH_take (i := 43) (oi := ⟨some 78, _, _, _, _, _⟩) (v := .agg (bts R).toArray) rfl (by kernel_rfl) (by kernel_rfl) (by kernel_rfl) (fun _ _ _ h => h) (yieldsIf_load_mid (by rfl) _ _ rfl x (0) rfl (bts R) _ (fun _ h => h.2.2.2.2.rowAll) Try.underlying32 rfl (infoIDb R hR32)) hSw ?_
  simp only [Act.put, List.setIfInBounds_toArray, List.set_cons_zero, List.set_cons_succ]
  refine wpAnyH_take (i := 44) (oi := ⟨some 79, _, _, _, _, _⟩) (v := (.agg (bts z32).toArray)) rfl (by kernel_rfl) (by kernel_rfl) (by kernel_rfl) (fun _ _ _ h => h) (Or.inl ⟨by rfl, ?_⟩) hSw ?_
  · intro w' hSw'
    exact exec_build (l := []) rfl (by simp) (by show _ = _; kernel_rfl)
  simp only [Act.put, List.setIfInBounds_toArray, List.set_cons_zero, List.set_cons_succ]
  refine wpAnyH_take (i := 45) (oi := ⟨some 80, _, _, _, _, _⟩) (v := (.bool true)) rfl (by kernel_rfl) (by kernel_rfl) (by kernel_rfl) (fun _ _ _ h => h) (Or.inl ⟨by rfl, ?_⟩) hSw ?_
  · intro w' hSw'
    have c0 := hSw'.1.tx.cell 0
    have c1 := hSw'.1.tx.cell 1
    have c2 := hSw'.2.1.cell 1
    have c3 := hSw'.2.2.1
    have c4 := blk_last hSw'.2.2.2.1 HHL.out
    simp only [List.getElem?_toArray, List.getElem?_cons_zero, List.getElem?_cons_succ] at c0 c1 c2
    go_simp
  simp only [Act.put, List.setIfInBounds_toArray, List.set_cons_zero, List.set_cons_succ]
  refine wpAnyH_take (i := 46) (oi := ⟨some 81, _, _, _, _, _⟩) (v := (.bool true)) rfl (by kernel_rfl) (by kernel_rfl) (by kernel_rfl) (fun _ _ _ h => h) (Or.inl ⟨by rfl, ?_⟩) hSw ?_
  · intro w' hSw'
    have c0 := hSw'.1.tx.cell 0
    have c1 := hSw'.1.tx.cell 1
    have c2 := hSw'.2.1.cell 1
    have c3 := hSw'.2.2.1
    have c4 := blk_last hSw'.2.2.2.1 HHL.out
    simp only [List.getElem?_toArray, List.getElem?_cons_zero, List.getElem?_cons_succ] at c0 c1 c2
    go_simp
  simp only [Act.put, List.setIfInBounds_toArray, List.set_cons_zero, List.set_cons_succ]
  refine wpAnyH_take (i := 47) (oi := ⟨some 82, _, _, _, _, _⟩) (v := (.bool true)) rfl (by kernel_rfl) (by kernel_rfl) (by kernel_rfl) (fun _ _ _ h => h) (Or.inl ⟨by rfl, ?_⟩) hSw ?_
  · intro w' hSw'
    have c0 := hSw'.1.tx.cell 0
    have c1 := hSw'.1.tx.cell 1
    have c2 := hSw'.2.1.cell 1
    have c3 := hSw'.2.2.1
    have c4 := blk_last hSw'.2.2.2.1 HHL.out
    simp only [List.getElem?_toArray, List.getElem?_cons_zero, List.getElem?_cons_succ] at c0 c1 c2
    go_simp
  simp only [Act.put, List.setIfInBounds_toArray, List.set_cons_zero, List.set_cons_succ]
  refine wpAnyH_take (i := 48) (oi := ⟨some 83, _, _, _, _, _⟩) (v := (.bool true)) rfl (by kernel_rfl) (by kernel_rfl) (by kernel_rfl) (fun _ _ _ h => h) (Or.inl ⟨by rfl, ?_⟩) hSw ?_
  · intro w' hSw'
    have c0 := hSw'.1.tx.cell 0
    have c1 := hSw'.1.tx.cell 1
    have c2 := hSw'.2.1.cell 1
    have c3 := hSw'.2.2.1
    have c4 := blk_last hSw'.2.2.2.1 HHL.out
    simp only [List.getElem?_toArray, List.getElem?_cons_zero, List.getElem?_cons_succ] at c0 c1 c2
    go_simp
  simp only [Act.put, List.setIfInBounds_toArray, List.set_cons_zero, List.set_cons_succ]
  refine wpAnyH_take (i := 49) (oi := ⟨some 84, _, _, _, _, _⟩) (v := (.bool true)) rfl (by kernel_rfl) (by kernel_rfl) (by kernel_rfl) (fun _ _ _ h => h) (Or.inl ⟨by rfl, ?_⟩) hSw ?_
  · intro w' hSw'
    have c0 := hSw'.1.tx.cell 0
    have c1 := hSw'.1.tx.cell 1
    have c2 := hSw'.2.1.cell 1
    have c3 := hSw'.2.2.1
    have c4 := blk_last hSw'.2.2.2.1 HHL.out
    simp only [List.getElem?_toArray, List.getElem?_cons_zero, List.getElem?_cons_succ] at c0 c1 c2
    go_simp
  simp only [Act.put, List.setIfInBounds_toArray, List.set_cons_zero, List.set_cons_succ]
  refine wpAnyH_take (i := 50) (oi := ⟨some 85, _, _, _, _, _⟩) (v := (.bool true)) rfl (by kernel_rfl) (by kernel_rfl) (by kernel_rfl) (fun _ _ _ h => h) (Or.inl ⟨by rfl, ?_⟩) hSw ?_
  · intro w' hSw'
    have c0 := hSw'.1.tx.cell 0
    have c1 := hSw'.1.tx.cell 1
    have c2 := hSw'.2.1.cell 1
    have c3 := hSw'.2.2.1
    have c4 := blk_last hSw'.2.2.2.1 HHL.out
    simp only [List.getElem?_toArray, List.getElem?_cons_zero, List.getElem?_cons_succ] at c0 c1 c2
    go_simp
  simp only [Act.put, List.setIfInBounds_toArray, List.set_cons_zero, List.set_cons_succ]
  refine wpAnyH_take (i := 51) (oi := ⟨some 86, _, _, _, _, _⟩) (v := (.bool true)) rfl (by kernel_rfl) (by kernel_rfl) (by kernel_rfl) (fun _ _ _ h => h) (Or.inl ⟨by rfl, ?_⟩) hSw ?_
  · intro w' hSw'
    have c0 := hSw'.1.tx.cell 0
    have c1 := hSw'.1.tx.cell 1
    have c2 := hSw'.2.1.cell 1
    have c3 := hSw'.2.2.1
    have c4 := blk_last hSw'.2.2.2.1 HHL.out
    simp only [List.getElem?_toArray, List.getElem?_cons_zero, List.getElem?_cons_succ] at c0 c1 c2
    go_simp
  simp only [Act.put, List.setIfInBounds_toArray, List.set_cons_zero, List.set_cons_succ]
  refine wpAnyH_take (i := 52) (oi := ⟨some 87, _, _, _, _, _⟩) (v := (.bool true)) rfl (by kernel_rfl) (by kernel_rfl) (by kernel_rfl) (fun _ _ _ h => h) (Or.inl ⟨by rfl, ?_⟩) hSw ?_
  · intro w' hSw'
    have c0 := hSw'.1.tx.cell 0
    have c1 := hSw'.1.tx.cell 1
    have c2 := hSw'.2.1.cell 1
    have c3 := hSw'.2.2.1
    have c4 := blk_last hSw'.2.2.2.1 HHL.out
    simp only [List.getElem?_toArray, List.getElem?_cons_zero, List.getElem?_cons_succ] at c0 c1 c2
    go_simp
  simp only [Act.put, List.setIfInBounds_toArray, List.set_cons_zero, List.set_cons_succ]
  refine wpAnyH_take (i := 53) (oi := ⟨some 88, _, _, _, _, _⟩) (v := (.bool true)) rfl (by kernel_rfl) (by kernel_rfl) (by kernel_rfl) (fun _ _ _ h => h) (Or.inl ⟨by rfl, ?_⟩) hSw ?_
  · intro w' hSw'
    have c0 := hSw'.1.tx.cell 0
    have c1 := hSw'.1.tx.cell 1
    have c2 := hSw'.2.1.cell 1
    have c3 := hSw'.2.2.1
    have c4 := blk_last hSw'.2.2.2.1 HHL.out
    simp only [List.getElem?_toArray, List.getElem?_cons_zero, List.getElem?_cons_succ] at c0 c1 c2
    go_simp
  simp only [Act.put, List.setIfInBounds_toArray, List.set_cons_zero, List.set_cons_succ]
  refine wpAnyH_take (i := 54) (oi := ⟨some 89, _, _, _, _, _⟩) (v := (.bool true)) rfl (by kernel_rfl) (by kernel_rfl) (by kernel_rfl) (fun _ _ _ h => h) (Or.inl ⟨by rfl, ?_⟩) hSw ?_
  · intro w' hSw'
    have c0 := hSw'.1.tx.cell 0
    have c1 := hSw'.1.tx.cell 1
    have c2 := hSw'.2.1.cell 1
    have c3 := hSw'.2.2.1
    have c4 := blk_last hSw'.2.2.2.1 HHL.out
    simp only [List.getElem?_toArray, List.getElem?_cons_zero, List.getElem?_cons_succ] at c0 c1 c2
    go_simp
  simp only [Act.put, List.setIfInBounds_toArray, List.set_cons_zero, List.set_cons_succ]
  refine wpAnyH_take (i := 55) (oi := ⟨some 0, _, _, _, _, _⟩) (v := (.bool true)) rfl (by kernel_rfl) (by kernel_rfl) (by kernel_rfl) (fun _ _ _ h => h) (Or.inl ⟨by rfl, ?_⟩) hSw ?_
  · intro w' hSw'
    have c0 := hSw'.1.tx.cell 0
    have c1 := hSw'.1.tx.cell 1
    have c2 := hSw'.2.1.cell 1
    have c3 := hSw'.2.2.1
    have c4 := blk_last hSw'.2.2.2.1 HHL.out
    simp only [List.getElem?_toArray, List.getElem?_cons_zero, List.getElem?_cons_succ] at c0 c1 c2
    go_simp
  simp only [Act.put, List.setIfInBounds_toArray, List.set_cons_zero, List.set_cons_succ]
  refine wpAnyH_done (by kernel_rfl) ?_ _
  go_wp2
  go_ret
  exact ⟨rfl, hSw.1.bel⟩
end Go.Proofs.Ytpcombaecbjmfaa
