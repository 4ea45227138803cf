/- The first transaction of a block: what is known of it. -/
import Derived.Test.YtnonabmbichfnaaCb
namespace Go.Proofs.Ytnonabmbichfnaa
open Go.RowKit
/-- the transaction of law12.first -/
def inM : InT := ((zid, 4294967295, ()), [], ())
def txM (a : Int) : TxT := ([inM], [(a, zid, ())], ())
theorem txM_sha : (sha2 (txB (txM 5)) == zid) = false := by kernel_rfl
theorem txM_len : (txB (txM 5)).length = 79 := by kernel_rfl
theorem txM_ctx1 : ctx (txM 5) true = 0 := by decide
theorem txM_ctx0 : ctx (txM 5) false = 120 := by decide
theorem txM_sum : csum 0 [(5, zid, ())] = (5, true) := by decide
theorem txM_fit (a : Int) : TxFit (txM a) := ⟨by simp [txM], by simp [txM], by intro i hi; simp only [txM, List.mem_singleton] at hi; subst hi; simp [inM]⟩
theorem txM_pair : pairT [txM 5] = false := by simp [pairT, txM_len]
theorem txM_root0 : croot zid [txM 5] = 40 := by
  rw [croot, if_neg (by rw [txM_pair]; decide), txIds, List.map_singleton, mroot_one]
  simp only [Bool.false_or, txM_sha]
  rfl
theorem txM_root1 : croot (sha2 (txB (txM 5))) [txM 5] = 0 := by
  rw [croot, if_neg (by rw [txM_pair]; decide), txIds, List.map_singleton, mroot_one]
  simp
theorem blkM_len (r : List UInt8) (h : r.length = 32) : (blkB 0 zid r 0 0 0 [txM 5]).length = 160 := by
  rw [blkB, List.length_append, hdrB_len _ _ _ _ _ _ rfl h]
  simp [txM_len, countB, les_length]
theorem blkM_0 : cblk 0 zid zid 0 0 0 [txM 5] = 40 := by
  rw [cblk, if_neg (by simp), ctxs, txM_ctx1, if_pos rfl, ctxs, if_pos rfl, blkM_len zid rfl, if_neg (by omega), txM_root0]
theorem blkM_1 : cblk 0 zid (sha2 (txB (txM 5))) 0 0 0 [txM 5] = 0 := by
  rw [cblk, if_neg (by simp), ctxs, txM_ctx1, if_pos rfl, ctxs, if_pos rfl, blkM_len _ (sha2_len _), if_neg (by omega), txM_root1]
/-- a slice of one element, just built -/
theorem one_sl {α : Type} {s : Shape α} {hs : 0 < s.size} {w : World} {ok : Nat → Prop} {b : Nat} {cs : List Value} {a : α} (hb : RowAt w b 0 cs) (hok : ok b) (hr : s.rel w ok cs a) : (shSlice s hs).rel w ok [.slice (some ⟨b, 0, none⟩) 1 1] [a] :=
  ⟨some ⟨b, 0, none⟩, 1, [cs], rfl, by simp, by simp [maxLen], .cons hr .nil, by simp [s.len hr], fun _ => ⟨b, 0, rfl, hok, by simpa using hb⟩⟩
theorem inM_rel {w : World} {ok : Nat → Prop} : inSh.rel w ok (inC zid 4294967295 (.slice none 0 0)) inM :=
  ⟨ptC zid 4294967295, [.slice none 0 0], by simp [inC, ptC], ⟨bts zid, [.int .u32 4294967295], rfl, ⟨rfl, rfl⟩, ⟨[.int .u32 4294967295], [], rfl, ⟨rfl, by decide⟩, rfl⟩⟩, ⟨[.slice none 0 0], [], rfl, ⟨_, rfl, ⟨none, 0, 0, rfl, rfl, Nat.le_refl _, Sl.nil _ _ _ _⟩⟩, rfl⟩⟩
theorem outM_rel {w : World} {ok : Nat → Prop} {a : Int} (h : (Lit.int .i64 a).wf = true) : outSh.rel w ok (outC a zid) (a, zid, ()) :=
  ⟨[.int .i64 a], bts zid, rfl, ⟨rfl, h⟩, ⟨bts zid, [], by simp, ⟨rfl, rfl⟩, rfl⟩⟩
set_option maxRecDepth 20000 in
set_option maxHeartbeats 4000000 in
theorem first_any (w : World) (a : Int) :
    Calls Try.prog 19 #[.int .i64 a] w fun e w' => ∃ p q, e = .returned (.agg #[.slice (some ⟨p, 0, none⟩) 1 1, .slice (some ⟨q, 0, none⟩) 1 1]) ∧ Below w.heap.size w w' ∧
      w.heap.size ≤ p ∧ w.heap.size ≤ q ∧ Blk w' p 56 (inC zid 4294967295 (.slice none 0 0)).toArray ∧ Blk w' q 58 (outC a zid).toArray := by
  go_enter Try.func19, Try.ntmps19
  go_wp2_with fail
  generalize hW : World.alloc w _ = W
  have hb2 : Blk W w.heap.size 25 #[.slice none 0 0, .slice none 0 0] := by rw [← hW]; exact Blk.new _ _ _
  have hbl : Below w.heap.size w W := by rw [← hW]; exact (Below.refl _ _).alloc (Nat.le_refl _) _
  clear hW
  obtain ⟨q, hq⟩ : ∃ q, w.heap.size = q := ⟨_, rfl⟩
  rw [hq] at hb2 ⊢
  have HQ := Lib.hid hq
  have HB2 := Lib.hid hb2
  have HBL := Lib.hid hbl
  clear hq hb2 hbl
  refine (maker_any W).mono ?_
  rintro e1 w1 ⟨rfl, a1⟩
  have HB1 := Lib.hid (HB2.out.below a1 HB2.out.lt)
  have HBL1 := Lib.hid (HBL.out.trans (a1.mono HBL.out.size))
  clear a1 HB2 HBL
  rw [show ptV zid 4294967295 = .agg #[.int .u8 0, .int .u8 0, .int .u8 0, .int .u8 0, .int .u8 0, .int .u8 0, .int .u8 0, .int .u8 0, .int .u8 0, .int .u8 0, .int .u8 0, .int .u8 0, .int .u8 0, .int .u8 0, .int .u8 0, .int .u8 0, .int .u8 0, .int .u8 0, .int .u8 0, .int .u8 0, .int .u8 0, .int .u8 0, .int .u8 0, .int .u8 0, .int .u8 0, .int .u8 0, .int .u8 0, .int .u8 0, .int .u8 0, .int .u8 0, .int .u8 0, .int .u8 0, .int .u32 4294967295] from rfl]
  have hA : Blk ((w1.alloc (.cells (inC zid 4294967295 (.slice none 0 0)).toArray 56)).alloc (.cells (outC a zid).toArray 58)) w1.heap.size 56 (inC zid 4294967295 (.slice none 0 0)).toArray := (Blk.new _ _ _).alloc _
  have hB : Blk ((w1.alloc (.cells (inC zid 4294967295 (.slice none 0 0)).toArray 56)).alloc (.cells (outC a zid).toArray 58)) (w1.heap.size + 1) 58 (outC a zid).toArray := by
    have := Blk.new (w1.alloc (.cells (inC zid 4294967295 (.slice none 0 0)).toArray 56)) 58 (outC a zid).toArray
    simpa using this
  have hbl3 : Below w.heap.size w ((w1.alloc (.cells (inC zid 4294967295 (.slice none 0 0)).toArray 56)).alloc (.cells (outC a zid).toArray 58)) := (HBL1.out.alloc HBL1.out.size _).alloc (HBL1.out.alloc HBL1.out.size _).size _
  have HA := Lib.hid hA
  have HB := Lib.hid hB
  have HBL3 := Lib.hid hbl3
  clear hA hB hbl3
  go_wp2_with (with_reducible refine wpList_stb rfl 25 (.tmp 2) (.tmp 9) rfl q 0 _ rfl rfl 25 [.slice none 0 0, .slice none 0 0] ((HB1.out.alloc _).alloc _) ?h1 ?h2 ?h3 ?_)
  case h1 => simp
  case h2 => rw [infoTx]; rfl
  case h3 => exact ⟨rfl, rfl⟩
  intro w4 b4 o4
  rw [over_all _ _ (by simp)] at b4
  have HB4 := Lib.hid b4
  have O4 := Lib.hid o4
  clear b4 o4
  go_wp2
  refine bodyPost_ret (results_cell_row rfl _ _ q 25 _ (0, 0) _ rfl HB4.out Try.underlying25 rfl (by rw [infoTx]; rfl)) rfl ?_
  have hq1 := HB1.out.lt
  have hq2 := HQ.out
  have bA : Blk w4 w1.heap.size 56 (inC zid 4294967295 (.slice none 0 0)).toArray := HA.out.only O4.out (by omega)
  have bB : Blk w4 (w1.heap.size + 1) 58 (outC a zid).toArray := HB.out.only O4.out (by omega)
  exact ⟨w1.heap.size, w1.heap.size + 1, rfl, HBL3.out.trans (O4.out.below HBL3.out.size (fun b hb e => by omega)), by omega, by omega, bA, bB⟩
end Go.Proofs.Ytnonabmbichfnaa
