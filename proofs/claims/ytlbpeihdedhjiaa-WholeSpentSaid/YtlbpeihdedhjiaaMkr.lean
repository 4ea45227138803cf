/- law13.maker. -/
import Derived.Test.YtlbpeihdedhjiaaDsc
import Derived.Test.YtlbpeihdedhjiaaTtl
import Derived.Lib.ConvBytes
namespace Go.Proofs.Ytlbpeihdedhjiaa
open Go.RowKit
set_option maxRecDepth 20000 in
theorem conv_any (w : World) (src : TypeId) {u : TypeDesc} (hs : Try.prog.underlying src = some u) (l : List UInt8) : ∃ W c, (convert src 30 (.string (bstr l))).run Try.prog w = .ok (.slice (some ⟨w.heap.size, 0, none⟩) l.length c) W ∧ Below w.heap.size w W ∧ W.heap.size = w.heap.size + 1 ∧ (∃ C fr, W.heap[w.heap.size]? = some (Obj.cells C 5 fr)) ∧
    IsB W (fun b => b = w.heap.size) (.slice (some ⟨w.heap.size, 0, none⟩) l.length c) l := by
  have hr := Lib.run_convert_string_bytes (P := Try.prog) w src 30 5 (bstr l) hs Try.underlying30 Try.underlying5
  rw [bstr_size] at hr
  refine ⟨_, _, hr, ⟨rfl, rfl, rfl, by rw [Lib.bytesWorld_size]; omega, fun k hk => Lib.bytesWorld_at_old w _ _ k hk⟩, Lib.bytesWorld_size _ _ _, ⟨_, _, Lib.bytesWorld_at_new _ _ _⟩, ⟨_, _, _, rfl, rfl, grownCap_ge _ _ _ _, by simp, fun _ => ⟨_, _, rfl, rfl, ?_⟩⟩⟩
  intro j x hj
  obtain ⟨hjl, hjx⟩ := List.getElem?_eq_some_iff.1 hj
  have hjl2 : j < l.length := by simpa using hjl
  have := Lib.bytesWorld_cell w 5 (bstr l) j (by rw [bstr_size]; exact hjl2)
  rw [Nat.zero_add, this, ← hjx]
  simp only [bts, List.getElem_map, Bt]
  congr 3
  show ((l.toArray).toList.getD j 0).toNat = _
  rw [List.getD_eq_getElem?_getD, List.getElem?_eq_getElem (by simpa using hjl2)]
  rfl
theorem one_slk {α : Type} {s : Shape α} {hs : 0 < s.size} {w : World} {ok : Nat → Prop} {b : Nat} {cs : List Value} {a : α} (hb : RowAt w b 0 cs) (hok : ok b) (hr : s.rel w ok cs a) : (shSlice s hs).rel w ok [.slice (some ⟨b, 0, none⟩) 1 1] [a] :=
  ⟨some ⟨b, 0, none⟩, 1, [cs], rfl, by simp, by simp [maxLen], .cons hr .nil, by simp [s.len hr], fun _ => ⟨b, 0, rfl, hok, by simpa using hb⟩⟩
def mkIn (mark : List UInt8) : InT := ((zid, 4294967295, ()), mark, ())
theorem built_mkin (A : Option Addr) (n c : Nat) : Try.prog.built 32 [(0, .agg (ptC zid 4294967295).toArray), (1, .slice A n c)] = some (inC zid 4294967295 (.slice A n c)).toArray := by show _ = _; kernel_rfl
theorem built_outk (amt : Int) (id : List UInt8) (hl : id.length = 32) : Try.prog.built 36 [(0, .int .i64 amt), (1, .agg (bts id).toArray)] = some (outC amt id).toArray := by
    match id, hl with
    | [_, _, _, _, _, _, _, _, _, _, _, _, _, _, _, _, _, _, _, _, _, _, _, _, _, _, _, _, _, _, _, _], _ => (show _ = _; kernel_rfl)
theorem built_txk (A A' : Option Addr) (n c n' c' : Nat) : Try.prog.built 39 [(0, .slice A n c), (1, .slice A' n' c')] = some #[.slice A n c, .slice A' n' c'] := by show _ = _; kernel_rfl
theorem run_one_in (id : List UInt8) (ix : Nat) (A : Option Addr) (n c : Nat) (h : id.length = 32) (w : World) : (Instr.buildSlice 33 1 #[(0, .agg (inC id ix (.slice A n c)).toArray)]).run Try.prog w = .ok (.slice (some ⟨w.heap.size, 0, none⟩) 1 1) (w.alloc (.cells (inC id ix (.slice A n c)).toArray 32)) := by
  match id, h with
  | [_, _, _, _, _, _, _, _, _, _, _, _, _, _, _, _, _, _, _, _, _, _, _, _, _, _, _, _, _, _, _, _], _ => (show _ = _; kernel_rfl)
theorem run_one_out (amt : Int) (id : List UInt8) (h : id.length = 32) (w : World) : (Instr.buildSlice 37 1 #[(0, .agg (outC amt id).toArray)]).run Try.prog w = .ok (.slice (some ⟨w.heap.size, 0, none⟩) 1 1) (w.alloc (.cells (outC amt id).toArray 36)) := by
  match id, h with
  | [_, _, _, _, _, _, _, _, _, _, _, _, _, _, _, _, _, _, _, _, _, _, _, _, _, _, _, _, _, _, _, _], _ => (show _ = _; kernel_rfl)
theorem in_rel {w : World} {ok : Nat → Prop} {id : List UInt8} {ix : Nat} {key : List UInt8} {v : Value} (hid : id.length = 32) (hix : ix < 4294967296) (hk : IsB w ok v key) : inSh.rel w ok (inC id ix v) ((id, ((ix : Nat) : Int), ()), key, ()) :=
  ⟨ptC id ix, [v], by simp [inC, ptC], ⟨bts id, [.int .u32 ((ix : Nat) : Int)], rfl, ⟨rfl, hid⟩, ⟨[.int .u32 ((ix : Nat) : Int)], [], rfl, ⟨rfl, by simp [Lit.wf, IntKind.min, IntKind.max, IntKind.signed, IntKind.bits]; omega⟩, rfl⟩⟩, ⟨[v], [], rfl, ⟨_, rfl, hk⟩, rfl⟩⟩
theorem out_rel {w : World} {ok : Nat → Prop} {a : Int} {id : List UInt8} (hid : id.length = 32) (h : (Lit.int .i64 a).wf = true) : outSh.rel w ok (outC a id) (a, id, ()) :=
  ⟨[.int .i64 a], bts id, rfl, ⟨rfl, h⟩, ⟨bts id, [], by simp, ⟨rfl, hid⟩, rfl⟩⟩
set_option maxRecDepth 20000 in
set_option maxHeartbeats 8000000 in
set_option linter.unusedSimpArgs false in
theorem mkr_any2 (w : World) (amt : Int) (key mark : List UInt8) (ha : (Lit.int .i64 amt).wf = true) (hk : key.length ≤ 10000) :
    Calls Try.prog 19 #[.int .i64 amt, .string (bstr key), .string (bstr mark)] w fun e w' => ∃ p q, e = .returned (.agg #[.slice (some ⟨p, 0, none⟩) 1 1, .slice (some ⟨q, 0, none⟩) 1 1]) ∧ Below w.heap.size w w' ∧
      ∃ k ck C fr, w.heap.size ≤ p ∧ w.heap.size ≤ q ∧ w.heap.size ≤ k ∧ Blk w' p 32 (inC zid 4294967295 (.slice (some ⟨k, 0, none⟩) mark.length ck)).toArray ∧ Blk w' q 36 (outC amt (sha key)).toArray ∧ IsB w' (fun b => b = k) (.slice (some ⟨k, 0, none⟩) mark.length ck) mark ∧ w'.heap[k]? = some (Obj.cells C 5 fr) := by
  have HA := Lib.hid ha
  have HK := Lib.hid hk
  clear ha hk
  go_enter Try.func19, Try.ntmps19
  go_wp2_with fail
  generalize hW : World.alloc w _ = W
  have hb2 : Blk W w.heap.size 39 #[.slice none 0 0, .slice none 0 0] := by rw [← hW]; exact Blk.new _ _ _
  have hbl : Below w.heap.size w W := by rw [← hW]; exact (Below.refl _ _).alloc (Nat.le_refl _) _
  clear hW
  obtain ⟨g, hg⟩ : ∃ g, w.heap.size = g := ⟨_, rfl⟩
  rw [hg] at hb2 ⊢
  have HG := Lib.hid hg
  have HB := Lib.hid hb2
  have HBL := Lib.hid hbl
  clear hg hb2 hbl
  refine (maker_any W).mono ?_
  rintro e1 w1 ⟨rfl, a1⟩
  replace HB := Lib.hid (HB.out.below a1 HB.out.lt)
  replace HBL := Lib.hid (HBL.out.trans (a1.mono HBL.out.size))
  clear a1
  unfold ptV
  have hgl1 := HB.out.lt
  obtain ⟨w2, c2, r2, a2, z2, ⟨C2, fr2, h2⟩, b2⟩ := conv_any w1 9 Try.underlying9 mark
  replace HB := Lib.hid (HB.out.below a2 HB.out.lt)
  replace HBL := Lib.hid (HBL.out.trans (a2.mono HBL.out.size))
  have HZ2 := Lib.hid z2
  have HM := Lib.hid b2
  obtain ⟨p9, hp9⟩ : ∃ p9, w1.heap.size = p9 := ⟨_, rfl⟩
  have HP9 := Lib.hid (show p9 + 1 = w2.heap.size by omega)
  have HGP := Lib.hid (show g < p9 ∧ w.heap.size = g by have := HG.out; omega)
  clear hgl1
  rw [hp9] at r2 HM h2
  have HU := Lib.hid h2
  clear a2 z2 b2 h2
  go_wp2_with (first
    | (refine wpList_bld rfl 32 _ rfl [(0, .agg (ptC zid 4294967295).toArray), (1, .slice (some ⟨p9, 0, none⟩) mark.length c2)] _ (built_mkin _ _ _) (by simp [Act.eval, Act.put]) ?_)
    | (refine wpList_bsl rfl 33 1 _ rfl #[(0, .agg (inC zid 4294967295 (.slice (some ⟨p9, 0, none⟩) mark.length c2)).toArray)] _ (run_one_in zid 4294967295 _ _ _ rfl w2) (by simp [Act.eval, Act.put]) ?_))
  have h3 : Below w2.heap.size w2 (w2.alloc (.cells (inC zid 4294967295 (.slice (some ⟨p9, 0, none⟩) mark.length c2)).toArray 32)) := (Below.refl _ _).alloc (Nat.le_refl _) _
  have b3 : Blk (w2.alloc (.cells (inC zid 4294967295 (.slice (some ⟨p9, 0, none⟩) mark.length c2)).toArray 32)) w2.heap.size 32 (inC zid 4294967295 (.slice (some ⟨p9, 0, none⟩) mark.length c2)).toArray := Blk.new _ _ _
  obtain ⟨w3, hw3⟩ : ∃ w3, w2.alloc (.cells (inC zid 4294967295 (.slice (some ⟨p9, 0, none⟩) mark.length c2)).toArray 32) = w3 := ⟨_, rfl⟩
  have z3 : w3.heap.size = w2.heap.size + 1 := by rw [← hw3]; simp
  rw [hw3] at h3 b3 ⊢
  obtain ⟨p11, hp11⟩ : ∃ p11, w2.heap.size = p11 := ⟨_, rfl⟩
  replace HB := Lib.hid (HB.out.below h3 HB.out.lt)
  replace HBL := Lib.hid (HBL.out.trans (h3.mono HBL.out.size))
  replace HM := Lib.hid (HM.out.below h3 (fun b hb _ => hb))
  replace HU := Lib.hid ((h3.block p9 (blk_lt HU.out)).trans HU.out)
  rw [hp11] at b3 ⊢
  have HI := Lib.hid b3
  have HP11 := Lib.hid (show p9 + 1 = p11 ∧ w3.heap.size = p11 + 1 by have := HP9.out; omega)
  obtain ⟨w4, c4, r4, a4, z4, _, b4⟩ := conv_any w3 9 Try.underlying9 key
  replace HB := Lib.hid (HB.out.below a4 HB.out.lt)
  replace HBL := Lib.hid (HBL.out.trans (a4.mono HBL.out.size))
  replace HM := Lib.hid (HM.out.below a4 (fun b hb _ => hb))
  replace HU := Lib.hid ((a4.block p9 (blk_lt HU.out)).trans HU.out)
  replace HI := Lib.hid (HI.out.below a4 HI.out.lt)
  have hbk := b4
  obtain ⟨p14, hp14⟩ : ∃ p14, w3.heap.size = p14 := ⟨_, rfl⟩
  rw [hp14] at r4 hbk
  have HKB := Lib.hid hbk
  have HZ4 := Lib.hid (show w4.heap.size = p14 + 1 ∧ p14 = p11 + 1 by have := HP11.out; omega)
  clear h3 b3 hw3 z3 a4 z4 b4 hbk r2
  rw [r4]
  simp only [Result.andThen]
  rw [Oper.upon_value]
  go_wp2_with (refine wpList_bsl rfl 22 1 _ rfl #[(0, .slice (some ⟨p14, 0, none⟩) key.length c4)] _ (run_one_bs _ _ _ w4) (by simp [Act.eval, Act.put]) ?_)
  have HSL := Sl.one_new w4 30 (.slice (some ⟨p14, 0, none⟩) key.length c4)
  have a5 : Below w4.heap.size w4 (w4.alloc (.cells #[.slice (some ⟨p14, 0, none⟩) key.length c4] 30)) := (Below.refl _ _).alloc (Nat.le_refl _) _
  refine (hsum_any _ _ 1 1 _ [key] _ _ HSL (Each1.one (HKB.out.below a5 (fun b hb _ => hb))) (by omega) (fun p hp => by rw [List.mem_singleton] at hp; rw [hp]; have := HK.out; omega)).mono ?_
  rintro e6 w6 ⟨rfl, a6⟩
  have a46 := a5.trans (a6.mono a5.size)
  rw [show [key].flatten = key by simp]
  obtain ⟨X, hX⟩ : ∃ X, sha key = X := ⟨_, rfl⟩
  have HX := Lib.hid hX
  have HX32 := Lib.hid (show X.length = 32 by rw [← hX]; exact sha_len _)
  rw [hX]
  unfold idV
  replace HB := Lib.hid (HB.out.below a46 HB.out.lt)
  replace HBL := Lib.hid (HBL.out.trans (a46.mono HBL.out.size))
  replace HM := Lib.hid (HM.out.below a46 (fun b hb _ => hb))
  replace HU := Lib.hid ((a46.block p9 (blk_lt HU.out)).trans HU.out)
  replace HI := Lib.hid (HI.out.below a46 HI.out.lt)
  clear HSL a5 a6 a46 hX r4 HKB
  go_wp2_with (first
    | (refine wpList_bld rfl 36 _ rfl [(0, .int .i64 amt), (1, .agg (bts X).toArray)] _ (built_outk amt X HX32.out) (by simp [Act.eval, Act.put]) ?_)
    | (refine wpList_bsl rfl 37 1 _ rfl #[(0, .agg (outC amt X).toArray)] _ (run_one_out amt X HX32.out w6) (by simp [Act.eval, Act.put]) ?_)
    | (refine wpList_bld rfl 39 _ rfl [(0, .slice (some ⟨p11, 0, none⟩) 1 1), (1, .slice (some ⟨w6.heap.size, 0, none⟩) 1 1)] _ (built_txk _ _ _ _ _ _) (by simp [Act.eval, Act.put]) ?_)
    | (with_reducible refine wpList_stb rfl 39 (.tmp 6) (.tmp 19) rfl g 0 _ rfl rfl 39 [.slice none 0 0, .slice none 0 0] (HB.out.alloc _) ?h1 ?h2 ?h3 ?_))
  case h1 => simp
  case h2 => rw [infoTx]; rfl
  case h3 => exact ⟨rfl, rfl⟩
  intro w8 b8 o8
  rw [over_all _ _ (by simp)] at b8
  have a7 : Below w6.heap.size w6 (w6.alloc (.cells (outC amt X).toArray 36)) := (Below.refl _ _).alloc (Nat.le_refl _) _
  have bo : Blk (w6.alloc (.cells (outC amt X).toArray 36)) w6.heap.size 36 (outC amt X).toArray := Blk.new _ _ _
  have hgl := HB.out.lt
  have hgq := HG.out
  have HO := Lib.hid (bo.only o8 (by omega))
  have HI8 := Lib.hid ((HI.out.below a7 HI.out.lt).only o8 (by have := HP11.out; have := HGP.out; omega))
  have HM8 := Lib.hid ((HM.out.below a7 (fun b hb _ => hb)).only o8 (fun b _ hb e => by have := HGP.out; have h9 : b = p9 := hb; omega))
  have HU8 := Lib.hid ((o8.blk ((a7.block p9 (blk_lt HU.out)).trans HU.out) (by have := HGP.out; omega)))
  have HF := Lib.hid (HBL.out.trans ((a7.mono HBL.out.size).trans (o8.below (Nat.le_trans HBL.out.size a7.size) (fun b hb e => by omega))))
  have HZ6 := Lib.hid HBL.out.size
  clear a7 bo hgl o8
  go_wp2
  refine bodyPost_ret (results_cell_row rfl _ _ g 39 _ (0, 0) _ rfl b8 Try.underlying39 rfl (by rw [infoTx]; rfl)) rfl ?_
  refine ⟨p11, w6.heap.size, rfl, HF.out, p9, c2, C2, fr2, by have := HP11.out; have := HGP.out; omega, HZ6.out, by have := HGP.out; omega, HI8.out, by rw [HX.out]; exact HO.out, HM8.out, HU8.out⟩
set_option maxRecDepth 20000 in
theorem mkr_any (w : World) (amt : Int) (key mark : List UInt8) (ha : (Lit.int .i64 amt).wf = true) (hk : key.length ≤ 10000) :
    Calls Try.prog 19 #[.int .i64 amt, .string (bstr key), .string (bstr mark)] w fun e w' => ∃ p q, e = .returned (.agg #[.slice (some ⟨p, 0, none⟩) 1 1, .slice (some ⟨q, 0, none⟩) 1 1]) ∧ Below w.heap.size w w' ∧
      insSh.rel w' (fun b => w.heap.size ≤ b) [.slice (some ⟨p, 0, none⟩) 1 1] [mkIn mark] ∧ outsSh.rel w' (fun b => w.heap.size ≤ b) [.slice (some ⟨q, 0, none⟩) 1 1] [(amt, sha key, ())] := by
  refine (mkr_any2 w amt key mark ha hk).mono ?_
  rintro e w' ⟨p, q, rfl, a, k, ck, C, fr, h1, h2, h3, h4, h5, h6, h7⟩
  exact ⟨p, q, rfl, a, one_slk h4.rowAll h1 (in_rel rfl (by decide) (h6.weak (fun b _ hb => by have h9 : b = k := hb; omega))), one_slk h5.rowAll h2 (out_rel (sha_len _) ha)⟩
end Go.Proofs.Ytlbpeihdedhjiaa
