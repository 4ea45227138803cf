/- tx.Bytes, tx.ID. -/
import Derived.Test.YtlbpeihdedhjiaaTw
import Derived.Test.YtlbpeihdedhjiaaHd
namespace Go.Proofs.Ytlbpeihdedhjiaa
open Go.RowKit
theorem IsWr.new2 (w : World) : IsWr (w.alloc (.cells #[.slice none 0 0] 120)) w.heap.size w.heap.size none [] :=
  ⟨none, 0, Blk.new _ _ _, Nat.le_refl _, rfl, World.ownsRow_nil _ _ _ _⟩
theorem txB_len {w : World} {ok : Nat → Prop} {A A' : Option Addr} {n n' c c' : Nat} {ins : List InT} {outs : List OutT} (hi : insSh.rel w ok [.slice A n c] ins) (ho : outsSh.rel w ok [.slice A' n' c'] outs) (hf : TxFit (ins, outs, ())) : (txB (ins, outs, ())).length ≤ 10200000 := by
  have h1 : ∀ (l : List InT), (∀ i ∈ l, (inB i).length ≤ 10045) → (l.flatMap inB).length ≤ 10045 * l.length := by
    intro l
    induction l with
    | nil => intro _; simp
    | cons x l ih =>
      intro h
      rw [List.flatMap_cons, List.length_append, List.length_cons]
      have := h x (by simp)
      have := ih (fun i hi => h i (by simp [hi]))
      omega
  have h2 : ∀ (l : List OutT), (∀ i ∈ l, (outB i).length = 40) → (l.flatMap outB).length ≤ 40 * l.length := by
    intro l
    induction l with
    | nil => intro _; simp
    | cons x l ih =>
      intro h
      rw [List.flatMap_cons, List.length_append, List.length_cons]
      have := h x (by simp)
      have := ih (fun i hi => h i (by simp [hi]))
      omega
  have e1 := h1 ins (fun i him => by
    obtain ⟨j, hj, rfl⟩ := List.getElem_of_mem him
    have hk := hf.2.2 _ him
    obtain ⟨b, o, id, ix, key, v, _, _, e, _, _, hid, _⟩ := ins_at hi hj
    exact inB_len (by rw [e]; exact hid) hk)
  have e2 := h2 outs (fun i him => by
    obtain ⟨j, hj, rfl⟩ := List.getElem_of_mem him
    obtain ⟨b, o, amt, lock, _, _, e, _, hid, _⟩ := outs_at ho hj
    exact outB_len (by rw [e]; exact hid))
  have := hf.1
  have := hf.2.1
  have := countB_len ins.length
  have := countB_len outs.length
  simp only [txB, List.length_append] at *
  omega
set_option maxRecDepth 20000 in
set_option maxHeartbeats 4000000 in
theorem tx_bytes_any (w : World) (A A' : Option Addr) (n n' c c' : Nat) (ins : List InT) (outs : List OutT) (ok : Nat → Prop)
    (hi : insSh.rel w ok [.slice A n c] ins) (ho : outsSh.rel w ok [.slice A' n' c'] outs) (hn : ins.length = n) (hn' : outs.length = n') (hok : ∀ b, ok b → b < w.heap.size) (hf : TxFit (ins, outs, ())) :
    Calls Try.prog 32 #[.agg #[.slice A n c, .slice A' n' c']] w fun e w' => ∃ A n c, e = .returned (.slice A n c) ∧ n = (txB (ins, outs, ())).length ∧ Below w.heap.size w w' ∧ w'.ownsRow w.heap.size 5 1 (.slice A n c) n (bts (txB (ins, outs, ()))) := by
  have HLEN := Lib.hid (txB_len hi ho hf)
  have HI := Lib.hid hi
  have HO := Lib.hid ho
  have HN := Lib.hid hn
  have HN' := Lib.hid hn'
  have HOK := Lib.hid hok
  have HF := Lib.hid hf
  clear hi ho hn hn' hok hf
  go_enter Try.func32, Try.ntmps32
  go_upto_region 2 with fail
  generalize hW : World.alloc (World.alloc w _) _ = W
  have hsz : W.heap.size = w.heap.size + 2 := by rw [← hW]; simp
  have hwr : IsWr W (w.heap.size + 1) (w.heap.size + 1) none [] := by
    have := IsWr.new2 (w.alloc (.cells #[.slice A n c, .slice A' n' c'] 39))
    rw [hW, show (w.alloc (.cells #[.slice A n c, .slice A' n' c'] 39)).heap.size = w.heap.size + 1 by simp] at this
    exact this
  have hb1 : Blk W w.heap.size 39 #[.slice A n c, .slice A' n' c'] := by rw [← hW]; exact (Blk.new _ _ _).alloc _
  have hbl : Below w.heap.size w W := by rw [← hW]; exact ((Below.refl _ _).alloc (Nat.le_refl _) _).alloc (by simp) _
  have hoW : Only (fun _ => False) w W := by rw [← hW]; exact ((Only.refl _ w).alloc _).alloc _
  have hi' := insSh.only HI.out hoW (fun _ _ _ h => h)
  have ho' := outsSh.only HO.out hoW (fun _ _ _ h => h)
  have c0 := hb1.cell 0
  have c1 := hb1.cell 1
  simp only [List.getElem?_toArray, List.getElem?_cons_zero, List.getElem?_cons_succ] at c0 c1
  have HWR := Lib.hid hwr
  have HBL := Lib.hid hbl
  have HI' := Lib.hid hi'
  have HO' := Lib.hid ho'
  have HSZ := Lib.hid hsz
  clear hW hwr hbl hi' ho' hoW hb1 hsz HI HO
  go_wp2_with fail
  refine (tx_write_any (w.heap.size + 1) (w.heap.size + 1) none [] W A A' n n' c c' ins outs ok HWR.out HI'.out HO'.out HN.out HN'.out (fun b hb => ⟨by have := HOK.out b hb; have := HSZ.out; omega, fun e => e.elim (fun e => by have := HOK.out b hb; omega) (fun e => by cases e)⟩) HF.out (by simp)).mono ?_
  rintro e1 w1 ⟨rfl, r1, a1, a2, a3⟩
  have hb2 := HBL.out.trans (a3.below (B := w.heap.size) (by have := HSZ.out; omega) (fun b hb e => e.elim (fun e => by omega) (fun e => by cases e)))
  have HB2 := Lib.hid hb2
  have BY := Lib.hid (wbytes_any _ _ _ _ w1 a1 (by have := HLEN.out; simp; omega))
  clear a1 a2 a3 c0 c1 hb2
  go_wp2_with fail
  refine BY.out.mono ?_
  rintro e2 w2 ⟨A2, n2, c2, rfl, hn2, b1, b2⟩
  have N2 := Lib.hid hn2
  have B1 := Lib.hid b1
  have B2 := Lib.hid b2
  clear hn2 b1 b2
  go_wp2
  go_ret
  refine ⟨A2, n2, c2, rfl, by rw [N2.out]; simp, HB2.out.trans (B1.out.mono HB2.out.size), ?_⟩
  have := own_low B2.out HB2.out.size
  simpa using this
set_option maxRecDepth 20000 in
set_option maxHeartbeats 4000000 in
theorem tx_id_any (w : World) (A A' : Option Addr) (n n' c c' : Nat) (ins : List InT) (outs : List OutT) (ok : Nat → Prop)
    (hi : insSh.rel w ok [.slice A n c] ins) (ho : outsSh.rel w ok [.slice A' n' c'] outs) (hn : ins.length = n) (hn' : outs.length = n') (hok : ∀ b, ok b → b < w.heap.size) (hf : TxFit (ins, outs, ())) :
    Calls Try.prog 15 #[.agg #[.slice A n c, .slice A' n' c']] w fun e w' => e = .returned (idV (sha2 (txB (ins, outs, ())))) ∧ Below w.heap.size w w' := by
  have HLEN := Lib.hid (txB_len hi ho hf)
  have BY := Lib.hid (fun W (hoW : Only (fun _ => False) w W) => tx_bytes_any W A A' n n' c c' ins outs ok (insSh.only hi hoW (fun _ _ _ h => h)) (outsSh.only ho hoW (fun _ _ _ h => h)) hn hn' (fun b h => Nat.lt_of_lt_of_le (hok b h) hoW.size) hf)
  clear hi ho hn hn' hok hf
  go_enter Try.func15, Try.ntmps15
  go_upto_region 1 with fail
  generalize hW : World.alloc (World.alloc w _) _ = W
  have hb1 : Blk W w.heap.size 39 #[.slice A n c, .slice A' n' c'] := by rw [← hW]; exact (Blk.new _ _ _).alloc _
  have hb2 : Blk W (w.heap.size + 1) 25 zeros32.toArray := by
    have := Blk.new (w.alloc (.cells #[.slice A n c, .slice A' n' c'] 39)) 25 zeros32.toArray
    rw [show (w.alloc (.cells #[.slice A n c, .slice A' n' c'] 39)).heap.size = w.heap.size + 1 by simp] at this
    rw [← hW]; exact this
  have hbl : Below w.heap.size w W := by rw [← hW]; exact ((Below.refl _ _).alloc (Nat.le_refl _) _).alloc (by simp) _
  have hoW : Only (fun _ => False) w W := by rw [← hW]; exact ((Only.refl _ w).alloc _).alloc _
  have BY1 := Lib.hid (BY.out W hoW)
  have c0 := hb1.cell 0
  have c1 := hb1.cell 1
  simp only [List.getElem?_toArray, List.getElem?_cons_zero, List.getElem?_cons_succ] at c0 c1
  have HB2 := Lib.hid hb2
  have HBL := Lib.hid hbl
  clear hW hb1 hb2 hbl hoW BY
  go_wp2_with fail
  refine BY1.out.mono ?_
  rintro e1 w1 ⟨A1, n1, c1', rfl, hn1, b1, b2⟩
  have HB3 := Lib.hid (HB2.out.below b1 HB2.out.lt)
  have BL3 := Lib.hid (HBL.out.trans (b1.mono HBL.out.size))
  have ISB := Lib.hid (IsB.of_own b2)
  clear hn1 b1 b2 c0 c1 BY1 HB2
  have TW := Lib.hid (htwice_any (w1.alloc (.cells #[.slice A1 n1 c1'] 30)) _ 1 1 _ [txB (ins, outs, ())] _ _ (Sl.one_new w1 30 (.slice A1 n1 c1')) (Each1.one (ISB.out.only ((Only.refl (fun _ => False) w1).alloc _) (fun _ _ _ h => h))) (by omega) (by have := HLEN.out; simp; omega))
  go_wp2_with fail
  refine TW.out.mono ?_
  rintro e3 w3 ⟨rfl, a3⟩
  have hz3 : Blk w3 (w.heap.size + 1) 25 zeros32.toArray := (HB3.out.alloc _).below a3 (HB3.out.alloc _).lt
  have BL4 := Lib.hid ((BL3.out.alloc BL3.out.size (.cells #[.slice A1 n1 c1'] 30)).trans (a3.mono (BL3.out.alloc BL3.out.size _).size))
  clear a3 TW HB3
  go_wp2_with (with_reducible refine wpList_stb rfl 25 (.tmp 2) (.tmp 6) rfl (w.heap.size + 1) 0 _ rfl rfl 25 zeros32 hz3 ?h1 ?h2 ?h3 ?_)
  case h1 => simp [zeros32, sha2, sha_len]
  case h2 => rw [infoID]; simp [sha2, sha_len]
  case h3 => exact bts_one _
  intro w4 b4 o4
  rw [over_all _ _ (by simp [zeros32, sha2, sha_len])] at b4
  have HB := Lib.hid b4
  have O4 := Lib.hid o4
  have hbb : Blk w4 (w.heap.size + 1) 25 (bts (sha2 (txB (ins, outs, ())))).toArray := by have := HB.out; simpa using this
  have HBB := Lib.hid hbb
  clear b4 o4 hz3 hbb
  go_wp2
  refine bodyPost_ret (results_cell_row rfl _ _ (w.heap.size + 1) 25 (bts (sha2 (txB (ins, outs, ())))).toArray (0, 0) _ rfl HBB.out Try.underlying25 rfl (by rw [infoID]; simp [sha2, sha_len])) rfl ?_
  exact ⟨rfl, BL4.out.trans (O4.out.below BL4.out.size (fun b hb e => by omega))⟩
end Go.Proofs.Ytlbpeihdedhjiaa
