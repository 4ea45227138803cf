/- head.put4, head.Bytes. -/
import Derived.Test.YtpcombaecbjmfaaSt
import Derived.Test.YtpcombaecbjmfaaTw
import Derived.Test.YtpcombaecbjmfaaHc
import Derived.Deep.RegionLaw
import Derived.Deep.RegionHeld3
namespace Go.Proofs.Ytpcombaecbjmfaa
open Go.RowKit
section
variable {P : Program} {ops : Array Oper} {o : Oper} {a : Act} {w : World} {Q : Exit → Act → World → Prop} {K : Act → World → Prop}
theorem step_app {E : Prop} (hgd : o.guard = none) (s x : Operand) (t : TypeId)
    (ho : o.op = .call { callee := .builtin .append, args := #[s, x], argTypes := #[t, t] })
    (base : Nat) (e : TypeId) (z : Value) (size bytes : Nat) (ht : P.underlying t = some (.slice e))
    (hinfo : (P.info? e).map (fun i => (i.zero, i.size, i.bytes)) = some (some z, size, bytes)) (hzs : z.cells.size = size) (hsz : 0 < size)
    (A0 : Option Addr) (n c0 : Nat) (hs : a.eval s = .slice A0 n c0) (A : Option Addr) (m c : Nat) (hx : a.eval x = .slice A m c)
    (xs : List Value) (hown : w.ownsRow base e size (.slice A0 n c0) n xs)
    (ok : Nat → Prop) (news : List Value) (hr : Sl w ok size A m news) (h1 : ∀ u ∈ news, u.oneCell' = true)
    (h63 : n + m ≤ maxLen) (hbytes : (n + m) * bytes ≤ 140737488355328) (hbase : base ≤ w.heap.size)
    (h : ∀ A' c' w', w'.ownsRow base e size (.slice A' (n + m) c') (n + m) (xs ++ news) → Only (fun b => (Value.slice A0 n c0).ownBlock = some b) w w' →
      ((Value.slice A' (n + m) c').ownBlock = (Value.slice A0 n c0).ownBlock ∨ (Value.slice A' (n + m) c').ownBlock = some w.heap.size) → K (a.put o.dst (.slice A' (n + m) c')) w') :
    if Region.wanted o (yielded ops a.tmps) = true then Oper.wp P o a w K Q else E := by
  have hw : Region.wanted o (yielded ops a.tmps) = true := by simp [Region.wanted, hgd]
  rw [if_pos hw]
  exact wp_app w s x t ho base e z size bytes ht hinfo hzs hsz A0 n c0 hs A m c hx xs hown ok news hr h1 h63 hbytes hbase h
end
theorem les4_cells (n : Nat) : bts (les 4 n) = [.int .u8 ((n : Int) % 256), .int .u8 ((n : Int) / 256 % 256), .int .u8 ((n : Int) / 65536 % 256), .int .u8 ((n : Int) / 16777216 % 256)] := by
  have e : les 4 n = [leb n 0, leb n 1, leb n 2, leb n 3] := rfl
  rw [e]
  simp only [bts, List.map_cons, List.map_nil, ← leb_cell]
  simp
/-- bytes of one's own: nobody else's from 'base' on -/
def Own (w : World) (base : Nat) (A : Option Addr) (c : Nat) (l : List UInt8) : Prop := w.ownsRow base 5 1 (.slice A l.length c) l.length (bts l)
theorem Own.only {w w' : World} {base : Nat} {A : Option Addr} {c : Nat} {l : List UInt8} {S : Nat → Prop} (h : Own w base A c l) (hw : Only S w w') (hn : ∀ k, (Value.slice A l.length c).ownBlock = some k → ¬ S k) : Own w' base A c l := own_only h hw hn
set_option maxRecDepth 20000 in
set_option maxHeartbeats 4000000 in
theorem put4_any (w : World) (base : Nat) (A : Option Addr) (c n : Nat) (l : List UInt8) (h : Own w base A c l) (hbase : base ≤ w.heap.size) (hl : l.length ≤ 1000000) :
    Calls Try.prog 66 #[.slice A l.length c, .int .u32 ((n : Nat) : Int)] w fun e w' => ∃ A' c', e = .returned (.slice A' (l.length + 4) c') ∧ Own w' base A' c' (l ++ les 4 n) ∧ Below base w w' := by
  have H := Lib.hid h
  clear h
  go_enter Try.func66, Try.ntmps66
  go_wp2_with (at_builtin; refine wpList_app _ rfl (.tmp 5) (.tmp 17) 28 rfl base 5 _ 1 1 Try.underlying28 infoU8 rfl (by decide) A l.length c rfl _ 4 4 rfl (bts l) (H.out.alloc _) (fun b => b = w.heap.size) _ (Sl.lit_new w 5 [.int .u8 ((n : Int) % 256), .int .u8 ((n : Int) / 256 % 256), .int .u8 ((n : Int) / 65536 % 256), .int .u8 ((n : Int) / 16777216 % 256)]) ?hone (by unfold maxLen; omega) (by omega) ?hbase ?next)
  case hone => rw [← les4_cells]; exact bts_one _
  case hbase => simp; omega
  case next =>
    intro A' c' w1 hown1 ho1 hat1
    rw [← les4_cells, ← bts_append] at hown1
    have HOW := Lib.hid hown1
    have HO1 := Lib.hid ho1
    clear hown1 ho1 hat1
    go_wp2
    go_ret
    refine ⟨A', c', rfl, ?_, ?_⟩
    · have := HOW.out
      unfold Own
      rwa [List.length_append, les_length]
    · exact (((Below.refl base w).alloc hbase _)).trans (HO1.out.below (by simp; omega) (fun b hb e => by have := own_ge H.out e; omega))
/-- the cells of a header -/
def hdrC (v : Nat) (prev root : List UInt8) (t b n : Nat) : List Value := .int .u32 ((v : Nat) : Int) :: (bts prev ++ (bts root ++ [.int .u32 ((t : Nat) : Int), .int .u32 ((b : Nat) : Int), .int .u32 ((n : Nat) : Int)]))
theorem hdrC_len (v : Nat) (prev root : List UInt8) (t b n : Nat) (h1 : prev.length = 32) (h2 : root.length = 32) : (hdrC v prev root t b n).length = 68 := by simp [hdrC, h1, h2]
theorem hdrC_one (v : Nat) (prev root : List UInt8) (t b n : Nat) : ∀ u ∈ hdrC v prev root t b n, u.oneCell' = true := by
  intro u hu
  simp only [hdrC, List.mem_cons, List.mem_append, List.not_mem_nil, or_false] at hu
  rcases hu with rfl | hu | hu | rfl | rfl | rfl
  · rfl
  · exact bts_one _ u hu
  · exact bts_one _ u hu
  · rfl
  · rfl
  · rfl
theorem hdr_cells {w : World} {ok : Nat → Prop} {cs : List Value} {h : HdrT} (hh : hdrSh.rel w ok cs h) :
    ∃ (v t b n : Nat) (prev root : List UInt8), h = (((v : Nat) : Int), prev, root, ((t : Nat) : Int), ((b : Nat) : Int), ((n : Nat) : Int), ()) ∧ cs = hdrC v prev root t b n ∧ prev.length = 32 ∧ root.length = 32 ∧ v < 4294967296 ∧ t < 4294967296 ∧ b < 4294967296 ∧ n < 4294967296 := by
  obtain ⟨v, prev, root, t, b, n, _⟩ := h
  obtain ⟨c1, d1, rfl, ⟨h1, w1⟩, ⟨c2, d2, rfl, ⟨h2, l2⟩, ⟨c3, d3, rfl, ⟨h3, l3⟩, ⟨c4, d4, rfl, ⟨h4, w4⟩, ⟨c5, d5, rfl, ⟨h5, w5⟩, ⟨c6, d6, rfl, ⟨h6, w6⟩, h7⟩⟩⟩⟩⟩⟩ := hh
  have b1 := bounds_u32' w1
  have b4 := bounds_u32' w4
  have b5 := bounds_u32' w5
  have b6 := bounds_u32' w6
  simp only at b1 b4 b5 b6 h1 h2 h3 h4 h5 h6 l2 l3
  obtain ⟨v, rfl⟩ := Int.eq_ofNat_of_zero_le b1.1
  obtain ⟨t, rfl⟩ := Int.eq_ofNat_of_zero_le b4.1
  obtain ⟨b, rfl⟩ := Int.eq_ofNat_of_zero_le b5.1
  obtain ⟨n, rfl⟩ := Int.eq_ofNat_of_zero_le b6.1
  have h7' : d6 = [] := h7
  subst h1 h2 h3 h4 h5 h6 h7'
  exact ⟨v, t, b, n, prev, root, rfl, by simp [hdrC], l2, l3, by omega, by omega, by omega, by omega⟩
/-- a header's bytes -/
def hdrB (v : Nat) (prev root : List UInt8) (t b n : Nat) : List UInt8 := les 4 v ++ prev ++ root ++ les 4 t ++ les 4 b ++ les 4 n
theorem hdrB_len (v : Nat) (prev root : List UInt8) (t b n : Nat) (h1 : prev.length = 32) (h2 : root.length = 32) : (hdrB v prev root t b n).length = 80 := by simp [hdrB, les_length, h1, h2]
theorem hdr_cell0 {w : World} {q v t b n : Nat} {prev root : List UInt8} {T : TypeId} (h : Blk w q T (hdrC v prev root t b n).toArray) : w.cell? ⟨q, 0, none⟩ = some (.int .u32 ((v : Nat) : Int)) := by
  rw [h.cell 0, List.getElem?_toArray, hdrC]; rfl
theorem hdr_cellT {w : World} {q v t b n : Nat} {prev root : List UInt8} {T : TypeId} (h : Blk w q T (hdrC v prev root t b n).toArray) (h1 : prev.length = 32) (h2 : root.length = 32) :
    w.cell? ⟨q, 65, none⟩ = some (.int .u32 ((t : Nat) : Int)) ∧ w.cell? ⟨q, 66, none⟩ = some (.int .u32 ((b : Nat) : Int)) ∧ w.cell? ⟨q, 67, none⟩ = some (.int .u32 ((n : Nat) : Int)) := by
  refine ⟨?_, ?_, ?_⟩
  · rw [h.cell 65, List.getElem?_toArray, hdrC, List.getElem?_cons_succ, List.getElem?_append_right (by simp [h1]), List.getElem?_append_right (by simp [h1, h2])]; simp [h1, h2]
  · rw [h.cell 66, List.getElem?_toArray, hdrC, List.getElem?_cons_succ, List.getElem?_append_right (by simp [h1]), List.getElem?_append_right (by simp [h1, h2])]; simp [h1, h2]
  · rw [h.cell 67, List.getElem?_toArray, hdrC, List.getElem?_cons_succ, List.getElem?_append_right (by simp [h1]), List.getElem?_append_right (by simp [h1, h2])]; simp [h1, h2]
theorem hdr_prev {w : World} {q v t b n : Nat} {prev root : List UInt8} {T : TypeId} (h : Blk w q T (hdrC v prev root t b n).toArray) (h1 : prev.length = 32) : Sl w (fun b => b = q) 1 (some ⟨q, 1, none⟩) 32 (bts prev) :=
  ⟨by simp [h1], fun _ => ⟨q, 1, rfl, rfl, fun j u hj => by
    have hjl := (List.getElem?_eq_some_iff.1 hj).1
    rw [h.cell (1 + j), List.getElem?_toArray, hdrC, Nat.add_comm 1 j, List.getElem?_cons_succ, List.getElem?_append_left hjl]; exact hj⟩⟩
theorem hdr_root {w : World} {q v t b n : Nat} {prev root : List UInt8} {T : TypeId} (h : Blk w q T (hdrC v prev root t b n).toArray) (h1 : prev.length = 32) (h2 : root.length = 32) : Sl w (fun b => b = q) 1 (some ⟨q, 33, none⟩) 32 (bts root) :=
  ⟨by simp [h2], fun _ => ⟨q, 33, rfl, rfl, fun j u hj => by
    have hjl := (List.getElem?_eq_some_iff.1 hj).1
    rw [h.cell (33 + j), List.getElem?_toArray, hdrC, show 33 + j = (32 + j) + 1 by omega, List.getElem?_cons_succ, List.getElem?_append_right (by simp [h1]), show 32 + j - (bts prev).length = j by simp [h1], List.getElem?_append_left hjl]; exact hj⟩⟩
set_option maxRecDepth 20000 in
set_option maxHeartbeats 4000000 in
theorem head_bytes_any (w : World) (v t b n : Nat) (prev root : List UInt8) (h1 : prev.length = 32) (h2 : root.length = 32) :
    Calls Try.prog 45 #[.agg (hdrC v prev root t b n).toArray] w fun e w' => ∃ A c, e = .returned (.slice A 80 c) ∧ Below w.heap.size w w' ∧ w'.ownsRow w.heap.size 5 1 (.slice A 80 c) 80 (bts (hdrB v prev root t b n)) := by
  go_enter Try.func45, Try.ntmps45
  go_upto_region 1 with fail
  generalize hW : World.alloc w _ = W
  have hb1 : Blk W w.heap.size 43 (hdrC v prev root t b n).toArray := by rw [← hW]; exact Blk.new _ _ _
  have hbl : Below w.heap.size w W := by rw [← hW]; exact (Below.refl _ _).alloc (Nat.le_refl _) _
  have hsz : W.heap.size = w.heap.size + 1 := by rw [← hW]; simp
  clear hW
  obtain ⟨q, hq⟩ : ∃ q, w.heap.size = q := ⟨_, rfl⟩
  rw [hq] at hb1 hsz ⊢
  have HQ := Lib.hid hq
  have HB1 := Lib.hid hb1
  have HBL := Lib.hid hbl
  have HSZ := Lib.hid hsz
  have c0 := hdr_cell0 hb1.drew
  clear hq hb1 hbl hsz
  obtain ⟨iu, hiu, hzu, hsu, hbu⟩ := info_parts (infoU8 : (Try.prog.info? 5).map (fun i => (i.zero, i.size, i.bytes)) = some (some (.int .u8 0), 1, 1))
  obtain ⟨W1, hrun, hown, hgr⟩ := run_make_own (P := Try.prog) W.drew (q + 1) 28 5 iu (.int .u8 0) 1 Try.underlying28 hiu hzu hsu .i64 .i64 80 (by rw [hbu]; decide) (by decide) (by have := HSZ.out; show q + 1 ≤ W.heap.size; omega)
  have hrun' : (Instr.makeSlice 28 (.int .i64 0) (.int .i64 80)).run Try.prog W.drew = .ok (.slice (some ⟨W.drew.heap.size, 0, none⟩) 0 80) W1 := hrun
  have hO1 : Only (fun b => False) W W1 := ((Only.refl (fun _ => False) W).drew).trans ((Only.of_grown hgr).mono (fun b _ e => by cases e)) (fun _ _ h => h)
  have hb2 : Blk W1 q 43 (hdrC v prev root t b n).toArray := HB1.out.only hO1 (fun h => h)
  have c0' := hdr_cell0 hb2
  have HB2 := Lib.hid hb2
  have HBL2 := Lib.hid (HBL.out.trans (hO1.below HBL.out.size (fun _ _ h => h)))
  have OW1 := Lib.hid (show Own W1 (q + 1) (some ⟨W.drew.heap.size, 0, none⟩) 80 [] from hown)
  have HS1 := Lib.hid (show q + 1 ≤ W1.heap.size by have := hO1.size; have := HSZ.out; omega)
  clear hiu hzu hsu hbu hrun hown hgr hO1 hb2
  generalize W.drew.heap.size = m1 at OW1 hrun'
  go_region_with (first
    | (go_at_call 66; refine (put4_any _ (q + 1) (some ⟨m1, 0, none⟩) 80 v [] OW1.out HS1.out (by simp)).mono ?_; rintro e2 w2 ⟨A2, c2, rfl, a1, a2⟩; have OW2 := Lib.hid a1; have BL2 := Lib.hid a2; clear a1 a2; dsimp only))
  all_goals
    have HB3 := Lib.hid (HB2.out.below BL2.out (by omega))
    have HBL3 := Lib.hid (HBL2.out.trans (BL2.out.mono (by have := HQ.out; omega)))
    have HS2 := Lib.hid (show q + 1 ≤ w2.heap.size from Nat.le_trans HS1.out BL2.out.size)
    have OW2' := Lib.hid (show Own w2.drew (q + 1) A2 c2 (les 4 v) from Own.only (show Own w2 (q + 1) A2 c2 (les 4 v) from OW2.out) ((Only.refl (fun _ => False) w2).drew) (fun _ _ h => h))
    have HS2' := Lib.hid (show q + 1 ≤ w2.drew.heap.size from HS2.out)
    clear c0 c0' hrun' OW2
    go_wp2
    go_region_law (first
      | (refine step_app rfl (.tmp 8) (.tmp 10) 28 rfl (q + 1) 5 _ 1 1 Try.underlying28 infoU8 rfl (by decide) A2 4 c2 rfl (some ⟨q, 1, none⟩) 32 32 rfl (bts (les 4 v)) OW2'.out _ _ (hdr_prev HB3.out.drew h1) (bts_one _) (by unfold maxLen; omega) (by omega) HS2'.out ?_; intro A3 c3 w3 hown3 ho3 hat3; rw [← bts_append] at hown3; have OW3 := Lib.hid (show Own w3 (q + 1) A3 c3 (les 4 v ++ prev) from (by unfold Own; rw [List.length_append, les_length, h1]; exact hown3)); have HB4 := Lib.hid (HB3.out.drew.only ho3 (fun e => by have := own_ge OW2'.out e; omega)); have BL4 := Lib.hid (HBL3.out.drew.trans (ho3.below HBL3.out.size (fun b hb e => by have := own_ge OW2'.out e; have := HQ.out; omega))); have HS3 := Lib.hid (Nat.le_trans HS2'.out ho3.size); clear hown3 ho3 hat3)
      | (refine step_app rfl (.tmp 11) (.tmp 13) 28 rfl (q + 1) 5 _ 1 1 Try.underlying28 infoU8 rfl (by decide) A3 36 c3 rfl (some ⟨q, 33, none⟩) 32 32 rfl (bts (les 4 v ++ prev)) (by have := OW3.out; unfold Own at this; rwa [List.length_append, les_length, h1] at this) _ _ (hdr_root HB4.out h1 h2) (bts_one _) (by unfold maxLen; omega) (by omega) HS3.out ?_; intro A5 c5 w5 hown5 ho5 hat5; rw [← bts_append] at hown5; have OW5 := Lib.hid (show Own w5 (q + 1) A5 c5 (les 4 v ++ prev ++ root) from (by unfold Own; rw [List.length_append, List.length_append, les_length, h1, h2]; exact hown5)); have HB5 := Lib.hid (HB4.out.only ho5 (fun e => by have := own_ge (by have := OW3.out; unfold Own at this; rwa [List.length_append, les_length, h1] at this) e; omega)); have BL5 := Lib.hid (BL4.out.trans (ho5.below BL4.out.size (fun b hb e => by have := own_ge (by have := OW3.out; unfold Own at this; rwa [List.length_append, les_length, h1] at this) e; have := HQ.out; omega))); have HS5 := Lib.hid (Nat.le_trans HS3.out ho5.size); clear hown5 ho5 hat5))
  all_goals
    have hl68 : (les 4 v ++ prev ++ root).length = 68 := by simp [les_length, h1, h2]
    have hl72 : (les 4 v ++ prev ++ root ++ les 4 t).length = 72 := by simp [les_length, h1, h2]
    have hl76 : (les 4 v ++ prev ++ root ++ les 4 t ++ les 4 b).length = 76 := by simp [les_length, h1, h2]
    have OW5' := Lib.hid (show Own w5.drew (q + 1) A5 c5 (les 4 v ++ prev ++ root) from Own.only OW5.out ((Only.refl (fun _ => False) w5).drew) (fun _ _ h => h))
    have HS5' := Lib.hid (show q + 1 ≤ w5.drew.heap.size from HS5.out)
    have HB5' := Lib.hid HB5.out.drew
    have BL5' := Lib.hid (show Below w.heap.size w w5.drew from BL5.out.drew)
    have P4 := Lib.hid (fun (m : Nat) (l : List UInt8) (hm : l.length = m) (hm2 : m ≤ 1000) w' A c n (ho : Own w' (q + 1) A c l) (hs : q + 1 ≤ w'.heap.size) => show Calls Try.prog 66 #[.slice A m c, .int .u32 ((n : Nat) : Int)] w' (fun e w'' => ∃ A' c', e = .returned (.slice A' (m + 4) c') ∧ Own w'' (q + 1) A' c' (l ++ les 4 n) ∧ Below (q + 1) w' w'') by have := put4_any w' (q + 1) A c n l ho hs (by omega); rwa [hm] at this)
    have hS := hdr_cellT HB5'.out h1 h2
    have H68 := Lib.hid hl68
    have H72 := Lib.hid hl72
    have H76 := Lib.hid hl76
    clear hl68 hl72 hl76
    go_wp2
    go_region_held3 (fun w' => w'.cell? ⟨q, 65, none⟩ = some (.int .u32 ((t : Nat) : Int)) ∧ w'.cell? ⟨q, 66, none⟩ = some (.int .u32 ((b : Nat) : Int)) ∧ w'.cell? ⟨q, 67, none⟩ = some (.int .u32 ((n : Nat) : Int)))
      (first | exact hdr_cellT HB8.out h1 h2 | exact hdr_cellT HB7.out h1 h2 | exact hdr_cellT HB6.out h1 h2 | exact hS) (first
      | (go_at_call 66; refine (P4.out 76 _ H76.out (by omega) _ A7 c7 n OW7.out HS7.out).mono ?_; rintro e8 w8 ⟨A8, c8, rfl, a1, a2⟩; have OW8 := Lib.hid a1; have HS8 := Lib.hid (Nat.le_trans HS7.out a2.size); have HB8 := Lib.hid (HB7.out.below a2 (by omega)); have BL8 := Lib.hid (BL7.out.trans (a2.mono (by have := HQ.out; omega))); clear a1 a2; dsimp only)
      | (go_at_call 66; refine (P4.out 72 _ H72.out (by omega) _ A6 c6 b OW6.out HS6.out).mono ?_; rintro e7 w7 ⟨A7, c7, rfl, a1, a2⟩; have OW7 := Lib.hid a1; have HS7 := Lib.hid (Nat.le_trans HS6.out a2.size); have HB7 := Lib.hid (HB6.out.below a2 (by omega)); have BL7 := Lib.hid (BL6.out.trans (a2.mono (by have := HQ.out; omega))); clear a1 a2; dsimp only)
      | (go_at_call 66; refine (P4.out 68 _ H68.out (by omega) _ A5 c5 t OW5'.out HS5'.out).mono ?_; rintro e6 w6 ⟨A6, c6, rfl, a1, a2⟩; have OW6 := Lib.hid a1; have HS6 := Lib.hid (Nat.le_trans HS5'.out a2.size); have HB6 := Lib.hid (HB5'.out.below a2 (by omega)); have BL6 := Lib.hid (BL5'.out.trans (a2.mono (by have := HQ.out; omega))); clear a1 a2; dsimp only))
    go_wp2
    go_ret
    refine ⟨A8, c8, rfl, BL8.out, ?_⟩
    have := own_low OW8.out (show w.heap.size ≤ q + 1 by have := HQ.out; omega)
    rw [List.length_append, H76.out, les_length] at this
    exact this
end Go.Proofs.Ytpcombaecbjmfaa
