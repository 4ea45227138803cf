/- hash.Twice. -/
import Derived.Test.YtlbpeihdedhjiaaHc
namespace Go.Proofs.Ytlbpeihdedhjiaa
open Go.RowKit
/-- 32 bytes of a block as a slice -/
theorem IsB.of_id {w : World} {q : Nat} {l : List UInt8} (h : Blk w q 25 (bts l).toArray) (hl : l.length = 32) : IsB w (fun b => b = q) (.slice (some ⟨q, 0, none⟩) 32 32) l :=
  ⟨some ⟨q, 0, none⟩, 32, 32, rfl, hl.symm, Nat.le_refl _, by simp [hl], fun _ => ⟨q, 0, rfl, rfl, fun j u hj => by rw [Nat.zero_add, h.cell j, List.getElem?_toArray]; exact hj⟩⟩
set_option maxRecDepth 20000 in
set_option maxHeartbeats 4000000 in
theorem htwice_any (w : World) (L : Option Addr) (m k : Nat) (xs : List Value) (ps : List (List UInt8)) (ok ok' : Nat → Prop)
    (hL : Sl w ok 1 L m xs) (hps : Each1 (fun p u => IsB w ok' u p) ps xs) (hm : m ≤ 1000) (hp : ∀ p ∈ ps, p.length ≤ 1000000000) :
    Calls Try.prog 31 #[.slice L m k] w fun e w' => e = .returned (idV (sha2 ps.flatten)) ∧ Below w.heap.size w w' := by
  have S1 := Lib.hid (fun w' (hw : Below w.heap.size w w') => hsum_any w' L m k xs ps _ _ (hL.below hw (fun _ h _ => h) (by omega)) (hps.imp fun p u h => h.below hw (fun _ h _ => h)) hm hp)
  clear hL hps hm hp
  go_enter Try.func31, Try.ntmps31
  go_wp2_with fail
  generalize hW : World.alloc w _ = W
  have hb2 : Blk W w.heap.size 25 zeros32.toArray := by rw [← hW]; exact Blk.new _ _ _
  have hbl : Below w.heap.size w W := by rw [← hW]; exact (Below.refl _ _).alloc (Nat.le_refl _) _
  clear hW
  have HB2 := Lib.hid hb2
  have HBL := Lib.hid hbl
  clear hb2 hbl
  obtain ⟨q, hq⟩ : ∃ q, w.heap.size = q := ⟨_, rfl⟩
  rw [hq] at HB2 ⊢
  have HQ := Lib.hid hq
  clear hq
  refine (S1.out W HBL.out).mono ?_
  rintro e1 w1 ⟨rfl, a1⟩
  have A1 := Lib.hid a1
  clear a1
  go_wp2_with (first
    | (with_reducible refine wpList_stb rfl 25 (.tmp 3) (.tmp 5) rfl w1.heap.size 0 _ rfl rfl 25 zeros32 (Blk.new w1 _ _) ?h1 ?h2 ?h3 ?_))
  case h1 => simp [zeros32, sha_len]
  case h2 => rw [infoID]; simp [sha_len]
  case h3 => exact bts_one _
  intro w2 b2 o2
  rw [over_all _ _ (by simp [zeros32, sha_len])] at b2
  have hb2 : Below w.heap.size w w2 := (HBL.out.trans (A1.out.mono HBL.out.size)).trans ((((Only.refl (fun b => w1.heap.size ≤ b) w1).alloc _).trans o2 (fun b _ e => by omega)).below (HBL.out.trans (A1.out.mono HBL.out.size)).size (fun b hb e => by have := (HBL.out.trans (A1.out.mono HBL.out.size)).size; omega))
  have hz2 : Blk w2 q 25 zeros32.toArray := ((HB2.out.below A1.out HB2.out.lt).alloc _).only o2 (by have := (HB2.out.below A1.out HB2.out.lt).lt; omega)
  clear o2
  obtain ⟨p3, hp3⟩ : ∃ p3, w1.heap.size = p3 := ⟨_, rfl⟩
  rw [hp3] at b2 ⊢
  have B2 := Lib.hid b2
  have BL2 := Lib.hid hb2
  have Z2 := Lib.hid hz2
  clear b2 hb2 hz2 hp3 S1 HB2
  go_wp2_with fail
  have S2 := Lib.hid (hsum_any (w2.alloc (.cells #[.slice (some ⟨p3, 0, none⟩) 32 32] 30)) _ 1 1 _ [sha ps.flatten] _ _ (Sl.one_new w2 30 (.slice (some ⟨p3, 0, none⟩) 32 32)) (Each1.one (IsB.of_id (B2.out.alloc _) (sha_len _))) (by omega) (by simp [sha_len]))
  refine S2.out.mono ?_
  rintro e3 w3 ⟨rfl, a3⟩
  have hz3 : Blk w3 q 25 zeros32.toArray := (Z2.out.alloc _).below a3 (Z2.out.alloc _).lt
  have hb3 : Below w.heap.size w w3 := (BL2.out.alloc BL2.out.size (.cells #[.slice (some ⟨p3, 0, none⟩) 32 32] 30)).trans (a3.mono (BL2.out.alloc BL2.out.size _).size)
  have BL3 := Lib.hid hb3
  clear a3 hb3 S2 Z2
  go_wp2_with (with_reducible refine wpList_stb rfl 25 (.tmp 2) (.tmp 8) rfl q 0 _ rfl rfl 25 zeros32 hz3 ?h1 ?h2 ?h3 ?_)
  case h1 => simp [zeros32, sha_len]
  case h2 => rw [infoID]; simp [sha_len]
  case h3 => exact bts_one _
  intro w4 b4 o4
  rw [over_all _ _ (by simp [zeros32, sha_len])] at b4
  have HB := Lib.hid b4
  have O4 := Lib.hid o4
  clear b4 o4 hz3
  go_wp2
  refine bodyPost_ret (results_cell_row rfl _ _ q 25 (bts (sha (sha ps.flatten))).toArray (0, 0) _ rfl HB.out Try.underlying25 rfl (by rw [infoID]; simp [sha_len])) rfl ?_
  exact ⟨rfl, BL3.out.trans (O4.out.below BL3.out.size (fun b hb e => by have := HQ.out; omega))⟩
end Go.Proofs.Ytlbpeihdedhjiaa
