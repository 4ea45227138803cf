import Derived.Test.YtlbpeihdedhjiaaWc
namespace Go.Proofs.Ytlbpeihdedhjiaa
open Go.RowKit
set_option maxRecDepth 20000 in
set_option maxHeartbeats 400000 in
theorem wraw_any (g B : Nat) (r : Option Nat) (l : List UInt8) (w : World) (L : Option Addr) (m k : Nat) (xs : List Value) (ps : List (List UInt8)) (ok ok' : Nat → Prop)
    (h : IsWr w B g r l) (hL : Sl w ok 1 L m xs) (hps : Each1 (fun p u => IsB w ok' u p) ps xs) (hok : ∀ b, b < w.heap.size → ok b → ¬ WrS g r b) (hok' : ∀ b, b < w.heap.size → ok' b → ¬ WrS g r b) (hm : m ≤ 1000) (hp : ∀ p ∈ ps, p.length ≤ 1000000000) (hl : l.length ≤ 100000000000) :
    Calls Try.prog 54 #[.pointer (some ⟨g, 0, none⟩), .slice L m k] w fun e w' => e = .returned (.tuple #[]) ∧
      ∃ r', IsWr w' B g r' (l ++ ps.flatten) ∧ WrR w r r' ∧ Only (WrS g r) w w' := by
  have HP := Lib.hid hp
  have HL := Lib.hid hl
  have HO := Lib.hid hok
  have HO' := Lib.hid hok'
  have hmp : m = ps.length := by have := hL.len; have := hps.1; omega
  have HM := Lib.hid hmp
  clear hp hl hok hok' hmp
  go_enter Try.func54, Try.ntmps54
  go_wp2
  go_loopg [5, 8] m (fun q _ i wr => ∃ (j : Nat) (r' : Option Nat) (cur : List UInt8), j + q = m ∧ i = .int .i64 j ∧ Hid (cur = l ++ (ps.take j).flatten) ∧ Hid (cur.length ≤ l.length + 1000000000 * j) ∧ IsWr wr B g r' cur ∧ Hid (WrR w r r') ∧ Only (WrS g r) w wr)
  case atStart => exact ⟨0, r, l, by omega, rfl, by simp [Hid], by simp [Hid], h, .inl rfl, Only.refl _ _⟩
  case round =>
    obtain ⟨j, r', cur, hj, rfl, HC, HCL, hw, hr, ho⟩ := hrel
    by_cases hlt : j < m
    · have hL' := hL.only ho HO.out (by omega)
      obtain ⟨b, o, u, rfl, hb, hu, hc⟩ := hL'.at1 hlt
      obtain ⟨p, hp, hpu⟩ := hps.at_ hu
      have hpu' := hpu.only ho HO'.out
      obtain ⟨A1, n1, c1, rfl, hn1, hnc1, hs1⟩ := hpu'
      obtain ⟨A, c, hblk, hB, hAr, hown⟩ := hw
      have hcell := hblk.cell 0
      have hfr := hblk.frozen 0
      simp only [List.getElem?_toArray, List.getElem?_cons_zero] at hcell
      have hplen : n1 ≤ 1000000000 := by rw [hn1]; exact HP.out p (List.mem_of_getElem? hp)
      have hcl : cur.length ≤ 2000000000000 := by have := HCL.out; have := HL.out; omega
      have HA := Lib.hid hAr
      have HU := Lib.hid hu
      have HPJ := Lib.hid hp
      have HN := Lib.hid hn1
      clear hAr hu hp hn1
      go_wp2_with (at_builtin; refine wpList_app _ rfl (.tmp 16) (.tmp 17) 30 rfl B 5 _ 1 1 Try.underlying30 infoU8 rfl (by decide) A cur.length c rfl A1 n1 c1 rfl (bts cur) hown ok' _ hs1 ?hone (by unfold maxLen; omega) (by omega) ?hbase ?next)
      case hone => exact bts_one _
      case hbase => have := hblk.lt; omega
      case next =>
        intro A' c' w1 hown1 ho1 hat1
        obtain ⟨r3, hw3, hr3, ho3⟩ := wr_store0 (new := p) hblk hB HA.out hown hown1 ho1 hat1 rfl HN.out
        have hb1 : Blk w1 g 120 #[.slice A cur.length c] := hblk.only ho1 (own_blk_ne hown hblk (by decide))
        have hcell1 := hb1.cell 0
        have hfr1 := hb1.frozen 0
        simp only [List.getElem?_toArray, List.getElem?_cons_zero] at hcell1
        have HW := Lib.hid hw3
        have HR := Lib.hid hr3
        have HO := Lib.hid ho3
        clear hw3 hr3 ho3 hown1 ho1 hat1 hown
        go_wp2
        go_roundg (m - 1 - j)
        case measure => omega
        case rel =>
          refine ⟨j + 1, r3, _, by omega, by go_num, ?_, ?_, HW.out, hr.out.trans HR.out ho.size, WrS.trans ho hr.out HO.out⟩
          · rw [Hid, HC.out, List.take_add_one, HPJ.out]; simp
          · rw [Hid, List.length_append]; have := HCL.out; have := HN.out; omega
    · go_wp2
      go_end0
      obtain rfl : j = m := by omega
      refine ⟨rfl, r', ?_, hr.out, ho⟩
      have := HC.out
      rw [List.take_of_length_le (by have := HM.out; omega)] at this
      rw [← this]
      exact hw

set_option maxRecDepth 20000 in
set_option maxHeartbeats 400000 in
theorem wbytes_any (g B : Nat) (r : Option Nat) (l : List UInt8) (w : World) (h : IsWr w B g r l) (hl : l.length ≤ 1099511627776) :
    Calls Try.prog 47 #[.pointer (some ⟨g, 0, none⟩)] w fun e w' => ∃ A n c, e = .returned (.slice A n c) ∧ n = l.length ∧ Below w.heap.size w w' ∧ w'.ownsRow w.heap.size 5 1 (.slice A n c) n (bts l) := by
  obtain ⟨A, c, hblk, hB, hAr, hown⟩ := h
  have hcell := fun o => (hblk.alloc o).cell 0
  simp only [List.getElem?_toArray, List.getElem?_cons_zero] at hcell
  have hs := (Sl.of_own hown).new (Below.alloc (Below.refl _ _) (Nat.le_refl _) (.cells #[] 5)) (by omega)
  have HA := Lib.hid hAr
  clear hAr hown
  go_enter Try.func47, Try.ntmps47
  go_wp2_with (at_builtin; refine wpList_app _ rfl (.tmp 3) (.tmp 7) 30 rfl w.heap.size 5 _ 1 1 Try.underlying30 infoU8 rfl (by decide) (some ⟨w.heap.size, 0, none⟩) 0 0 rfl A l.length c rfl [] (World.ownsRow_lit w #[] 0 (Nat.le_refl _) (by decide) rfl) _ _ hs (bts_one _) (by unfold maxLen; omega) (by omega) ?hbase ?next)
  case hbase => simp
  case next =>
    intro A' c' w1 hown1 ho1 hat1
    have HOWN := Lib.hid hown1
    have HO1 := Lib.hid ho1
    clear hown1 ho1 hat1
    go_wp2
    go_ret
    refine ⟨A', _, c', rfl, rfl, ?_, HOWN.out⟩
    have := HO1.out
    exact (((Only.refl (fun b => w.heap.size ≤ b) w).alloc _).trans this (fun b hb e => by simp [Value.ownBlock] at e; omega)).below (Nat.le_refl _) (fun b hb h => by omega)
end Go.Proofs.Ytlbpeihdedhjiaa
