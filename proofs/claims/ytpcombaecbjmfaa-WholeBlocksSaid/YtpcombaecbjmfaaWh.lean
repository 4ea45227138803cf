import Derived.Test.YtpcombaecbjmfaaWg
import Derived.Deep.RegionWith
import Derived.Deep.RegionLaw
namespace Go.Proofs.Ytpcombaecbjmfaa
open Go.RowKit

def endS (l : List UInt8) (e : Int) : Int := if e = 0 ∧ l ≠ [] then 70 else e
set_option maxRecDepth 20000 in
set_option maxHeartbeats 400000 in
theorem rend_any (w : World) (lo hi g : Nat) (l : List UInt8) (e : Int) (h : IsRd w lo hi g l e) :
    Calls Try.prog 41 #[.pointer (some ⟨g, 0, none⟩)] w fun e' w' => e' = .returned (.int .i64 (endS l e)) ∧ ∃ n, w' = w.drewN n := by
  obtain ⟨A, m, c, hblk, h1, h2, h3, h4, h5, h6, h7⟩ := h
  have hc0 := hblk.cell 0
  have hc1 := hblk.cell 1
  simp only [List.getElem?_toArray, List.getElem?_cons_zero, List.getElem?_cons_succ] at hc0 hc1
  clear h6 hblk h1 h2 h4 h5 h7
  by_cases he : e = 0
  · subst he
    by_cases hm : m = 0
    · have q : endS l 0 = 0 := by rw [endS, if_neg]; rintro ⟨_, h⟩; exact h (List.eq_nil_of_length_eq_zero (by omega))
      have Q := Lib.hid q
      clear q h3
      subst hm
      go_enter Try.func41, Try.ntmps41
      go_wp2
      go_ret
      exact ⟨by rw [Q.out]; rfl, 0, rfl⟩
    · have q : endS l 0 = 70 := by rw [endS, if_pos]; exact ⟨rfl, fun h => hm (by rw [h3, h]; rfl)⟩
      have d1 : decide (0 < m) = true := by simp; omega
      have Q := Lib.hid q
      clear q h3 hm
      go_enter Try.func41, Try.ntmps41
      go_wp2
      go_ret
      exact ⟨by rw [Q.out]; rfl, 0, rfl⟩
  · have q : endS l e = e := by rw [endS, if_neg]; rintro ⟨h, _⟩; exact he h
    have d1 : (e == 0) = false := by simpa using he
    have Q := Lib.hid q
    clear q h3 he
    go_enter Try.func41, Try.ntmps41
    go_wp2
    go_ret
    exact ⟨by rw [Q.out]; rfl, 0, rfl⟩

theorem rcountS_le (l : List UInt8) (e : Int) (most : Nat) : (rcountS l e most).1 ≤ most := by
  unfold rcountS
  rcases cHead l e with ⟨n, least, l2, e2⟩
  unfold cEnd
  dsimp only
  split
  · exact Nat.zero_le _
  · split
    · exact Nat.zero_le _
    · split
      · exact Nat.zero_le _
      · omega
def textS (l : List UInt8) (e : Int) (most : Int) : List UInt8 × List UInt8 × Int :=
  let c := rcountS l e most.toNat
  (rawO c.2.1 (c.1 : Nat), rawL c.2.1 (c.1 : Nat), rawE c.2.1 c.2.2 (c.1 : Nat))
set_option maxRecDepth 20000 in
set_option maxHeartbeats 400000 in
theorem rtext_any (w : World) (lo hi g : Nat) (l : List UInt8) (e most : Int) (h : IsRd w lo hi g l e) (hm : most < 9223372036854775808) :
    Calls Try.prog 65 #[.pointer (some ⟨g, 0, none⟩), .int .i64 most] w fun e' w' => ∃ v, e' = .returned v ∧ OwnB w' w.heap.size v (textS l e most).1 ∧ IsRd w' lo hi g (textS l e most).2.1 (textS l e most).2.2 ∧ Only (fun b => b = g) w w' := by
  have hle := rcountS_le l e most.toNat
  have hr := rcount_any w lo hi g l e most.toNat h
  obtain ⟨c, hc⟩ : ∃ c, rcountS l e most.toNat = c := ⟨_, rfl⟩
  have q : textS l e most = (rawO c.2.1 (c.1 : Nat), rawL c.2.1 (c.1 : Nat), rawE c.2.1 c.2.2 (c.1 : Nat)) := by rw [textS, hc]
  rw [hc] at hle hr
  have hw : IntKind.i64.wrap ((c.1 : Nat) : Int) = (c.1 : Nat) := IntWalk.i64_in _ (by omega)
  have hw2 : wrap64 ((c.1 : Nat) : Int) = (c.1 : Nat) := IntWalk.wrap64_in _ (by omega)
  have HR := Lib.hid hr
  have Q := Lib.hid q
  have HLE := Lib.hid hle
  clear h hr hc q hle
  by_cases h0 : 0 < most
  · obtain ⟨M, rfl⟩ := Int.eq_ofNat_of_zero_le (Int.le_of_lt h0)
    have hr := HR.out
    simp only [Int.toNat_natCast] at hr
    have HR := Lib.hid hr
    have hu : IntKind.u64.wrap (M : Int) = (M : Int) := by rw [IntKind.wrap_u64]; omega
    have hx : 0 < M := by omega
    clear hr hm h0
    go_enter Try.func65, Try.ntmps65
    go_wp2_with fail
    refine HR.out.mono ?_
    rintro e1 w1 ⟨rfl, a2, a3⟩
    have A2 := Lib.hid a2
    have A3 := Lib.hid a3
    clear a2 a3
    go_wp2_with fail
    refine (rraw_any w1 lo hi g _ _ _ A2.out).mono ?_
    rintro e2 w2 ⟨v, rfl, b1, b2, b3⟩
    have B1 := Lib.hid b1
    have B2 := Lib.hid b2
    have B3 := Lib.hid b3
    clear b1 b2 b3
    go_wp2
    go_ret
    exact ⟨_, rfl, by rw [Q.out]; exact B1.out.low A3.out.size, by rw [Q.out]; exact B2.out, A3.out.trans B3.out (fun _ _ h => h)⟩
  · have hz : most.toNat = 0 := by omega
    have hr := HR.out
    rw [hz] at hr
    have HR := Lib.hid hr
    clear hr hz
    go_enter Try.func65, Try.ntmps65
    go_wp2_with fail
    refine HR.out.mono ?_
    rintro e1 w1 ⟨rfl, a2, a3⟩
    have A2 := Lib.hid a2
    have A3 := Lib.hid a3
    clear a2 a3 hm
    go_wp2_with fail
    refine (rraw_any w1 lo hi g _ _ _ A2.out).mono ?_
    rintro e2 w2 ⟨v, rfl, b1, b2, b3⟩
    have B1 := Lib.hid b1
    have B2 := Lib.hid b2
    have B3 := Lib.hid b3
    clear b1 b2 b3
    go_wp2
    go_ret
    exact ⟨_, rfl, by rw [Q.out]; exact B1.out.low A3.out.size, by rw [Q.out]; exact B2.out, A3.out.trans B3.out (fun _ _ h => h)⟩

/-- 32 bytes out of those that were read, noughts behind them -/
def idS (o : List UInt8) : List UInt8 := o.take 32 ++ List.replicate (32 - o.length) 0
theorem idS_len (o : List UInt8) : (idS o).length = 32 := by simp [idS]; omega
def zeros32 : List Value := bts (List.replicate 32 0)
def idV (l : List UInt8) : Value := .agg (bts l).toArray
theorem over_id (o : List UInt8) (n : Nat) (hn : n = o.length) : over zeros32 0 ((bts o).take (min n 32)) = bts (idS o) := by
  subst hn
  unfold over zeros32 idS bts
  simp only [List.take_zero, List.nil_append, Nat.zero_add, List.length_take, List.length_map, List.map_append, List.map_take, List.map_replicate, List.drop_replicate]
  congr 1
  · by_cases h : o.length ≤ 32
    · rw [Nat.min_eq_left h, List.take_of_length_le (by simp), List.take_of_length_le (by simpa using h)]
    · rw [Nat.min_eq_right (by omega)]
  · congr 1
    omega
theorem infoID : (Try.prog.info? 32).map (·.size) = some 32 := by kernel_rfl
theorem sizeU8 : (Try.prog.info? 5).map (·.size) = some 1 := by kernel_rfl

set_option maxRecDepth 20000 in
set_option maxHeartbeats 400000 in
theorem rid_any (w : World) (lo hi g : Nat) (l : List UInt8) (e : Int) (h : IsRd w lo hi g l e) :
    Calls Try.prog 63 #[.pointer (some ⟨g, 0, none⟩)] w fun e' w' => e' = .returned (idV (idS (rawO l 32))) ∧ IsRd w' lo hi g (rawL l 32) (rawE l e 32) ∧ Only (fun b => b = g) w w' := by
  have H0 := Lib.hid h
  have hg := h.lt
  clear h
  go_enter Try.func63, Try.ntmps63
  go_upto_region 2 with fail
  generalize hW : World.alloc (World.alloc w _) _ = W
  have hW' : W = (w.alloc (.cells zeros32.toArray 32)).alloc (.cells zeros32.toArray 32) := hW.symm
  have hrd : IsRd W lo hi g l e := hW' ▸ (H0.out.only (((Only.refl (fun _ => False) w).alloc _).alloc _) (fun _ _ _ _ h => h))
  have b2 : Blk W w.heap.size 32 zeros32.toArray := hW' ▸ (Blk.new _ _ _).alloc _
  have b3 : Blk W (w.heap.size + 1) 32 zeros32.toArray := by
    have := Blk.new (w.alloc (.cells zeros32.toArray 32)) 32 zeros32.toArray
    rw [hW']
    simpa using this
  have ho : Only (fun b => b = g) w W := hW' ▸ ((Only.refl _ w).alloc _).alloc _
  have hsz : W.heap.size = w.heap.size + 2 := by rw [hW']; simp
  clear hW hW'
  have HRD := Lib.hid hrd
  have HB2 := Lib.hid b2
  have HB3 := Lib.hid b3
  have HO := Lib.hid ho
  have HSZ := Lib.hid hsz
  clear hrd b2 b3 ho hsz
  go_region_law (first
    | (go_simp; go_at_call 48; refine (rraw_any W.drew lo hi g l e 32 HRD.out).mono ?_; rintro e1 w1 ⟨v, rfl, ⟨A, n, c, rfl, hn, hown⟩, a2, a3⟩; have HA2 := Lib.hid a2; have HA3 := Lib.hid a3; have HN := Lib.hid hn; have HOWN := Lib.hid hown; clear a2 a3 hn hown)
    | (refine step_cp rfl (.tmp 4) (.tmp 6) 28 28 rfl 5 Try.underlying28 sizeU8 (w.heap.size + 1) 0 32 32 rfl A n c rfl 32 zeros32 (HB3.out.drew.only HA3.out (by omega)) _ _ (Sl.of_own HOWN.out) (bts_one _) (by decide) ?_; intro w2 b3 o3))
  have hid : over zeros32 0 ((bts (rawO l 32)).take (min n 32)) = bts (idS (rawO l 32)) := over_id _ _ HN.out
  rw [hid] at b3
  have b3' := b3.rowAll
  have b2' : Blk w2 w.heap.size 32 zeros32.toArray := (HB2.out.drew.only HA3.out (by omega)).only o3 (by omega)
  have hrd2 : IsRd w2 lo hi g (rawL l 32) (rawE l e 32) := HA2.out.only o3 (fun b _ _ hb h => by have := H0.out.hi_le; omega)
  have ho2 : Only (fun b => b = g) w w2 := (HO.out.drew.trans HA3.out (fun _ _ h => h)).trans o3 (fun b hb h => by omega)
  have HRD2 := Lib.hid hrd2
  have HO2 := Lib.hid ho2
  clear hid b3 o3 hrd2 ho2
  go_wp2_with (first
    | (with_reducible refine wpList_ld rfl 32 (.tmp 3) rfl (w.heap.size + 1) 0 rfl (bts (idS (rawO l 32))) b3' _ Try.underlying32 rfl 32 infoID (by rw [bts_length, idS_len]) ?_)
    | (with_reducible refine wpList_stb rfl 32 (.tmp 2) (.tmp 8) rfl w.heap.size 0 _ rfl rfl 32 zeros32 b2' ?h1 ?h2 ?h3 ?_))
  case h1 => simp [zeros32, idS_len]
  case h2 => rw [infoID]; simp [idS_len]
  case h3 => exact bts_one _
  intro w3 b2 o3
  rw [over_all _ _ (by simp [zeros32, idS_len])] at b2
  have HB := Lib.hid b2
  have O3 := Lib.hid o3
  clear b2 o3
  go_wp2
  refine bodyPost_ret (results_cell_row rfl _ _ w.heap.size 32 (bts (idS (rawO l 32))).toArray (0, 0) _ rfl HB.out Try.underlying32 rfl (by rw [infoID]; simp [idS_len])) rfl ?_
  exact ⟨rfl, HRD2.out.only O3.out (fun b _ _ hb h => by have := H0.out.hi_le; omega), HO2.out.trans O3.out (fun b hb h => by omega)⟩
end Go.Proofs.Ytpcombaecbjmfaa
