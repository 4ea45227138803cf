/- head.get4, head.Read. -/
import Derived.Test.YtpcombaecbjmfaaRd
import Derived.Test.YtpcombaecbjmfaaHa
import Derived.Test.YtpcombaecbjmfaaBl
namespace Go.Proofs.Ytpcombaecbjmfaa
open Go.RowKit
theorem get4_bits (a b c d : UInt8) : bits .or .u32 (bits .or .u32 (bits .or .u32 ((a.toNat : Int) % 4294967296) ((b.toNat : Int) % 4294967296 * 256 % 4294967296)) ((c.toNat : Int) % 4294967296 * 65536 % 4294967296)) ((d.toNat : Int) % 4294967296 * 16777216 % 4294967296) = ((ofLE [a, b, c, d] : Nat) : Int) := by
  have := a.toNat_lt; have := b.toNat_lt; have := c.toNat_lt; have := d.toNat_lt
  rw [show (a.toNat : Int) % 4294967296 = ((a.toNat : Nat) : Int) by omega, show (b.toNat : Int) % 4294967296 * 256 % 4294967296 = ((b.toNat * 2 ^ 8 : Nat) : Int) by omega, show (c.toNat : Int) % 4294967296 * 65536 % 4294967296 = ((c.toNat * 2 ^ 16 : Nat) : Int) by omega, show (d.toNat : Int) % 4294967296 * 16777216 % 4294967296 = ((d.toNat * 2 ^ 24 : Nat) : Int) by omega]
  rw [or32 _ _ (by omega) (by omega), Nat.or_comm, or_add _ _ 8 (by omega)]
  rw [or32 _ _ (by omega) (by omega), Nat.or_comm, or_add _ _ 16 (by omega)]
  rw [or32 _ _ (by omega) (by omega), Nat.or_comm, or_add _ _ 24 (by omega)]
  simp only [ofLE]
  omega
set_option linter.unusedSimpArgs false in
set_option maxRecDepth 20000 in
set_option maxHeartbeats 400000 in
theorem get4_any (w : World) (b o n c : Nat) (x0 x1 x2 x3 : UInt8) (h : RowAt w b o (bts [x0, x1, x2, x3])) (hn : 4 ≤ n) :
    Calls Try.prog 59 #[.slice (some ⟨b, o, none⟩) n c] w fun e w' => e = .returned (.int .u32 ((ofLE [x0, x1, x2, x3] : Nat) : Int)) ∧ ∃ n, w' = w.drewN n := by
  have c0 := h 0 _ rfl
  have c1 := h 1 _ rfl
  have c2 := h 2 _ rfl
  have c3 := h 3 _ rfl
  rw [Nat.add_zero] at c0
  unfold Bt at c0 c1 c2 c3
  have d0 : (0 : Int) < (n : Int) := by omega
  have d1 : (1 : Int) < (n : Int) := by omega
  have d2 : (2 : Int) < (n : Int) := by omega
  have d3 : (3 : Int) < (n : Int) := by omega
  have e0 : 0 < n := by omega
  clear h hn
  go_enter Try.func59, Try.ntmps59
  go_wp2
  go_region
  go_wp2
  go_ret
  refine ⟨?_, 1, rfl⟩
  exact congrArg (fun z => Ending.returned (Value.int IntKind.u32 z)) (get4_bits x0 x1 x2 x3)
theorem get4_list (w : World) (b o n c : Nat) (xs : List UInt8) (hx : xs.length = 4) (h : RowAt w b o (bts xs)) (hn : 4 ≤ n) :
    Calls Try.prog 59 #[.slice (some ⟨b, o, none⟩) n c] w fun e w' => e = .returned (.int .u32 ((ofLE xs : Nat) : Int)) ∧ ∃ n, w' = w.drewN n := by
  match xs, hx with
  | [x0, x1, x2, x3], _ => exact get4_any w b o n c x0 x1 x2 x3 h hn
theorem row_sub {w : World} {b o : Nat} {l : List UInt8} (h : RowAt w b o (bts l)) (i k : Nat) : RowAt w b (o + i) (bts ((l.drop i).take k)) := by
  have := (h.drop i).take k
  rwa [show ((bts l).drop i).take k = bts ((l.drop i).take k) by simp [bts, List.map_drop, List.map_take]] at this
/-- the four bytes, the sum, at a place -/
def n4 (l : List UInt8) (i : Nat) : Nat := ofLE ((l.drop i).take 4)
def id32 (l : List UInt8) (i : Nat) : List UInt8 := (l.drop i).take 32
def z32 : List UInt8 := List.replicate 32 0
/-- the header that bytes are: its cells -/
def hdrR (l : List UInt8) : List Value := if l.length = 80 then hdrC (n4 l 0) (id32 l 4) (id32 l 36) (n4 l 68) (n4 l 72) (n4 l 76) else hdrC 0 z32 z32 0 0 0
def hdrE (l : List UInt8) : Int := if l.length = 80 then 0 else 6
theorem built_hdr0 : Try.prog.built 43 [] = some (hdrC 0 z32 z32 0 0 0).toArray := by show _ = _; kernel_rfl
theorem built_hdr6 (v t b n : Int) (x y : List UInt8) (hx : x.length = 32) (hy : y.length = 32) : Try.prog.built 43 [(0, .int .u32 v), (1, .agg (bts x).toArray), (2, .agg (bts y).toArray), (3, .int .u32 t), (4, .int .u32 b), (5, .int .u32 n)] = some (.int .u32 v :: (bts x ++ (bts y ++ [.int .u32 t, .int .u32 b, .int .u32 n]))).toArray := by
  match x, hx with
  | [_, _, _, _, _, _, _, _, _, _, _, _, _, _, _, _, _, _, _, _, _, _, _, _, _, _, _, _, _, _, _, _], _ =>
    match y, hy with
    | [_, _, _, _, _, _, _, _, _, _, _, _, _, _, _, _, _, _, _, _, _, _, _, _, _, _, _, _, _, _, _, _], _ => (show _ = _; kernel_rfl)
theorem drewN_row {w : World} {b o : Nat} {xs : List Value} (h : RowAt w b o xs) (n : Nat) : RowAt (w.drewN n) b o xs := h
theorem exec_arr {P : Program} {o : Oper} {a : Act} {w : World} {ty e : TypeId} {n : Nat} {x : Operand} {A : Option Addr} {len cap : Nat} (ho : o.op = .sliceToArrayPointer ty x) (hu : P.underlying ty = some (.array n e)) (hx : a.eval x = .slice A len cap) (hn : n ≤ len) : (execOp a.eval o).run P w = .ok (.value (.pointer A)) w := by
  have h : ¬ len < n := by omega
  unfold execOp
  simp only [ho, hx]
  simp [Instr.arrayAt, run_underlying hu, h]
set_option linter.unusedSimpArgs false in
set_option maxRecDepth 20000 in
set_option maxHeartbeats 4000000 in
theorem head_Read_any (w : World) (v : Value) (l : List UInt8) (ok : Nat → Prop) (h : IsB w ok v l) :
    Calls Try.prog 31 #[v] w fun e w' => e = .returned (.tuple #[.agg (hdrR l).toArray, .int .i64 (hdrE l)]) ∧ Below w.heap.size w w' := by
  obtain ⟨A, n, c, rfl, hn, hnc, hs⟩ := h
  by_cases h80 : l.length = 80
  · have hR : hdrR l = hdrC (n4 l 0) (id32 l 4) (id32 l 36) (n4 l 68) (n4 l 72) (n4 l 76) := by rw [hdrR, if_pos h80]
    have hE : hdrE l = 0 := by rw [hdrE, if_pos h80]
    rw [hR, hE]
    have i1 : (id32 l 4).length = 32 := by simp [id32, h80]
    have i2 : (id32 l 36).length = 32 := by simp [id32, h80]
    have q0 : ((l.drop 0).take 4).length = 4 := by simp [h80]
    have q1 : ((l.drop 68).take 4).length = 4 := by simp [h80]
    have q2 : ((l.drop 72).take 4).length = 4 := by simp [h80]
    have q3 : ((l.drop 76).take 4).length = 4 := by simp [h80]
    obtain ⟨b, o, rfl, hb, hrow⟩ := hs.2 (by omega)
    obtain rfl : n = 80 := by omega
    have hs2 : RowAt w b o (bts l) := hrow
    have HROW := Lib.hid hs2
    clear hR hE hn hs hb hrow hs2
    have hc4 : ¬ c = 4 := by omega
    have hc36 : ¬ c = 36 := by omega
    have hc68 : ¬ c = 68 := by omega
    have hc72 : ¬ c = 72 := by omega
    have hc76 : ¬ c = 76 := by omega
    have k36 : (36 : Int) ≤ (c : Int) := by omega
    have k68 : (68 : Int) ≤ (c : Int) := by omega
    have k80 : (80 : Int) ≤ (c : Int) := by omega
    go_enter Try.func31, Try.ntmps31
    go_upto_region 1 with fail
    generalize hW : World.alloc w _ = W
    have hz : ∃ z : List Value, z.length = 68 ∧ Blk W w.heap.size 43 z.toArray := by rw [← hW]; exact ⟨_, by rfl, Blk.new _ _ _⟩
    obtain ⟨z, hzl, hz⟩ := hz
    have hbl : Below w.heap.size w W := by rw [← hW]; exact (Below.refl _ _).alloc (Nat.le_refl _) _
    have hr : RowAt W b o (bts l) := by rw [← hW]; exact HROW.out.only ((Only.refl (fun _ => False) w).alloc _) (fun h => h)
    clear hW HROW
    obtain ⟨q, hq⟩ : ∃ q, w.heap.size = q := ⟨_, rfl⟩
    rw [hq] at hz ⊢
    have HQ := Lib.hid hq
    have HZ := Lib.hid hz
    have HBL := Lib.hid hbl
    have HR := Lib.hid hr
    have HZL := Lib.hid hzl
    clear hq hz hbl hr hzl
    go_wp2
    have hu := (Try.underlying32 : Try.prog.underlying 32 = some _)
    have hl1 : (Try.prog.info? 32).map (·.size) = some (bts (id32 l 4)).length := by rw [infoID, bts_length, i1]
    have hl2 : (Try.prog.info? 32).map (·.size) = some (bts (id32 l 36)).length := by rw [infoID, bts_length, i2]
    have hbh := Lib.hid (built_hdr6 (n4 l 0 : Nat) (n4 l 68 : Nat) (n4 l 72 : Nat) (n4 l 76 : Nat) (id32 l 4) (id32 l 36) i1 i2)
    refine wp_region_tail (S := (fun w' => RowAt w' b o (bts l) ∧ Blk w' q 43 z.toArray ∧ Below w.heap.size w w')) 20 (by kernel_rfl) (by decide) (by kernel_rfl) (⟨HR.out, HZ.out.drew, HBL.out.drew⟩) ?_
    simp only [List.take_succ_cons, List.take_zero, List.drop_succ_cons, List.drop_zero]
    intro hSw
    refine wpAnyH_take (i := 0) (oi := ⟨some 8, _, _, _, _, _⟩) (v := (.slice (some ⟨b, o, none⟩) 80 c)) rfl (by kernel_rfl) (by kernel_rfl) (by kernel_rfl) (fun _ _ _ h => h) (Or.inl ⟨by rfl, ?_⟩) hSw ?_
    · intro w' hSw'
      go_simp
    simp only [Act.put, List.setIfInBounds_toArray, List.set_cons_zero, List.set_cons_succ]
    refine wpAnyH_take (i := 2) (oi := ⟨some 10, _, _, _, _, _⟩) (v := (.slice (some ⟨b, o, none⟩) 80 c)) rfl (by kernel_rfl) (by kernel_rfl) (by kernel_rfl) (fun _ _ _ h => h) (Or.inl ⟨by rfl, ?_⟩) hSw ?_
    · intro w' hSw'
      go_simp
    simp only [Act.put, List.setIfInBounds_toArray, List.set_cons_zero, List.set_cons_succ]
    refine wpAnyH_take (i := 3) (oi := ⟨some 11, _, _, _, _, _⟩) (v := (.slice (some ⟨b, o + 4, none⟩) 32 (c - 4))) rfl (by kernel_rfl) (by kernel_rfl) (by kernel_rfl) (fun _ _ _ h => h) (Or.inl ⟨by rfl, ?_⟩) hSw ?_
    · intro w' hSw'
      go_simp
    simp only [Act.put, List.setIfInBounds_toArray, List.set_cons_zero, List.set_cons_succ]
    refine wpAnyH_take (i := 4) (oi := ⟨some 12, _, _, _, _, _⟩) (v := (.pointer (some ⟨b, o + 4, none⟩))) rfl (by kernel_rfl) (by kernel_rfl) (by kernel_rfl) (fun _ _ _ h => h) (Or.inl ⟨by rfl, ?_⟩) hSw ?_
    · intro w' hSw'
      exact exec_arr rfl Try.underlying32 rfl (by omega)
    simp only [Act.put, List.setIfInBounds_toArray, List.set_cons_zero, List.set_cons_succ]
    refine wpAnyH_take (i := 5) (oi := ⟨some 13, _, _, _, _, _⟩) (v := .agg (bts (id32 l 4)).toArray) rfl (by kernel_rfl) (by kernel_rfl) (by kernel_rfl) (fun _ _ _ h => h) (yieldsIf_load_mid (by rfl) _ _ rfl b (o + 4) rfl (bts (id32 l 4)) _ (fun _ h => row_sub h.1 4 32) hu rfl hl1) hSw ?_
    simp only [Act.put, List.setIfInBounds_toArray, List.set_cons_zero, List.set_cons_succ]
    refine wpAnyH_take (i := 6) (oi := ⟨some 14, _, _, _, _, _⟩) (v := (.slice (some ⟨b, o, none⟩) 80 c)) rfl (by kernel_rfl) (by kernel_rfl) (by kernel_rfl) (fun _ _ _ h => h) (Or.inl ⟨by rfl, ?_⟩) hSw ?_
    · intro w' hSw'
      go_simp
    simp only [Act.put, List.setIfInBounds_toArray, List.set_cons_zero, List.set_cons_succ]
    refine wpAnyH_take (i := 7) (oi := ⟨some 15, _, _, _, _, _⟩) (v := (.slice (some ⟨b, o + 36, none⟩) 32 (c - 36))) rfl (by kernel_rfl) (by kernel_rfl) (by kernel_rfl) (fun _ _ _ h => h) (Or.inl ⟨by rfl, ?_⟩) hSw ?_
    · intro w' hSw'
      go_simp
    simp only [Act.put, List.setIfInBounds_toArray, List.set_cons_zero, List.set_cons_succ]
    refine wpAnyH_take (i := 8) (oi := ⟨some 16, _, _, _, _, _⟩) (v := (.pointer (some ⟨b, o + 36, none⟩))) rfl (by kernel_rfl) (by kernel_rfl) (by kernel_rfl) (fun _ _ _ h => h) (Or.inl ⟨by rfl, ?_⟩) hSw ?_
    · intro w' hSw'
      exact exec_arr rfl Try.underlying32 rfl (by omega)
    simp only [Act.put, List.setIfInBounds_toArray, List.set_cons_zero, List.set_cons_succ]
    refine wpAnyH_take (i := 9) (oi := ⟨some 17, _, _, _, _, _⟩) (v := .agg (bts (id32 l 36)).toArray) rfl (by kernel_rfl) (by kernel_rfl) (by kernel_rfl) (fun _ _ _ h => h) (yieldsIf_load_mid (by rfl) _ _ rfl b (o + 36) rfl (bts (id32 l 36)) _ (fun _ h => row_sub h.1 36 32) hu rfl hl2) hSw ?_
    simp only [Act.put, List.setIfInBounds_toArray, List.set_cons_zero, List.set_cons_succ]
    refine wpAnyH_take (i := 10) (oi := ⟨some 18, _, _, _, _, _⟩) (v := (.slice (some ⟨b, o, none⟩) 80 c)) rfl (by kernel_rfl) (by kernel_rfl) (by kernel_rfl) (fun _ _ _ h => h) (Or.inl ⟨by rfl, ?_⟩) hSw ?_
    · intro w' hSw'
      go_simp
    simp only [Act.put, List.setIfInBounds_toArray, List.set_cons_zero, List.set_cons_succ]
    refine wpAnyH_take (i := 11) (oi := ⟨some 19, _, _, _, _, _⟩) (v := (.slice (some ⟨b, o + 68, none⟩) 12 (c - 68))) rfl (by kernel_rfl) (by kernel_rfl) (by kernel_rfl) (fun _ _ _ h => h) (Or.inl ⟨by rfl, ?_⟩) hSw ?_
    · intro w' hSw'
      go_simp
    simp only [Act.put, List.setIfInBounds_toArray, List.set_cons_zero, List.set_cons_succ]
    refine wpAnyH_take (i := 13) (oi := ⟨some 21, _, _, _, _, _⟩) (v := (.slice (some ⟨b, o, none⟩) 80 c)) rfl (by kernel_rfl) (by kernel_rfl) (by kernel_rfl) (fun _ _ _ h => h) (Or.inl ⟨by rfl, ?_⟩) hSw ?_
    · intro w' hSw'
      go_simp
    simp only [Act.put, List.setIfInBounds_toArray, List.set_cons_zero, List.set_cons_succ]
    refine wpAnyH_take (i := 14) (oi := ⟨some 22, _, _, _, _, _⟩) (v := (.slice (some ⟨b, o + 72, none⟩) 8 (c - 72))) rfl (by kernel_rfl) (by kernel_rfl) (by kernel_rfl) (fun _ _ _ h => h) (Or.inl ⟨by rfl, ?_⟩) hSw ?_
    · intro w' hSw'
      go_simp
    simp only [Act.put, List.setIfInBounds_toArray, List.set_cons_zero, List.set_cons_succ]
    refine wpAnyH_take (i := 16) (oi := ⟨some 24, _, _, _, _, _⟩) (v := (.slice (some ⟨b, o, none⟩) 80 c)) rfl (by kernel_rfl) (by kernel_rfl) (by kernel_rfl) (fun _ _ _ h => h) (Or.inl ⟨by rfl, ?_⟩) hSw ?_
    · intro w' hSw'
      go_simp
    simp only [Act.put, List.setIfInBounds_toArray, List.set_cons_zero, List.set_cons_succ]
    refine wpAnyH_take (i := 17) (oi := ⟨some 25, _, _, _, _, _⟩) (v := (.slice (some ⟨b, o + 76, none⟩) 4 (c - 76))) rfl (by kernel_rfl) (by kernel_rfl) (by kernel_rfl) (fun _ _ _ h => h) (Or.inl ⟨by rfl, ?_⟩) hSw ?_
    · intro w' hSw'
      go_simp
    simp only [Act.put, List.setIfInBounds_toArray, List.set_cons_zero, List.set_cons_succ]
    refine wpAnyH_ready (rs := [1]) (by kernel_rfl) (by simp) (AllReadyH.cons (o := ⟨some 9, _, _, _, _, _⟩) rfl (fun K hK => ?_) AllReadyH.nil)
    have G4 := get4_list _ b (o + 0) 80 (c) _ q0 (row_sub hSw.1 0 4) (by omega)
    rw [show ofLE ((l.drop 0).take 4) = n4 l 0 from rfl] at G4
    replace G4 := Lib.hid G4
    go_simp
    go_at_call 59
    refine G4.out.mono ?_
    rintro e5 w5 ⟨rfl, nd, hw5⟩
    clear G4
    dsimp only
    refine hK.out _ _ ((by rw [hw5]; exact ⟨drewN_row hSw.1 nd, hSw.2.1.drewN nd, hSw.2.2.trans (((Only.refl (fun _ => False) _).drewN nd).below hSw.2.2.size (fun _ _ h => h))⟩)) ?_
    intro hSw
    clear hK K
    try simp only [Act.put, List.setIfInBounds_toArray, List.set_cons_zero, List.set_cons_succ]
    clear hw5
    refine wpAnyH_ready (rs := [12]) (by kernel_rfl) (by simp) (AllReadyH.cons (o := ⟨some 20, _, _, _, _, _⟩) rfl (fun K hK => ?_) AllReadyH.nil)
    have G4 := get4_list _ b (o + 68) 12 (c - 68) _ q1 (row_sub hSw.1 68 4) (by omega)
    rw [show ofLE ((l.drop 68).take 4) = n4 l 68 from rfl] at G4
    replace G4 := Lib.hid G4
    go_simp
    go_at_call 59
    refine G4.out.mono ?_
    rintro e5 w5 ⟨rfl, nd, hw5⟩
    clear G4
    dsimp only
    refine hK.out _ _ ((by rw [hw5]; exact ⟨drewN_row hSw.1 nd, hSw.2.1.drewN nd, hSw.2.2.trans (((Only.refl (fun _ => False) _).drewN nd).below hSw.2.2.size (fun _ _ h => h))⟩)) ?_
    intro hSw
    clear hK K
    try simp only [Act.put, List.setIfInBounds_toArray, List.set_cons_zero, List.set_cons_succ]
    clear hw5
    refine wpAnyH_ready (rs := [15]) (by kernel_rfl) (by simp) (AllReadyH.cons (o := ⟨some 23, _, _, _, _, _⟩) rfl (fun K hK => ?_) AllReadyH.nil)
    have G4 := get4_list _ b (o + 72) 8 (c - 72) _ q2 (row_sub hSw.1 72 4) (by omega)
    rw [show ofLE ((l.drop 72).take 4) = n4 l 72 from rfl] at G4
    replace G4 := Lib.hid G4
    go_simp
    go_at_call 59
    refine G4.out.mono ?_
    rintro e5 w5 ⟨rfl, nd, hw5⟩
    clear G4
    dsimp only
    refine hK.out _ _ ((by rw [hw5]; exact ⟨drewN_row hSw.1 nd, hSw.2.1.drewN nd, hSw.2.2.trans (((Only.refl (fun _ => False) _).drewN nd).below hSw.2.2.size (fun _ _ h => h))⟩)) ?_
    intro hSw
    clear hK K
    try simp only [Act.put, List.setIfInBounds_toArray, List.set_cons_zero, List.set_cons_succ]
    clear hw5
    refine wpAnyH_ready (rs := [18]) (by kernel_rfl) (by simp) (AllReadyH.cons (o := ⟨some 26, _, _, _, _, _⟩) rfl (fun K hK => ?_) AllReadyH.nil)
    have G4 := get4_list _ b (o + 76) 4 (c - 76) _ q3 (row_sub hSw.1 76 4) (by omega)
    rw [show ofLE ((l.drop 76).take 4) = n4 l 76 from rfl] at G4
    replace G4 := Lib.hid G4
    go_simp
    go_at_call 59
    refine G4.out.mono ?_
    rintro e5 w5 ⟨rfl, nd, hw5⟩
    clear G4
    dsimp only
    refine hK.out _ _ ((by rw [hw5]; exact ⟨drewN_row hSw.1 nd, hSw.2.1.drewN nd, hSw.2.2.trans (((Only.refl (fun _ => False) _).drewN nd).below hSw.2.2.size (fun _ _ h => h))⟩)) ?_
    intro hSw
    clear hK K
    try simp only [Act.put, List.setIfInBounds_toArray, List.set_cons_zero, List.set_cons_succ]
    clear hw5
    refine wpAnyH_take (i := 19) (oi := ⟨some 27, _, _, _, _, _⟩) (v := (.agg (hdrC (n4 l 0) (id32 l 4) (id32 l 36) (n4 l 68) (n4 l 72) (n4 l 76)).toArray)) rfl (by kernel_rfl) (by kernel_rfl) (by kernel_rfl) (fun _ _ _ h => h) (Or.inl ⟨by rfl, ?_⟩) hSw ?_
    · intro w' hSw'
      exact exec_build rfl (by simp [Act.eval]) (hbh.out)
    simp only [Act.put, List.setIfInBounds_toArray, List.set_cons_zero, List.set_cons_succ]
    refine wpAnyH_done (by kernel_rfl) ?_ _
    show wpList _ _ _ _ _ _
    replace HZ := Lib.hid hSw.2.1
    replace HBL := Lib.hid hSw.2.2
    clear hSw hbh
    have hl68 := hdrC_len (n4 l 0) (id32 l 4) (id32 l 36) (n4 l 68) (n4 l 72) (n4 l 76) i1 i2
    go_wp2_with (with_reducible refine wpList_stb rfl 43 (.tmp 2) (.tmp 27) rfl q 0 _ rfl rfl 43 z HZ.out ?h1 ?h2 ?h3 ?_)
    case h1 => simp [hl68, HZL.out]
    case h2 => rw [infoHdr]; simp [hl68]
    case h3 => exact hdrC_one _ _ _ _ _ _
    intro w6 b6 o6
    rw [over_all _ _ (by simp [hl68, HZL.out])] at b6
    have HB6 := Lib.hid b6
    have O6 := Lib.hid o6
    clear b6 o6
    go_wp2
    refine bodyPost_ret (results_row_tmp rfl _ _ q 43 (hdrC (n4 l 0) (id32 l 4) (id32 l 36) (n4 l 68) (n4 l 72) (n4 l 76)).toArray (0, 0) _ rfl HB6.out Try.underlying43 rfl (by rw [infoHdr]; simp [hl68])) rfl ?_
    exact ⟨rfl, HBL.out.trans (O6.out.below HBL.out.size (fun b hb e => by have := HQ.out; omega))⟩
  · have hR : hdrR l = hdrC 0 z32 z32 0 0 0 := by rw [hdrR, if_neg h80]
    have hE : hdrE l = 6 := by rw [hdrE, if_neg h80]
    rw [hR, hE]
    have e1 : ((n : Int) == 80) = false := by simp; omega
    have e2 : ((n : Int) != 80) = true := by simp; omega
    clear hR hE hn hs h80
    go_enter Try.func31, Try.ntmps31
    go_upto_region 1 with fail
    generalize hW : World.alloc w _ = W
    have hz : ∃ z : List Value, z.length = 68 ∧ Blk W w.heap.size 43 z.toArray := by rw [← hW]; exact ⟨_, by rfl, Blk.new _ _ _⟩
    obtain ⟨z, hzl, hz⟩ := hz
    have hbl : Below w.heap.size w W := by rw [← hW]; exact (Below.refl _ _).alloc (Nat.le_refl _) _
    clear hW
    obtain ⟨q, hq⟩ : ∃ q, w.heap.size = q := ⟨_, rfl⟩
    rw [hq] at hz ⊢
    have HQ := Lib.hid hq
    have HZ := Lib.hid hz
    have HBL := Lib.hid hbl
    have HZL := Lib.hid hzl
    clear hq hz hbl hzl
    go_wp2_with (first
      | (with_reducible refine wpList_bld rfl 43 _ rfl [] _ built_hdr0 (by simp [Act.eval, Act.put]) ?_)
      | (with_reducible refine wpList_stb rfl 43 (.tmp 2) (.tmp 7) rfl q 0 _ rfl rfl 43 z HZ.out ?g1 ?g2 ?g3 ?_))
    case g1 => simp [hdrC_len 0 z32 z32 0 0 0 rfl rfl, HZL.out]
    case g2 => rw [infoHdr]; simp [hdrC_len 0 z32 z32 0 0 0 rfl rfl]
    case g3 => exact hdrC_one _ _ _ _ _ _
    intro w6 b6 o6
    rw [over_all _ _ (by simp [hdrC_len 0 z32 z32 0 0 0 rfl rfl, HZL.out])] at b6
    have HB6 := Lib.hid b6
    have O6 := Lib.hid o6
    clear b6 o6
    go_wp2
    refine bodyPost_ret (results_row_tmp rfl _ _ q 43 (hdrC 0 z32 z32 0 0 0).toArray (0, 0) _ rfl HB6.out Try.underlying43 rfl (by rw [infoHdr]; simp [hdrC_len 0 z32 z32 0 0 0 rfl rfl])) rfl ?_
    exact ⟨rfl, HBL.out.trans (O6.out.below HBL.out.size (fun b hb e => by have := HQ.out; omega))⟩
end Go.Proofs.Ytpcombaecbjmfaa
