/- The document's bytes of a header, of a block. -/
import Derived.Test.YtnonabmbichfnaaBy
import Derived.Test.YtnonabmbichfnaaTk
namespace Go.Proofs.Ytnonabmbichfnaa
open Go.RowKit
set_option maxRecDepth 20000 in
set_option maxHeartbeats 400000 in
theorem four_any (n : Nat) (w : World) (hn : n < 4294967296) :
    Calls Try.prog 60 #[.int .u32 (n : Int)] w fun e w' => e = .returned (.string (bstr (les 4 n))) ∧ Below w.heap.size w w' := by
  have HN := Lib.hid hn
  clear hn
  go_enter Try.func60, Try.ntmps60
  go_wp2
  go_loopg [0, 3, 4] 4 (fun q v0 v3 v4 wr => ∃ (j m : Nat) (s : ByteArray), j + q = 4 ∧ v4 = .int .i64 j ∧ v0 = .int .u32 (m : Int) ∧ v3 = .string s ∧ Hid (m = n / 256 ^ j) ∧ Hid (s = bstr (les j n)) ∧ Hid (Below w.heap.size w wr))
  case atStart => exact ⟨0, n, _, by omega, rfl, rfl, rfl, by simp [Hid], rfl, Below.refl _ _⟩
  case round =>
    obtain ⟨j, m, s, hj, rfl, rfl, rfl, HM, HS, HB⟩ := hrel
    by_cases hlt : (j : Int) < 4
    · have hb := run_byte Try.underlying54 Try.underlying5 Try.underlying9 wr ((m : Int) % 256) (UInt8.ofNat m) (byte_mod m _ (by omega)) 5
      have hw : IntKind.u32.wrap ((m : Int) / 256) = (m : Int) / 256 := by rw [IntKind.wrap_u32]; have := HN.out; have h2 : m ≤ n := (by rw [HM.out]; exact Nat.div_le_self _ _); omega
      have hss : s.size ≤ 1000 := by rw [HS.out, bstr_size, les_length]; omega
      go_wp2
      go_roundg (4 - 1 - j)
      case measure => omega
      case rel =>
        refine ⟨j + 1, m / 256, _, by omega, by go_num, by go_num, rfl, by rw [Hid, HM.out, div_pow], ?_, HB.out.alloc HB.out.size _⟩
        rw [Hid, HS.out, bstr_append, les_succ, leb, HM.out]
    · go_wp2
      go_ret
      obtain rfl : j = 4 := by omega
      exact ⟨by rw [← HS.out]; rfl, HB.out⟩
theorem isB_sl {w : World} {ok : Nat → Prop} {A : Option Addr} {l : List UInt8} (h : Sl w ok 1 A 32 (bts l)) (hl : l.length = 32) : IsB w ok (.slice A 32 32) l := ⟨A, 32, 32, rfl, hl.symm, Nat.le_refl _, h⟩
set_option maxRecDepth 20000 in
set_option maxHeartbeats 4000000 in
set_option linter.unusedSimpArgs false in
theorem hdr05_any (w : World) (v t b n : Nat) (prev root : List UInt8) (h1 : prev.length = 32) (h2 : root.length = 32) (hv : v < 4294967296) (ht : t < 4294967296) (hbb : b < 4294967296) (hn : n < 4294967296) :
    Calls Try.prog 46 #[.agg (hdrC v prev root t b n).toArray] w fun e w' => e = .returned (.string (bstr (hdrB v prev root t b n))) ∧ Below w.heap.size w w' := by
  have H1 := Lib.hid h1
  have H2 := Lib.hid h2
  have HV := Lib.hid hv
  have HT := Lib.hid ht
  have HBB := Lib.hid hbb
  have HN := Lib.hid hn
  clear hv ht hbb hn
  go_enter Try.func46, Try.ntmps46
  go_upto_region 1 with fail
  generalize hW : World.alloc w _ = W
  have hb1 : Blk W w.heap.size 39 (hdrC v prev root t b n).toArray := by rw [← hW]; exact Blk.new _ _ _
  have hbl : Below w.heap.size w W := by rw [← hW]; exact (Below.refl _ _).alloc (Nat.le_refl _) _
  clear hW
  obtain ⟨g, hg⟩ : ∃ g, w.heap.size = g := ⟨_, rfl⟩
  rw [hg] at hb1 ⊢
  have HG := Lib.hid hg
  have HB := Lib.hid hb1
  have HBL := Lib.hid hbl
  clear hg hb1 hbl
  have s1 : (bstr (les 4 v)).size = 4 := by rw [bstr_size, les_length]
  have s2 : (bstr prev).size = 32 := by rw [bstr_size, h1]
  have s3 : (bstr root).size = 32 := by rw [bstr_size, h2]
  have s4 : (bstr (les 4 t)).size = 4 := by rw [bstr_size, les_length]
  have s5 : (bstr (les 4 b)).size = 4 := by rw [bstr_size, les_length]
  have s6 : (bstr (les 4 n)).size = 4 := by rw [bstr_size, les_length]
  have z1 : (bstr (les 4 v ++ prev)).size = 36 := by simp [bstr_size, les_length, h1]
  have z2 : (bstr (les 4 v ++ prev ++ root)).size = 68 := by simp [bstr_size, les_length, h1, h2]
  have z3 : (bstr (les 4 v ++ prev ++ root ++ les 4 t)).size = 72 := by simp [bstr_size, les_length, h1, h2]
  have z4 : (bstr (les 4 v ++ prev ++ root ++ les 4 t ++ les 4 b)).size = 76 := by simp [bstr_size, les_length, h1, h2]
  have z5 : (bstr (les 4 v ++ prev ++ root ++ les 4 t ++ les 4 b ++ les 4 n)).size = 80 := by simp [bstr_size, les_length, h1, h2]
  have p1 := bstr_append (les 4 v) prev
  have p2 := bstr_append (les 4 v ++ prev) root
  have p3 : bstr (les 4 v ++ (prev ++ root)) ++ bstr (les 4 t) = bstr (les 4 v ++ (prev ++ (root ++ les 4 t))) := by rw [bstr_append]; simp only [List.append_assoc]
  have p4 : bstr (les 4 v ++ (prev ++ (root ++ les 4 t))) ++ bstr (les 4 b) = bstr (les 4 v ++ (prev ++ (root ++ (les 4 t ++ les 4 b)))) := by rw [bstr_append]; simp only [List.append_assoc]
  have p5 : bstr (les 4 v ++ (prev ++ (root ++ (les 4 t ++ les 4 b)))) ++ bstr (les 4 n) = bstr (les 4 v ++ (prev ++ (root ++ (les 4 t ++ (les 4 b ++ les 4 n))))) := by rw [bstr_append]; simp only [List.append_assoc]
  have l1 : (les 4 v).length = 4 := les_length _ _
  have l2 : (les 4 t).length = 4 := les_length _ _
  have l3 : (les 4 b).length = 4 := les_length _ _
  have l4 : (les 4 n).length = 4 := les_length _ _
  go_wp2_with fail
  refine wp_region_held_drew (S := (fun w' => Blk w' g 39 (hdrC v prev root t b n).toArray ∧ Below w.heap.size w w')) (by kernel_rfl) (⟨HB.out.drew, HBL.out.drew⟩) ?_
  intro hSw
  refine wpAnyH_take (i := 0) (oi := ⟨some 3, _, _, _, _, _⟩) (v := (.pointer (some ⟨g, 0, none⟩))) rfl (by kernel_rfl) (by kernel_rfl) (by kernel_rfl) (fun _ _ _ h => h) (Or.inl ⟨by rfl, ?_⟩) hSw ?_
  · intro w' hSw'
    have c0 := hdr_cell0 hSw'.1
    have cT := hdr_cellT hSw'.1 H1.out H2.out
    have k1 := IsB.str (isB_sl (hdr_prev hSw'.1 H1.out) H1.out) (P := Try.prog) (src := 54) (dst := 9) Try.underlying54 Try.underlying5 Try.underlying9
    have k2 := IsB.str (isB_sl (hdr_root hSw'.1 H1.out H2.out) H2.out) (P := Try.prog) (src := 54) (dst := 9) Try.underlying54 Try.underlying5 Try.underlying9
    go_simp
  simp only [Act.put, List.setIfInBounds_toArray, List.set_cons_zero, List.set_cons_succ]
  refine wpAnyH_take (i := 1) (oi := ⟨some 4, _, _, _, _, _⟩) (v := (.int .u32 ((v : Nat) : Int))) rfl (by kernel_rfl) (by kernel_rfl) (by kernel_rfl) (fun _ _ _ h => h) (Or.inl ⟨by rfl, ?_⟩) hSw ?_
  · intro w' hSw'
    have c0 := hdr_cell0 hSw'.1
    have cT := hdr_cellT hSw'.1 H1.out H2.out
    have k1 := IsB.str (isB_sl (hdr_prev hSw'.1 H1.out) H1.out) (P := Try.prog) (src := 54) (dst := 9) Try.underlying54 Try.underlying5 Try.underlying9
    have k2 := IsB.str (isB_sl (hdr_root hSw'.1 H1.out H2.out) H2.out) (P := Try.prog) (src := 54) (dst := 9) Try.underlying54 Try.underlying5 Try.underlying9
    go_simp
  simp only [Act.put, List.setIfInBounds_toArray, List.set_cons_zero, List.set_cons_succ]
  refine wpAnyH_take (i := 3) (oi := ⟨some 6, _, _, _, _, _⟩) (v := (.pointer (some ⟨g, 1, none⟩))) rfl (by kernel_rfl) (by kernel_rfl) (by kernel_rfl) (fun _ _ _ h => h) (Or.inl ⟨by rfl, ?_⟩) hSw ?_
  · intro w' hSw'
    have c0 := hdr_cell0 hSw'.1
    have cT := hdr_cellT hSw'.1 H1.out H2.out
    have k1 := IsB.str (isB_sl (hdr_prev hSw'.1 H1.out) H1.out) (P := Try.prog) (src := 54) (dst := 9) Try.underlying54 Try.underlying5 Try.underlying9
    have k2 := IsB.str (isB_sl (hdr_root hSw'.1 H1.out H2.out) H2.out) (P := Try.prog) (src := 54) (dst := 9) Try.underlying54 Try.underlying5 Try.underlying9
    go_simp
  simp only [Act.put, List.setIfInBounds_toArray, List.set_cons_zero, List.set_cons_succ]
  refine wpAnyH_take (i := 4) (oi := ⟨some 7, _, _, _, _, _⟩) (v := (.slice (some ⟨g, 1, none⟩) 32 32)) rfl (by kernel_rfl) (by kernel_rfl) (by kernel_rfl) (fun _ _ _ h => h) (Or.inl ⟨by rfl, ?_⟩) hSw ?_
  · intro w' hSw'
    have c0 := hdr_cell0 hSw'.1
    have cT := hdr_cellT hSw'.1 H1.out H2.out
    have k1 := IsB.str (isB_sl (hdr_prev hSw'.1 H1.out) H1.out) (P := Try.prog) (src := 54) (dst := 9) Try.underlying54 Try.underlying5 Try.underlying9
    have k2 := IsB.str (isB_sl (hdr_root hSw'.1 H1.out H2.out) H2.out) (P := Try.prog) (src := 54) (dst := 9) Try.underlying54 Try.underlying5 Try.underlying9
    go_simp
  simp only [Act.put, List.setIfInBounds_toArray, List.set_cons_zero, List.set_cons_succ]
  refine wpAnyH_take (i := 5) (oi := ⟨some 8, _, _, _, _, _⟩) (v := (.string (bstr prev))) rfl (by kernel_rfl) (by kernel_rfl) (by kernel_rfl) (fun _ _ _ h => h) (Or.inl ⟨by rfl, ?_⟩) hSw ?_
  · intro w' hSw'
    have c0 := hdr_cell0 hSw'.1
    have cT := hdr_cellT hSw'.1 H1.out H2.out
    have k1 := IsB.str (isB_sl (hdr_prev hSw'.1 H1.out) H1.out) (P := Try.prog) (src := 54) (dst := 9) Try.underlying54 Try.underlying5 Try.underlying9
    have k2 := IsB.str (isB_sl (hdr_root hSw'.1 H1.out H2.out) H2.out) (P := Try.prog) (src := 54) (dst := 9) Try.underlying54 Try.underlying5 Try.underlying9
    go_simp
  simp only [Act.put, List.setIfInBounds_toArray, List.set_cons_zero, List.set_cons_succ]
  refine wpAnyH_take (i := 7) (oi := ⟨some 10, _, _, _, _, _⟩) (v := (.pointer (some ⟨g, 33, none⟩))) rfl (by kernel_rfl) (by kernel_rfl) (by kernel_rfl) (fun _ _ _ h => h) (Or.inl ⟨by rfl, ?_⟩) hSw ?_
  · intro w' hSw'
    have c0 := hdr_cell0 hSw'.1
    have cT := hdr_cellT hSw'.1 H1.out H2.out
    have k1 := IsB.str (isB_sl (hdr_prev hSw'.1 H1.out) H1.out) (P := Try.prog) (src := 54) (dst := 9) Try.underlying54 Try.underlying5 Try.underlying9
    have k2 := IsB.str (isB_sl (hdr_root hSw'.1 H1.out H2.out) H2.out) (P := Try.prog) (src := 54) (dst := 9) Try.underlying54 Try.underlying5 Try.underlying9
    go_simp
  simp only [Act.put, List.setIfInBounds_toArray, List.set_cons_zero, List.set_cons_succ]
  refine wpAnyH_take (i := 8) (oi := ⟨some 11, _, _, _, _, _⟩) (v := (.slice (some ⟨g, 33, none⟩) 32 32)) rfl (by kernel_rfl) (by kernel_rfl) (by kernel_rfl) (fun _ _ _ h => h) (Or.inl ⟨by rfl, ?_⟩) hSw ?_
  · intro w' hSw'
    have c0 := hdr_cell0 hSw'.1
    have cT := hdr_cellT hSw'.1 H1.out H2.out
    have k1 := IsB.str (isB_sl (hdr_prev hSw'.1 H1.out) H1.out) (P := Try.prog) (src := 54) (dst := 9) Try.underlying54 Try.underlying5 Try.underlying9
    have k2 := IsB.str (isB_sl (hdr_root hSw'.1 H1.out H2.out) H2.out) (P := Try.prog) (src := 54) (dst := 9) Try.underlying54 Try.underlying5 Try.underlying9
    go_simp
  simp only [Act.put, List.setIfInBounds_toArray, List.set_cons_zero, List.set_cons_succ]
  refine wpAnyH_take (i := 9) (oi := ⟨some 12, _, _, _, _, _⟩) (v := (.string (bstr root))) rfl (by kernel_rfl) (by kernel_rfl) (by kernel_rfl) (fun _ _ _ h => h) (Or.inl ⟨by rfl, ?_⟩) hSw ?_
  · intro w' hSw'
    have c0 := hdr_cell0 hSw'.1
    have cT := hdr_cellT hSw'.1 H1.out H2.out
    have k1 := IsB.str (isB_sl (hdr_prev hSw'.1 H1.out) H1.out) (P := Try.prog) (src := 54) (dst := 9) Try.underlying54 Try.underlying5 Try.underlying9
    have k2 := IsB.str (isB_sl (hdr_root hSw'.1 H1.out H2.out) H2.out) (P := Try.prog) (src := 54) (dst := 9) Try.underlying54 Try.underlying5 Try.underlying9
    go_simp
  simp only [Act.put, List.setIfInBounds_toArray, List.set_cons_zero, List.set_cons_succ]
  refine wpAnyH_take (i := 11) (oi := ⟨some 14, _, _, _, _, _⟩) (v := (.pointer (some ⟨g, 65, none⟩))) rfl (by kernel_rfl) (by kernel_rfl) (by kernel_rfl) (fun _ _ _ h => h) (Or.inl ⟨by rfl, ?_⟩) hSw ?_
  · intro w' hSw'
    have c0 := hdr_cell0 hSw'.1
    have cT := hdr_cellT hSw'.1 H1.out H2.out
    have k1 := IsB.str (isB_sl (hdr_prev hSw'.1 H1.out) H1.out) (P := Try.prog) (src := 54) (dst := 9) Try.underlying54 Try.underlying5 Try.underlying9
    have k2 := IsB.str (isB_sl (hdr_root hSw'.1 H1.out H2.out) H2.out) (P := Try.prog) (src := 54) (dst := 9) Try.underlying54 Try.underlying5 Try.underlying9
    go_simp
  simp only [Act.put, List.setIfInBounds_toArray, List.set_cons_zero, List.set_cons_succ]
  refine wpAnyH_take (i := 12) (oi := ⟨some 15, _, _, _, _, _⟩) (v := (.int .u32 ((t : Nat) : Int))) rfl (by kernel_rfl) (by kernel_rfl) (by kernel_rfl) (fun _ _ _ h => h) (Or.inl ⟨by rfl, ?_⟩) hSw ?_
  · intro w' hSw'
    have c0 := hdr_cell0 hSw'.1
    have cT := hdr_cellT hSw'.1 H1.out H2.out
    have k1 := IsB.str (isB_sl (hdr_prev hSw'.1 H1.out) H1.out) (P := Try.prog) (src := 54) (dst := 9) Try.underlying54 Try.underlying5 Try.underlying9
    have k2 := IsB.str (isB_sl (hdr_root hSw'.1 H1.out H2.out) H2.out) (P := Try.prog) (src := 54) (dst := 9) Try.underlying54 Try.underlying5 Try.underlying9
    go_simp
  simp only [Act.put, List.setIfInBounds_toArray, List.set_cons_zero, List.set_cons_succ]
  refine wpAnyH_take (i := 15) (oi := ⟨some 18, _, _, _, _, _⟩) (v := (.pointer (some ⟨g, 66, none⟩))) rfl (by kernel_rfl) (by kernel_rfl) (by kernel_rfl) (fun _ _ _ h => h) (Or.inl ⟨by rfl, ?_⟩) hSw ?_
  · intro w' hSw'
    have c0 := hdr_cell0 hSw'.1
    have cT := hdr_cellT hSw'.1 H1.out H2.out
    have k1 := IsB.str (isB_sl (hdr_prev hSw'.1 H1.out) H1.out) (P := Try.prog) (src := 54) (dst := 9) Try.underlying54 Try.underlying5 Try.underlying9
    have k2 := IsB.str (isB_sl (hdr_root hSw'.1 H1.out H2.out) H2.out) (P := Try.prog) (src := 54) (dst := 9) Try.underlying54 Try.underlying5 Try.underlying9
    go_simp
  simp only [Act.put, List.setIfInBounds_toArray, List.set_cons_zero, List.set_cons_succ]
  refine wpAnyH_take (i := 16) (oi := ⟨some 19, _, _, _, _, _⟩) (v := (.int .u32 ((b : Nat) : Int))) rfl (by kernel_rfl) (by kernel_rfl) (by kernel_rfl) (fun _ _ _ h => h) (Or.inl ⟨by rfl, ?_⟩) hSw ?_
  · intro w' hSw'
    have c0 := hdr_cell0 hSw'.1
    have cT := hdr_cellT hSw'.1 H1.out H2.out
    have k1 := IsB.str (isB_sl (hdr_prev hSw'.1 H1.out) H1.out) (P := Try.prog) (src := 54) (dst := 9) Try.underlying54 Try.underlying5 Try.underlying9
    have k2 := IsB.str (isB_sl (hdr_root hSw'.1 H1.out H2.out) H2.out) (P := Try.prog) (src := 54) (dst := 9) Try.underlying54 Try.underlying5 Try.underlying9
    go_simp
  simp only [Act.put, List.setIfInBounds_toArray, List.set_cons_zero, List.set_cons_succ]
  refine wpAnyH_take (i := 19) (oi := ⟨some 22, _, _, _, _, _⟩) (v := (.pointer (some ⟨g, 67, none⟩))) rfl (by kernel_rfl) (by kernel_rfl) (by kernel_rfl) (fun _ _ _ h => h) (Or.inl ⟨by rfl, ?_⟩) hSw ?_
  · intro w' hSw'
    have c0 := hdr_cell0 hSw'.1
    have cT := hdr_cellT hSw'.1 H1.out H2.out
    have k1 := IsB.str (isB_sl (hdr_prev hSw'.1 H1.out) H1.out) (P := Try.prog) (src := 54) (dst := 9) Try.underlying54 Try.underlying5 Try.underlying9
    have k2 := IsB.str (isB_sl (hdr_root hSw'.1 H1.out H2.out) H2.out) (P := Try.prog) (src := 54) (dst := 9) Try.underlying54 Try.underlying5 Try.underlying9
    go_simp
  simp only [Act.put, List.setIfInBounds_toArray, List.set_cons_zero, List.set_cons_succ]
  refine wpAnyH_take (i := 20) (oi := ⟨some 23, _, _, _, _, _⟩) (v := (.int .u32 ((n : Nat) : Int))) rfl (by kernel_rfl) (by kernel_rfl) (by kernel_rfl) (fun _ _ _ h => h) (Or.inl ⟨by rfl, ?_⟩) hSw ?_
  · intro w' hSw'
    have c0 := hdr_cell0 hSw'.1
    have cT := hdr_cellT hSw'.1 H1.out H2.out
    have k1 := IsB.str (isB_sl (hdr_prev hSw'.1 H1.out) H1.out) (P := Try.prog) (src := 54) (dst := 9) Try.underlying54 Try.underlying5 Try.underlying9
    have k2 := IsB.str (isB_sl (hdr_root hSw'.1 H1.out H2.out) H2.out) (P := Try.prog) (src := 54) (dst := 9) Try.underlying54 Try.underlying5 Try.underlying9
    go_simp
  simp only [Act.put, List.setIfInBounds_toArray, List.set_cons_zero, List.set_cons_succ]
  refine wpAnyH_ready (rs := [2]) (by kernel_rfl) (by simp) (AllReadyH.cons (o := ⟨some 5, _, _, _, _, _⟩) rfl (fun K hK => ?_) AllReadyH.nil)
  go_simp
  go_at_call 60
  refine (four_any v _ HV.out).mono ?_
  rintro e5 w5 ⟨rfl, a5⟩
  dsimp only
  refine hK.out _ _ (⟨hSw.1.below a5 hSw.1.lt, hSw.2.trans (a5.mono hSw.2.size)⟩) ?_
  intro hSw
  clear hK K
  try simp only [Act.put, List.setIfInBounds_toArray, List.set_cons_zero, List.set_cons_succ]
  refine wpAnyH_take (i := 6) (oi := ⟨some 9, _, _, _, _, _⟩) (v := (.string (bstr (les 4 v ++ prev)))) rfl (by kernel_rfl) (by kernel_rfl) (by kernel_rfl) (fun _ _ _ h => h) (Or.inl ⟨by rfl, ?_⟩) hSw ?_
  · intro w' hSw'
    have c0 := hdr_cell0 hSw'.1
    have cT := hdr_cellT hSw'.1 H1.out H2.out
    have k1 := IsB.str (isB_sl (hdr_prev hSw'.1 H1.out) H1.out) (P := Try.prog) (src := 54) (dst := 9) Try.underlying54 Try.underlying5 Try.underlying9
    have k2 := IsB.str (isB_sl (hdr_root hSw'.1 H1.out H2.out) H2.out) (P := Try.prog) (src := 54) (dst := 9) Try.underlying54 Try.underlying5 Try.underlying9
    go_simp
  simp only [Act.put, List.setIfInBounds_toArray, List.set_cons_zero, List.set_cons_succ]
  refine wpAnyH_take (i := 10) (oi := ⟨some 13, _, _, _, _, _⟩) (v := (.string (bstr (les 4 v ++ prev ++ root)))) rfl (by kernel_rfl) (by kernel_rfl) (by kernel_rfl) (fun _ _ _ h => h) (Or.inl ⟨by rfl, ?_⟩) hSw ?_
  · intro w' hSw'
    have c0 := hdr_cell0 hSw'.1
    have cT := hdr_cellT hSw'.1 H1.out H2.out
    have k1 := IsB.str (isB_sl (hdr_prev hSw'.1 H1.out) H1.out) (P := Try.prog) (src := 54) (dst := 9) Try.underlying54 Try.underlying5 Try.underlying9
    have k2 := IsB.str (isB_sl (hdr_root hSw'.1 H1.out H2.out) H2.out) (P := Try.prog) (src := 54) (dst := 9) Try.underlying54 Try.underlying5 Try.underlying9
    go_simp
  simp only [Act.put, List.setIfInBounds_toArray, List.set_cons_zero, List.set_cons_succ]
  refine wpAnyH_ready (rs := [13]) (by kernel_rfl) (by simp) (AllReadyH.cons (o := ⟨some 16, _, _, _, _, _⟩) rfl (fun K hK => ?_) AllReadyH.nil)
  go_simp
  go_at_call 60
  refine (four_any t _ HT.out).mono ?_
  rintro e5 w5 ⟨rfl, a5⟩
  dsimp only
  refine hK.out _ _ (⟨hSw.1.below a5 hSw.1.lt, hSw.2.trans (a5.mono hSw.2.size)⟩) ?_
  intro hSw
  clear hK K
  try simp only [Act.put, List.setIfInBounds_toArray, List.set_cons_zero, List.set_cons_succ]
  refine wpAnyH_take (i := 14) (oi := ⟨some 17, _, _, _, _, _⟩) (v := (.string (bstr (les 4 v ++ prev ++ root ++ les 4 t)))) rfl (by kernel_rfl) (by kernel_rfl) (by kernel_rfl) (fun _ _ _ h => h) (Or.inl ⟨by rfl, ?_⟩) hSw ?_
  · intro w' hSw'
    have c0 := hdr_cell0 hSw'.1
    have cT := hdr_cellT hSw'.1 H1.out H2.out
    have k1 := IsB.str (isB_sl (hdr_prev hSw'.1 H1.out) H1.out) (P := Try.prog) (src := 54) (dst := 9) Try.underlying54 Try.underlying5 Try.underlying9
    have k2 := IsB.str (isB_sl (hdr_root hSw'.1 H1.out H2.out) H2.out) (P := Try.prog) (src := 54) (dst := 9) Try.underlying54 Try.underlying5 Try.underlying9
    go_simp
  simp only [Act.put, List.setIfInBounds_toArray, List.set_cons_zero, List.set_cons_succ]
  refine wpAnyH_ready (rs := [17]) (by kernel_rfl) (by simp) (AllReadyH.cons (o := ⟨some 20, _, _, _, _, _⟩) rfl (fun K hK => ?_) AllReadyH.nil)
  go_simp
  go_at_call 60
  refine (four_any b _ HBB.out).mono ?_
  rintro e5 w5 ⟨rfl, a5⟩
  dsimp only
  refine hK.out _ _ (⟨hSw.1.below a5 hSw.1.lt, hSw.2.trans (a5.mono hSw.2.size)⟩) ?_
  intro hSw
  clear hK K
  try simp only [Act.put, List.setIfInBounds_toArray, List.set_cons_zero, List.set_cons_succ]
  refine wpAnyH_take (i := 18) (oi := ⟨some 21, _, _, _, _, _⟩) (v := (.string (bstr (les 4 v ++ prev ++ root ++ les 4 t ++ les 4 b)))) rfl (by kernel_rfl) (by kernel_rfl) (by kernel_rfl) (fun _ _ _ h => h) (Or.inl ⟨by rfl, ?_⟩) hSw ?_
  · intro w' hSw'
    have c0 := hdr_cell0 hSw'.1
    have cT := hdr_cellT hSw'.1 H1.out H2.out
    have k1 := IsB.str (isB_sl (hdr_prev hSw'.1 H1.out) H1.out) (P := Try.prog) (src := 54) (dst := 9) Try.underlying54 Try.underlying5 Try.underlying9
    have k2 := IsB.str (isB_sl (hdr_root hSw'.1 H1.out H2.out) H2.out) (P := Try.prog) (src := 54) (dst := 9) Try.underlying54 Try.underlying5 Try.underlying9
    go_simp
  simp only [Act.put, List.setIfInBounds_toArray, List.set_cons_zero, List.set_cons_succ]
  refine wpAnyH_ready (rs := [21]) (by kernel_rfl) (by simp) (AllReadyH.cons (o := ⟨some 24, _, _, _, _, _⟩) rfl (fun K hK => ?_) AllReadyH.nil)
  go_simp
  go_at_call 60
  refine (four_any n _ HN.out).mono ?_
  rintro e5 w5 ⟨rfl, a5⟩
  dsimp only
  refine hK.out _ _ (⟨hSw.1.below a5 hSw.1.lt, hSw.2.trans (a5.mono hSw.2.size)⟩) ?_
  intro hSw
  clear hK K
  try simp only [Act.put, List.setIfInBounds_toArray, List.set_cons_zero, List.set_cons_succ]
  refine wpAnyH_take (i := 22) (oi := ⟨some 25, _, _, _, _, _⟩) (v := (.string (bstr (les 4 v ++ prev ++ root ++ les 4 t ++ les 4 b ++ les 4 n)))) rfl (by kernel_rfl) (by kernel_rfl) (by kernel_rfl) (fun _ _ _ h => h) (Or.inl ⟨by rfl, ?_⟩) hSw ?_
  · intro w' hSw'
    have c0 := hdr_cell0 hSw'.1
    have cT := hdr_cellT hSw'.1 H1.out H2.out
    have k1 := IsB.str (isB_sl (hdr_prev hSw'.1 H1.out) H1.out) (P := Try.prog) (src := 54) (dst := 9) Try.underlying54 Try.underlying5 Try.underlying9
    have k2 := IsB.str (isB_sl (hdr_root hSw'.1 H1.out H2.out) H2.out) (P := Try.prog) (src := 54) (dst := 9) Try.underlying54 Try.underlying5 Try.underlying9
    go_simp
  simp only [Act.put, List.setIfInBounds_toArray, List.set_cons_zero, List.set_cons_succ]
  refine wpAnyH_take (i := 23) (oi := ⟨some 2, _, _, _, _, _⟩) (v := (.string (bstr (les 4 v ++ prev ++ root ++ les 4 t ++ les 4 b ++ les 4 n)))) rfl (by kernel_rfl) (by kernel_rfl) (by kernel_rfl) (fun _ _ _ h => h) (Or.inl ⟨by rfl, ?_⟩) hSw ?_
  · intro w' hSw'
    have c0 := hdr_cell0 hSw'.1
    have cT := hdr_cellT hSw'.1 H1.out H2.out
    have k1 := IsB.str (isB_sl (hdr_prev hSw'.1 H1.out) H1.out) (P := Try.prog) (src := 54) (dst := 9) Try.underlying54 Try.underlying5 Try.underlying9
    have k2 := IsB.str (isB_sl (hdr_root hSw'.1 H1.out H2.out) H2.out) (P := Try.prog) (src := 54) (dst := 9) Try.underlying54 Try.underlying5 Try.underlying9
    go_simp
  simp only [Act.put, List.setIfInBounds_toArray, List.set_cons_zero, List.set_cons_succ]
  refine wpAnyH_done (by kernel_rfl) ?_ _
  clear p1 p2 p3 p4 p5 s1 s2 s3 s4 s5 s6 z1 z2 z3 z4 l1 l2 l3 l4
  go_wp2
  go_ret
  exact ⟨rfl, hSw.2⟩
end Go.Proofs.Ytnonabmbichfnaa
