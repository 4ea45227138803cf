/- The document's bytes of a transaction (layer 7). -/
import Derived.Test.YtnonabmbichfnaaRa
import Derived.Test.YtnonabmbichfnaaTb
import Derived.Test.YtnonabmbichfnaaShw
namespace Go.Proofs.Ytnonabmbichfnaa
open Go.RowKit
theorem isB_in {w : World} {b o : Nat} {id : List UInt8} {ix : Nat} {v : Value} (h : RowAt w b o (inC id ix v)) (hl : id.length = 32) : IsB w (fun _ => True) (.slice (some ⟨b, o, none⟩) 32 32) id :=
  ⟨some ⟨b, o, none⟩, 32, 32, rfl, hl.symm, Nat.le_refl _, by simp [hl], fun _ => ⟨b, o, rfl, trivial, fun j u hj => by
    have hjl := (List.getElem?_eq_some_iff.1 hj).1
    exact h j u (by rw [inC, List.getElem?_append_left hjl]; exact hj)⟩⟩
theorem isB_out {w : World} {b o : Nat} {amt : Int} {lock : List UInt8} (h : RowAt w b o (outC amt lock)) (hl : lock.length = 32) : IsB w (fun _ => True) (.slice (some ⟨b, o + 1, none⟩) 32 32) lock :=
  ⟨some ⟨b, o + 1, none⟩, 32, 32, rfl, hl.symm, Nat.le_refl _, by simp [hl], fun _ => ⟨b, o + 1, rfl, trivial, fun j u hj => by
    have := h (j + 1) u (by rw [outC, List.getElem?_cons_succ]; exact hj)
    rwa [show o + (j + 1) = o + 1 + j by omega] at this⟩⟩
theorem row_in32 {w : World} {b o : Nat} {id : List UInt8} {ix : Nat} {v : Value} (h : RowAt w b o (inC id ix v)) (hl : id.length = 32) : w.cell? ⟨b, o + 32, none⟩ = some (.int .u32 ((ix : Nat) : Int)) :=
  h 32 _ (by rw [inC, List.getElem?_append_right (by simp [hl])]; simp [hl])
theorem row_in33 {w : World} {b o : Nat} {id : List UInt8} {ix : Nat} {v : Value} (h : RowAt w b o (inC id ix v)) (hl : id.length = 32) : w.cell? ⟨b, o + 33, none⟩ = some v :=
  h 33 _ (by rw [inC, List.getElem?_append_right (by simp [hl])]; simp [hl])
theorem row_out0 {w : World} {b o : Nat} {amt : Int} {lock : List UInt8} (h : RowAt w b o (outC amt lock)) : w.cell? ⟨b, o, none⟩ = some (.int .i64 amt) := h 0 _ (by rfl)
theorem wrap_u64n (z : Int) : IntKind.u64.wrap z = ((u64n z : Nat) : Int) := by rw [IntKind.wrap_u64]; unfold u64n; omega
theorem u64n_lt (z : Int) : u64n z < 18446744073709551616 := by unfold u64n; omega
set_option maxRecDepth 20000 in
set_option maxHeartbeats 4000000 in
set_option linter.unusedSimpArgs false in
theorem bytes07_any (w : World) (A A' : Option Addr) (n n' c c' : Nat) (ins : List InT) (outs : List OutT) (ok : Nat → Prop)
    (hi : insSh.rel w ok [.slice A n c] ins) (ho : outsSh.rel w ok [.slice A' n' c'] outs) (hn : ins.length = n) (hn' : outs.length = n') (hf : TxFit (ins, outs, ())) :
    Calls Try.prog 40 #[.agg #[.slice A n c, .slice A' n' c']] w fun e w' => e = .returned (.string (bstr (txB (ins, outs, ())))) ∧ Below w.heap.size w w' := by
  have hn1 : n ≤ 1000 := by have := hf.1; simp only at this; omega
  have hn2 : n' ≤ 1000 := by have := hf.2.1; simp only at this; omega
  have hw64 : IntKind.u64.wrap ((n : Nat) : Int) = ((n : Nat) : Int) := by rw [IntKind.wrap_u64]; omega
  have hw64' : IntKind.u64.wrap ((n' : Nat) : Int) = ((n' : Nat) : Int) := by rw [IntKind.wrap_u64]; omega
  have HI := Lib.hid hi
  have HO := Lib.hid ho
  have HN := Lib.hid hn
  have HN' := Lib.hid hn'
  have HF := Lib.hid hf
  have HN1 := Lib.hid hn1
  have HN2 := Lib.hid hn2
  clear hi ho hn hn' hf hn1 hn2
  go_enter Try.func40, Try.ntmps40
  go_upto_region 1 with fail
  generalize hW : World.alloc w _ = W
  have hb : Blk W w.heap.size 25 #[.slice A n c, .slice A' n' c'] := by rw [← hW]; exact Blk.new _ _ _
  have hbl : Below w.heap.size w W := by rw [← hW]; exact (Below.refl _ _).alloc (Nat.le_refl _) _
  clear hW
  obtain ⟨g, hg⟩ : ∃ g, w.heap.size = g := ⟨_, rfl⟩
  rw [hg] at hb ⊢
  have HG := Lib.hid hg
  have HB := Lib.hid hb
  have HBL := Lib.hid hbl
  have c0 := hb.cell 0
  simp only [List.getElem?_toArray, List.getElem?_cons_zero] at c0
  clear hg hb hbl
  go_wp2_with fail
  refine (count06_any n W (by have := HN1.out; omega)).mono ?_
  rintro e1 w1 ⟨rfl, a1⟩
  replace HB := Lib.hid (HB.out.below a1 HB.out.lt)
  replace HBL := Lib.hid (HBL.out.trans (a1.mono HBL.out.size))
  clear c0 a1
  go_wp2
  go_loopg [3, 4] n (fun q v3 v4 wr => ∃ (j : Nat) (cur : List UInt8), j + q = n ∧ v3 = .string (bstr cur) ∧ v4 = .int .i64 j ∧ Hid (cur = countB n ++ (ins.take j).flatMap inB) ∧ Hid (cur.length ≤ 9 + 10045 * j) ∧ Hid (Blk wr g 25 #[.slice A n c, .slice A' n' c']) ∧ Hid (Below w.heap.size w wr))
  case atStart => exact ⟨0, _, by omega, rfl, rfl, by simp [Hid], by have := countB_len n; simp only [Hid]; omega, HB, HBL⟩
  case round =>
    clear HB HBL
    obtain ⟨j, cur, hj, rfl, rfl, HC, HL, HB, HBL⟩ := hrel
    have c0 := HB.out.cell 0
    simp only [List.getElem?_toArray, List.getElem?_cons_zero] at c0
    by_cases hlt : j < n
    · have hi' := insSh.below HI.out HBL.out (fun _ h _ => h)
      obtain ⟨b, o, id, ix, key, v, rfl, hb, hij, hrow, hkb, hid, hix⟩ := ins_at hi' (by rw [HN.out]; exact hlt)
      have hkl : key.length ≤ 10000 := by have := HF.out.2.2 _ (List.getElem_mem (by rw [HN.out]; exact hlt : j < ins.length)); rw [hij] at this; exact this
      obtain ⟨Ak, nk, ck, rfl, hnk, hkc, hks⟩ := hkb
      have HKB := Lib.hid (show IsB wr ok (.slice Ak nk ck) key from ⟨Ak, nk, ck, rfl, hnk, hkc, hks⟩)
      have HIJ := Lib.hid hij
      have HROW := Lib.hid hrow
      have HID := Lib.hid hid
      have HKL := Lib.hid hkl
      have HIX := Lib.hid hix
      have hwx : IntKind.u64.wrap ((ix : Nat) : Int) = ((ix : Nat) : Int) := by rw [IntKind.wrap_u64]; omega
      have s1 : (bstr id).size = 32 := by rw [bstr_size, hid]
      have s2 : (bstr (les 4 ix)).size = 4 := by rw [bstr_size, les_length]
      have s3 : (bstr (id ++ les 4 ix)).size = 36 := by rw [bstr_size, List.length_append, hid, les_length]
      have s4 : (bstr (countB key.length ++ key)).size ≤ 10009 := by have := countB_len key.length; rw [bstr_size, List.length_append]; omega
      have s5 : (bstr (id ++ les 4 ix ++ (countB key.length ++ key))).size ≤ 10045 := by have := countB_len key.length; simp only [bstr_size, List.length_append, hid, les_length]; omega
      have s6 : (bstr cur).size ≤ 10045009 := by have := HL.out; have := HN1.out; rw [bstr_size]; omega
      have p1 := bstr_append id (les 4 ix)
      have p2 := bstr_append (id ++ les 4 ix) (countB key.length ++ key)
      have p3 : bstr cur ++ bstr (id ++ (les 4 ix ++ (countB key.length ++ key))) = bstr (cur ++ (id ++ (les 4 ix ++ (countB key.length ++ key)))) := bstr_append _ _
      have q1 : 36 + ((countB key.length).length + key.length) ≤ 9223372036854775807 := by have := countB_len key.length; omega
      have q2 : cur.length + (id.length + ((les 4 ix).length + ((countB key.length).length + key.length))) ≤ 9223372036854775807 := by have := countB_len key.length; have := HL.out; have := HN1.out; rw [hid, les_length]; omega
      clear hi' hij hrow hid hb hks hkc hix hnk hkl
      go_wp2
      clear c0
      refine wp_region_held_drew (S := (fun w' => Blk w' g 25 #[.slice (some ⟨b, o, none⟩) n c, .slice A' n' c'] ∧ RowAt w' b (o + j * 34) (inC id ix (.slice Ak nk ck)) ∧ IsB w' (fun _ => True) (.slice Ak nk ck) key ∧ Below w.heap.size w w')) (by kernel_rfl) (⟨HB.out.drew, HROW.out, IsB.weak HKB.out (fun _ _ _ => trivial), HBL.out.drew⟩) ?_
      intro hSw
      refine wpAnyH_take (i := 0) (oi := ⟨some 18, _, _, _, _, _⟩) (v := (.string (bstr cur))) rfl (by kernel_rfl) (by kernel_rfl) (by kernel_rfl) (fun _ _ _ h => h) (Or.inl ⟨by rfl, ?_⟩) hSw ?_
      · intro w' hSw'
        have c0 := hSw'.1.cell 0
        have c32 := row_in32 hSw'.2.1 HID.out
        have c33 := row_in33 hSw'.2.1 HID.out
        have h1 := IsB.str (isB_in hSw'.2.1 HID.out) (P := Try.prog) (src := 54) (dst := 9) Try.underlying54 Try.underlying5 Try.underlying9
        have h2 := IsB.str hSw'.2.2.1 (P := Try.prog) (src := 54) (dst := 9) Try.underlying54 Try.underlying5 Try.underlying9
        simp only [List.getElem?_toArray, List.getElem?_cons_zero] at c0
        go_simp
      simp only [Act.put, List.setIfInBounds_toArray, List.set_cons_zero, List.set_cons_succ]
      refine wpAnyH_take (i := 1) (oi := ⟨some 19, _, _, _, _, _⟩) (v := (.pointer (some ⟨g, 0, none⟩))) rfl (by kernel_rfl) (by kernel_rfl) (by kernel_rfl) (fun _ _ _ h => h) (Or.inl ⟨by rfl, ?_⟩) hSw ?_
      · intro w' hSw'
        have c0 := hSw'.1.cell 0
        have c32 := row_in32 hSw'.2.1 HID.out
        have c33 := row_in33 hSw'.2.1 HID.out
        have h1 := IsB.str (isB_in hSw'.2.1 HID.out) (P := Try.prog) (src := 54) (dst := 9) Try.underlying54 Try.underlying5 Try.underlying9
        have h2 := IsB.str hSw'.2.2.1 (P := Try.prog) (src := 54) (dst := 9) Try.underlying54 Try.underlying5 Try.underlying9
        simp only [List.getElem?_toArray, List.getElem?_cons_zero] at c0
        go_simp
      simp only [Act.put, List.setIfInBounds_toArray, List.set_cons_zero, List.set_cons_succ]
      refine wpAnyH_take (i := 2) (oi := ⟨some 20, _, _, _, _, _⟩) (v := (.slice (some ⟨b, o, none⟩) n c)) rfl (by kernel_rfl) (by kernel_rfl) (by kernel_rfl) (fun _ _ _ h => h) (Or.inl ⟨by rfl, ?_⟩) hSw ?_
      · intro w' hSw'
        have c0 := hSw'.1.cell 0
        have c32 := row_in32 hSw'.2.1 HID.out
        have c33 := row_in33 hSw'.2.1 HID.out
        have h1 := IsB.str (isB_in hSw'.2.1 HID.out) (P := Try.prog) (src := 54) (dst := 9) Try.underlying54 Try.underlying5 Try.underlying9
        have h2 := IsB.str hSw'.2.2.1 (P := Try.prog) (src := 54) (dst := 9) Try.underlying54 Try.underlying5 Try.underlying9
        simp only [List.getElem?_toArray, List.getElem?_cons_zero] at c0
        go_simp
      simp only [Act.put, List.setIfInBounds_toArray, List.set_cons_zero, List.set_cons_succ]
      refine wpAnyH_take (i := 3) (oi := ⟨some 21, _, _, _, _, _⟩) (v := (.int .i64 (j : Int))) rfl (by kernel_rfl) (by kernel_rfl) (by kernel_rfl) (fun _ _ _ h => h) (Or.inl ⟨by rfl, ?_⟩) hSw ?_
      · intro w' hSw'
        have c0 := hSw'.1.cell 0
        have c32 := row_in32 hSw'.2.1 HID.out
        have c33 := row_in33 hSw'.2.1 HID.out
        have h1 := IsB.str (isB_in hSw'.2.1 HID.out) (P := Try.prog) (src := 54) (dst := 9) Try.underlying54 Try.underlying5 Try.underlying9
        have h2 := IsB.str hSw'.2.2.1 (P := Try.prog) (src := 54) (dst := 9) Try.underlying54 Try.underlying5 Try.underlying9
        simp only [List.getElem?_toArray, List.getElem?_cons_zero] at c0
        go_simp
      simp only [Act.put, List.setIfInBounds_toArray, List.set_cons_zero, List.set_cons_succ]
      refine wpAnyH_take (i := 4) (oi := ⟨some 22, _, _, _, _, _⟩) (v := (.pointer (some ⟨b, o + j * 34, none⟩))) rfl (by kernel_rfl) (by kernel_rfl) (by kernel_rfl) (fun _ _ _ h => h) (Or.inl ⟨by rfl, ?_⟩) hSw ?_
      · intro w' hSw'
        have c0 := hSw'.1.cell 0
        have c32 := row_in32 hSw'.2.1 HID.out
        have c33 := row_in33 hSw'.2.1 HID.out
        have h1 := IsB.str (isB_in hSw'.2.1 HID.out) (P := Try.prog) (src := 54) (dst := 9) Try.underlying54 Try.underlying5 Try.underlying9
        have h2 := IsB.str hSw'.2.2.1 (P := Try.prog) (src := 54) (dst := 9) Try.underlying54 Try.underlying5 Try.underlying9
        simp only [List.getElem?_toArray, List.getElem?_cons_zero] at c0
        go_simp
      simp only [Act.put, List.setIfInBounds_toArray, List.set_cons_zero, List.set_cons_succ]
      refine wpAnyH_take (i := 5) (oi := ⟨some 23, _, _, _, _, _⟩) (v := (.pointer (some ⟨b, o + j * 34, none⟩))) rfl (by kernel_rfl) (by kernel_rfl) (by kernel_rfl) (fun _ _ _ h => h) (Or.inl ⟨by rfl, ?_⟩) hSw ?_
      · intro w' hSw'
        have c0 := hSw'.1.cell 0
        have c32 := row_in32 hSw'.2.1 HID.out
        have c33 := row_in33 hSw'.2.1 HID.out
        have h1 := IsB.str (isB_in hSw'.2.1 HID.out) (P := Try.prog) (src := 54) (dst := 9) Try.underlying54 Try.underlying5 Try.underlying9
        have h2 := IsB.str hSw'.2.2.1 (P := Try.prog) (src := 54) (dst := 9) Try.underlying54 Try.underlying5 Try.underlying9
        simp only [List.getElem?_toArray, List.getElem?_cons_zero] at c0
        go_simp
      simp only [Act.put, List.setIfInBounds_toArray, List.set_cons_zero, List.set_cons_succ]
      refine wpAnyH_take (i := 6) (oi := ⟨some 24, _, _, _, _, _⟩) (v := (.pointer (some ⟨b, o + j * 34, none⟩))) rfl (by kernel_rfl) (by kernel_rfl) (by kernel_rfl) (fun _ _ _ h => h) (Or.inl ⟨by rfl, ?_⟩) hSw ?_
      · intro w' hSw'
        have c0 := hSw'.1.cell 0
        have c32 := row_in32 hSw'.2.1 HID.out
        have c33 := row_in33 hSw'.2.1 HID.out
        have h1 := IsB.str (isB_in hSw'.2.1 HID.out) (P := Try.prog) (src := 54) (dst := 9) Try.underlying54 Try.underlying5 Try.underlying9
        have h2 := IsB.str hSw'.2.2.1 (P := Try.prog) (src := 54) (dst := 9) Try.underlying54 Try.underlying5 Try.underlying9
        simp only [List.getElem?_toArray, List.getElem?_cons_zero] at c0
        go_simp
      simp only [Act.put, List.setIfInBounds_toArray, List.set_cons_zero, List.set_cons_succ]
      refine wpAnyH_take (i := 7) (oi := ⟨some 25, _, _, _, _, _⟩) (v := (.slice (some ⟨b, o + j * 34, none⟩) 32 32)) rfl (by kernel_rfl) (by kernel_rfl) (by kernel_rfl) (fun _ _ _ h => h) (Or.inl ⟨by rfl, ?_⟩) hSw ?_
      · intro w' hSw'
        have c0 := hSw'.1.cell 0
        have c32 := row_in32 hSw'.2.1 HID.out
        have c33 := row_in33 hSw'.2.1 HID.out
        have h1 := IsB.str (isB_in hSw'.2.1 HID.out) (P := Try.prog) (src := 54) (dst := 9) Try.underlying54 Try.underlying5 Try.underlying9
        have h2 := IsB.str hSw'.2.2.1 (P := Try.prog) (src := 54) (dst := 9) Try.underlying54 Try.underlying5 Try.underlying9
        simp only [List.getElem?_toArray, List.getElem?_cons_zero] at c0
        go_simp
      simp only [Act.put, List.setIfInBounds_toArray, List.set_cons_zero, List.set_cons_succ]
      refine wpAnyH_take (i := 8) (oi := ⟨some 26, _, _, _, _, _⟩) (v := (.string (bstr id))) rfl (by kernel_rfl) (by kernel_rfl) (by kernel_rfl) (fun _ _ _ h => h) (Or.inl ⟨by rfl, ?_⟩) hSw ?_
      · intro w' hSw'
        have c0 := hSw'.1.cell 0
        have c32 := row_in32 hSw'.2.1 HID.out
        have c33 := row_in33 hSw'.2.1 HID.out
        have h1 := IsB.str (isB_in hSw'.2.1 HID.out) (P := Try.prog) (src := 54) (dst := 9) Try.underlying54 Try.underlying5 Try.underlying9
        have h2 := IsB.str hSw'.2.2.1 (P := Try.prog) (src := 54) (dst := 9) Try.underlying54 Try.underlying5 Try.underlying9
        simp only [List.getElem?_toArray, List.getElem?_cons_zero] at c0
        go_simp
      simp only [Act.put, List.setIfInBounds_toArray, List.set_cons_zero, List.set_cons_succ]
      refine wpAnyH_take (i := 9) (oi := ⟨some 27, _, _, _, _, _⟩) (v := (.pointer (some ⟨g, 0, none⟩))) rfl (by kernel_rfl) (by kernel_rfl) (by kernel_rfl) (fun _ _ _ h => h) (Or.inl ⟨by rfl, ?_⟩) hSw ?_
      · intro w' hSw'
        have c0 := hSw'.1.cell 0
        have c32 := row_in32 hSw'.2.1 HID.out
        have c33 := row_in33 hSw'.2.1 HID.out
        have h1 := IsB.str (isB_in hSw'.2.1 HID.out) (P := Try.prog) (src := 54) (dst := 9) Try.underlying54 Try.underlying5 Try.underlying9
        have h2 := IsB.str hSw'.2.2.1 (P := Try.prog) (src := 54) (dst := 9) Try.underlying54 Try.underlying5 Try.underlying9
        simp only [List.getElem?_toArray, List.getElem?_cons_zero] at c0
        go_simp
      simp only [Act.put, List.setIfInBounds_toArray, List.set_cons_zero, List.set_cons_succ]
      refine wpAnyH_take (i := 10) (oi := ⟨some 28, _, _, _, _, _⟩) (v := (.slice (some ⟨b, o, none⟩) n c)) rfl (by kernel_rfl) (by kernel_rfl) (by kernel_rfl) (fun _ _ _ h => h) (Or.inl ⟨by rfl, ?_⟩) hSw ?_
      · intro w' hSw'
        have c0 := hSw'.1.cell 0
        have c32 := row_in32 hSw'.2.1 HID.out
        have c33 := row_in33 hSw'.2.1 HID.out
        have h1 := IsB.str (isB_in hSw'.2.1 HID.out) (P := Try.prog) (src := 54) (dst := 9) Try.underlying54 Try.underlying5 Try.underlying9
        have h2 := IsB.str hSw'.2.2.1 (P := Try.prog) (src := 54) (dst := 9) Try.underlying54 Try.underlying5 Try.underlying9
        simp only [List.getElem?_toArray, List.getElem?_cons_zero] at c0
        go_simp
      simp only [Act.put, List.setIfInBounds_toArray, List.set_cons_zero, List.set_cons_succ]
      refine wpAnyH_take (i := 11) (oi := ⟨some 29, _, _, _, _, _⟩) (v := (.int .i64 (j : Int))) rfl (by kernel_rfl) (by kernel_rfl) (by kernel_rfl) (fun _ _ _ h => h) (Or.inl ⟨by rfl, ?_⟩) hSw ?_
      · intro w' hSw'
        have c0 := hSw'.1.cell 0
        have c32 := row_in32 hSw'.2.1 HID.out
        have c33 := row_in33 hSw'.2.1 HID.out
        have h1 := IsB.str (isB_in hSw'.2.1 HID.out) (P := Try.prog) (src := 54) (dst := 9) Try.underlying54 Try.underlying5 Try.underlying9
        have h2 := IsB.str hSw'.2.2.1 (P := Try.prog) (src := 54) (dst := 9) Try.underlying54 Try.underlying5 Try.underlying9
        simp only [List.getElem?_toArray, List.getElem?_cons_zero] at c0
        go_simp
      simp only [Act.put, List.setIfInBounds_toArray, List.set_cons_zero, List.set_cons_succ]
      refine wpAnyH_take (i := 12) (oi := ⟨some 30, _, _, _, _, _⟩) (v := (.pointer (some ⟨b, o + j * 34, none⟩))) rfl (by kernel_rfl) (by kernel_rfl) (by kernel_rfl) (fun _ _ _ h => h) (Or.inl ⟨by rfl, ?_⟩) hSw ?_
      · intro w' hSw'
        have c0 := hSw'.1.cell 0
        have c32 := row_in32 hSw'.2.1 HID.out
        have c33 := row_in33 hSw'.2.1 HID.out
        have h1 := IsB.str (isB_in hSw'.2.1 HID.out) (P := Try.prog) (src := 54) (dst := 9) Try.underlying54 Try.underlying5 Try.underlying9
        have h2 := IsB.str hSw'.2.2.1 (P := Try.prog) (src := 54) (dst := 9) Try.underlying54 Try.underlying5 Try.underlying9
        simp only [List.getElem?_toArray, List.getElem?_cons_zero] at c0
        go_simp
      simp only [Act.put, List.setIfInBounds_toArray, List.set_cons_zero, List.set_cons_succ]
      refine wpAnyH_take (i := 13) (oi := ⟨some 31, _, _, _, _, _⟩) (v := (.pointer (some ⟨b, o + j * 34, none⟩))) rfl (by kernel_rfl) (by kernel_rfl) (by kernel_rfl) (fun _ _ _ h => h) (Or.inl ⟨by rfl, ?_⟩) hSw ?_
      · intro w' hSw'
        have c0 := hSw'.1.cell 0
        have c32 := row_in32 hSw'.2.1 HID.out
        have c33 := row_in33 hSw'.2.1 HID.out
        have h1 := IsB.str (isB_in hSw'.2.1 HID.out) (P := Try.prog) (src := 54) (dst := 9) Try.underlying54 Try.underlying5 Try.underlying9
        have h2 := IsB.str hSw'.2.2.1 (P := Try.prog) (src := 54) (dst := 9) Try.underlying54 Try.underlying5 Try.underlying9
        simp only [List.getElem?_toArray, List.getElem?_cons_zero] at c0
        go_simp
      simp only [Act.put, List.setIfInBounds_toArray, List.set_cons_zero, List.set_cons_succ]
      refine wpAnyH_take (i := 14) (oi := ⟨some 32, _, _, _, _, _⟩) (v := (.pointer (some ⟨b, o + j * 34 + 32, none⟩))) rfl (by kernel_rfl) (by kernel_rfl) (by kernel_rfl) (fun _ _ _ h => h) (Or.inl ⟨by rfl, ?_⟩) hSw ?_
      · intro w' hSw'
        have c0 := hSw'.1.cell 0
        have c32 := row_in32 hSw'.2.1 HID.out
        have c33 := row_in33 hSw'.2.1 HID.out
        have h1 := IsB.str (isB_in hSw'.2.1 HID.out) (P := Try.prog) (src := 54) (dst := 9) Try.underlying54 Try.underlying5 Try.underlying9
        have h2 := IsB.str hSw'.2.2.1 (P := Try.prog) (src := 54) (dst := 9) Try.underlying54 Try.underlying5 Try.underlying9
        simp only [List.getElem?_toArray, List.getElem?_cons_zero] at c0
        go_simp
      simp only [Act.put, List.setIfInBounds_toArray, List.set_cons_zero, List.set_cons_succ]
      refine wpAnyH_take (i := 15) (oi := ⟨some 33, _, _, _, _, _⟩) (v := (.int .u32 ((ix : Nat) : Int))) rfl (by kernel_rfl) (by kernel_rfl) (by kernel_rfl) (fun _ _ _ h => h) (Or.inl ⟨by rfl, ?_⟩) hSw ?_
      · intro w' hSw'
        have c0 := hSw'.1.cell 0
        have c32 := row_in32 hSw'.2.1 HID.out
        have c33 := row_in33 hSw'.2.1 HID.out
        have h1 := IsB.str (isB_in hSw'.2.1 HID.out) (P := Try.prog) (src := 54) (dst := 9) Try.underlying54 Try.underlying5 Try.underlying9
        have h2 := IsB.str hSw'.2.2.1 (P := Try.prog) (src := 54) (dst := 9) Try.underlying54 Try.underlying5 Try.underlying9
        simp only [List.getElem?_toArray, List.getElem?_cons_zero] at c0
        go_simp
      simp only [Act.put, List.setIfInBounds_toArray, List.set_cons_zero, List.set_cons_succ]
      refine wpAnyH_take (i := 16) (oi := ⟨some 34, _, _, _, _, _⟩) (v := (.int .u64 ((ix : Nat) : Int))) rfl (by kernel_rfl) (by kernel_rfl) (by kernel_rfl) (fun _ _ _ h => h) (Or.inl ⟨by rfl, ?_⟩) hSw ?_
      · intro w' hSw'
        have c0 := hSw'.1.cell 0
        have c32 := row_in32 hSw'.2.1 HID.out
        have c33 := row_in33 hSw'.2.1 HID.out
        have h1 := IsB.str (isB_in hSw'.2.1 HID.out) (P := Try.prog) (src := 54) (dst := 9) Try.underlying54 Try.underlying5 Try.underlying9
        have h2 := IsB.str hSw'.2.2.1 (P := Try.prog) (src := 54) (dst := 9) Try.underlying54 Try.underlying5 Try.underlying9
        simp only [List.getElem?_toArray, List.getElem?_cons_zero] at c0
        go_simp
      simp only [Act.put, List.setIfInBounds_toArray, List.set_cons_zero, List.set_cons_succ]
      refine wpAnyH_take (i := 19) (oi := ⟨some 37, _, _, _, _, _⟩) (v := (.pointer (some ⟨g, 0, none⟩))) rfl (by kernel_rfl) (by kernel_rfl) (by kernel_rfl) (fun _ _ _ h => h) (Or.inl ⟨by rfl, ?_⟩) hSw ?_
      · intro w' hSw'
        have c0 := hSw'.1.cell 0
        have c32 := row_in32 hSw'.2.1 HID.out
        have c33 := row_in33 hSw'.2.1 HID.out
        have h1 := IsB.str (isB_in hSw'.2.1 HID.out) (P := Try.prog) (src := 54) (dst := 9) Try.underlying54 Try.underlying5 Try.underlying9
        have h2 := IsB.str hSw'.2.2.1 (P := Try.prog) (src := 54) (dst := 9) Try.underlying54 Try.underlying5 Try.underlying9
        simp only [List.getElem?_toArray, List.getElem?_cons_zero] at c0
        go_simp
      simp only [Act.put, List.setIfInBounds_toArray, List.set_cons_zero, List.set_cons_succ]
      refine wpAnyH_take (i := 20) (oi := ⟨some 38, _, _, _, _, _⟩) (v := (.slice (some ⟨b, o, none⟩) n c)) rfl (by kernel_rfl) (by kernel_rfl) (by kernel_rfl) (fun _ _ _ h => h) (Or.inl ⟨by rfl, ?_⟩) hSw ?_
      · intro w' hSw'
        have c0 := hSw'.1.cell 0
        have c32 := row_in32 hSw'.2.1 HID.out
        have c33 := row_in33 hSw'.2.1 HID.out
        have h1 := IsB.str (isB_in hSw'.2.1 HID.out) (P := Try.prog) (src := 54) (dst := 9) Try.underlying54 Try.underlying5 Try.underlying9
        have h2 := IsB.str hSw'.2.2.1 (P := Try.prog) (src := 54) (dst := 9) Try.underlying54 Try.underlying5 Try.underlying9
        simp only [List.getElem?_toArray, List.getElem?_cons_zero] at c0
        go_simp
      simp only [Act.put, List.setIfInBounds_toArray, List.set_cons_zero, List.set_cons_succ]
      refine wpAnyH_take (i := 21) (oi := ⟨some 39, _, _, _, _, _⟩) (v := (.int .i64 (j : Int))) rfl (by kernel_rfl) (by kernel_rfl) (by kernel_rfl) (fun _ _ _ h => h) (Or.inl ⟨by rfl, ?_⟩) hSw ?_
      · intro w' hSw'
        have c0 := hSw'.1.cell 0
        have c32 := row_in32 hSw'.2.1 HID.out
        have c33 := row_in33 hSw'.2.1 HID.out
        have h1 := IsB.str (isB_in hSw'.2.1 HID.out) (P := Try.prog) (src := 54) (dst := 9) Try.underlying54 Try.underlying5 Try.underlying9
        have h2 := IsB.str hSw'.2.2.1 (P := Try.prog) (src := 54) (dst := 9) Try.underlying54 Try.underlying5 Try.underlying9
        simp only [List.getElem?_toArray, List.getElem?_cons_zero] at c0
        go_simp
      simp only [Act.put, List.setIfInBounds_toArray, List.set_cons_zero, List.set_cons_succ]
      refine wpAnyH_take (i := 22) (oi := ⟨some 40, _, _, _, _, _⟩) (v := (.pointer (some ⟨b, o + j * 34, none⟩))) rfl (by kernel_rfl) (by kernel_rfl) (by kernel_rfl) (fun _ _ _ h => h) (Or.inl ⟨by rfl, ?_⟩) hSw ?_
      · intro w' hSw'
        have c0 := hSw'.1.cell 0
        have c32 := row_in32 hSw'.2.1 HID.out
        have c33 := row_in33 hSw'.2.1 HID.out
        have h1 := IsB.str (isB_in hSw'.2.1 HID.out) (P := Try.prog) (src := 54) (dst := 9) Try.underlying54 Try.underlying5 Try.underlying9
        have h2 := IsB.str hSw'.2.2.1 (P := Try.prog) (src := 54) (dst := 9) Try.underlying54 Try.underlying5 Try.underlying9
        simp only [List.getElem?_toArray, List.getElem?_cons_zero] at c0
        go_simp
      simp only [Act.put, List.setIfInBounds_toArray, List.set_cons_zero, List.set_cons_succ]
      refine wpAnyH_take (i := 23) (oi := ⟨some 41, _, _, _, _, _⟩) (v := (.pointer (some ⟨b, o + j * 34 + 33, none⟩))) rfl (by kernel_rfl) (by kernel_rfl) (by kernel_rfl) (fun _ _ _ h => h) (Or.inl ⟨by rfl, ?_⟩) hSw ?_
      · intro w' hSw'
        have c0 := hSw'.1.cell 0
        have c32 := row_in32 hSw'.2.1 HID.out
        have c33 := row_in33 hSw'.2.1 HID.out
        have h1 := IsB.str (isB_in hSw'.2.1 HID.out) (P := Try.prog) (src := 54) (dst := 9) Try.underlying54 Try.underlying5 Try.underlying9
        have h2 := IsB.str hSw'.2.2.1 (P := Try.prog) (src := 54) (dst := 9) Try.underlying54 Try.underlying5 Try.underlying9
        simp only [List.getElem?_toArray, List.getElem?_cons_zero] at c0
        go_simp
      simp only [Act.put, List.setIfInBounds_toArray, List.set_cons_zero, List.set_cons_succ]
      refine wpAnyH_take (i := 24) (oi := ⟨some 42, _, _, _, _, _⟩) (v := (.slice Ak nk ck)) rfl (by kernel_rfl) (by kernel_rfl) (by kernel_rfl) (fun _ _ _ h => h) (Or.inl ⟨by rfl, ?_⟩) hSw ?_
      · intro w' hSw'
        have c0 := hSw'.1.cell 0
        have c32 := row_in32 hSw'.2.1 HID.out
        have c33 := row_in33 hSw'.2.1 HID.out
        have h1 := IsB.str (isB_in hSw'.2.1 HID.out) (P := Try.prog) (src := 54) (dst := 9) Try.underlying54 Try.underlying5 Try.underlying9
        have h2 := IsB.str hSw'.2.2.1 (P := Try.prog) (src := 54) (dst := 9) Try.underlying54 Try.underlying5 Try.underlying9
        simp only [List.getElem?_toArray, List.getElem?_cons_zero] at c0
        go_simp
      simp only [Act.put, List.setIfInBounds_toArray, List.set_cons_zero, List.set_cons_succ]
      refine wpAnyH_take (i := 25) (oi := ⟨some 43, _, _, _, _, _⟩) (v := (.string (bstr key))) rfl (by kernel_rfl) (by kernel_rfl) (by kernel_rfl) (fun _ _ _ h => h) (Or.inl ⟨by rfl, ?_⟩) hSw ?_
      · intro w' hSw'
        have c0 := hSw'.1.cell 0
        have c32 := row_in32 hSw'.2.1 HID.out
        have c33 := row_in33 hSw'.2.1 HID.out
        have h1 := IsB.str (isB_in hSw'.2.1 HID.out) (P := Try.prog) (src := 54) (dst := 9) Try.underlying54 Try.underlying5 Try.underlying9
        have h2 := IsB.str hSw'.2.2.1 (P := Try.prog) (src := 54) (dst := 9) Try.underlying54 Try.underlying5 Try.underlying9
        simp only [List.getElem?_toArray, List.getElem?_cons_zero] at c0
        go_simp
      simp only [Act.put, List.setIfInBounds_toArray, List.set_cons_zero, List.set_cons_succ]
      refine wpAnyH_ready (rs := [17]) (by kernel_rfl) (by simp) (AllReadyH.cons (o := ⟨some 35, _, _, _, _, _⟩) rfl (fun K hK => ?_) AllReadyH.nil)
      go_simp
      go_at_call 56
      refine (num06_any 4 ix _ (by omega) (by have := HIX.out; omega)).mono ?_
      rintro e5 w5 ⟨rfl, a5⟩
      rw [show (4 : Int).toNat = 4 from rfl]
      dsimp only
      refine hK.out _ _ (⟨hSw.1.below a5 hSw.1.lt, hSw.2.1.below (by rw [inC_len _ _ _ HID.out]; omega) a5, IsB.only hSw.2.2.1 (Only.of_below a5) (fun b hb _ hk => by omega), hSw.2.2.2.trans (a5.mono hSw.2.2.2.size)⟩) ?_
      intro hSw
      clear hK K
      try simp only [Act.put, List.setIfInBounds_toArray, List.set_cons_zero, List.set_cons_succ]
      refine wpAnyH_take (i := 18) (oi := ⟨some 36, _, _, _, _, _⟩) (v := (.string (bstr (id ++ les 4 ix)))) rfl (by kernel_rfl) (by kernel_rfl) (by kernel_rfl) (fun _ _ _ h => h) (Or.inl ⟨by rfl, ?_⟩) hSw ?_
      · intro w' hSw'
        have c0 := hSw'.1.cell 0
        have c32 := row_in32 hSw'.2.1 HID.out
        have c33 := row_in33 hSw'.2.1 HID.out
        have h1 := IsB.str (isB_in hSw'.2.1 HID.out) (P := Try.prog) (src := 54) (dst := 9) Try.underlying54 Try.underlying5 Try.underlying9
        have h2 := IsB.str hSw'.2.2.1 (P := Try.prog) (src := 54) (dst := 9) Try.underlying54 Try.underlying5 Try.underlying9
        simp only [List.getElem?_toArray, List.getElem?_cons_zero] at c0
        go_simp
      simp only [Act.put, List.setIfInBounds_toArray, List.set_cons_zero, List.set_cons_succ]
      refine wpAnyH_ready (rs := [26]) (by kernel_rfl) (by simp) (AllReadyH.cons (o := ⟨some 44, _, _, _, _, _⟩) rfl (fun K hK => ?_) AllReadyH.nil)
      go_simp
      go_at_call 57
      refine (text06_any key _ (by have := HKL.out; omega)).mono ?_
      rintro e6 w6 ⟨rfl, a6⟩
      dsimp only
      refine hK.out _ _ (⟨hSw.1.below a6 hSw.1.lt, hSw.2.1.below (by rw [inC_len _ _ _ HID.out]; omega) a6, IsB.only hSw.2.2.1 (Only.of_below a6) (fun b hb _ hk => by omega), hSw.2.2.2.trans (a6.mono hSw.2.2.2.size)⟩) ?_
      intro hSw
      clear hK K
      try simp only [Act.put, List.setIfInBounds_toArray, List.set_cons_zero, List.set_cons_succ]
      refine wpAnyH_take (i := 27) (oi := ⟨some 45, _, _, _, _, _⟩) (v := (.string (bstr (id ++ les 4 ix ++ (countB key.length ++ key))))) rfl (by kernel_rfl) (by kernel_rfl) (by kernel_rfl) (fun _ _ _ h => h) (Or.inl ⟨by rfl, ?_⟩) hSw ?_
      · intro w' hSw'
        have c0 := hSw'.1.cell 0
        have c32 := row_in32 hSw'.2.1 HID.out
        have c33 := row_in33 hSw'.2.1 HID.out
        have h1 := IsB.str (isB_in hSw'.2.1 HID.out) (P := Try.prog) (src := 54) (dst := 9) Try.underlying54 Try.underlying5 Try.underlying9
        have h2 := IsB.str hSw'.2.2.1 (P := Try.prog) (src := 54) (dst := 9) Try.underlying54 Try.underlying5 Try.underlying9
        simp only [List.getElem?_toArray, List.getElem?_cons_zero] at c0
        go_simp
      simp only [Act.put, List.setIfInBounds_toArray, List.set_cons_zero, List.set_cons_succ]
      refine wpAnyH_take (i := 28) (oi := ⟨some 46, _, _, _, _, _⟩) (v := (.string (bstr (cur ++ (id ++ les 4 ix ++ (countB key.length ++ key)))))) rfl (by kernel_rfl) (by kernel_rfl) (by kernel_rfl) (fun _ _ _ h => h) (Or.inl ⟨by rfl, ?_⟩) hSw ?_
      · intro w' hSw'
        have c0 := hSw'.1.cell 0
        have c32 := row_in32 hSw'.2.1 HID.out
        have c33 := row_in33 hSw'.2.1 HID.out
        have h1 := IsB.str (isB_in hSw'.2.1 HID.out) (P := Try.prog) (src := 54) (dst := 9) Try.underlying54 Try.underlying5 Try.underlying9
        have h2 := IsB.str hSw'.2.2.1 (P := Try.prog) (src := 54) (dst := 9) Try.underlying54 Try.underlying5 Try.underlying9
        simp only [List.getElem?_toArray, List.getElem?_cons_zero] at c0
        go_simp
      simp only [Act.put, List.setIfInBounds_toArray, List.set_cons_zero, List.set_cons_succ]
      refine wpAnyH_take (i := 29) (oi := ⟨some 3, _, _, _, _, _⟩) (v := (.string (bstr (cur ++ (id ++ les 4 ix ++ (countB key.length ++ key)))))) rfl (by kernel_rfl) (by kernel_rfl) (by kernel_rfl) (fun _ _ _ h => h) (Or.inl ⟨by rfl, ?_⟩) hSw ?_
      · intro w' hSw'
        have c0 := hSw'.1.cell 0
        have c32 := row_in32 hSw'.2.1 HID.out
        have c33 := row_in33 hSw'.2.1 HID.out
        have h1 := IsB.str (isB_in hSw'.2.1 HID.out) (P := Try.prog) (src := 54) (dst := 9) Try.underlying54 Try.underlying5 Try.underlying9
        have h2 := IsB.str hSw'.2.2.1 (P := Try.prog) (src := 54) (dst := 9) Try.underlying54 Try.underlying5 Try.underlying9
        simp only [List.getElem?_toArray, List.getElem?_cons_zero] at c0
        go_simp
      simp only [Act.put, List.setIfInBounds_toArray, List.set_cons_zero, List.set_cons_succ]
      refine wpAnyH_done (by kernel_rfl) ?_ _
      clear p1 p2 p3 s1 s2 s3 s4 s6 hwx q1 q2
      go_wp2
      go_roundg (n - 1 - j)
      case measure => omega
      case rel =>
        refine ⟨j + 1, _, by omega, rfl, by have := HN1.out; first | rfl | (rw [IntWalk.wrap64_in _ (by omega)]; rfl), ?_, ?_, Lib.hid hSw.1, Lib.hid hSw.2.2.2⟩
        · show cur ++ (id ++ les 4 ix ++ (countB key.length ++ key)) = _
          rw [take_snoc' ins j (by rw [HN.out]; exact hlt), List.flatMap_append, HIJ.out, HC.out, List.append_assoc]
          simp [inB]
        · have := HL.out
          rw [bstr_size] at s5
          simp only [Hid, List.length_append] at s5 ⊢
          omega
    · obtain rfl : j = n := by omega
      have hall : cur = countB j ++ ins.flatMap inB := by
        have := HC.out
        rwa [List.take_of_length_le (by rw [HN.out]; exact Nat.le_refl _)] at this
      replace HC := Lib.hid hall
      have c1 := HB.out.cell 1
      simp only [List.getElem?_toArray, List.getElem?_cons_zero, List.getElem?_cons_succ] at c1
      have s6 : (bstr cur).size ≤ 10045009 := by have := HL.out; have := HN1.out; rw [bstr_size]; omega
      have s7 : (bstr (countB n')).size ≤ 9 := by rw [bstr_size]; exact countB_len n'
      clear hall
      go_wp2_with fail
      refine (count06_any n' wr (by have := HN2.out; omega)).mono ?_
      rintro e7 w7 ⟨rfl, a7⟩
      replace HB := Lib.hid (HB.out.below a7 HB.out.lt)
      replace HBL := Lib.hid (HBL.out.trans (a7.mono HBL.out.size))
      have p4 := bstr_append cur (countB n')
      clear a7 c1 c0
      go_wp2
      clear p4 s6 s7
      go_loopg [3, 5] n' (fun q v3 v5 wr => ∃ (k : Nat) (nxt : List UInt8), k + q = n' ∧ v3 = .string (bstr nxt) ∧ v5 = .int .i64 k ∧ Hid (nxt = cur ++ countB n' ++ (outs.take k).flatMap outB) ∧ Hid (nxt.length ≤ 10045018 + 40 * k) ∧ Hid (Blk wr g 25 #[.slice A j c, .slice A' n' c']) ∧ Hid (Below w.heap.size w wr))
      case atStart =>
        refine ⟨0, _, by omega, rfl, rfl, by simp [Hid], ?_, HB, HBL⟩
        have := countB_len n'
        have := HL.out
        have := HN1.out
        simp only [Hid, List.length_append]
        omega
      case round =>
        clear HB HBL
        obtain ⟨k, nxt, hk, rfl, rfl, HC2, HL2, HB, HBL⟩ := hrel
        have c1 := HB.out.cell 1
        simp only [List.getElem?_toArray, List.getElem?_cons_zero, List.getElem?_cons_succ] at c1
        by_cases hlt' : k < n'
        · have hi' := outsSh.below HO.out HBL.out (fun _ h _ => h)
          obtain ⟨b, o, amt, lock, rfl, hb, hij, hrow, hid, hamt⟩ := outs_at hi' (by rw [HN'.out]; exact hlt')
          have HIJ := Lib.hid hij
          have HROW := Lib.hid hrow
          have HID := Lib.hid hid
          have hwx := wrap_u64n amt
          have s1 : (bstr lock).size = 32 := by rw [bstr_size, hid]
          have s2 : (bstr (les 8 (u64n amt))).size = 8 := by rw [bstr_size, les_length]
          have s3 : (bstr (les 8 (u64n amt) ++ lock)).size = 40 := by rw [bstr_size, List.length_append, hid, les_length]
          have s6 : (bstr nxt).size ≤ 10085058 := by have := HL2.out; have := HN2.out; rw [bstr_size]; omega
          have p1 := bstr_append (les 8 (u64n amt)) lock
          have p2 := bstr_append nxt (les 8 (u64n amt) ++ lock)
          have q3 : nxt.length ≤ 9223372036854775767 := by have := HL2.out; have := HN2.out; omega
          clear hi' hij hrow hid hb hamt
          go_wp2
          clear c1
          refine wp_region_held_drew (S := (fun w' => Blk w' g 25 #[.slice A j c, .slice (some ⟨b, o, none⟩) n' c'] ∧ RowAt w' b (o + k * 33) (outC amt lock) ∧ Below w.heap.size w w')) (by kernel_rfl) (⟨HB.out.drew, HROW.out, HBL.out.drew⟩) ?_
          intro hSw
          refine wpAnyH_take (i := 0) (oi := ⟨some 61, _, _, _, _, _⟩) (v := (.string (bstr nxt))) rfl (by kernel_rfl) (by kernel_rfl) (by kernel_rfl) (fun _ _ _ h => h) (Or.inl ⟨by rfl, ?_⟩) hSw ?_
          · intro w' hSw'
            have c1 := hSw'.1.cell 1
            have c2 := row_out0 hSw'.2.1
            have h1 := IsB.str (isB_out hSw'.2.1 HID.out) (P := Try.prog) (src := 54) (dst := 9) Try.underlying54 Try.underlying5 Try.underlying9
            simp only [List.getElem?_toArray, List.getElem?_cons_zero, List.getElem?_cons_succ] at c1
            go_simp
          simp only [Act.put, List.setIfInBounds_toArray, List.set_cons_zero, List.set_cons_succ]
          refine wpAnyH_take (i := 1) (oi := ⟨some 62, _, _, _, _, _⟩) (v := (.pointer (some ⟨g, 1, none⟩))) rfl (by kernel_rfl) (by kernel_rfl) (by kernel_rfl) (fun _ _ _ h => h) (Or.inl ⟨by rfl, ?_⟩) hSw ?_
          · intro w' hSw'
            have c1 := hSw'.1.cell 1
            have c2 := row_out0 hSw'.2.1
            have h1 := IsB.str (isB_out hSw'.2.1 HID.out) (P := Try.prog) (src := 54) (dst := 9) Try.underlying54 Try.underlying5 Try.underlying9
            simp only [List.getElem?_toArray, List.getElem?_cons_zero, List.getElem?_cons_succ] at c1
            go_simp
          simp only [Act.put, List.setIfInBounds_toArray, List.set_cons_zero, List.set_cons_succ]
          refine wpAnyH_take (i := 2) (oi := ⟨some 63, _, _, _, _, _⟩) (v := (.slice (some ⟨b, o, none⟩) n' c')) rfl (by kernel_rfl) (by kernel_rfl) (by kernel_rfl) (fun _ _ _ h => h) (Or.inl ⟨by rfl, ?_⟩) hSw ?_
          · intro w' hSw'
            have c1 := hSw'.1.cell 1
            have c2 := row_out0 hSw'.2.1
            have h1 := IsB.str (isB_out hSw'.2.1 HID.out) (P := Try.prog) (src := 54) (dst := 9) Try.underlying54 Try.underlying5 Try.underlying9
            simp only [List.getElem?_toArray, List.getElem?_cons_zero, List.getElem?_cons_succ] at c1
            go_simp
          simp only [Act.put, List.setIfInBounds_toArray, List.set_cons_zero, List.set_cons_succ]
          refine wpAnyH_take (i := 3) (oi := ⟨some 64, _, _, _, _, _⟩) (v := (.int .i64 (k : Int))) rfl (by kernel_rfl) (by kernel_rfl) (by kernel_rfl) (fun _ _ _ h => h) (Or.inl ⟨by rfl, ?_⟩) hSw ?_
          · intro w' hSw'
            have c1 := hSw'.1.cell 1
            have c2 := row_out0 hSw'.2.1
            have h1 := IsB.str (isB_out hSw'.2.1 HID.out) (P := Try.prog) (src := 54) (dst := 9) Try.underlying54 Try.underlying5 Try.underlying9
            simp only [List.getElem?_toArray, List.getElem?_cons_zero, List.getElem?_cons_succ] at c1
            go_simp
          simp only [Act.put, List.setIfInBounds_toArray, List.set_cons_zero, List.set_cons_succ]
          refine wpAnyH_take (i := 4) (oi := ⟨some 65, _, _, _, _, _⟩) (v := (.pointer (some ⟨b, o + k * 33, none⟩))) rfl (by kernel_rfl) (by kernel_rfl) (by kernel_rfl) (fun _ _ _ h => h) (Or.inl ⟨by rfl, ?_⟩) hSw ?_
          · intro w' hSw'
            have c1 := hSw'.1.cell 1
            have c2 := row_out0 hSw'.2.1
            have h1 := IsB.str (isB_out hSw'.2.1 HID.out) (P := Try.prog) (src := 54) (dst := 9) Try.underlying54 Try.underlying5 Try.underlying9
            simp only [List.getElem?_toArray, List.getElem?_cons_zero, List.getElem?_cons_succ] at c1
            go_simp
          simp only [Act.put, List.setIfInBounds_toArray, List.set_cons_zero, List.set_cons_succ]
          refine wpAnyH_take (i := 5) (oi := ⟨some 66, _, _, _, _, _⟩) (v := (.pointer (some ⟨b, o + k * 33, none⟩))) rfl (by kernel_rfl) (by kernel_rfl) (by kernel_rfl) (fun _ _ _ h => h) (Or.inl ⟨by rfl, ?_⟩) hSw ?_
          · intro w' hSw'
            have c1 := hSw'.1.cell 1
            have c2 := row_out0 hSw'.2.1
            have h1 := IsB.str (isB_out hSw'.2.1 HID.out) (P := Try.prog) (src := 54) (dst := 9) Try.underlying54 Try.underlying5 Try.underlying9
            simp only [List.getElem?_toArray, List.getElem?_cons_zero, List.getElem?_cons_succ] at c1
            go_simp
          simp only [Act.put, List.setIfInBounds_toArray, List.set_cons_zero, List.set_cons_succ]
          refine wpAnyH_take (i := 6) (oi := ⟨some 67, _, _, _, _, _⟩) (v := (.int .i64 amt)) rfl (by kernel_rfl) (by kernel_rfl) (by kernel_rfl) (fun _ _ _ h => h) (Or.inl ⟨by rfl, ?_⟩) hSw ?_
          · intro w' hSw'
            have c1 := hSw'.1.cell 1
            have c2 := row_out0 hSw'.2.1
            have h1 := IsB.str (isB_out hSw'.2.1 HID.out) (P := Try.prog) (src := 54) (dst := 9) Try.underlying54 Try.underlying5 Try.underlying9
            simp only [List.getElem?_toArray, List.getElem?_cons_zero, List.getElem?_cons_succ] at c1
            go_simp
          simp only [Act.put, List.setIfInBounds_toArray, List.set_cons_zero, List.set_cons_succ]
          refine wpAnyH_take (i := 7) (oi := ⟨some 68, _, _, _, _, _⟩) (v := (.int .u64 ((u64n amt : Nat) : Int))) rfl (by kernel_rfl) (by kernel_rfl) (by kernel_rfl) (fun _ _ _ h => h) (Or.inl ⟨by rfl, ?_⟩) hSw ?_
          · intro w' hSw'
            have c1 := hSw'.1.cell 1
            have c2 := row_out0 hSw'.2.1
            have h1 := IsB.str (isB_out hSw'.2.1 HID.out) (P := Try.prog) (src := 54) (dst := 9) Try.underlying54 Try.underlying5 Try.underlying9
            simp only [List.getElem?_toArray, List.getElem?_cons_zero, List.getElem?_cons_succ] at c1
            go_simp
          simp only [Act.put, List.setIfInBounds_toArray, List.set_cons_zero, List.set_cons_succ]
          refine wpAnyH_take (i := 9) (oi := ⟨some 70, _, _, _, _, _⟩) (v := (.pointer (some ⟨g, 1, none⟩))) rfl (by kernel_rfl) (by kernel_rfl) (by kernel_rfl) (fun _ _ _ h => h) (Or.inl ⟨by rfl, ?_⟩) hSw ?_
          · intro w' hSw'
            have c1 := hSw'.1.cell 1
            have c2 := row_out0 hSw'.2.1
            have h1 := IsB.str (isB_out hSw'.2.1 HID.out) (P := Try.prog) (src := 54) (dst := 9) Try.underlying54 Try.underlying5 Try.underlying9
            simp only [List.getElem?_toArray, List.getElem?_cons_zero, List.getElem?_cons_succ] at c1
            go_simp
          simp only [Act.put, List.setIfInBounds_toArray, List.set_cons_zero, List.set_cons_succ]
          refine wpAnyH_take (i := 10) (oi := ⟨some 71, _, _, _, _, _⟩) (v := (.slice (some ⟨b, o, none⟩) n' c')) rfl (by kernel_rfl) (by kernel_rfl) (by kernel_rfl) (fun _ _ _ h => h) (Or.inl ⟨by rfl, ?_⟩) hSw ?_
          · intro w' hSw'
            have c1 := hSw'.1.cell 1
            have c2 := row_out0 hSw'.2.1
            have h1 := IsB.str (isB_out hSw'.2.1 HID.out) (P := Try.prog) (src := 54) (dst := 9) Try.underlying54 Try.underlying5 Try.underlying9
            simp only [List.getElem?_toArray, List.getElem?_cons_zero, List.getElem?_cons_succ] at c1
            go_simp
          simp only [Act.put, List.setIfInBounds_toArray, List.set_cons_zero, List.set_cons_succ]
          refine wpAnyH_take (i := 11) (oi := ⟨some 72, _, _, _, _, _⟩) (v := (.int .i64 (k : Int))) rfl (by kernel_rfl) (by kernel_rfl) (by kernel_rfl) (fun _ _ _ h => h) (Or.inl ⟨by rfl, ?_⟩) hSw ?_
          · intro w' hSw'
            have c1 := hSw'.1.cell 1
            have c2 := row_out0 hSw'.2.1
            have h1 := IsB.str (isB_out hSw'.2.1 HID.out) (P := Try.prog) (src := 54) (dst := 9) Try.underlying54 Try.underlying5 Try.underlying9
            simp only [List.getElem?_toArray, List.getElem?_cons_zero, List.getElem?_cons_succ] at c1
            go_simp
          simp only [Act.put, List.setIfInBounds_toArray, List.set_cons_zero, List.set_cons_succ]
          refine wpAnyH_take (i := 12) (oi := ⟨some 73, _, _, _, _, _⟩) (v := (.pointer (some ⟨b, o + k * 33, none⟩))) rfl (by kernel_rfl) (by kernel_rfl) (by kernel_rfl) (fun _ _ _ h => h) (Or.inl ⟨by rfl, ?_⟩) hSw ?_
          · intro w' hSw'
            have c1 := hSw'.1.cell 1
            have c2 := row_out0 hSw'.2.1
            have h1 := IsB.str (isB_out hSw'.2.1 HID.out) (P := Try.prog) (src := 54) (dst := 9) Try.underlying54 Try.underlying5 Try.underlying9
            simp only [List.getElem?_toArray, List.getElem?_cons_zero, List.getElem?_cons_succ] at c1
            go_simp
          simp only [Act.put, List.setIfInBounds_toArray, List.set_cons_zero, List.set_cons_succ]
          refine wpAnyH_take (i := 13) (oi := ⟨some 74, _, _, _, _, _⟩) (v := (.pointer (some ⟨b, o + k * 33 + 1, none⟩))) rfl (by kernel_rfl) (by kernel_rfl) (by kernel_rfl) (fun _ _ _ h => h) (Or.inl ⟨by rfl, ?_⟩) hSw ?_
          · intro w' hSw'
            have c1 := hSw'.1.cell 1
            have c2 := row_out0 hSw'.2.1
            have h1 := IsB.str (isB_out hSw'.2.1 HID.out) (P := Try.prog) (src := 54) (dst := 9) Try.underlying54 Try.underlying5 Try.underlying9
            simp only [List.getElem?_toArray, List.getElem?_cons_zero, List.getElem?_cons_succ] at c1
            go_simp
          simp only [Act.put, List.setIfInBounds_toArray, List.set_cons_zero, List.set_cons_succ]
          refine wpAnyH_take (i := 14) (oi := ⟨some 75, _, _, _, _, _⟩) (v := (.slice (some ⟨b, o + k * 33 + 1, none⟩) 32 32)) rfl (by kernel_rfl) (by kernel_rfl) (by kernel_rfl) (fun _ _ _ h => h) (Or.inl ⟨by rfl, ?_⟩) hSw ?_
          · intro w' hSw'
            have c1 := hSw'.1.cell 1
            have c2 := row_out0 hSw'.2.1
            have h1 := IsB.str (isB_out hSw'.2.1 HID.out) (P := Try.prog) (src := 54) (dst := 9) Try.underlying54 Try.underlying5 Try.underlying9
            simp only [List.getElem?_toArray, List.getElem?_cons_zero, List.getElem?_cons_succ] at c1
            go_simp
          simp only [Act.put, List.setIfInBounds_toArray, List.set_cons_zero, List.set_cons_succ]
          refine wpAnyH_take (i := 15) (oi := ⟨some 76, _, _, _, _, _⟩) (v := (.string (bstr lock))) rfl (by kernel_rfl) (by kernel_rfl) (by kernel_rfl) (fun _ _ _ h => h) (Or.inl ⟨by rfl, ?_⟩) hSw ?_
          · intro w' hSw'
            have c1 := hSw'.1.cell 1
            have c2 := row_out0 hSw'.2.1
            have h1 := IsB.str (isB_out hSw'.2.1 HID.out) (P := Try.prog) (src := 54) (dst := 9) Try.underlying54 Try.underlying5 Try.underlying9
            simp only [List.getElem?_toArray, List.getElem?_cons_zero, List.getElem?_cons_succ] at c1
            go_simp
          simp only [Act.put, List.setIfInBounds_toArray, List.set_cons_zero, List.set_cons_succ]
          refine wpAnyH_ready (rs := [8]) (by kernel_rfl) (by simp) (AllReadyH.cons (o := ⟨some 69, _, _, _, _, _⟩) rfl (fun K hK => ?_) AllReadyH.nil)
          go_simp
          go_at_call 56
          refine (num06_any 8 (u64n amt) _ (by omega) (u64n_lt _)).mono ?_
          rintro e5 w5 ⟨rfl, a5⟩
          rw [show (8 : Int).toNat = 8 from rfl]
          dsimp only
          refine hK.out _ _ (⟨hSw.1.below a5 hSw.1.lt, hSw.2.1.below (by rw [outC, List.length_cons]; omega) a5, hSw.2.2.trans (a5.mono hSw.2.2.size)⟩) ?_
          intro hSw
          clear hK K
          try simp only [Act.put, List.setIfInBounds_toArray, List.set_cons_zero, List.set_cons_succ]
          refine wpAnyH_take (i := 16) (oi := ⟨some 77, _, _, _, _, _⟩) (v := (.string (bstr (les 8 (u64n amt) ++ lock)))) rfl (by kernel_rfl) (by kernel_rfl) (by kernel_rfl) (fun _ _ _ h => h) (Or.inl ⟨by rfl, ?_⟩) hSw ?_
          · intro w' hSw'
            have c1 := hSw'.1.cell 1
            have c2 := row_out0 hSw'.2.1
            have h1 := IsB.str (isB_out hSw'.2.1 HID.out) (P := Try.prog) (src := 54) (dst := 9) Try.underlying54 Try.underlying5 Try.underlying9
            simp only [List.getElem?_toArray, List.getElem?_cons_zero, List.getElem?_cons_succ] at c1
            go_simp
          simp only [Act.put, List.setIfInBounds_toArray, List.set_cons_zero, List.set_cons_succ]
          refine wpAnyH_take (i := 17) (oi := ⟨some 78, _, _, _, _, _⟩) (v := (.string (bstr (nxt ++ (les 8 (u64n amt) ++ lock))))) rfl (by kernel_rfl) (by kernel_rfl) (by kernel_rfl) (fun _ _ _ h => h) (Or.inl ⟨by rfl, ?_⟩) hSw ?_
          · intro w' hSw'
            have c1 := hSw'.1.cell 1
            have c2 := row_out0 hSw'.2.1
            have h1 := IsB.str (isB_out hSw'.2.1 HID.out) (P := Try.prog) (src := 54) (dst := 9) Try.underlying54 Try.underlying5 Try.underlying9
            simp only [List.getElem?_toArray, List.getElem?_cons_zero, List.getElem?_cons_succ] at c1
            go_simp
          simp only [Act.put, List.setIfInBounds_toArray, List.set_cons_zero, List.set_cons_succ]
          refine wpAnyH_take (i := 18) (oi := ⟨some 3, _, _, _, _, _⟩) (v := (.string (bstr (nxt ++ (les 8 (u64n amt) ++ lock))))) rfl (by kernel_rfl) (by kernel_rfl) (by kernel_rfl) (fun _ _ _ h => h) (Or.inl ⟨by rfl, ?_⟩) hSw ?_
          · intro w' hSw'
            have c1 := hSw'.1.cell 1
            have c2 := row_out0 hSw'.2.1
            have h1 := IsB.str (isB_out hSw'.2.1 HID.out) (P := Try.prog) (src := 54) (dst := 9) Try.underlying54 Try.underlying5 Try.underlying9
            simp only [List.getElem?_toArray, List.getElem?_cons_zero, List.getElem?_cons_succ] at c1
            go_simp
          simp only [Act.put, List.setIfInBounds_toArray, List.set_cons_zero, List.set_cons_succ]
          refine wpAnyH_done (by kernel_rfl) ?_ _
          clear p1 p2 s1 s2 s6 hwx q3
          go_wp2
          go_roundg (n' - 1 - k)
          case measure => omega
          case rel =>
            refine ⟨k + 1, _, by omega, rfl, by have := HN2.out; first | rfl | (rw [IntWalk.wrap64_in _ (by omega)]; rfl), ?_, ?_, Lib.hid hSw.1, Lib.hid hSw.2.2⟩
            · show nxt ++ (les 8 (u64n amt) ++ lock) = _
              rw [take_snoc' outs k (by rw [HN'.out]; exact hlt'), List.flatMap_append, HIJ.out, HC2.out, List.append_assoc]
              simp [outB]
            · have := HL2.out
              rw [bstr_size] at s3
              simp only [Hid, List.length_append] at s3 ⊢
              omega
        · obtain rfl : k = n' := by omega
          go_wp2
          go_ret
          refine ⟨?_, HBL.out⟩
          have h2 := HC2.out
          rw [List.take_of_length_le (by rw [HN'.out]; exact Nat.le_refl _), HC.out] at h2
          rw [h2]
          simp only [txB, HN.out, HN'.out, List.append_assoc]
          rfl
end Go.Proofs.Ytnonabmbichfnaa
