import Derived.Test.YtmcgfcchmpoalaaWi
namespace Go.Proofs.Ytmcgfcchmpoalaa
open Go.RowKit

theorem IsWr.new (w : World) : IsWr (w.alloc (.cells #[.slice none 0 0] 25)) w.heap.size w.heap.size none [] :=
  ⟨none, 0, Blk.new _ _ _, Nat.le_refl _, rfl, World.ownsRow_nil _ _ _ _⟩

theorem below_drewN' {B : Nat} {a w : World} (h : Below B a w) (n : Nat) : Below B a (w.drewN n) := ⟨h.os, h.tape, h.output, h.size, h.block⟩
theorem WL0 : [] ++ le 2 258 ++ countB 253 ++ (countB ([97, 98] : List UInt8).length ++ [97, 98]) = [2, 1, 253, 253, 0, 2, 97, 98] := by decide
theorem WL1 : numOf (rawO [2, 1, 253, 253, 0, 2, 97, 98] 2) = 258 := by decide
theorem WL2 : rawL [2, 1, 253, 253, 0, 2, 97, 98] 2 = [253, 253, 0, 2, 97, 98] := by decide
theorem WL3 : rawE [2, 1, 253, 253, 0, 2, 97, 98] 0 2 = 0 := by decide
theorem WL4 : rcountS [253, 253, 0, 2, 97, 98] 0 300 = (253, [2, 97, 98], 0) := by decide
theorem WL5 : textS [2, 97, 98] 0 5 = ([97, 98], [], 0) := by decide
theorem WL6 : endS [] 0 = 0 := by decide

set_option maxRecDepth 20000 in
set_option maxHeartbeats 1000000 in
theorem writes_any (w : World) :
    Calls Try.prog 9 #[] w fun e w' => e = .returned (.bool true) ∧ Below w.heap.size w w' := by
  have h0 := Lib.hid (IsWr.new w)
  have kc := fun (w : World) (C : Array Value) (n c : Nat) => Lib.run_convert_bytes_const (P := Try.prog) w 22 5 C n c Try.underlying22 Try.underlying5
  go_enter Try.func9, Try.ntmps9
  go_wp2_with fail
  generalize hW : World.alloc w (Obj.cells #[Value.slice none 0 0] _) = W
  rw [hW] at h0
  have hsz : W.heap.size = w.heap.size + 1 := by rw [← hW]; simp
  have HB := Lib.hid (show Below w.heap.size w W from hW ▸ (Below.refl _ _).alloc (Nat.le_refl _) _)
  have HSZ := Lib.hid hsz
  clear hW hsz
  refine (put1 w.heap.size w.heap.size none [] W _ 2 258 _ _ rfl _ rfl HSZ.out.symm h0.out (by simp)).mono ?_
  rintro e1 w1 ⟨rfl, r1, a1, a2, a3⟩
  have A1 := Lib.hid a1
  have A3 := Lib.hid ((HB.out.trans (WrS.below h0.out a3)))
  clear a1 a2 a3 HSZ
  go_wp2_with fail
  refine (wcount_any w.heap.size w.heap.size r1 _ w1 253 A1.out (by rw [List.nil_append]; have := le_len 2 258; omega)).mono ?_
  rintro e2 w2 ⟨rfl, r2, b1, b2, b3⟩
  have B1 := Lib.hid b1
  have B3 := Lib.hid (A3.out.trans (WrS.below A1.out b3))
  clear b1 b2 b3
  go_wp2_with fail
  generalize hW : World.alloc w2 _ = W2
  have c0 : IsWr W2 w.heap.size w.heap.size r2 ([] ++ le 2 258 ++ countB 253) := hW ▸ B1.out.only ((Only.refl (fun _ => False) w2).alloc _) (fun h => h) (fun _ _ h => h)
  have c1 : Sl W2 (fun b => b = w2.heap.size) 1 (some ⟨w2.heap.size, 0, none⟩) 2 (bts [97, 98]) := by
    rw [← hW]
    exact ⟨rfl, fun _ => ⟨_, _, rfl, rfl, fun j u hu => by
      have : (w2.alloc (.cells (bts [97, 98]).toArray 5 (2, 3))).heap[w2.heap.size]? = some (.cells (bts [97, 98]).toArray 5 (2, 3)) := heap_alloc_new _ _
      have h2 := cell_of_row _ _ (0 + j) _ _ _ this
      exact h2.trans (by simpa using hu)⟩⟩
  have C2 := Lib.hid (show Below w.heap.size w W2 from hW ▸ B3.out.alloc B3.out.size _)
  have hlt := Lib.hid B1.out.lt
  have hrow := Lib.hid (fun b hb => (B1.out.row (b := b) hb).2.1)
  have C0 := Lib.hid c0
  have C1 := Lib.hid c1
  clear hW c0 c1
  refine (wtext_any w.heap.size w.heap.size r2 _ W2 _ [97, 98] _ C0.out ⟨_, 2, 2, rfl, rfl, Nat.le_refl _, C1.out⟩ ?hok (by simp) (by decide)).mono ?_
  case hok =>
    rintro b hb rfl (e | e)
    · have := hlt.out; omega
    · have := hrow.out _ e; omega
  rintro e3 w3 ⟨rfl, r3, d1, d2, d3⟩
  rw [WL0] at d1
  have D1 := Lib.hid d1
  have D3 := Lib.hid (C2.out.trans (WrS.below C0.out d3))
  clear d1 d2 d3 hlt hrow
  go_wp2_with fail
  refine (wbytes_any w.heap.size w.heap.size r3 _ w3 D1.out (by decide)).mono ?_
  rintro e4 w4 ⟨A, n4, c, rfl, hn4, e2, e3⟩
  have E1 := Lib.hid (D1.out.only (Only.of_new e2 (fun _ => False)) (fun h => h) (fun _ _ h => h))
  have E2 := Lib.hid (D3.out.trans (e2.mono D3.out.size))
  have E3 := Lib.hid (IsB.of_own e3)
  clear e2 e3 hn4
  go_wp2_with fail
  refine (read_any w4 _ _ _ E3.out (by decide)).mono ?_
  rintro e5 w5 ⟨g, rfl, f1, f2⟩
  have F1 := Lib.hid f1
  have F2 := Lib.hid (E1.out.only (Only.of_new f2 (fun _ => False)) (fun h => h) (fun _ _ h => h))
  have F3 := Lib.hid (E2.out.trans (f2.mono E2.out.size))
  clear f1 f2
  go_wp2_with fail
  refine (wbytes_any w.heap.size w.heap.size r3 _ w5 F2.out (by decide)).mono ?_
  rintro e6 w6 ⟨A', n6, c', rfl, hn6, g1, g2⟩
  obtain rfl : n6 = 8 := hn6
  have G1 := Lib.hid (F1.out.only (Only.of_new g1 (fun _ => False)) (fun _ _ _ _ h => h))
  have G2 := Lib.hid (F2.out.only (Only.of_new g1 (fun _ => False)) (fun h => h) (fun _ _ h => h))
  have G3 := Lib.hid (F3.out.trans (g1.mono F3.out.size))
  have hstr : (convert 22 9 (.slice A' 8 c')).run Try.prog w6 = .ok (.string (bstr [2, 1, 253, 253, 0, 2, 97, 98])) w6 := (IsB.of_own g2).str (P := Try.prog) Try.underlying22 Try.underlying5 Try.underlying9
  clear g1 g2
  go_wp2_with fail
  refine (wlen_any w.heap.size w.heap.size r3 _ w6 G2.out).mono ?_
  rintro e7 w7 ⟨rfl, rfl⟩
  clear hstr
  go_wp2_with fail
  refine (rnum_any w6 _ _ g _ 0 2 G1.out).mono ?_
  rintro e8 w8 ⟨rfl, k2, k3⟩
  rw [WL1]
  rw [WL2, WL3] at k2
  have K2 := Lib.hid k2
  have K3 := Lib.hid (G3.out.trans (k3.below G3.out.size (fun b hb e => by have := G1.out.mid.1; have := E2.out.size; omega)))
  clear k2 k3
  go_wp2_with fail
  refine (rcount_any w8 _ _ g _ 0 300 K2.out).mono ?_
  rintro e9 w9 ⟨rfl, l2, l3⟩
  rw [WL4] at l2 ⊢
  have L2 := Lib.hid l2
  have L3 := Lib.hid (K3.out.trans (l3.below K3.out.size (fun b hb e => by have := G1.out.mid.1; have := E2.out.size; omega)))
  clear l2 l3
  go_wp2_with fail
  refine (rtext_any w9 _ _ g _ 0 5 L2.out (by decide)).mono ?_
  rintro e10 w10 ⟨v, rfl, m1, m2, m3⟩
  rw [WL5] at m1 m2
  obtain ⟨A2, n2, c2, rfl, hn2, m1⟩ := m1
  have M2 := Lib.hid m2
  have M3 := Lib.hid (L3.out.trans (m3.below L3.out.size (fun b hb e => by have := G1.out.mid.1; have := E2.out.size; omega)))
  have hstr := (IsB.of_own m1).str (P := Try.prog) (src := 22) (dst := 9) Try.underlying22 Try.underlying5 Try.underlying9
  clear m1 m2 m3 hn2
  go_wp2_with fail
  refine (rend_any w10 _ _ g _ 0 M2.out).mono ?_
  rintro e11 w11 ⟨rfl, k, rfl⟩
  rw [WL6]
  clear hstr
  go_wp2_with fail
  go_ret
  exact ⟨rfl, below_drewN' M3.out k⟩
end Go.Proofs.Ytmcgfcchmpoalaa
