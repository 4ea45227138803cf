/- WireMost: for every two numbers and every bytes the law returns true: a count above what may be is refused, and what was read ahead of it isn't lost. No conditions. -/
import Derived.Test.YtmcgfcchmpoalaaWj
import Derived.Test.YtmcgfcchmpoalaaPa
import Derived.Test.YtmcgfcchmpoalaaRow
namespace Go.Proofs.Ytmcgfcchmpoalaa
open Go.RowKit Go.WideShapes Go.ChangeShapes Go.ChangeAt
open Go.ChangeMaps (open_string)

set_option maxRecDepth 20000 in
set_option maxHeartbeats 2000000 in
theorem wireMost_any (n most : Nat) (v : Value) (l : List UInt8) (w : World) (hv : IsB w (fun b => b < w.heap.size) v l) (hnn : n < 18446744073709551616) :
    Calls Try.prog 5 #[.int .u64 (n : Int), .int .u64 (most : Int), v] w fun e w' => e = .returned (.bool true) ∧ Below w.heap.size w w' := by
  have HV := Lib.hid hv
  obtain ⟨A, m, c, rfl, hm, hmc, hs⟩ := hv
  have HM := Lib.hid hm
  clear hm hs hmc
  by_cases hlong : m ≤ 300
  · have dl : decide ((300 : Int) < (m : Int)) = false := by simp; omega
    have R := rcountS_countB n most hnn [] 0
    rw [List.append_nil] at R
    have HLONG := Lib.hid hlong
    clear hlong hnn
    by_cases hmn : most < n
    · have q : rcountS (countB n) 0 most = (0, [], 2) := by rw [R, if_neg (by simp), if_pos hmn]
      have dm : decide (most < n) = true := by simpa using hmn
      have HQ := Lib.hid q
      clear R q hmn
      go_enter Try.func5, Try.ntmps5
      go_wp2_with fail
      refine (writes_any w).mono ?_
      rintro e1 w1 ⟨rfl, a1⟩
      have A1 := Lib.hid (a1)
      have HV1 := Lib.hid (HV.out.below a1 (fun b _ h => h))
      clear a1
      go_wp2_with fail
      have d0 := IsWr.new w1
      generalize hW : World.alloc w1 _ = W
      rw [hW] at d0
      have D0 := Lib.hid d0
      have D1 := Lib.hid (show Below w1.heap.size w1 W from hW ▸ (Below.refl _ w1).alloc (Nat.le_refl _) _)
      have D2 := Lib.hid (HV1.out.new D1.out)
      have D3 := Lib.hid (show W.heap.size = w1.heap.size + 1 by rw [← hW]; simp)
      clear d0 hW
      refine (wraw_new w1.heap.size w1.heap.size none [] W _ 22 [.slice A m c] [l] _ _ _ (fun b => b < w.heap.size) rfl D3.out.symm rfl D0.out (Each1.one D2.out) ?hok (by simp) ?hp (by simp)).mono ?_
      case hok =>
        intro b hb ho h
        have := A1.out.size
        rcases h with h | h
        · omega
        · cases h
      case hp => intro q hq; simp at hq; subst hq; have := HM.out; have := HLONG.out; omega
      rintro e2 w2 ⟨rfl, r2, a1, a2, a3⟩
      rw [show [] ++ [l].flatten = l from by simp] at a1
      have E1 := Lib.hid (a1)
      have E2 := Lib.hid (D1.out.trans (WrS.below D0.out a3))
      have EV := Lib.hid (D2.out.below (WrS.below D0.out a3) (fun b hb h => by have := A1.out.size; omega))
      clear a1 a2 a3 D3
      go_wp2_with fail
      refine (wcount_any w1.heap.size w1.heap.size r2 l w2 n E1.out (by have := HM.out; have := HLONG.out; omega)).mono ?_
      rintro e3 w3 ⟨rfl, r3, a1, a2, a3⟩
      have F1 := Lib.hid (a1)
      have F2 := Lib.hid (E2.out.trans (WrS.below E1.out a3))
      have FV := Lib.hid (EV.out.below (WrS.below E1.out a3) (fun b hb h => by have := A1.out.size; omega))
      clear a1 a2 a3
      have hLL : (l ++ countB n).length ≤ 1000 := by rw [List.length_append]; have := countB_len n; have := HM.out; have := HLONG.out; omega
      have HLL := Lib.hid hLL
      clear hLL
      go_wp2_with fail
      refine (wbytes_any w1.heap.size w1.heap.size r3 _ w3 F1.out (by have := HLL.out; omega)).mono ?_
      rintro e4 w4 ⟨A4, n4, c4, rfl, hn4, a1, a2⟩
      have G1 := Lib.hid (IsB.of_own a2)
      have G2 := Lib.hid (F2.out.trans (a1.mono F2.out.size))
      have GV := Lib.hid (FV.out.new a1)
      clear a1 a2 hn4
      go_wp2_with fail
      refine (read_any w4 _ _ _ G1.out (by have := HLL.out; omega)).mono ?_
      rintro e5 w5 ⟨g, rfl, a1, a2⟩
      have H1 := Lib.hid (a1)
      have H2 := Lib.hid (G2.out.trans (a2.mono G2.out.size))
      have HV5 := Lib.hid (GV.out.new a2)
      clear a1 a2
      have ra := rawO_app l (countB n) m (by have := HM.out; omega)
      have rb := rawL_app l (countB n) m (by have := HM.out; omega)
      have rc := rawE_app l (countB n) 0 m (by have := HM.out; omega)
      have RA := Lib.hid ra
      have RB := Lib.hid rb
      have RC := Lib.hid rc
      clear ra rb rc
      have hg : w.heap.size ≤ w4.heap.size := by have := G2.out.size; have := A1.out.size; omega
      have HG := Lib.hid hg
      clear hg
      go_wp2_with fail
      refine (rraw_any w5 _ _ g _ 0 _ H1.out).mono ?_
      rintro e6 w6 ⟨v6, rfl, a0, a1, a2⟩
      rw [RA.out] at a0
      rw [RB.out, RC.out] at a1
      have K1 := Lib.hid (a1)
      have K2 := Lib.hid (H2.out.trans (a2.below H2.out.size (fun b hb e => by have := H1.out.mid.1; have := G2.out.size; omega)))
      have KV := Lib.hid (HV5.out.only a2 (fun b hb h e => by have := H1.out.mid.1; have := HG.out; omega))
      have K5 := Lib.hid (a2)
      clear a1 a2
      obtain ⟨A6, n6, c6, rfl, hn6, a0⟩ := a0
      have K0 := Lib.hid a0
      clear a0
      obtain rfl : m = n6 := by rw [hn6]; exact HM.out
      clear hn6
      go_wp2_with fail
      refine (rcount_any w6 _ _ g _ 0 most K1.out).mono ?_
      rintro e7 w7 ⟨rfl, a1, a2⟩
      rw [HQ.out] at a1 ⊢
      have M1 := Lib.hid (a1)
      have M2 := Lib.hid (K2.out.trans (a2.below K2.out.size (fun b hb e => by have := H1.out.mid.1; have := G2.out.size; omega)))
      have MV := Lib.hid (KV.out.only a2 (fun b hb h e => by have := H1.out.mid.1; have := HG.out; omega))
      have MX := Lib.hid (own_only K0.out a2 (fun k hk e => by have := (K0.out.lt k hk).1; have := H1.out.lt; omega))
      clear a1 a2
      have hs1 := (IsB.of_own MX.out).str (P := Try.prog) (src := 22) (dst := 9) Try.underlying22 Try.underlying5 Try.underlying9
      have hs2 := MV.out.str (P := Try.prog) (src := 22) (dst := 9) Try.underlying22 Try.underlying5 Try.underlying9
      go_wp2_with fail
      refine (rerr_any w7 _ _ g _ _ M1.out).mono ?_
      rintro e8 w8 ⟨rfl, rfl⟩
      go_wp2_with fail
      refine (rend_any w7 _ _ g _ _ M1.out).mono ?_
      rintro e9 w9 ⟨rfl, k, rfl⟩
      rw [show endS [] 2 = 2 from rfl]
      go_wp2_with fail
      go_ret
      exact ⟨rfl, below_drewN' (A1.out.trans (M2.out.mono A1.out.size)) k⟩
    · have q : rcountS (countB n) 0 most = (n, [], 0) := by rw [R, if_neg (by simp), if_neg hmn]
      have dm : decide (most < n) = false := by simpa using hmn
      have HQ := Lib.hid q
      clear R q hmn
      go_enter Try.func5, Try.ntmps5
      go_wp2_with fail
      refine (writes_any w).mono ?_
      rintro e1 w1 ⟨rfl, a1⟩
      have A1 := Lib.hid (a1)
      have HV1 := Lib.hid (HV.out.below a1 (fun b _ h => h))
      clear a1
      go_wp2_with fail
      have d0 := IsWr.new w1
      generalize hW : World.alloc w1 _ = W
      rw [hW] at d0
      have D0 := Lib.hid d0
      have D1 := Lib.hid (show Below w1.heap.size w1 W from hW ▸ (Below.refl _ w1).alloc (Nat.le_refl _) _)
      have D2 := Lib.hid (HV1.out.new D1.out)
      have D3 := Lib.hid (show W.heap.size = w1.heap.size + 1 by rw [← hW]; simp)
      clear d0 hW
      refine (wraw_new w1.heap.size w1.heap.size none [] W _ 22 [.slice A m c] [l] _ _ _ (fun b => b < w.heap.size) rfl D3.out.symm rfl D0.out (Each1.one D2.out) ?hok (by simp) ?hp (by simp)).mono ?_
      case hok =>
        intro b hb ho h
        have := A1.out.size
        rcases h with h | h
        · omega
        · cases h
      case hp => intro q hq; simp at hq; subst hq; have := HM.out; have := HLONG.out; omega
      rintro e2 w2 ⟨rfl, r2, a1, a2, a3⟩
      rw [show [] ++ [l].flatten = l from by simp] at a1
      have E1 := Lib.hid (a1)
      have E2 := Lib.hid (D1.out.trans (WrS.below D0.out a3))
      have EV := Lib.hid (D2.out.below (WrS.below D0.out a3) (fun b hb h => by have := A1.out.size; omega))
      clear a1 a2 a3 D3
      go_wp2_with fail
      refine (wcount_any w1.heap.size w1.heap.size r2 l w2 n E1.out (by have := HM.out; have := HLONG.out; omega)).mono ?_
      rintro e3 w3 ⟨rfl, r3, a1, a2, a3⟩
      have F1 := Lib.hid (a1)
      have F2 := Lib.hid (E2.out.trans (WrS.below E1.out a3))
      have FV := Lib.hid (EV.out.below (WrS.below E1.out a3) (fun b hb h => by have := A1.out.size; omega))
      clear a1 a2 a3
      have hLL : (l ++ countB n).length ≤ 1000 := by rw [List.length_append]; have := countB_len n; have := HM.out; have := HLONG.out; omega
      have HLL := Lib.hid hLL
      clear hLL
      go_wp2_with fail
      refine (wbytes_any w1.heap.size w1.heap.size r3 _ w3 F1.out (by have := HLL.out; omega)).mono ?_
      rintro e4 w4 ⟨A4, n4, c4, rfl, hn4, a1, a2⟩
      have G1 := Lib.hid (IsB.of_own a2)
      have G2 := Lib.hid (F2.out.trans (a1.mono F2.out.size))
      have GV := Lib.hid (FV.out.new a1)
      clear a1 a2 hn4
      go_wp2_with fail
      refine (read_any w4 _ _ _ G1.out (by have := HLL.out; omega)).mono ?_
      rintro e5 w5 ⟨g, rfl, a1, a2⟩
      have H1 := Lib.hid (a1)
      have H2 := Lib.hid (G2.out.trans (a2.mono G2.out.size))
      have HV5 := Lib.hid (GV.out.new a2)
      clear a1 a2
      have ra := rawO_app l (countB n) m (by have := HM.out; omega)
      have rb := rawL_app l (countB n) m (by have := HM.out; omega)
      have rc := rawE_app l (countB n) 0 m (by have := HM.out; omega)
      have RA := Lib.hid ra
      have RB := Lib.hid rb
      have RC := Lib.hid rc
      clear ra rb rc
      have hg : w.heap.size ≤ w4.heap.size := by have := G2.out.size; have := A1.out.size; omega
      have HG := Lib.hid hg
      clear hg
      go_wp2_with fail
      refine (rraw_any w5 _ _ g _ 0 _ H1.out).mono ?_
      rintro e6 w6 ⟨v6, rfl, a0, a1, a2⟩
      rw [RA.out] at a0
      rw [RB.out, RC.out] at a1
      have K1 := Lib.hid (a1)
      have K2 := Lib.hid (H2.out.trans (a2.below H2.out.size (fun b hb e => by have := H1.out.mid.1; have := G2.out.size; omega)))
      have KV := Lib.hid (HV5.out.only a2 (fun b hb h e => by have := H1.out.mid.1; have := HG.out; omega))
      have K5 := Lib.hid (a2)
      clear a1 a2
      obtain ⟨A6, n6, c6, rfl, hn6, a0⟩ := a0
      have K0 := Lib.hid a0
      clear a0
      obtain rfl : m = n6 := by rw [hn6]; exact HM.out
      clear hn6
      go_wp2_with fail
      refine (rcount_any w6 _ _ g _ 0 most K1.out).mono ?_
      rintro e7 w7 ⟨rfl, a1, a2⟩
      rw [HQ.out] at a1 ⊢
      have M1 := Lib.hid (a1)
      have M2 := Lib.hid (K2.out.trans (a2.below K2.out.size (fun b hb e => by have := H1.out.mid.1; have := G2.out.size; omega)))
      have MV := Lib.hid (KV.out.only a2 (fun b hb h e => by have := H1.out.mid.1; have := HG.out; omega))
      have MX := Lib.hid (own_only K0.out a2 (fun k hk e => by have := (K0.out.lt k hk).1; have := H1.out.lt; omega))
      clear a1 a2
      have hs1 := (IsB.of_own MX.out).str (P := Try.prog) (src := 22) (dst := 9) Try.underlying22 Try.underlying5 Try.underlying9
      have hs2 := MV.out.str (P := Try.prog) (src := 22) (dst := 9) Try.underlying22 Try.underlying5 Try.underlying9
      go_wp2_with fail
      refine (rend_any w7 _ _ g _ _ M1.out).mono ?_
      rintro e9 w9 ⟨rfl, k, rfl⟩
      rw [show endS [] 0 = 0 from rfl]
      go_wp2_with fail
      go_ret
      exact ⟨rfl, below_drewN' (A1.out.trans (M2.out.mono A1.out.size)) k⟩
  · have dl : decide ((300 : Int) < (m : Int)) = true := by simp; omega
    clear hlong hnn
    go_enter Try.func5, Try.ntmps5
    go_wp2_with fail
    refine (writes_any w).mono ?_
    rintro e1 w1 ⟨rfl, a1⟩
    have A1 := Lib.hid (a1)
    clear a1
    go_wp2_with fail
    go_ret
    exact ⟨rfl, A1.out⟩

theorem wireMost_lifted (os : Os) (started : os.Started) (H : Type) (enc : TypeId × Value → H) :
    ReturnsInHanded {} Try.checked os 5 .any (Rows.wireMostSpec.pre6 enc Try.prog Try.f5 Rows.wireMostRow.domain false) (Rows.wireMostSpec.post enc Try.prog Try.f5 false true false false) := by
  refine law_lift (C := Try.checked) own started (by kernel_rfl) Try.func5
    (ChangeSpec.witness6 (enc := enc) (C := Try.checked) false ⟨#[], #[.int .u64 0, .int .u64 0, .slice none 0 0], []⟩ 8 (by kernel_rfl) (by kernel_rfl) (by kernel_rfl) (by kernel_rfl)) rfl Try.underlying4 laidOut ?hread rfl ?hs ?walk
  case hread =>
    intro t ht
    rw [Try.params5] at ht
    simp at ht
    rcases ht with rfl | rfl | rfl <;> exact ⟨by kernel_rfl, of_decide_eq_true (by kernel_rfl)⟩
  case hs =>
    intro ds hl
    match ds, hl with
    | [d0, d1, d2], _ => exact ⟨rfl, rfl, rfl⟩
  case walk =>
    intro W base args ds p hval hA
    rw [Try.params5] at hA hval
    obtain ⟨v0, vs0, d0, ds0, p0, q0, hargs, rfl, rfl, h0, r0⟩ := trodAll_cons hA
    obtain ⟨v1, vs1, d1, ds1, p1, q1, rfl, rfl, rfl, h1, r1⟩ := trodAll_cons r0
    obtain ⟨v2, vs2, d2, ds2, p2, q2, rfl, rfl, rfl, h2, r2⟩ := trodAll_cons r1
    obtain ⟨rfl, rfl, rfl⟩ := trodAll_nil r2
    obtain rfl : args = #[v0, v1, v2] := by cases args; simp_all
    obtain ⟨a0, rfl, rfl, rfl, w0⟩ := open_int Try.underlying32 (hval 0 32 v0 rfl rfl) h0
    obtain ⟨n0, rfl⟩ := Int.eq_ofNat_of_zero_le (bounds_u64 w0).1
    have b0 := (bounds_u64 w0).2
    obtain ⟨a1, rfl, rfl, rfl, w1⟩ := open_int Try.underlying32 (hval 1 32 v1 rfl rfl) h1
    obtain ⟨n1, rfl⟩ := Int.eq_ofNat_of_zero_le (bounds_u64 w1).1
    have b1 := (bounds_u64 w1).2
    obtain ⟨l2, hl2⟩ := open_bytes Try.underlying22 Try.underlying5 (by kernel_rfl) (hval 2 22 v2 rfl rfl) h2
    exact wireMost_any n0 n1 _ l2 W hl2 (by omega)

theorem wireMost_over : Rows.wireMostRow.holds Try.pinned (OpenSpec.ofChange Rows.wireMostSpec) :=
  OpenClaim.holds_of_wide 5 Try.f5 rfl rfl rfl rfl rfl rfl rfl ⟨rfl, rfl, rfl, rfl, rfl⟩ rfl rfl rfl rfl rfl (by kernel_rfl) Try.func5 (by kernel_rfl)
    (of_decide_eq_true (by kernel_rfl)) (by unfold Func.isWrapper; first | (rw [if_pos (by decide +kernel)]; kernel_rfl) | (rw [if_neg (by decide +kernel)]; exact ⟨rfl, rfl⟩))
    (fun os started H enc _ => wireMost_lifted os started H enc)

/-- the statement -/
theorem WireMost_holds : Rows.WireMostSaid := wireMost_over
#print axioms WireMost_holds
end Go.Proofs.Ytmcgfcchmpoalaa
