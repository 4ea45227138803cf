/- WireOne: for every bytes the law returns true: whatever is read as a count is written in those very bytes; behind an error nothing is left. No conditions. -/
import Derived.Test.YtmcgfcchmpoalaaWj
import Derived.Test.YtmcgfcchmpoalaaPa
import Derived.Test.YtmcgfcchmpoalaaRow
namespace Go.Proofs.Ytmcgfcchmpoalaa
open Go.RowKit Go.WideShapes Go.ChangeShapes Go.ChangeAt
open Go.ChangeMaps (open_string)

set_option maxRecDepth 20000 in
set_option maxHeartbeats 1000000 in
theorem wireOne_any (v : Value) (l : List UInt8) (w : World) (hv : IsB w (fun b => b < w.heap.size) v l) :
    Calls Try.prog 6 #[v] w fun e w' => e = .returned (.bool true) ∧ Below w.heap.size w w' := by
  have HV := Lib.hid hv
  obtain ⟨A, n, c, rfl, hn, hnc, hs⟩ := hv
  have HN := Lib.hid hn
  have HNC := Lib.hid hnc
  have HS := Lib.hid hs
  clear hn hs hnc
  have R1 := rcountS_one l 18446744073709551615
  by_cases hlong : n ≤ 100
  · have dl : decide ((100 : Int) < (n : Int)) = false := by simp; omega
    obtain ⟨k, l2, e2, hk⟩ : ∃ k l2 e2, rcountS l 0 18446744073709551615 = (k, l2, e2) := ⟨_, _, _, rfl⟩
    rw [hk] at R1
    have HK := Lib.hid hk
    have HR1 := Lib.hid R1
    have HLONG := Lib.hid hlong
    clear R1 hk hlong
    by_cases he : e2 = 0
    · subst he
      go_enter Try.func6, Try.ntmps6
      go_wp2_with fail
      refine (writes_any w).mono ?_
      rintro e1 w1 ⟨rfl, a1⟩
      have A1 := Lib.hid (a1)
      have HV1 := Lib.hid (HV.out.below a1 (fun b _ h => h))
      clear a1
      go_wp2_with fail
      refine (read_any w1 _ l _ HV1.out (by have := HN.out; have := HLONG.out; omega)).mono ?_
      rintro e2 w2 ⟨g, rfl, a1, a2⟩
      have B1 := Lib.hid (a1)
      have B2 := Lib.hid (A1.out.trans (a2.mono A1.out.size))
      have HV2 := Lib.hid (HV1.out.new a2)
      clear a1 a2
      go_wp2_with fail
      refine (rcount_any w2 _ _ g l 0 18446744073709551615 B1.out).mono ?_
      rintro e3 w3 ⟨rfl, a1, a2⟩
      rw [HK.out] at a1 ⊢
      have C1 := Lib.hid (a1)
      have C2 := Lib.hid (B2.out.trans (a2.below B2.out.size (fun b hb e => by have := B1.out.mid.1; have := A1.out.size; omega)))
      have C3 := Lib.hid (a2)
      clear a1 a2
      go_wp2_with fail
      refine (rerr_any w3 _ _ g _ 0 C1.out).mono ?_
      rintro e4 w4 ⟨rfl, rfl⟩
      go_wp2_with fail
      have d0 := IsWr.new w3
      generalize hW : World.alloc w3 _ = W
      rw [hW] at d0
      have D0 := Lib.hid d0
      have D1 := Lib.hid (show Only (fun _ => False) w3 W from hW ▸ (Only.refl _ w3).alloc _)
      clear d0 hW
      refine (wcount_any w3.heap.size w3.heap.size none [] W k D0.out (by simp)).mono ?_
      rintro e5 w5 ⟨rfl, r5, a1, a2, a3⟩
      have E1 := Lib.hid (a1)
      have E2 := Lib.hid ((D1.out.mono (fun _ _ h => h.elim)).trans a3 (fun _ _ h => h))
      clear a1 a2 a3
      go_upto_region 11 with fail
      have ho5 : Below w3.heap.size w3 w5 := E2.out.below (Nat.le_refl _) (fun b hb h => by rcases h with h | h; omega; cases h)
      have hrd5 := Lib.hid (C1.out.only E2.out (fun b hb _ _ h => by rcases h with h | h; omega; cases h))
      have hbl5 := Lib.hid (C2.out.trans (ho5.mono C2.out.size))
      have HSL := Lib.hid ((HV2.out.only C3.out (fun b hb h e => by have := B1.out.mid.1; have := A1.out.size; omega)).below ho5 (fun b hb h => hb))
      have hl := HR1.out.2 (by simp)
      have hkk : n = (countB k).length + l2.length := by rw [HN.out]; conv => lhs; rw [hl.1]; rw [List.length_append]
      have hsub : IntKind.i64.wrap ((n : Int) - (l2.length : Int)) = (((countB k).length : Nat) : Int) := by rw [IntWalk.i64_in _ (by have := HLONG.out; omega)]; omega
      have hkc : (countB k).length ≤ c := by have := HNC.out; omega
      have hpre : ∀ W, Sl W (fun b => b < w.heap.size) 1 A n (bts l) → (convert 22 9 (.slice A (countB k).length c)).run Try.prog W = .ok (.string (bstr (countB k))) W := by
        intro W hs
        have h2 : IsB W (fun b => b < w.heap.size) (.slice A (countB k).length c) (countB k) := by
          refine ⟨A, _, c, rfl, rfl, hkc, ?_⟩
          have := hs.take (k := (countB k).length) (by omega)
          rw [Nat.mul_one] at this
          have e : (bts l).take (countB k).length = bts (countB k) := by rw [hl.1, bts_append, List.take_left' (by simp)]
          rwa [e] at this
        exact h2.str (P := Try.prog) (src := 22) (dst := 9) Try.underlying22 Try.underlying5 Try.underlying9
      have hsl : Sl w5 (fun b => b < w.heap.size) 1 A n (bts l) := by
        obtain ⟨A', n', c', h1, _, _, h4⟩ := HSL.out
        injection h1 with h1 h2 h3
        subst h1 h2
        exact h4
      have hp5 := hpre w5.drew hsl
      have HPRE := Lib.hid hpre
      have HSL5 := Lib.hid (show Sl w5.drew (fun b => b < w.heap.size) 1 A n (bts l) from hsl)
      have HRD := Lib.hid (show IsRd w5.drew _ _ g l2 0 from hrd5.out)
      have HKC := Lib.hid hkc
      clear hl hkk hpre hsl HSL
      have HBY := Lib.hid (wbytes_any w3.heap.size w3.heap.size r5 _ w5.drew E1.out (by have := countB_len k; (try rw [List.nil_append]); omega))
      have HLF := Lib.hid (rleft_any w5.drew _ _ g l2 0 hrd5.out)
      go_region_with (first
        | (go_at_call 12; refine HBY.out.mono ?_; rintro e6 w6 ⟨A6, n6, c6, rfl, hn6, a1, a2⟩; clear hn6; have G1 := Lib.hid a1; have hs6 : (convert 22 9 (.slice A6 n6 c6)).run Try.prog w6 = .ok (.string (bstr (countB k))) w6 := (IsB.of_own a2).str (P := Try.prog) (src := 22) (dst := 9) Try.underlying22 Try.underlying5 Try.underlying9; have hp6 := HPRE.out w6 (HSL5.out.new a1 (by omega)); have G2 := Lib.hid (HRD.out.only (Only.of_new a1 (fun _ => False)) (fun _ _ _ _ h => h)); clear a1 a2)
        | (go_at_call 19; first | (refine HLF.out.mono ?_; rintro e7 w7 ⟨rfl, rfl⟩) | (refine (rleft_any w6 _ _ g l2 0 G2.out).mono ?_; rintro e7 w7 ⟨rfl, rfl⟩)))
      all_goals
        go_wp2
        go_ret
        exact ⟨rfl, hbl5.out.drew.trans (G1.out.mono hbl5.out.size)⟩
    · have hz := HR1.out.1 he
      obtain ⟨hk0, hl2⟩ := hz
      subst hk0 hl2
      have dE : (e2 != 0) = true := by simpa using he
      have dE2 : (e2 == 0) = false := by simpa using he
      clear he
      go_enter Try.func6, Try.ntmps6
      go_wp2_with fail
      refine (writes_any w).mono ?_
      rintro e1 w1 ⟨rfl, a1⟩
      have A1 := Lib.hid (a1)
      have HV1 := Lib.hid (HV.out.below a1 (fun b _ h => h))
      clear a1
      go_wp2_with fail
      refine (read_any w1 _ l _ HV1.out (by have := HN.out; have := HLONG.out; omega)).mono ?_
      rintro e2 w2 ⟨g, rfl, a1, a2⟩
      have B1 := Lib.hid (a1)
      have B2 := Lib.hid (A1.out.trans (a2.mono A1.out.size))
      have HV2 := Lib.hid (HV1.out.new a2)
      clear a1 a2
      go_wp2_with fail
      refine (rcount_any w2 _ _ g l 0 18446744073709551615 B1.out).mono ?_
      rintro e3 w3 ⟨rfl, a1, a2⟩
      rw [HK.out] at a1 ⊢
      have C1 := Lib.hid (a1)
      have C2 := Lib.hid (B2.out.trans (a2.below B2.out.size (fun b hb e => by have := B1.out.mid.1; have := A1.out.size; omega)))
      have C3 := Lib.hid (a2)
      clear a1 a2
      go_wp2_with fail
      refine (rerr_any w3 _ _ g _ e2 C1.out).mono ?_
      rintro e4 w4 ⟨rfl, rfl⟩
      go_wp2_with fail
      refine (rleft_any w3 _ _ g [] e2 C1.out).mono ?_
      rintro e5 w5 ⟨rfl, rfl⟩
      go_wp2_with fail
      go_ret
      exact ⟨rfl, C2.out⟩
  · have dl : decide ((100 : Int) < (n : Int)) = true := by simp; omega
    clear R1 hlong
    go_enter Try.func6, Try.ntmps6
    go_wp2_with fail
    refine (writes_any w).mono ?_
    rintro e1 w1 ⟨rfl, a1⟩
    have A1 := Lib.hid (a1)
    clear a1
    go_wp2_with fail
    go_ret
    exact ⟨rfl, A1.out⟩

theorem wireOne_lifted (os : Os) (started : os.Started) (H : Type) (enc : TypeId × Value → H) :
    ReturnsInHanded {} Try.checked os 6 .any (Rows.wireOneSpec.pre6 enc Try.prog Try.f6 Rows.wireOneRow.domain false) (Rows.wireOneSpec.post enc Try.prog Try.f6 false true false false) := by
  refine law_lift (C := Try.checked) own started (by kernel_rfl) Try.func6
    (ChangeSpec.witness6 (enc := enc) (C := Try.checked) false ⟨#[], #[.slice none 0 0], []⟩ 8 (by kernel_rfl) (by kernel_rfl) (by kernel_rfl) (by kernel_rfl)) rfl Try.underlying4 laidOut ?hread rfl ?hs ?walk
  case hread =>
    intro t ht
    rw [Try.params6] at ht
    simp at ht
    subst ht
    exact ⟨by kernel_rfl, of_decide_eq_true (by kernel_rfl)⟩
  case hs =>
    intro ds hl
    match ds, hl with
    | [d0], _ => exact ⟨rfl, rfl, rfl⟩
  case walk =>
    intro W base args ds p hval hA
    rw [Try.params6] at hA hval
    obtain ⟨v0, vs0, d0, ds0, p0, q0, hargs, rfl, rfl, h0, r0⟩ := trodAll_cons hA
    obtain ⟨rfl, rfl, rfl⟩ := trodAll_nil r0
    obtain rfl : args = #[v0] := by cases args; simp_all
    obtain ⟨l0, hl0⟩ := open_bytes Try.underlying22 Try.underlying5 (by kernel_rfl) (hval 0 22 v0 rfl rfl) h0
    exact wireOne_any _ l0 W hl0

theorem wireOne_over : Rows.wireOneRow.holds Try.pinned (OpenSpec.ofChange Rows.wireOneSpec) :=
  OpenClaim.holds_of_wide 6 Try.f6 rfl rfl rfl rfl rfl rfl rfl ⟨rfl, rfl, rfl, rfl, rfl⟩ rfl rfl rfl rfl rfl (by kernel_rfl) Try.func6 (by kernel_rfl)
    (of_decide_eq_true (by kernel_rfl)) (by unfold Func.isWrapper; first | (rw [if_pos (by decide +kernel)]; kernel_rfl) | (rw [if_neg (by decide +kernel)]; exact ⟨rfl, rfl⟩))
    (fun os started H enc _ => wireOne_lifted os started H enc)

/-- the statement -/
theorem WireOne_holds : Rows.WireOneSaid := wireOne_over
#print axioms WireOne_holds
end Go.Proofs.Ytmcgfcchmpoalaa
