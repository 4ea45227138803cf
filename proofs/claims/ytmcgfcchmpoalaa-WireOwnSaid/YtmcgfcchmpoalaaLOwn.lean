/- WireOwn: for every bytes the law returns true: bytes that are handed in and out are neither the writer's nor the reader's. No conditions. -/
import Derived.Test.YtmcgfcchmpoalaaWj
import Derived.Test.YtmcgfcchmpoalaaPa
import Derived.Test.YtmcgfcchmpoalaaRow
namespace Go.Proofs.Ytmcgfcchmpoalaa
open Go.RowKit Go.WideShapes Go.ChangeShapes Go.ChangeAt
open Go.ChangeMaps (open_string)

theorem byte_up (x : UInt8) : Value.int .u8 (((x.toNat : Int) + 1) % 256) = Bt (x + 1) := by
  unfold Bt
  rw [UInt8.toNat_add]
  rfl
theorem bts_set (l : List UInt8) (j : Nat) (x : UInt8) : (bts l).set j (Bt x) = bts (l.set j x) := by simp [bts, List.map_set]
/-- a byte of an own row is turned -/
theorem own_up {w : World} {base n c : Nat} {A : Option Addr} {l : List UInt8} {j : Nat} (h : w.ownsRow base 5 1 (.slice A n c) n (bts l)) (hj : j < n) :
    ∃ g x, A = some ⟨g, 0, none⟩ ∧ w.cell? ⟨g, j, none⟩ = some (.int .u8 (x.toNat : Int)) ∧ w.frozen? ⟨g, j, none⟩ = false ∧
      (w.setCell ⟨g, j, none⟩ (.int .u8 (((x.toNat : Int) + 1) % 256))).ownsRow base 5 1 (.slice A n c) n (bts (l.set j (x + 1))) ∧
      Only (fun b => (Value.slice A n c).ownBlock = some b) w (w.setCell ⟨g, j, none⟩ (.int .u8 (((x.toNat : Int) + 1) % 256))) := by
  obtain ⟨g, cap, hv, _, _⟩ := h.form (by omega)
  injection hv with h1 h2 h3
  subst h1 h3
  have hl : l.length = n := by have := h.1; simpa using this
  refine ⟨g, l[j]'(by omega), rfl, ?_, h.frozenAt j, ?_, ?_⟩
  · rw [h.cellAt j (by omega), bts_get l j (by omega)]
    rfl
  · rw [byte_up, ← bts_set]
    exact (h.stored j _).1
  · exact Only.setCell (S := fun b => (Value.slice (some ⟨g, 0, none⟩) n c).ownBlock = some b) (p := ⟨g, j, none⟩) (Only.refl _ _) (fun _ => rfl) _

set_option maxRecDepth 20000 in
set_option maxHeartbeats 4000000 in
theorem wireOwn_any (v : Value) (l : List UInt8) (w : World) (hv : IsB w (fun b => b < w.heap.size) v l) :
    Calls Try.prog 3 #[v] w fun e w' => e = .returned (.bool true) ∧ Below w.heap.size w w' := by
  have HV := Lib.hid hv
  obtain ⟨A, m, c, rfl, hm, hmc, hs⟩ := hv
  have HM := Lib.hid hm
  have HS := Lib.hid hs
  clear hm hs hmc
  by_cases hlong : m ≤ 1000
  · have dl : decide ((1000 : Int) < (m : Int)) = false := by simp; omega
    have HLONG := Lib.hid hlong
    clear hlong
    go_enter Try.func3, Try.ntmps3
    go_wp2_with fail
    refine (writes_any w).mono ?_
    rintro e1 w1 ⟨rfl, a1⟩
    have A1 := Lib.hid (a1)
    have HV1 := Lib.hid (HV.out.below a1 (fun b _ h => h))
    clear a1
    have hsl : Sl (w1.alloc (.cells #[] 5)) (fun b => b < w.heap.size) 1 A m (bts l) := by
      obtain ⟨A', n', c', h1, _, _, h4⟩ := HV1.out
      injection h1 with h1 h2 h3
      subst h1 h2
      exact h4.new ((Below.refl _ _).alloc (Nat.le_refl _) _) (by omega)
    have hml : m ≤ 1000 := HLONG.out
    go_wp2_with (at_builtin; refine wpList_app _ rfl (.tmp 14) (.tmp 15) 22 rfl w1.heap.size 5 _ 1 1 Try.underlying22 infoU8 rfl (by decide) (some ⟨w1.heap.size, 0, none⟩) 0 0 rfl A m c rfl [] (World.ownsRow_lit w1 #[] 0 (Nat.le_refl _) (by decide) rfl) _ _ hsl (bts_one _) (by unfold maxLen; omega) (by omega) ?hbase ?next)
    case hbase => simp
    intro A' c' w2 hown1 ho1 hat1
    have MINE := Lib.hid hown1
    have B2 := Lib.hid (show Below w1.heap.size w1 w2 from (((Only.refl (fun b => w1.heap.size ≤ b) w1).alloc _).trans ho1 (fun b hb e => by simp [Value.ownBlock] at e; omega)).below (Nat.le_refl _) (fun b hb h => by omega))
    have HV2 := Lib.hid (HV1.out.new B2.out)
    clear hown1 ho1 hat1 hsl
    go_wp2_with fail
    have d0 := IsWr.new w2
    generalize hW : World.alloc w2 _ = W
    rw [hW] at d0
    have D0 := Lib.hid d0
    have D1 := Lib.hid (show Below w2.heap.size w2 W from hW ▸ (Below.refl _ w2).alloc (Nat.le_refl _) _)
    have D3 := Lib.hid (show W.heap.size = w2.heap.size + 1 by rw [← hW]; simp)
    have MINE1 := Lib.hid (own_only MINE.out (Only.of_new D1.out (fun _ => False)) (fun _ _ h => h))
    have HV3 := Lib.hid (HV2.out.new D1.out)
    clear d0 hW
    have PB := Lib.hid ((IsB.of_own MINE.out).new D1.out)
    refine (wraw_new w2.heap.size w2.heap.size none [] W _ 22 [.slice A' m c'] [l] _ _ _ _ rfl D3.out.symm rfl D0.out (Each1.one PB.out) ?hok (by simp) ?hp (by simp)).mono ?_
    case hok =>
      intro b hb ho h
      rcases h with h | h
      · omega
      · cases h
    case hp => intro q hq; simp at hq; subst hq; have := HM.out; have := HLONG.out; omega
    rintro e2 w3 ⟨rfl, r2, a1, a2, a3⟩
    rw [show [] ++ [l].flatten = l from by simp] at a1
    have hr2 : ∀ b, r2 = some b → W.heap.size ≤ b := by
      intro b hb
      rcases a2 with h | ⟨b', h, hb'⟩
      · rw [hb] at h; cases h
      · rw [hb] at h; injection h with h; omega
    have HMK := Lib.hid (MINE.out.lt)
    have HR2 := Lib.hid hr2
    have E1 := Lib.hid a1
    have E2 := Lib.hid (D1.out.trans (WrS.below D0.out a3))
    have EV := Lib.hid (HV3.out.only a3 (fun b hb h e => by rcases e with e | e; (have := A1.out.size; have := B2.out.size; omega); cases e))
    have EM := Lib.hid (own_only MINE1.out a3 (fun k hk e => by have := (HMK.out k hk).2; rcases e with e | e; omega; cases e))
    have EB := Lib.hid (PB.out.only a3 (fun b hb h e => by rcases e with e | e; omega; cases e))
    clear a1 a2 a3 hr2
    go_wp2_with fail
    refine (read_any w3 _ l _ EB.out (by have := HM.out; have := HLONG.out; omega)).mono ?_
    rintro e3 w4 ⟨gr, rfl, a1, a2⟩
    have G1 := Lib.hid (a1)
    have G2 := Lib.hid (E2.out.trans (a2.mono E2.out.size))
    have GV := Lib.hid (EV.out.new a2)
    have GM := Lib.hid (own_only EM.out (Only.of_new a2 (fun _ => False)) (fun _ _ h => h))
    have GW := Lib.hid (E1.out.only (Only.of_new a2 (fun _ => False)) (fun h => h) (fun _ _ h => h))
    have HS3 := Lib.hid (E2.out.size)
    clear a1 a2
    go_wp2_with fail
    have gm0 := GM.out
    go_loopg [6, 24] m (fun q _ i wr => ∃ (j : Nat) (l' : List UInt8), j + q = m ∧ i = .int .i64 j ∧ Hid (wr.ownsRow w1.heap.size 5 1 (.slice A' m c') m (bts l')) ∧ Hid (Only (fun b => (Value.slice A' m c').ownBlock = some b) w4 wr))
    case atStart => exact ⟨0, l, by omega, rfl, gm0, Only.refl _ _⟩
    case round =>
      obtain ⟨j, l', hj, rfl, how, hon⟩ := hrel
      clear gm0
      by_cases hlt : j < m
      · obtain ⟨g, x, rfl, hc, hf, hw', ho'⟩ := own_up how.out hlt
        have HW' := Lib.hid hw'
        have HO' := Lib.hid ho'
        clear hw' ho'
        go_wp2
        go_roundg (m - 1 - j)
        case measure => omega
        case rel => exact ⟨j + 1, _, by omega, by go_num, HW'.out, hon.out.trans HO'.out (fun _ _ h => h)⟩
      · have hgr := G1.out.mid.1
        have F1 := Lib.hid (G1.out.only hon.out (fun b hb h1 _ e => by have := (HMK.out b e).2; have := HS3.out; have := D3.out; omega))
        have F2 := Lib.hid (GW.out.only hon.out (fun e => by have := (HMK.out _ e).2; omega) (fun b hb e => by have := (HMK.out b e).2; have := HR2.out b hb; have := D3.out; omega))
        have F3 := Lib.hid (GV.out.only hon.out (fun b hb h e => by have := (HMK.out b e).1; have := A1.out.size; omega))
        have F4 := Lib.hid (show Below w.heap.size w wr from (A1.out.trans ((B2.out.trans (G2.out.mono B2.out.size)).mono A1.out.size)).trans (hon.out.below (by have := A1.out.size; have := B2.out.size; have := G2.out.size; omega) (fun b hb e => by have := (HMK.out b e).1; have := A1.out.size; omega)))
        have F5 := Lib.hid (show w4.heap.size ≤ wr.heap.size from hon.out.size)
        clear hgr
        go_wp2_with fail
        refine (wbytes_any w2.heap.size w2.heap.size r2 l wr F2.out (by have := HM.out; have := HLONG.out; omega)).mono ?_
        rintro e6 w6 ⟨A6, n6, c6, rfl, hn6, a1, a2⟩
        have K1 := Lib.hid (F1.out.only (Only.of_new a1 (fun _ => False)) (fun _ _ _ _ h => h))
        have K2 := Lib.hid (F2.out.only (Only.of_new a1 (fun _ => False)) (fun h => h) (fun _ _ h => h))
        have K3 := Lib.hid (F3.out.new a1)
        have K4 := Lib.hid (F4.out.trans (a1.mono F4.out.size))
        have KX := Lib.hid (a2)
        have KL := Lib.hid (a2.lt)
        have hml6 : n6 ≤ 1000 := by have := HM.out; have := HLONG.out; omega
        clear a1 a2 hn6
        obtain ⟨wq, rfl⟩ : ∃ wq : World, wq = wr := ⟨_, rfl⟩
        go_wp2_with fail
        go_loopg [8, 37] n6 (fun q _ i wr => ∃ (j : Nat) (l' : List UInt8), j + q = n6 ∧ i = .int .i64 j ∧ Hid (wr.ownsRow wq.heap.size 5 1 (.slice A6 n6 c6) n6 (bts l')) ∧ Hid (Only (fun b => (Value.slice A6 n6 c6).ownBlock = some b) w6 wr))
        case atStart => exact ⟨0, l, by omega, rfl, KX.out, Only.refl _ _⟩
        case round =>
          obtain ⟨j2, l2, hj2, rfl, how2, hon2⟩ := hrel
          by_cases hlt2 : j2 < n6
          · obtain ⟨g, x, rfl, hc, hf, hw', ho'⟩ := own_up how2.out hlt2
            have HW' := Lib.hid hw'
            have HO' := Lib.hid ho'
            clear hw' ho'
            go_wp2
            go_roundg (n6 - 1 - j2)
            case measure => omega
            case rel => exact ⟨j2 + 1, _, by omega, by go_num, HW'.out, hon2.out.trans HO'.out (fun _ _ h => h)⟩
          · have M1 := Lib.hid (show IsRd wr.drew _ _ _ _ _ from K1.out.only hon2.out.drew (fun b hb h1 h2 e => by have := (KL.out b e).1; have := G1.out.hi_le; have := F5.out; omega))
            have M2 := Lib.hid (show IsWr wr.drew _ _ _ _ from K2.out.only hon2.out.drew (fun e => by have := (KL.out _ e).1; have := F2.out.lt; omega) (fun b hb e => by have := (KL.out _ e).1; have := (F2.out.row hb).2.1; omega))
            have M3 := Lib.hid (show IsB wr.drew (fun b => b < w.heap.size) _ _ from K3.out.only hon2.out.drew (fun b hb h e => by have := (KL.out b e).1; have := F4.out.size; omega))
            have M4 := Lib.hid (show Below w.heap.size w wr.drew from (K4.out.trans (hon2.out.drew.below (by have := F4.out.size; have := K4.out.size; omega) (fun b hb e => by have := (KL.out b e).1; have := F4.out.size; omega))))
            go_upto_region 20 with fail
            have hb0 := M3.out.str (P := Try.prog) (src := 22) (dst := 9) Try.underlying22 Try.underlying5 Try.underlying9
            have HBY := Lib.hid (wbytes_any _ _ _ _ wr.drew M2.out (by have := HM.out; have := HLONG.out; omega))
            have hraw := (raw_parts l m (by have := HM.out; omega) 0).1
            rw [List.take_of_length_le (by have := HM.out; omega)] at hraw
            have HRAW := Lib.hid hraw
            clear hraw
            go_region_with (first
              | (go_at_call 12; refine HBY.out.mono ?_; rintro e7 w7 ⟨A7, n7, c7, rfl, hn7, a1, a2⟩; clear hn7; have hb7 := (M3.out.new a1).str (P := Try.prog) (src := 22) (dst := 9) Try.underlying22 Try.underlying5 Try.underlying9; have hs7 := (IsB.of_own a2).str (P := Try.prog) (src := 22) (dst := 9) Try.underlying22 Try.underlying5 Try.underlying9; have N1 := Lib.hid (rraw_any w7 _ _ gr l 0 m (M1.out.only (Only.of_new a1 (fun _ => False)) (fun _ _ _ _ h => h))); have N3 := Lib.hid (M3.out.new a1); have N4 := Lib.hid (M4.out.trans (a1.mono M4.out.size)); clear a1 a2)
              | (go_at_call 13; refine N1.out.mono ?_; rintro e8 w8 ⟨v8, rfl, ⟨A8, n8, c8, rfl, hn8, a0⟩, a1, a2⟩; rw [HRAW.out] at a0; clear hn8; have hs8 := (IsB.of_own a0).str (P := Try.prog) (src := 22) (dst := 9) Try.underlying22 Try.underlying5 Try.underlying9; have hb8 := (N3.out.only a2 (fun b hb h e => by have := G1.out.mid.1; have := A1.out.size; have := B2.out.size; have := E2.out.size; omega)).str (P := Try.prog) (src := 22) (dst := 9) Try.underlying22 Try.underlying5 Try.underlying9; have N5 := Lib.hid (N4.out.trans (a2.below N4.out.size (fun b hb e => by have := G1.out.mid.1; have := A1.out.size; have := B2.out.size; have := E2.out.size; omega))); clear a0 a1 a2))
            all_goals
              go_wp2
              go_ret
              exact ⟨rfl, N5.out⟩
  · have dl : decide ((1000 : Int) < (m : Int)) = true := by simp; omega
    clear hlong
    go_enter Try.func3, Try.ntmps3
    go_wp2_with fail
    refine (writes_any w).mono ?_
    rintro e1 w1 ⟨rfl, a1⟩
    have A1 := Lib.hid (a1)
    clear a1
    go_wp2_with fail
    go_ret
    exact ⟨rfl, A1.out⟩

theorem wireOwn_lifted (os : Os) (started : os.Started) (H : Type) (enc : TypeId × Value → H) :
    ReturnsInHanded {} Try.checked os 3 .any (Rows.wireOwnSpec.pre6 enc Try.prog Try.f3 Rows.wireOwnRow.domain false) (Rows.wireOwnSpec.post enc Try.prog Try.f3 false true false false) := by
  refine law_lift (C := Try.checked) own started (by kernel_rfl) Try.func3
    (ChangeSpec.witness6 (enc := enc) (C := Try.checked) false ⟨#[], #[.slice none 0 0], []⟩ 8 (by kernel_rfl) (by kernel_rfl) (by kernel_rfl) (by kernel_rfl)) rfl Try.underlying4 laidOut ?hread rfl ?hs ?walk
  case hread =>
    intro t ht
    rw [Try.params3] at ht
    simp at ht
    subst ht
    exact ⟨by kernel_rfl, of_decide_eq_true (by kernel_rfl)⟩
  case hs =>
    intro ds hl
    match ds, hl with
    | [d0], _ => exact ⟨rfl, rfl, rfl⟩
  case walk =>
    intro W base args ds p hval hA
    rw [Try.params3] at hA hval
    obtain ⟨v0, vs0, d0, ds0, p0, q0, hargs, rfl, rfl, h0, r0⟩ := trodAll_cons hA
    obtain ⟨rfl, rfl, rfl⟩ := trodAll_nil r0
    obtain rfl : args = #[v0] := by cases args; simp_all
    obtain ⟨l0, hl0⟩ := open_bytes Try.underlying22 Try.underlying5 (by kernel_rfl) (hval 0 22 v0 rfl rfl) h0
    exact wireOwn_any _ l0 W hl0

theorem wireOwn_over : Rows.wireOwnRow.holds Try.pinned (OpenSpec.ofChange Rows.wireOwnSpec) :=
  OpenClaim.holds_of_wide 3 Try.f3 rfl rfl rfl rfl rfl rfl rfl ⟨rfl, rfl, rfl, rfl, rfl⟩ rfl rfl rfl rfl rfl (by kernel_rfl) Try.func3 (by kernel_rfl)
    (of_decide_eq_true (by kernel_rfl)) (by unfold Func.isWrapper; first | (rw [if_pos (by decide +kernel)]; kernel_rfl) | (rw [if_neg (by decide +kernel)]; exact ⟨rfl, rfl⟩))
    (fun os started H enc _ => wireOwn_lifted os started H enc)

/-- the statement -/
theorem WireOwn_holds : Rows.WireOwnSaid := wireOwn_over
#print axioms WireOwn_holds
end Go.Proofs.Ytmcgfcchmpoalaa
