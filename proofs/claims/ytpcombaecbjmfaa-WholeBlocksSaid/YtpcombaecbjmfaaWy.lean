/- merkle.Way. -/
import Derived.Test.YtpcombaecbjmfaaWq
import Derived.Test.YtpcombaecbjmfaaRt
namespace Go.Proofs.Ytpcombaecbjmfaa
open Go.RowKit
theorem wayN_any : ∀ (n n' : Nat) (row : List Id32) (a : Nat), row.length ≤ n → row.length ≤ n' → wayN n row a = wayN n' row a := by
  intro n
  induction n with
  | zero =>
    intro n' row a h h'
    cases n' with
    | zero => rfl
    | succ n' => rw [wayN, wayN, if_pos (by omega)]
  | succ n ih =>
    intro n' row a h h'
    cases n' with
    | zero => rw [wayN, wayN, if_pos (by omega)]
    | succ n' =>
      rw [wayN, wayN]
      by_cases h1 : row.length ≤ 1
      · rw [if_pos h1, if_pos h1]
      · have hl := mup_length _ row (Nat.le_refl _)
        rw [if_neg h1, if_neg h1, ih n' (mup row) (a / 2) (by omega) (by omega)]
theorem xor_one_small : ∀ a : Nat, a < 1024 → a ^^^ 1 = if a % 2 = 0 then a + 1 else a - 1 := by decide +kernel
theorem ofInt64' (a : Nat) (ha : a < 18446744073709551616) : (BitVec.ofInt 64 (a : Int)).toNat = a := by
  rw [BitVec.ofInt_natCast, BitVec.toNat_ofNat]; exact Nat.mod_eq_of_lt (by omega)
theorem xor64_1 (a : Nat) (ha : a < 1024) : bits BinOp.xor IntKind.i64 (a : Int) 1 = ((if a % 2 = 0 then a + 1 else a - 1 : Nat) : Int) := by
  show IntKind.i64.wrap ((BitVec.ofInt 64 (a : Int) ^^^ BitVec.ofInt 64 ((1 : Nat) : Int)).toNat : Int) = _
  rw [BitVec.toNat_xor, ofInt64' a (by omega), ofInt64' 1 (by omega), xor_one_small a ha, w64 _ (by split <;> omega)]
theorem OwnI.row {w : World} {base n c g : Nat} {row : List Id32} (h : OwnI w base (some ⟨g, 0, none⟩) n c row) {i : Nat} (hi : i < n) : RowAt w g (i * 32) (bts (row.getD i [])) ∧ (row.getD i []).length = 32 := by
  obtain ⟨b, o, e, hb, hr⟩ := ids_at h.sl h.2.2 h.2.1 hi
  injection e with e
  injection e with e1 e2
  subst e1 e2
  have hil : i < row.length := by rw [h.2.1]; exact hi
  rw [getD_getElem hil]
  exact ⟨by simpa using hr, h.2.2 _ (List.getElem_mem hil)⟩
theorem w64s (n : Nat) (h : n ≤ 1000000) : wrap64 (n : Int) = (n : Int) := IntWalk.wrap64_in _ (by omega)
theorem OwnI.cap {w : World} {base n c : Nat} {A : Option Addr} {row : List Id32} (h : OwnI w base A n c row) : n ≤ c := by
  obtain ⟨A0, c0, e0, h0, _⟩ := own_form h.1
  injection e0 with e1 e2 e3
  omega
theorem OwnI.cutG {w : World} {base n c g : Nat} {row : List Id32} (h : OwnI w base (some ⟨g, 0, none⟩) n c row) (hn : 0 < n) {k : Nat} (hk : k ≤ n) : OwnI w base (some ⟨g, 0, none⟩) k c (row.take k) := by
  obtain ⟨g', L, e, _, _, _, _, hc⟩ := h.store hn
  injection e with e
  injection e with e
  subst e
  exact hc k hk
theorem OwnI.storeG {w : World} {base n c g : Nat} {row : List Id32} (h : OwnI w base (some ⟨g, 0, none⟩) n c row) (hn : 0 < n) : ∃ L, Blk w g 32 (List.toArray L) ∧ n * 32 ≤ L.length ∧
    (∀ (w' : World) (i : Nat) (z : Id32), i < n → z.length = 32 → Blk w' g 32 (over L (i * 32) (bts z)).toArray → OwnI w' base (some ⟨g, 0, none⟩) n c (row.set i z)) := by
  obtain ⟨g', L, e, _, h1, h2, h3, _⟩ := h.store hn
  injection e with e
  injection e with e
  subst e
  exact ⟨L, h1, h2, h3⟩
theorem OwnI.ge {w : World} {base n c g : Nat} {row : List Id32} (h : OwnI w base (some ⟨g, 0, none⟩) n c row) : base ≤ g ∧ g < w.heap.size := h.1.lt g rfl
set_option maxRecDepth 20000 in
set_option maxHeartbeats 8000000 in
set_option linter.unusedSimpArgs false in
theorem way_any (w : World) (a n : Nat) (A : Option Addr) (c : Nat) (ids : List Id32) (ok : Nat → Prop) (hn : ids.length = n) (h32 : ∀ x ∈ ids, x.length = 32) (ha : a < n) (hn2 : n ≤ 1000) (hs : Sl w ok 32 A n (ids.flatMap bts)) :
    Calls Try.prog 29 #[.int .i64 (a : Int), .slice A n c] w fun e w' => ∃ A' n' c', e = .returned (.tuple #[.slice A' n' c', .int .i64 0]) ∧ OwnI w' w.heap.size A' n' c' (wayN n ids a) ∧ Below w.heap.size w w' := by
  have hs' := hs.weak (ok' := fun b => b < w.heap.size) (fun b hb _ => hb) (by decide)
  have hs2 : Sl (w.alloc (.cells #[] 32)) (fun b => b < w.heap.size) 32 A n (ids.flatMap bts) := hs'.below ((Below.refl _ _).alloc (Nat.le_refl _) _) (fun _ h _ => h) (by decide)
  obtain ⟨R, hR⟩ : ∃ R, wayN n ids a = R := ⟨_, rfl⟩
  rw [hR]
  have HR := Lib.hid hR
  have HN := Lib.hid hn
  have H32 := Lib.hid h32
  have HN2 := Lib.hid hn2
  have HA := Lib.hid ha
  have d0 : ¬ ((a : Int) < 0) := by omega
  have d1 : decide ((a : Int) < 0) = false := by simp
  have d2 : decide ((n : Int) ≤ (a : Int)) = false := by simp; omega
  have d3 : decide (n ≤ a) = false := by simp; omega
  have d4 : ¬ n ≤ a := by omega
  have hone : ∀ u ∈ ids.flatMap bts, u.oneCell' = true := by
    intro u hu
    obtain ⟨x, _, hx⟩ := List.mem_flatMap.1 hu
    exact bts_one _ u hx
  clear hs hs' hR hn h32 ha
  go_enter Try.func29, Try.ntmps29
  go_wp2_with (at_builtin; refine wpList_app _ rfl (.tmp 17) (.tmp 18) 68 rfl w.heap.size 32 _ 32 32 Try.underlying68 infoIDz (by rfl) (by decide) (some ⟨w.heap.size, 0, none⟩) 0 0 rfl A n c rfl [] (World.ownsRow_lit w #[] 0 (Nat.le_refl _) (by decide) rfl) _ _ hs2 hone (by unfold maxLen; omega) (by omega) (by simp) ?next4)
  case next4 =>
    intro C8 c8 w8 hown8 ho8 hat8
    have hY8 : Below w.heap.size w w8 := (((Only.refl (fun b => w.heap.size ≤ b) w).alloc _).trans ho8 (fun b hb e => by simp [Value.ownBlock] at e; omega)).below (Nat.le_refl _) (fun b hb h => by omega)
    have hO : OwnI w8 w.heap.size C8 n c8 ids := ⟨by simpa using hown8, HN.out, H32.out⟩
    obtain ⟨g8, L8, rfl, _, _, _, _, _⟩ := hO.store (by have := HA.out; omega)
    have HO := Lib.hid hO
    have HBL := Lib.hid hY8
    have HOU := Lib.hid (show OwnI w8 w.heap.size none 0 0 [] from ⟨World.ownsRow_nil _ _ _ _, rfl, fun x hx => by cases hx⟩)
    try simp only [Nat.zero_add]
    clear hown8 ho8 hat8 hY8 hO hs2 hone d0 d1 d2 d3 d4
    go_wp2_with fail
    go_loopg [0, 6, 7] n (fun q v0 v6 v7 wr => ∃ (a n6 c6 g7 c7 : Nat) (A6 : Option Addr) (row out : List Id32), v0 = .int .i64 (a : Int) ∧ v6 = .slice A6 n6 c6 ∧ v7 = .slice (some ⟨g7, 0, none⟩) q c7 ∧ Hid (a < q) ∧ Hid (q ≤ 1000) ∧ Hid (n6 + q ≤ 1000) ∧ Hid (R = out ++ wayN q row a) ∧ Hid (OwnI wr w.heap.size (some ⟨g7, 0, none⟩) q c7 row) ∧ Hid (OwnI wr w.heap.size A6 n6 c6 out) ∧ Hid ((Value.slice A6 n6 c6).ownBlock ≠ some g7) ∧ Hid (Below w.heap.size w wr))
    case atStart => exact ⟨a, 0, 0, g8, c8, none, ids, [], rfl, rfl, by first | rfl | simp, HA, HN2, by simpa [Hid] using HN2.out, by rw [Hid, HR.out]; rfl, HO, HOU, by simp [Hid, Value.ownBlock], HBL⟩
    case round =>
      clear HO HOU HBL HR HA
      obtain ⟨a, n6, c6, g7, c7, A6, row, out, rfl, rfl, rfl, HAM, HQ, HN6, HR, HO, HU, HNE, HBL⟩ := hrel
      obtain ⟨m, hm⟩ : ∃ m, gk = m := ⟨_, rfl⟩
      rw [hm] at HAM HQ HN6 HR HO ⊢
      by_cases h1 : 1 < m
      · have d1 : decide ((1 : Int) < (m : Int)) = true := by simp; omega
        have HAB := Lib.hid (show a < 1000 by have := HAM.out; have := HQ.out; omega)
        have HR2 := Lib.hid (show R = out ++ (sib row a :: wayN (m - 1) (mup row) (a / 2)) by
          have := HR.out
          rw [show m = (m - 1) + 1 by omega, wayN, if_neg (by rw [HO.out.2.1]; omega)] at this
          exact this)
        have HH1 := Lib.hid h1
        have HMQ := Lib.hid (show m ≤ 1000 from HQ.out)
        by_cases ho : m % 2 = 1
        · have e0 : ((m : Int) % 2 == 1) = true := by simp; omega
          have e1 : (((m % 2 : Nat) : Int) == 1) = true := by simp; omega
          have e2 : (m % 2 == 1) = true := by simp; omega
          obtain ⟨kk, hkk⟩ : ∃ kk, m = 2 * kk + 1 := ⟨m / 2, by omega⟩
          obtain ⟨jl, hjl⟩ : ∃ jl, m - 1 = jl := ⟨_, rfl⟩
          have f31 : IntKind.i64.wrap ((m : Int) - 1) = (jl : Int) := by have := HMQ.out; rw [w64 _ (by omega)]; omega
          obtain ⟨hrow, hx32⟩ := HO.out.row (show jl < m by omega)
          have hmd := mup_dup row kk (by rw [HO.out.2.1]; exact hkk)
          rw [show 2 * kk = jl by omega] at hmd
          obtain ⟨x, hx⟩ : ∃ x, row.getD jl [] = x := ⟨_, rfl⟩
          rw [hx] at hrow hx32 hmd
          have HX := Lib.hid hx32
          have HXE := Lib.hid hx
          have HROWX := Lib.hid hrow
          have HMU := Lib.hid hmd
          have hfold := fold_id x hx32
          have j0 : (0 : Int) ≤ (jl : Int) := by omega
          have j1 : (jl : Int) < (m : Int) := by omega
          have j2 : jl < m := by omega
          have hmq := HMQ.out
          have HKK := Lib.hid (And.intro hkk hjl)
          clear hrow hmd hx ho h1 hkk hjl
          go_wp2_with (first
            | (with_reducible refine wpList_ld rfl 32 (.tmp 32) rfl g7 (jl * 32) rfl (bts x) HROWX.out _ Try.underlying32 rfl 32 infoID (by simp [HX.out]) ?_)
            | (at_builtin; refine wpList_app _ rfl (.tmp 27) (.tmp 34) 68 rfl w.heap.size 32 _ 32 32 Try.underlying68 infoIDz (by rfl) (by decide) (some ⟨g7, 0, none⟩) m c7 rfl _ 1 1 rfl _ (HO.out.1.alloc _) _ _ (Sl.one_row wr 32 (bts x) 32 (by rw [bts_length, HX.out])) (bts_one _) (by unfold maxLen; omega) (by omega) (by rw [World.size_alloc]; have := HBL.out.size; omega) ?nextx))
          case nextx =>
            intro B7 b7 w7 hown7 ho7 hat7
            have hal : Below wr.heap.size wr (wr.alloc (.cells (bts x).toArray 32)) := (Below.refl _ _).alloc (Nat.le_refl _) _
            have hO7 : OwnI w7 w.heap.size B7 (m + 1) b7 (row ++ [x]) := OwnI.snoc hown7 HO.out.2.1 HO.out.2.2 HX.out
            obtain ⟨g9, _, rfl, _, _, _, _, _⟩ := hO7.store (by omega)
            have HU2 := Lib.hid ((HU.out.new hal).only ho7 (fun k hk e => HNE.out (hk.trans e.symm)))
            have HBL2 := Lib.hid ((HBL.out.trans (hal.mono HBL.out.size)).trans (ho7.below (HBL.out.trans (hal.mono HBL.out.size)).size (fun b hb e => by have := HO.out.1.lt b e; omega)))
            have HNE9 := Lib.hid (show (Value.slice A6 n6 c6).ownBlock ≠ some g9 from fun e => by
              rcases hat7 with h | h
              · exact HNE.out (e.trans h)
              · have e2 := Option.some.inj h
                have e3 := (HU.out.1.lt g9 e).2
                first | (rw [World.size_alloc] at e2; omega) | (simp at e2; omega) | omega)
            obtain ⟨m1, hm1⟩ : ∃ m1, m + 1 = m1 := ⟨_, rfl⟩
            rw [hm1] at hO7 ⊢
            have HO2 := Lib.hid hO7
            obtain ⟨k2, hk2⟩ : ∃ k2, m1 = 2 * k2 := ⟨m1 / 2, by have := HKK.out.1; omega⟩
            have HK2 := Lib.hid hk2
            have HSB := Lib.hid (show (row ++ [x]).getD (if a % 2 = 0 then a + 1 else a - 1) [] = sib row a by
              have h1 := HAM.out
              have h2 := HO.out.2.1
              have h3 := HKK.out
              unfold sib
              by_cases he : a % 2 = 0
              · rw [if_pos he, if_pos he]
                by_cases hlt : a + 1 < row.length
                · rw [if_pos hlt]; unfold List.getD; rw [List.getElem?_append_left hlt]
                · rw [if_neg hlt]
                  have ea : a = jl := by omega
                  rw [ea, HXE.out]
                  unfold List.getD
                  rw [List.getElem?_append_right (by omega), show jl + 1 - row.length = 0 by omega]
                  rfl
              · rw [if_neg he, if_neg he]; unfold List.getD; rw [List.getElem?_append_left (by omega)])
            have HM1 := Lib.hid hm1
            replace HNE := HNE9
            clear hown7 ho7 hat7 hal hO7 hm1 hk2 hfold j0 j1 j2 e0 e1 e2 f31 hmq
            have hmx : m = m1 - 1 := by have := HM1.out; omega
            have HMX := Lib.hid hmx
            clear hmx
            obtain ⟨a1, ha1⟩ : ∃ x : Nat, (if a % 2 = 0 then a + 1 else a - 1) = x := ⟨_, rfl⟩
            have ex := xor64_1 a (by have := HAB.out; omega)
            rw [ha1] at ex
            have ha1b : a1 < m1 := by have := HAM.out; have := HK2.out; have := HMQ.out; rw [← ha1]; first | (split <;> omega) | (have := HM1.out; split <;> omega)
            have HSIB := Lib.hid (show ((row ++ [x])).getD a1 [] = sib row a by rw [← ha1]; exact HSB.out)
            obtain ⟨hrow, hy32⟩ := HO2.out.row ha1b
            rw [HSIB.out] at hrow hy32
            obtain ⟨y, hy⟩ : ∃ y, sib row a = y := ⟨_, rfl⟩
            rw [hy] at hrow hy32 HSIB
            have HSY := Lib.hid hy
            have HROW := Lib.hid hrow
            have HY := Lib.hid hy32
            have hfold := fold_id y hy32
            have i0 : (0 : Int) ≤ (a1 : Int) := by omega
            have i1 : (a1 : Int) < (m1 : Int) := by omega
            have hn6b := HN6.out
            clear ha1 hrow hy
            go_wp2_with (first
              | (with_reducible refine wpList_ld rfl 32 (.tmp 40) rfl g9 (a1 * 32) rfl (bts y) HROW.out _ Try.underlying32 rfl 32 infoID (by simp [HY.out]) ?_)
              | (at_builtin; refine wpList_app _ rfl (.tmp 36) (.tmp 42) 68 rfl w.heap.size 32 _ 32 32 Try.underlying68 infoIDz (by rfl) (by decide) A6 n6 c6 rfl _ 1 1 rfl _ (HU2.out.1.alloc _) _ _ (Sl.one_row w7 32 (bts y) 32 (by rw [bts_length, HY.out])) (bts_one _) (by unfold maxLen; omega) (by omega) (by rw [World.size_alloc]; have := HBL2.out.size; omega) ?nexto))
            case nexto =>
              intro B6 b6 w6 hown6 ho6 hat6
              have hal : Below (w7).heap.size w7 ((w7).alloc (.cells (bts y).toArray 32)) := (Below.refl _ _).alloc (Nat.le_refl _) _
              have hg7 := HO2.out.ge
              have HU3 := Lib.hid (show OwnI w6 w.heap.size B6 (n6 + 1) b6 (out ++ [y]) from OwnI.snoc hown6 HU2.out.2.1 HU2.out.2.2 HY.out)
              have HO3 := Lib.hid ((HO2.out.new hal).only ho6 (fun k hk e => HNE.out (e.trans hk.symm)))
              have HNE3 := Lib.hid (show (Value.slice B6 (n6 + 1) b6).ownBlock ≠ some g9 from fun e => by
                rcases hat6 with h | h
                · exact HNE.out (h.symm.trans e)
                · have e2 := Option.some.inj (h.symm.trans e)
                  first | (rw [World.size_alloc] at e2; omega) | (simp at e2; omega) | omega)
              have HBL3 := Lib.hid ((HBL2.out.trans (hal.mono HBL2.out.size)).trans (ho6.below (HBL2.out.trans (hal.mono HBL2.out.size)).size (fun b hb e => by have := HU2.out.1.lt b e; omega)))
              have HK22 := Lib.hid (show 0 < k2 by have := HK2.out; have := HH1.out; first | omega | (have := HM1.out; omega))
              have HQ2 := Lib.hid (show k2 ≤ 501 by have := HK2.out; have := HMQ.out; first | omega | (have := HM1.out; omega))
              have hh0 : half (row ++ [x]) 0 = (row ++ [x]) := by simp [half]
              have HO4 := Lib.hid (show OwnI w6 w.heap.size (some ⟨g9, 0, none⟩) m1 b7 (half (row ++ [x]) 0) by rw [hh0]; exact HO3.out)
              clear hown6 ho6 hat6 hal hg7 hh0 hfold i0 i1 hn6b ex
              go_wp2_with fail
              go_loopg [8] k2 (fun q v8 wr => ∃ (i : Nat), i + q = k2 ∧ v8 = .int .i64 i ∧ Hid (OwnI wr w.heap.size (some ⟨g9, 0, none⟩) m1 b7 (half (row ++ [x]) i)) ∧ Hid (OwnI wr w.heap.size B6 (n6 + 1) b6 (out ++ [y])) ∧ Hid (Below w.heap.size w wr))
              case atStart => exact ⟨0, by omega, rfl, HO4, HU3, HBL3⟩
              case round =>
                clear HO4 HU3 HBL3 HO3
                obtain ⟨i, hi, rfl, HO4, HU3, HBL3⟩ := hrel
                have q2 : (m1 : Int) / 2 = (k2 : Int) := by have := HK2.out; omega
                have q3 : (m1 : Int).tdiv 2 = (k2 : Int) := by rw [Int.tdiv_eq_ediv_of_nonneg (by omega)]; exact q2
                have HQ4 := Lib.hid (w64s k2 (Nat.le_trans HQ2.out (by decide)))
                by_cases hlt : i < k2
                · have dl : decide ((i : Int) < (k2 : Int)) = true := by simp; omega
                  have dl' : decide (i < k2) = true := by simp; omega
                  have hh := HK2.out
                  have k2b := HQ2.out
                  obtain ⟨j0, hj0⟩ : ∃ x, 2 * i = x := ⟨_, rfl⟩
                  obtain ⟨j1, hj1⟩ : ∃ x, 2 * i + 1 = x := ⟨_, rfl⟩
                  have f1 : IntKind.i64.wrap (2 * (i : Int)) = (j0 : Int) := by rw [w64 _ (by omega)]; omega
                  have f2 : IntKind.i64.wrap ((j0 : Int) + 1) = (j1 : Int) := by rw [w64 _ (by omega)]; omega
                  have b0 : j0 < m1 := by omega
                  have b1 : j1 < m1 := by omega
                  have b2 : i < m1 := by omega
                  have c0 : (j0 : Int) < (m1 : Int) := by omega
                  have c1 : (j1 : Int) < (m1 : Int) := by omega
                  have c2 : (i : Int) < (m1 : Int) := by omega
                  have z0 : (0 : Int) ≤ (j0 : Int) := by omega
                  have z1 : (0 : Int) ≤ (j1 : Int) := by omega
                  have z2 : (0 : Int) ≤ (i : Int) := by omega
                  have hrl : ((row ++ [x])).length = m1 := HO2.out.2.1
                  have g0 : (half (row ++ [x]) i).getD j0 [] = ((row ++ [x])).getD j0 [] := half_get _ i j0 (by omega) (by omega)
                  have g1 : (half (row ++ [x]) i).getD j1 [] = ((row ++ [x])).getD j1 [] := half_get _ i j1 (by omega) (by omega)
                  have hst := half_step (row ++ [x]) i (by omega)
                  rw [hj1, hj0] at hst
                  obtain ⟨x0, hx0⟩ : ∃ xx, ((row ++ [x])).getD j0 [] = xx := ⟨_, rfl⟩
                  obtain ⟨x1, hx1⟩ : ∃ xx, ((row ++ [x])).getD j1 [] = xx := ⟨_, rfl⟩
                  have hx32 : x0.length = 32 := by rw [← hx0]; exact getD_mem32 HO2.out.2.2 (by omega)
                  have hy33 : x1.length = 32 := by rw [← hx1]; exact getD_mem32 HO2.out.2.2 (by omega)
                  rw [hx0] at g0 hst
                  rw [hx1] at g1 hst
                  have HG0 := Lib.hid g0
                  have HG1 := Lib.hid g1
                  have HST := Lib.hid hst
                  have HX0 := Lib.hid hx32
                  have HX1 := Lib.hid hy33
                  have HB0 := Lib.hid (And.intro b0 (And.intro b1 b2))
                  have HI := Lib.hid hi
                  have HLT := Lib.hid hlt
                  clear hh k2b hj0 hj1 hrl g0 g1 hst hx0 hx1 hx32 hy33 hi hlt
                  have q4 := HQ4.out
                  go_upto_region 12 with fail
                  clear dl dl' q2 q3 q4
                  refine wp_region_tail (S := (fun w' => OwnI w' w.heap.size (some ⟨g9, 0, none⟩) m1 b7 (half (row ++ [x]) i) ∧ OwnI w' w.heap.size B6 (n6 + 1) b6 (out ++ [y]) ∧ Below w.heap.size w w')) 15 (by kernel_rfl) (by decide) (by kernel_rfl) (⟨HO4.out.new ((Below.refl _ _).drew), HU3.out.new ((Below.refl _ _).drew), HBL3.out.drew⟩) ?_
                  simp only [List.take_succ_cons, List.take_zero, List.drop_succ_cons, List.drop_zero]
                  intro hSw
                  refine wpAnyH_take (i := 0) (oi := ⟨some 51, _, _, _, _, _⟩) (v := (.slice (some ⟨g9, 0, none⟩) m1 b7)) rfl (by kernel_rfl) (by kernel_rfl) (by kernel_rfl) (fun _ _ _ h => h) (Or.inl ⟨by rfl, ?_⟩) hSw ?_
                  · intro w' hSw'
                    go_simp
                  simp only [Act.put, List.setIfInBounds_toArray, List.set_cons_zero, List.set_cons_succ]
                  refine wpAnyH_take (i := 1) (oi := ⟨some 52, _, _, _, _, _⟩) (v := (.int .i64 (i : Int))) rfl (by kernel_rfl) (by kernel_rfl) (by kernel_rfl) (fun _ _ _ h => h) (Or.inl ⟨by rfl, ?_⟩) hSw ?_
                  · intro w' hSw'
                    go_simp
                  simp only [Act.put, List.setIfInBounds_toArray, List.set_cons_zero, List.set_cons_succ]
                  refine wpAnyH_take (i := 2) (oi := ⟨some 53, _, _, _, _, _⟩) (v := (.slice (some ⟨g9, 0, none⟩) m1 b7)) rfl (by kernel_rfl) (by kernel_rfl) (by kernel_rfl) (fun _ _ _ h => h) (Or.inl ⟨by rfl, ?_⟩) hSw ?_
                  · intro w' hSw'
                    go_simp
                  simp only [Act.put, List.setIfInBounds_toArray, List.set_cons_zero, List.set_cons_succ]
                  refine wpAnyH_take (i := 3) (oi := ⟨some 54, _, _, _, _, _⟩) (v := (.int .i64 (i : Int))) rfl (by kernel_rfl) (by kernel_rfl) (by kernel_rfl) (fun _ _ _ h => h) (Or.inl ⟨by rfl, ?_⟩) hSw ?_
                  · intro w' hSw'
                    go_simp
                  simp only [Act.put, List.setIfInBounds_toArray, List.set_cons_zero, List.set_cons_succ]
                  refine wpAnyH_take (i := 4) (oi := ⟨some 55, _, _, _, _, _⟩) (v := (.int .i64 (j0 : Int))) rfl (by kernel_rfl) (by kernel_rfl) (by kernel_rfl) (fun _ _ _ h => h) (Or.inl ⟨by rfl, ?_⟩) hSw ?_
                  · intro w' hSw'
                    go_simp
                  simp only [Act.put, List.setIfInBounds_toArray, List.set_cons_zero, List.set_cons_succ]
                  refine wpAnyH_take (i := 5) (oi := ⟨some 56, _, _, _, _, _⟩) (v := (.pointer (some ⟨g9, j0 * 32, none⟩))) rfl (by kernel_rfl) (by kernel_rfl) (by kernel_rfl) (fun _ _ _ h => h) (Or.inl ⟨by rfl, ?_⟩) hSw ?_
                  · intro w' hSw'
                    go_simp
                  simp only [Act.put, List.setIfInBounds_toArray, List.set_cons_zero, List.set_cons_succ]
                  refine wpAnyH_take (i := 6) (oi := ⟨some 57, _, _, _, _, _⟩) (v := .agg (bts x0).toArray) rfl (by kernel_rfl) (by kernel_rfl) (by kernel_rfl) (fun _ _ _ h => h) (yieldsIf_load_mid (by rfl) _ _ rfl g9 (j0 * 32) rfl (bts x0) _ (fun _ h => HG0.out ▸ (h.1.row HB0.out.1).1) Try.underlying32 rfl (infoIDb x0 HX0.out)) hSw ?_
                  simp only [Act.put, List.setIfInBounds_toArray, List.set_cons_zero, List.set_cons_succ]
                  refine wpAnyH_take (i := 7) (oi := ⟨some 58, _, _, _, _, _⟩) (v := (.slice (some ⟨g9, 0, none⟩) m1 b7)) rfl (by kernel_rfl) (by kernel_rfl) (by kernel_rfl) (fun _ _ _ h => h) (Or.inl ⟨by rfl, ?_⟩) hSw ?_
                  · intro w' hSw'
                    go_simp
                  simp only [Act.put, List.setIfInBounds_toArray, List.set_cons_zero, List.set_cons_succ]
                  refine wpAnyH_take (i := 8) (oi := ⟨some 59, _, _, _, _, _⟩) (v := (.int .i64 (i : Int))) rfl (by kernel_rfl) (by kernel_rfl) (by kernel_rfl) (fun _ _ _ h => h) (Or.inl ⟨by rfl, ?_⟩) hSw ?_
                  · intro w' hSw'
                    go_simp
                  simp only [Act.put, List.setIfInBounds_toArray, List.set_cons_zero, List.set_cons_succ]
                  refine wpAnyH_take (i := 9) (oi := ⟨some 60, _, _, _, _, _⟩) (v := (.int .i64 (j0 : Int))) rfl (by kernel_rfl) (by kernel_rfl) (by kernel_rfl) (fun _ _ _ h => h) (Or.inl ⟨by rfl, ?_⟩) hSw ?_
                  · intro w' hSw'
                    go_simp
                  simp only [Act.put, List.setIfInBounds_toArray, List.set_cons_zero, List.set_cons_succ]
                  refine wpAnyH_take (i := 10) (oi := ⟨some 61, _, _, _, _, _⟩) (v := (.int .i64 (j1 : Int))) rfl (by kernel_rfl) (by kernel_rfl) (by kernel_rfl) (fun _ _ _ h => h) (Or.inl ⟨by rfl, ?_⟩) hSw ?_
                  · intro w' hSw'
                    go_simp
                  simp only [Act.put, List.setIfInBounds_toArray, List.set_cons_zero, List.set_cons_succ]
                  refine wpAnyH_take (i := 11) (oi := ⟨some 62, _, _, _, _, _⟩) (v := (.pointer (some ⟨g9, j1 * 32, none⟩))) rfl (by kernel_rfl) (by kernel_rfl) (by kernel_rfl) (fun _ _ _ h => h) (Or.inl ⟨by rfl, ?_⟩) hSw ?_
                  · intro w' hSw'
                    go_simp
                  simp only [Act.put, List.setIfInBounds_toArray, List.set_cons_zero, List.set_cons_succ]
                  refine wpAnyH_take (i := 12) (oi := ⟨some 63, _, _, _, _, _⟩) (v := .agg (bts x1).toArray) rfl (by kernel_rfl) (by kernel_rfl) (by kernel_rfl) (fun _ _ _ h => h) (yieldsIf_load_mid (by rfl) _ _ rfl g9 (j1 * 32) rfl (bts x1) _ (fun _ h => HG1.out ▸ (h.1.row HB0.out.2.1).1) Try.underlying32 rfl (infoIDb x1 HX1.out)) hSw ?_
                  simp only [Act.put, List.setIfInBounds_toArray, List.set_cons_zero, List.set_cons_succ]
                  refine wpAnyH_ready (rs := [13]) (by kernel_rfl) (by simp) (AllReadyH.cons (o := ⟨some 64, _, _, _, _, _⟩) rfl (fun K hK => ?_) AllReadyH.nil)
                  go_simp
                  go_at_call 58
                  refine (pair_any _ x0 x1 HX0.out HX1.out).mono ?_
                  rintro e11 w11 ⟨rfl, a11⟩
                  dsimp only
                  refine hK.out _ _ (⟨hSw.1.new a11, hSw.2.1.new a11, hSw.2.2.trans (a11.mono hSw.2.2.size)⟩) ?_
                  intro hSw
                  clear hK K
                  try simp only [Act.put, List.setIfInBounds_toArray, List.set_cons_zero, List.set_cons_succ]
                  refine wpAnyH_take (i := 14) (oi := ⟨some 65, _, _, _, _, _⟩) (v := (.pointer (some ⟨g9, i * 32, none⟩))) rfl (by kernel_rfl) (by kernel_rfl) (by kernel_rfl) (fun _ _ _ h => h) (Or.inl ⟨by rfl, ?_⟩) hSw ?_
                  · intro w' hSw'
                    go_simp
                  simp only [Act.put, List.setIfInBounds_toArray, List.set_cons_zero, List.set_cons_succ]
                  refine wpAnyH_done (by kernel_rfl) ?_ _
                  show wpList _ _ _ _ _ _
                  obtain ⟨L, hblk, hle, hput⟩ := hSw.1.storeG (by have := HB0.out.1; omega)
                  have HL := Lib.hid (show i * 32 + 32 ≤ L.length by have := HB0.out.2.2; omega)
                  have HPUT := Lib.hid (fun w' hb => hput w' i (sha2 (x0 ++ x1)) HB0.out.2.2 (sha_len _) hb)
                  rw [HST.out] at HPUT
                  have HZ := Lib.hid (show (sha2 (x0 ++ x1)).length = 32 from sha_len _)
                  obtain ⟨z, hz⟩ : ∃ z, sha2 (x0 ++ x1) = z := ⟨_, rfl⟩
                  rw [hz] at HPUT HZ ⊢
                  have HBK := Lib.hid hblk
                  have HS1 := Lib.hid hSw
                  clear hz hput hle hblk hSw
                  go_wp2_with (with_reducible refine wpList_stb rfl 32 (.tmp 65) (.tmp 64) rfl g9 (i * 32) _ rfl rfl 32 _ HBK.out ?k1 ?k2 ?k3 ?_)
                  case k1 => have := HL.out; simp [HZ.out]; omega
                  case k2 => have := infoIDb z HZ.out; simpa using this
                  case k3 => exact bts_one _
                  intro w12 b12 o12
                  have HO5 := Lib.hid (HPUT.out w12 b12)
                  have HU5 := Lib.hid (HS1.out.2.1.only o12 (fun k hk e => HNE3.out (by rw [hk, e])))
                  have HBL5 := Lib.hid (HS1.out.2.2.trans (o12.below HS1.out.2.2.size (fun b hb e => by have := HS1.out.1.ge; omega)))
                  clear b12 o12
                  have hi := HI.out
                  have hlt := HLT.out
                  have k2b := HQ2.out
                  go_wp2
                  go_roundg (k2 - 1 - i)
                  case measure => omega
                  case rel => exact ⟨i + 1, by omega, by first | rfl | (rw [IntWalk.wrap64_in _ (by omega)]; rfl), HO5, HU5, HBL5⟩
                · have hik : i = k2 := by omega
                  have dl : decide ((i : Int) < (k2 : Int)) = false := by simp; omega
                  have dl' : decide (i < k2) = false := by simp; omega
                  have hc := HO4.out.cutG (by have := HK2.out; have := HK22.out; omega) (k := k2) (by have := HK2.out; omega)
                  rw [hik, half_all (row ++ [x]) k2 (by rw [HO2.out.2.1]; exact HK2.out)] at hc
                  obtain ⟨a2, ha2⟩ : ∃ a2, a / 2 = a2 := ⟨_, rfl⟩
                  have q6 : (a : Int) / 2 = (a2 : Int) := by omega
                  have q7 : (a : Int).tdiv 2 = (a2 : Int) := by rw [Int.tdiv_eq_ediv_of_nonneg (by omega)]; exact q6
                  have habx := HAB.out
                  have HQ8 := Lib.hid (w64s a2 (by omega))
                  have hmm := HK2.out
                  have hnc : m1 ≤ b7 := HO4.out.cap
                  have hkc : (k2 : Int) ≤ (b7 : Int) := by omega
                  have hkc' : k2 ≤ b7 := by omega
                  have k00 : (0 : Int) ≤ (k2 : Int) := by omega
                  have HC := Lib.hid hc
                  have HA2 := Lib.hid ha2
                  have HIK := Lib.hid hi
                  clear hc ha2 hmm hnc habx hi hik
                  have q4 := HQ4.out
                  have q8 := HQ8.out
                  go_wp2
                  clear q2 q3 q4 q6 q7 q8
                  go_roundg k2
                  case measure => have := HK2.out; have := HH1.out; first | omega | (have := HM1.out; omega)
                  case rel =>
                    refine ⟨a2, n6 + 1, b6, g9, b7, B6, mup (row ++ [x]), out ++ [y], by rw [HQ8.out], rfl, rfl, ?_, ?_, ?_, ?_, HC, HU3, HNE3, HBL3⟩
                    · have := HAM.out; have := HK2.out; have := HA2.out; rw [Hid]; first | omega | (have := HM1.out; omega)
                    · have := HQ2.out; rw [Hid]; omega
                    · have := HN6.out; have := HK2.out; have := HH1.out; rw [Hid]; first | omega | (have := HM1.out; omega)
                    · rw [Hid, HR2.out, HSY.out, HA2.out]
                      rw [HMU.out]
                      rw [wayN_any (m - 1) k2 (mup row) a2 (by rw [mup_length _ row (Nat.le_refl _), HO.out.2.1]; have := HH1.out; omega) (by rw [mup_length _ row (Nat.le_refl _), HO.out.2.1]; have := HK2.out; first | omega | (have := HM1.out; omega))]
                      simp
        · have e0 : ((m : Int) % 2 == 1) = false := by simp; omega
          have e1 : (((m % 2 : Nat) : Int) == 1) = false := by simp; omega
          have e2 : (m % 2 == 1) = false := by simp; omega
          obtain ⟨k2, hk2⟩ : ∃ k2, m = 2 * k2 := ⟨m / 2, by omega⟩
          have HK2 := Lib.hid hk2
          have HSB := Lib.hid (show row.getD (if a % 2 = 0 then a + 1 else a - 1) [] = sib row a by
            have := HAM.out
            have := HO.out.2.1
            unfold sib
            by_cases he : a % 2 = 0
            · rw [if_pos he, if_pos he, if_pos (by omega)]
            · rw [if_neg he, if_neg he])
          have HO2 := Lib.hid HO.out
          have HU2 := Lib.hid HU.out
          have HBL2 := Lib.hid HBL.out
          clear ho h1 hk2
          obtain ⟨a1, ha1⟩ : ∃ x : Nat, (if a % 2 = 0 then a + 1 else a - 1) = x := ⟨_, rfl⟩
          have ex := xor64_1 a (by have := HAB.out; omega)
          rw [ha1] at ex
          have ha1b : a1 < m := by have := HAM.out; have := HK2.out; have := HMQ.out; rw [← ha1]; first | (split <;> omega) | (have := HM1.out; split <;> omega)
          have HSIB := Lib.hid (show (row).getD a1 [] = sib row a by rw [← ha1]; exact HSB.out)
          obtain ⟨hrow, hy32⟩ := HO2.out.row ha1b
          rw [HSIB.out] at hrow hy32
          obtain ⟨y, hy⟩ : ∃ y, sib row a = y := ⟨_, rfl⟩
          rw [hy] at hrow hy32 HSIB
          have HSY := Lib.hid hy
          have HROW := Lib.hid hrow
          have HY := Lib.hid hy32
          have hfold := fold_id y hy32
          have i0 : (0 : Int) ≤ (a1 : Int) := by omega
          have i1 : (a1 : Int) < (m : Int) := by omega
          have hn6b := HN6.out
          clear ha1 hrow hy
          go_wp2_with (first
            | (with_reducible refine wpList_ld rfl 32 (.tmp 40) rfl g7 (a1 * 32) rfl (bts y) HROW.out _ Try.underlying32 rfl 32 infoID (by simp [HY.out]) ?_)
            | (at_builtin; refine wpList_app _ rfl (.tmp 36) (.tmp 42) 68 rfl w.heap.size 32 _ 32 32 Try.underlying68 infoIDz (by rfl) (by decide) A6 n6 c6 rfl _ 1 1 rfl _ (HU2.out.1.alloc _) _ _ (Sl.one_row wr 32 (bts y) 32 (by rw [bts_length, HY.out])) (bts_one _) (by unfold maxLen; omega) (by omega) (by rw [World.size_alloc]; have := HBL2.out.size; omega) ?nexto))
          case nexto =>
            intro B6 b6 w6 hown6 ho6 hat6
            have hal : Below (wr).heap.size wr ((wr).alloc (.cells (bts y).toArray 32)) := (Below.refl _ _).alloc (Nat.le_refl _) _
            have hg7 := HO2.out.ge
            have HU3 := Lib.hid (show OwnI w6 w.heap.size B6 (n6 + 1) b6 (out ++ [y]) from OwnI.snoc hown6 HU2.out.2.1 HU2.out.2.2 HY.out)
            have HO3 := Lib.hid ((HO2.out.new hal).only ho6 (fun k hk e => HNE.out (e.trans hk.symm)))
            have HNE3 := Lib.hid (show (Value.slice B6 (n6 + 1) b6).ownBlock ≠ some g7 from fun e => by
              rcases hat6 with h | h
              · exact HNE.out (h.symm.trans e)
              · have e2 := Option.some.inj (h.symm.trans e)
                first | (rw [World.size_alloc] at e2; omega) | (simp at e2; omega) | omega)
            have HBL3 := Lib.hid ((HBL2.out.trans (hal.mono HBL2.out.size)).trans (ho6.below (HBL2.out.trans (hal.mono HBL2.out.size)).size (fun b hb e => by have := HU2.out.1.lt b e; omega)))
            have HK22 := Lib.hid (show 0 < k2 by have := HK2.out; have := HH1.out; first | omega | (have := HM1.out; omega))
            have HQ2 := Lib.hid (show k2 ≤ 501 by have := HK2.out; have := HMQ.out; first | omega | (have := HM1.out; omega))
            have hh0 : half row 0 = row := by simp [half]
            have HO4 := Lib.hid (show OwnI w6 w.heap.size (some ⟨g7, 0, none⟩) m c7 (half row 0) by rw [hh0]; exact HO3.out)
            clear hown6 ho6 hat6 hal hg7 hh0 hfold i0 i1 hn6b ex
            go_wp2_with fail
            go_loopg [8] k2 (fun q v8 wr => ∃ (i : Nat), i + q = k2 ∧ v8 = .int .i64 i ∧ Hid (OwnI wr w.heap.size (some ⟨g7, 0, none⟩) m c7 (half row i)) ∧ Hid (OwnI wr w.heap.size B6 (n6 + 1) b6 (out ++ [y])) ∧ Hid (Below w.heap.size w wr))
            case atStart => exact ⟨0, by omega, rfl, HO4, HU3, HBL3⟩
            case round =>
              clear HO4 HU3 HBL3 HO3
              obtain ⟨i, hi, rfl, HO4, HU3, HBL3⟩ := hrel
              have q2 : (m : Int) / 2 = (k2 : Int) := by have := HK2.out; omega
              have q3 : (m : Int).tdiv 2 = (k2 : Int) := by rw [Int.tdiv_eq_ediv_of_nonneg (by omega)]; exact q2
              have HQ4 := Lib.hid (w64s k2 (Nat.le_trans HQ2.out (by decide)))
              by_cases hlt : i < k2
              · have dl : decide ((i : Int) < (k2 : Int)) = true := by simp; omega
                have dl' : decide (i < k2) = true := by simp; omega
                have hh := HK2.out
                have k2b := HQ2.out
                obtain ⟨j0, hj0⟩ : ∃ x, 2 * i = x := ⟨_, rfl⟩
                obtain ⟨j1, hj1⟩ : ∃ x, 2 * i + 1 = x := ⟨_, rfl⟩
                have f1 : IntKind.i64.wrap (2 * (i : Int)) = (j0 : Int) := by rw [w64 _ (by omega)]; omega
                have f2 : IntKind.i64.wrap ((j0 : Int) + 1) = (j1 : Int) := by rw [w64 _ (by omega)]; omega
                have b0 : j0 < m := by omega
                have b1 : j1 < m := by omega
                have b2 : i < m := by omega
                have c0 : (j0 : Int) < (m : Int) := by omega
                have c1 : (j1 : Int) < (m : Int) := by omega
                have c2 : (i : Int) < (m : Int) := by omega
                have z0 : (0 : Int) ≤ (j0 : Int) := by omega
                have z1 : (0 : Int) ≤ (j1 : Int) := by omega
                have z2 : (0 : Int) ≤ (i : Int) := by omega
                have hrl : (row).length = m := HO2.out.2.1
                have g0 : (half row i).getD j0 [] = (row).getD j0 [] := half_get _ i j0 (by omega) (by omega)
                have g1 : (half row i).getD j1 [] = (row).getD j1 [] := half_get _ i j1 (by omega) (by omega)
                have hst := half_step row i (by omega)
                rw [hj1, hj0] at hst
                obtain ⟨x0, hx0⟩ : ∃ xx, (row).getD j0 [] = xx := ⟨_, rfl⟩
                obtain ⟨x1, hx1⟩ : ∃ xx, (row).getD j1 [] = xx := ⟨_, rfl⟩
                have hx32 : x0.length = 32 := by rw [← hx0]; exact getD_mem32 HO2.out.2.2 (by omega)
                have hy33 : x1.length = 32 := by rw [← hx1]; exact getD_mem32 HO2.out.2.2 (by omega)
                rw [hx0] at g0 hst
                rw [hx1] at g1 hst
                have HG0 := Lib.hid g0
                have HG1 := Lib.hid g1
                have HST := Lib.hid hst
                have HX0 := Lib.hid hx32
                have HX1 := Lib.hid hy33
                have HB0 := Lib.hid (And.intro b0 (And.intro b1 b2))
                have HI := Lib.hid hi
                have HLT := Lib.hid hlt
                clear hh k2b hj0 hj1 hrl g0 g1 hst hx0 hx1 hx32 hy33 hi hlt
                have q4 := HQ4.out
                go_upto_region 12 with fail
                clear dl dl' q2 q3 q4
                refine wp_region_tail (S := (fun w' => OwnI w' w.heap.size (some ⟨g7, 0, none⟩) m c7 (half row i) ∧ OwnI w' w.heap.size B6 (n6 + 1) b6 (out ++ [y]) ∧ Below w.heap.size w w')) 15 (by kernel_rfl) (by decide) (by kernel_rfl) (⟨HO4.out.new ((Below.refl _ _).drew), HU3.out.new ((Below.refl _ _).drew), HBL3.out.drew⟩) ?_
                simp only [List.take_succ_cons, List.take_zero, List.drop_succ_cons, List.drop_zero]
                intro hSw
                refine wpAnyH_take (i := 0) (oi := ⟨some 51, _, _, _, _, _⟩) (v := (.slice (some ⟨g7, 0, none⟩) m c7)) rfl (by kernel_rfl) (by kernel_rfl) (by kernel_rfl) (fun _ _ _ h => h) (Or.inl ⟨by rfl, ?_⟩) hSw ?_
                · intro w' hSw'
                  go_simp
                simp only [Act.put, List.setIfInBounds_toArray, List.set_cons_zero, List.set_cons_succ]
                refine wpAnyH_take (i := 1) (oi := ⟨some 52, _, _, _, _, _⟩) (v := (.int .i64 (i : Int))) rfl (by kernel_rfl) (by kernel_rfl) (by kernel_rfl) (fun _ _ _ h => h) (Or.inl ⟨by rfl, ?_⟩) hSw ?_
                · intro w' hSw'
                  go_simp
                simp only [Act.put, List.setIfInBounds_toArray, List.set_cons_zero, List.set_cons_succ]
                refine wpAnyH_take (i := 2) (oi := ⟨some 53, _, _, _, _, _⟩) (v := (.slice (some ⟨g7, 0, none⟩) m c7)) rfl (by kernel_rfl) (by kernel_rfl) (by kernel_rfl) (fun _ _ _ h => h) (Or.inl ⟨by rfl, ?_⟩) hSw ?_
                · intro w' hSw'
                  go_simp
                simp only [Act.put, List.setIfInBounds_toArray, List.set_cons_zero, List.set_cons_succ]
                refine wpAnyH_take (i := 3) (oi := ⟨some 54, _, _, _, _, _⟩) (v := (.int .i64 (i : Int))) rfl (by kernel_rfl) (by kernel_rfl) (by kernel_rfl) (fun _ _ _ h => h) (Or.inl ⟨by rfl, ?_⟩) hSw ?_
                · intro w' hSw'
                  go_simp
                simp only [Act.put, List.setIfInBounds_toArray, List.set_cons_zero, List.set_cons_succ]
                refine wpAnyH_take (i := 4) (oi := ⟨some 55, _, _, _, _, _⟩) (v := (.int .i64 (j0 : Int))) rfl (by kernel_rfl) (by kernel_rfl) (by kernel_rfl) (fun _ _ _ h => h) (Or.inl ⟨by rfl, ?_⟩) hSw ?_
                · intro w' hSw'
                  go_simp
                simp only [Act.put, List.setIfInBounds_toArray, List.set_cons_zero, List.set_cons_succ]
                refine wpAnyH_take (i := 5) (oi := ⟨some 56, _, _, _, _, _⟩) (v := (.pointer (some ⟨g7, j0 * 32, none⟩))) rfl (by kernel_rfl) (by kernel_rfl) (by kernel_rfl) (fun _ _ _ h => h) (Or.inl ⟨by rfl, ?_⟩) hSw ?_
                · intro w' hSw'
                  go_simp
                simp only [Act.put, List.setIfInBounds_toArray, List.set_cons_zero, List.set_cons_succ]
                refine wpAnyH_take (i := 6) (oi := ⟨some 57, _, _, _, _, _⟩) (v := .agg (bts x0).toArray) rfl (by kernel_rfl) (by kernel_rfl) (by kernel_rfl) (fun _ _ _ h => h) (yieldsIf_load_mid (by rfl) _ _ rfl g7 (j0 * 32) rfl (bts x0) _ (fun _ h => HG0.out ▸ (h.1.row HB0.out.1).1) Try.underlying32 rfl (infoIDb x0 HX0.out)) hSw ?_
                simp only [Act.put, List.setIfInBounds_toArray, List.set_cons_zero, List.set_cons_succ]
                refine wpAnyH_take (i := 7) (oi := ⟨some 58, _, _, _, _, _⟩) (v := (.slice (some ⟨g7, 0, none⟩) m c7)) rfl (by kernel_rfl) (by kernel_rfl) (by kernel_rfl) (fun _ _ _ h => h) (Or.inl ⟨by rfl, ?_⟩) hSw ?_
                · intro w' hSw'
                  go_simp
                simp only [Act.put, List.setIfInBounds_toArray, List.set_cons_zero, List.set_cons_succ]
                refine wpAnyH_take (i := 8) (oi := ⟨some 59, _, _, _, _, _⟩) (v := (.int .i64 (i : Int))) rfl (by kernel_rfl) (by kernel_rfl) (by kernel_rfl) (fun _ _ _ h => h) (Or.inl ⟨by rfl, ?_⟩) hSw ?_
                · intro w' hSw'
                  go_simp
                simp only [Act.put, List.setIfInBounds_toArray, List.set_cons_zero, List.set_cons_succ]
                refine wpAnyH_take (i := 9) (oi := ⟨some 60, _, _, _, _, _⟩) (v := (.int .i64 (j0 : Int))) rfl (by kernel_rfl) (by kernel_rfl) (by kernel_rfl) (fun _ _ _ h => h) (Or.inl ⟨by rfl, ?_⟩) hSw ?_
                · intro w' hSw'
                  go_simp
                simp only [Act.put, List.setIfInBounds_toArray, List.set_cons_zero, List.set_cons_succ]
                refine wpAnyH_take (i := 10) (oi := ⟨some 61, _, _, _, _, _⟩) (v := (.int .i64 (j1 : Int))) rfl (by kernel_rfl) (by kernel_rfl) (by kernel_rfl) (fun _ _ _ h => h) (Or.inl ⟨by rfl, ?_⟩) hSw ?_
                · intro w' hSw'
                  go_simp
                simp only [Act.put, List.setIfInBounds_toArray, List.set_cons_zero, List.set_cons_succ]
                refine wpAnyH_take (i := 11) (oi := ⟨some 62, _, _, _, _, _⟩) (v := (.pointer (some ⟨g7, j1 * 32, none⟩))) rfl (by kernel_rfl) (by kernel_rfl) (by kernel_rfl) (fun _ _ _ h => h) (Or.inl ⟨by rfl, ?_⟩) hSw ?_
                · intro w' hSw'
                  go_simp
                simp only [Act.put, List.setIfInBounds_toArray, List.set_cons_zero, List.set_cons_succ]
                refine wpAnyH_take (i := 12) (oi := ⟨some 63, _, _, _, _, _⟩) (v := .agg (bts x1).toArray) rfl (by kernel_rfl) (by kernel_rfl) (by kernel_rfl) (fun _ _ _ h => h) (yieldsIf_load_mid (by rfl) _ _ rfl g7 (j1 * 32) rfl (bts x1) _ (fun _ h => HG1.out ▸ (h.1.row HB0.out.2.1).1) Try.underlying32 rfl (infoIDb x1 HX1.out)) hSw ?_
                simp only [Act.put, List.setIfInBounds_toArray, List.set_cons_zero, List.set_cons_succ]
                refine wpAnyH_ready (rs := [13]) (by kernel_rfl) (by simp) (AllReadyH.cons (o := ⟨some 64, _, _, _, _, _⟩) rfl (fun K hK => ?_) AllReadyH.nil)
                go_simp
                go_at_call 58
                refine (pair_any _ x0 x1 HX0.out HX1.out).mono ?_
                rintro e11 w11 ⟨rfl, a11⟩
                dsimp only
                refine hK.out _ _ (⟨hSw.1.new a11, hSw.2.1.new a11, hSw.2.2.trans (a11.mono hSw.2.2.size)⟩) ?_
                intro hSw
                clear hK K
                try simp only [Act.put, List.setIfInBounds_toArray, List.set_cons_zero, List.set_cons_succ]
                refine wpAnyH_take (i := 14) (oi := ⟨some 65, _, _, _, _, _⟩) (v := (.pointer (some ⟨g7, i * 32, none⟩))) rfl (by kernel_rfl) (by kernel_rfl) (by kernel_rfl) (fun _ _ _ h => h) (Or.inl ⟨by rfl, ?_⟩) hSw ?_
                · intro w' hSw'
                  go_simp
                simp only [Act.put, List.setIfInBounds_toArray, List.set_cons_zero, List.set_cons_succ]
                refine wpAnyH_done (by kernel_rfl) ?_ _
                show wpList _ _ _ _ _ _
                obtain ⟨L, hblk, hle, hput⟩ := hSw.1.storeG (by have := HB0.out.1; omega)
                have HL := Lib.hid (show i * 32 + 32 ≤ L.length by have := HB0.out.2.2; omega)
                have HPUT := Lib.hid (fun w' hb => hput w' i (sha2 (x0 ++ x1)) HB0.out.2.2 (sha_len _) hb)
                rw [HST.out] at HPUT
                have HZ := Lib.hid (show (sha2 (x0 ++ x1)).length = 32 from sha_len _)
                obtain ⟨z, hz⟩ : ∃ z, sha2 (x0 ++ x1) = z := ⟨_, rfl⟩
                rw [hz] at HPUT HZ ⊢
                have HBK := Lib.hid hblk
                have HS1 := Lib.hid hSw
                clear hz hput hle hblk hSw
                go_wp2_with (with_reducible refine wpList_stb rfl 32 (.tmp 65) (.tmp 64) rfl g7 (i * 32) _ rfl rfl 32 _ HBK.out ?k1 ?k2 ?k3 ?_)
                case k1 => have := HL.out; simp [HZ.out]; omega
                case k2 => have := infoIDb z HZ.out; simpa using this
                case k3 => exact bts_one _
                intro w12 b12 o12
                have HO5 := Lib.hid (HPUT.out w12 b12)
                have HU5 := Lib.hid (HS1.out.2.1.only o12 (fun k hk e => HNE3.out (by rw [hk, e])))
                have HBL5 := Lib.hid (HS1.out.2.2.trans (o12.below HS1.out.2.2.size (fun b hb e => by have := HS1.out.1.ge; omega)))
                clear b12 o12
                have hi := HI.out
                have hlt := HLT.out
                have k2b := HQ2.out
                go_wp2
                go_roundg (k2 - 1 - i)
                case measure => omega
                case rel => exact ⟨i + 1, by omega, by first | rfl | (rw [IntWalk.wrap64_in _ (by omega)]; rfl), HO5, HU5, HBL5⟩
              · have hik : i = k2 := by omega
                have dl : decide ((i : Int) < (k2 : Int)) = false := by simp; omega
                have dl' : decide (i < k2) = false := by simp; omega
                have hc := HO4.out.cutG (by have := HK2.out; have := HK22.out; omega) (k := k2) (by have := HK2.out; omega)
                rw [hik, half_all row k2 (by rw [HO2.out.2.1]; exact HK2.out)] at hc
                obtain ⟨a2, ha2⟩ : ∃ a2, a / 2 = a2 := ⟨_, rfl⟩
                have q6 : (a : Int) / 2 = (a2 : Int) := by omega
                have q7 : (a : Int).tdiv 2 = (a2 : Int) := by rw [Int.tdiv_eq_ediv_of_nonneg (by omega)]; exact q6
                have habx := HAB.out
                have HQ8 := Lib.hid (w64s a2 (by omega))
                have hmm := HK2.out
                have hnc : m ≤ c7 := HO4.out.cap
                have hkc : (k2 : Int) ≤ (c7 : Int) := by omega
                have hkc' : k2 ≤ c7 := by omega
                have k00 : (0 : Int) ≤ (k2 : Int) := by omega
                have HC := Lib.hid hc
                have HA2 := Lib.hid ha2
                have HIK := Lib.hid hi
                clear hc ha2 hmm hnc habx hi hik
                have q4 := HQ4.out
                have q8 := HQ8.out
                go_wp2
                clear q2 q3 q4 q6 q7 q8
                go_roundg k2
                case measure => have := HK2.out; have := HH1.out; first | omega | (have := HM1.out; omega)
                case rel =>
                  refine ⟨a2, n6 + 1, b6, g7, c7, B6, mup row, out ++ [y], by rw [HQ8.out], rfl, rfl, ?_, ?_, ?_, ?_, HC, HU3, HNE3, HBL3⟩
                  · have := HAM.out; have := HK2.out; have := HA2.out; rw [Hid]; first | omega | (have := HM1.out; omega)
                  · have := HQ2.out; rw [Hid]; omega
                  · have := HN6.out; have := HK2.out; have := HH1.out; rw [Hid]; first | omega | (have := HM1.out; omega)
                  · rw [Hid, HR2.out, HSY.out, HA2.out]
                    skip
                    rw [wayN_any (m - 1) k2 (mup row) a2 (by rw [mup_length _ row (Nat.le_refl _), HO.out.2.1]; have := HH1.out; omega) (by rw [mup_length _ row (Nat.le_refl _), HO.out.2.1]; have := HK2.out; first | omega | (have := HM1.out; omega))]
                    simp
      · obtain rfl : m = 1 := by have := HAM.out; omega
        have HRR := Lib.hid (show R = out by rw [HR.out, wayN, if_pos (by rw [HO.out.2.1]; exact Nat.le_refl _), List.append_nil])
        clear h1
        go_wp2
        go_ret2
        exact ⟨A6, n6, c6, rfl, by rw [HRR.out]; exact HU.out, HBL.out⟩
end Go.Proofs.Ytpcombaecbjmfaa
