/- the walk of law12.CheckOrder. -/
import Derived.Test.YtkenkhefpemdmaaFt
import Derived.Test.YtkenkhefpemdmaaShw
import Derived.Test.YtkenkhefpemdmaaRt
import Derived.Test.YtkenkhefpemdmaaHe
namespace Go.Proofs.Ytkenkhefpemdmaa
open Go.RowKit
/-! ### plainly -/
def amts (l : List OutT) : Int := (l.map (·.1)).sum
theorem csum_eq : ∀ (l : List OutT) (s : Int), 0 ≤ s → s ≤ 1125899906842624 →
    csum s l = if (∀ o ∈ l, 0 ≤ o.1 ∧ o.1 ≤ 1125899906842624) ∧ s + amts l ≤ 1125899906842624 then (s + amts l, true) else (0, false) := by
  intro l
  induction l with
  | nil => intro s h0 h1; rw [csum, if_pos ⟨by simp, by simp [amts]; exact h1⟩]; simp [amts]
  | cons o l ih =>
    intro s h0 h1
    have he : amts (o :: l) = o.1 + amts l := by simp [amts]
    have hnn : (∀ o ∈ l, 0 ≤ o.1 ∧ o.1 ≤ 1125899906842624) → 0 ≤ amts l := by
      intro h
      clear ih he
      induction l with
      | nil => simp [amts]
      | cons x l ih2 =>
        have h2 := ih2 (fun y hy => h y (by simp [hy]))
        have h3 := h x (by simp)
        have : amts (x :: l) = x.1 + amts l := by simp [amts]
        omega
    rw [csum, he]
    by_cases hb : o.1 < 0 ∨ 1125899906842624 < o.1
    · rw [if_pos hb, if_neg]
      intro ⟨h2, _⟩
      have := h2 o (by simp)
      omega
    · rw [if_neg hb]
      by_cases hc : 1125899906842624 < s + o.1
      · rw [if_pos hc, if_neg]
        intro ⟨h2, h3⟩
        have := hnn (fun y hy => h2 y (by simp [hy]))
        omega
      · rw [if_neg hc, ih _ (by omega) (by omega)]
        have e2 : s + (o.1 + amts l) = s + o.1 + amts l := by omega
        rw [e2]
        by_cases hd : (∀ o ∈ l, 0 ≤ o.1 ∧ o.1 ≤ 1125899906842624) ∧ s + o.1 + amts l ≤ 1125899906842624
        · rw [if_pos hd, if_pos ⟨fun x hx => by
            rcases List.mem_cons.1 hx with rfl | hx
            · omega
            · exact hd.1 x hx, hd.2⟩]
        · rw [if_neg hd, if_neg (fun h => hd ⟨fun x hx => h.1 x (by simp [hx]), h.2⟩)]
theorem csum_rev (l : List OutT) : csum 0 l.reverse = csum 0 l := by
  rw [csum_eq _ 0 (by omega) (by omega), csum_eq _ 0 (by omega) (by omega)]
  have e : amts l.reverse = amts l := by unfold amts; rw [List.map_reverse, List.sum_reverse]
  rw [e]
  simp only [List.mem_reverse]
theorem cins_zero (first : Bool) : ∀ (l : List InT) (seen : List PointT), cins first seen l = 0 ↔ (∀ i ∈ l, i.2.1.length ≤ 100 ∧ isMk i = first ∧ i.1 ∉ seen) ∧ (l.map (·.1)).Nodup := by
  intro l
  induction l with
  | nil => intro seen; simp [cins]
  | cons i l ih =>
    intro seen
    rw [cins]
    by_cases h1 : 100 < i.2.1.length
    · rw [if_pos h1]
      constructor
      · intro h; cases h
      · intro ⟨h, _⟩; have := h i (by simp); omega
    · rw [if_neg h1]
      by_cases h2 : (isMk i != first) = true
      · rw [if_pos h2]
        constructor
        · intro h; cases h
        · intro ⟨h, _⟩; have := (h i (by simp)).2.1; rw [this] at h2; simp at h2
      · rw [if_neg h2]
        by_cases h3 : i.1 ∈ seen
        · rw [if_pos h3]
          constructor
          · intro h; cases h
          · intro ⟨h, _⟩; exact absurd h3 (h i (by simp)).2.2
        · rw [if_neg h3, ih, List.map_cons, List.nodup_cons]
          have h2' : isMk i = first := by simpa using h2
          constructor
          · intro ⟨ha, hb⟩
            refine ⟨fun x hx => ?_, ?_, hb⟩
            · rcases List.mem_cons.1 hx with rfl | hx
              · exact ⟨by omega, h2', h3⟩
              · have := ha x hx
                exact ⟨this.1, this.2.1, fun h => this.2.2 (by simp [h])⟩
            · intro hm
              obtain ⟨x, hx, he⟩ := List.mem_map.1 hm
              exact (ha x hx).2.2 (by simp [he])
          · intro ⟨ha, hb, hc⟩
            refine ⟨fun x hx => ?_, hc⟩
            have := ha x (by simp [hx])
            refine ⟨this.1, this.2.1, fun h => ?_⟩
            rcases List.mem_append.1 h with h | h
            · exact this.2.2 h
            · exact hb (List.mem_map.2 ⟨x, hx, List.mem_singleton.1 h⟩)
theorem cins_rev (first : Bool) (l : List InT) : cins first [] l.reverse = 0 ↔ cins first [] l = 0 := by
  have e : (l.map (·.1)).reverse.Nodup ↔ (l.map (·.1)).Nodup := by
    unfold List.Nodup
    rw [List.pairwise_reverse]
    simp only [ne_comm]
  rw [cins_zero, cins_zero, List.map_reverse, e]
  simp only [List.mem_reverse]
theorem ctx_zero (ins : List InT) (outs : List OutT) (first : Bool) : ctx (ins, outs, ()) first = 0 ↔ ¬ (ins.length = 0 ∨ outs.length = 0 ∨ 32 < ins.length ∨ 32 < outs.length) ∧ cins first [] ins = 0 ∧ (csum 0 outs).2 = true := by
  rw [ctx]
  by_cases h : ins.length = 0 ∨ outs.length = 0 ∨ 32 < ins.length ∨ 32 < outs.length
  · rw [if_pos h]
    constructor
    · intro h; cases h
    · intro ⟨h2, _⟩; exact absurd h h2
  · rw [if_neg h]
    by_cases h2 : cins first [] ins = 0
    · rw [if_pos h2]
      by_cases h3 : (csum 0 outs).2 = true
      · rw [if_pos h3]; exact ⟨fun _ => ⟨h, h2, h3⟩, fun _ => rfl⟩
      · rw [if_neg h3]; exact ⟨(fun e => by cases e), fun e => absurd e.2.2 h3⟩
    · rw [if_neg h2]; simp [h2]
theorem ctx_rev (ins : List InT) (outs : List OutT) (first : Bool) : (ctx (ins.reverse, outs.reverse, ()) first == 0) = (ctx (ins, outs, ()) first == 0) := by
  rw [Bool.eq_iff_iff, beq_iff_eq, beq_iff_eq, ctx_zero, ctx_zero, cins_rev, csum_rev, List.length_reverse, List.length_reverse]
/-! ### memory -/
theorem weak_in : inSh.Weak := weak_pair (weak_pair (weak_arr 32) (weak_pair (weak_int _) weak_unit)) (weak_pair weak_bytes weak_unit)
theorem weak_out : outSh.Weak := weak_pair (weak_int _) (weak_pair (weak_arr 32) weak_unit)
theorem infoInz : (Try.prog.info? 56).map (fun i => (i.zero, i.size, i.bytes)) = some (some (.agg (inC zid 0 (.slice none 0 0)).toArray), 34, 64) := by kernel_rfl
theorem infoOutz : (Try.prog.info? 58).map (fun i => (i.zero, i.size, i.bytes)) = some (some (.agg (outC 0 zid).toArray), 33, 40) := by kernel_rfl
theorem rev_step (cells : List (List Value)) (n i : Nat) (hn : cells.length = n) (hi : i < n) : (cells.reverse.take (i + 1)).flatten = (cells.reverse.take i).flatten ++ cells[n - 1 - i]'(by omega) := by
  rw [take_snoc' cells.reverse i (by rw [List.length_reverse]; omega), List.flatten_append, List.getElem_reverse]
  simp [hn]
theorem rev_full (cells : List (List Value)) (n : Nat) (hn : cells.length = n) : (cells.reverse.take n).flatten = cells.reverse.flatten := by
  rw [List.take_of_length_le (by rw [List.length_reverse]; omega)]

set_option maxRecDepth 20000 in
set_option maxHeartbeats 4000000 in
theorem checkOrder_any (w : World) (A A' : Option Addr) (n n' c c' : Nat) (ins : List InT) (outs : List OutT) (ok : Nat → Prop) (first : Bool)
    (hi : insSh.rel w ok [.slice A n c] ins) (ho : outsSh.rel w ok [.slice A' n' c'] outs) (hok : ∀ b, ok b → b < w.heap.size) :
    Calls Try.prog 6 #[.agg #[.slice A n c, .slice A' n' c'], .bool first] w fun e w' => e = .returned (.bool true) ∧ Below w.heap.size w w' := by
  obtain ⟨cI, hn, hnc, hcm, heI, hsI, hlI, h34⟩ := shSlice_open hi
  obtain ⟨cO, hn', hnc', hcm', heO, hsO, hlO, h33⟩ := shSlice_open ho
  have h34 : ∀ u ∈ cI, u.length = 34 := h34
  have h33 : ∀ u ∈ cO, u.length = 33 := h33
  have hsI : Sl w ok 34 A n cI.flatten := hsI
  have hsO : Sl w ok 33 A' n' cO.flatten := hsO
  have HEI := Lib.hid heI
  have HEO := Lib.hid heO
  have HC0 := Lib.hid (And.intro hlI h34)
  have HC1 := Lib.hid (And.intro hlO h33)
  have HS0 := Lib.hid hsI
  have HS1 := Lib.hid hsO
  have H10 := Lib.hid (show ∀ X ∈ cI, ∀ u ∈ X, u.oneCell' = true by
    intro X hX
    obtain ⟨i, hi', rfl⟩ := List.getElem_of_mem hX
    obtain ⟨X, hx1, hx2⟩ := heI.get i (by rw [← heI.len]; exact hi')
    rw [List.getElem?_eq_getElem hi'] at hx1
    rw [Option.some.inj hx1]
    obtain ⟨id, ix, key, v, _, rfl, hv, _⟩ := in_cells hx2
    obtain ⟨Ak, nk, ck, rfl, _⟩ := hv
    exact inC_one _ _ _ rfl)
  have H11 := Lib.hid (show ∀ X ∈ cO, ∀ u ∈ X, u.oneCell' = true by
    intro X hX
    obtain ⟨i, hi', rfl⟩ := List.getElem_of_mem hX
    obtain ⟨X, hx1, hx2⟩ := heO.get i (by rw [← heO.len]; exact hi')
    rw [List.getElem?_eq_getElem hi'] at hx1
    rw [Option.some.inj hx1]
    obtain ⟨amt, lock, _, rfl, _⟩ := out_cells hx2
    exact outC_one _ _)
  have HI := Lib.hid hi
  have HO := Lib.hid ho
  have HN := Lib.hid hn
  have HN' := Lib.hid hn'
  have HOK := Lib.hid hok
  clear hi ho hn hn' hok heI heO hlI hlO h34 h33 hsI hsO hnc hcm hnc' hcm'
  go_enter Try.func6, Try.ntmps6
  go_wp2_with fail
  generalize hW : World.alloc w _ = W
  have hb2 : Blk W w.heap.size 25 #[.slice A n c, .slice A' n' c'] := by rw [← hW]; exact Blk.new _ _ _
  have hbl : Below w.heap.size w W := by rw [← hW]; exact (Below.refl _ _).alloc (Nat.le_refl _) _
  clear hW
  obtain ⟨q, hq⟩ : ∃ q, w.heap.size = q := ⟨_, rfl⟩
  rw [hq] at hb2 ⊢
  have HQ := Lib.hid hq
  have HB := Lib.hid hb2
  have HBL := Lib.hid hbl
  clear hq hb2 hbl
  refine (asks_any W).mono ?_
  rintro e1 w1 ⟨rfl, a1⟩
  replace HB := Lib.hid (HB.out.below a1 HB.out.lt)
  replace HBL := Lib.hid (HBL.out.trans (a1.mono HBL.out.size))
  clear a1
  have c0 := HB.out.cell 0
  have c1 := HB.out.cell 1
  simp only [List.getElem?_toArray, List.getElem?_cons_zero, List.getElem?_cons_succ] at c0 c1
  have FT := fits_any w1 A A' n n' c c' ins outs ok (insSh.below HI.out HBL.out (fun _ h _ => h)) HN.out HN'.out
  obtain ⟨fb, hfb⟩ : ∃ fb, fitsB (ins, outs, ()) = fb := ⟨_, rfl⟩
  rw [hfb] at FT
  replace FT := Lib.hid FT
  go_wp2_with fail
  refine FT.out.mono ?_
  rintro e2 w2 ⟨rfl, a2⟩
  replace HB := Lib.hid (HB.out.below a2 HB.out.lt)
  replace HBL := Lib.hid (HBL.out.trans (a2.mono HBL.out.size))
  clear a2 FT c0 c1
  cases fb with
  | false =>
    clear hfb
    go_wp2
    go_ret
    rw [← HQ.out]
    exact ⟨rfl, HBL.out⟩
  | true =>
    have hn40 : n ≤ 40 := by
      simp only [fitsB, Bool.and_eq_true, decide_eq_true_eq] at hfb
      rw [← HN.out]; exact hfb.1.1
    have hn40' : n' ≤ 40 := by
      simp only [fitsB, Bool.and_eq_true, decide_eq_true_eq] at hfb
      rw [← HN'.out]; exact hfb.1.2
    have c0 := (HB.out.alloc (.cells #[.slice none 0 0, .slice none 0 0] 25)).cell 0
    simp only [List.getElem?_toArray, List.getElem?_cons_zero, List.getElem?_cons_succ] at c0
    clear hfb
    go_wp2_with fail
    have hqq : q < w2.heap.size := HB.out.lt
    have hwq : w.heap.size ≤ q := by have := HQ.out; omega
    have hU := Blk.new w2 25 #[.slice none 0 0, .slice none 0 0]
    replace HB := Lib.hid (HB.out.alloc (.cells #[.slice none 0 0, .slice none 0 0] 25))
    replace HBL := Lib.hid (HBL.out.alloc HBL.out.size (.cells #[.slice none 0 0, .slice none 0 0] 25))
    clear c0
    generalize hW : World.alloc w2 _ = W at hU HB HBL ⊢
    have hsz : w2.heap.size + 1 ≤ W.heap.size := hU.lt
    clear hW
    obtain ⟨q5, hq5⟩ : ∃ q5, w2.heap.size = q5 := ⟨_, rfl⟩
    rw [hq5] at hU hqq hsz ⊢
    have HU := Lib.hid hU
    clear hq5 hU
    obtain ⟨B0, hB0⟩ : ∃ B0, W.heap.size = B0 := ⟨_, rfl⟩
    have hszf : q < q5 ∧ q5 < B0 ∧ w.heap.size ≤ q := by omega
    have HF := Lib.hid (show Blk W q 25 #[.slice A n c, .slice A' n' c'] ∧ Below w.heap.size w W from ⟨HB.out, HBL.out⟩)
    have HBS := Lib.hid (show B0 ≤ W.heap.size by omega)
    clear HB HBL hB0 hqq hwq hsz
    -- what stays as it is
    have hfr : ∀ wa wb : World, Only (fun b => B0 ≤ b ∨ b = q5) wa wb → (Blk wa q 25 #[.slice A n c, .slice A' n' c'] ∧ Below w.heap.size w wa) → (Blk wb q 25 #[.slice A n c, .slice A' n' c'] ∧ Below w.heap.size w wb) := by
      exact fun wa wb ho ⟨h1, h2⟩ => ⟨h1.only ho (by omega), h2.trans (ho.below h2.size (fun b hb e => by omega))⟩
    have HFR := Lib.hid hfr
    have HSZ := Lib.hid hszf
    have cq := HF.out.1.cell 0
    simp only [List.getElem?_toArray, List.getElem?_cons_zero, List.getElem?_cons_succ] at cq
    clear hfr hszf
    go_wp2_with fail
    clear cq
    go_loopg [20] n (fun k v20 wr => ∃ (i : Nat) (A5 : Option Addr) (c5 : Nat), i + k = n ∧ v20 = .int .i64 (i : Int) ∧ Hid ((Blk wr q 25 #[.slice A n c, .slice A' n' c'] ∧ Below w.heap.size w wr)) ∧ Hid (Blk wr q5 25 #[.slice A5 i c5, .slice none 0 0]) ∧ Hid (B0 ≤ wr.heap.size) ∧ Hid (wr.ownsRow B0 56 34 (.slice A5 i c5) i ((cI).reverse.take i).flatten))
    case atStart => exact ⟨0, none, 0, by omega, rfl, HF.out, HU.out, HBS.out, World.ownsRow_nil _ _ _ _⟩
    case round =>
      clear HF HU HBS
      obtain ⟨i, A5, c5, hik, rfl, HF, HU, HBS, HOW⟩ := hrel
      by_cases hlt : i < n
      · have d2 : decide (i < n) = true := by simpa using hlt
        have hsl := HS0.out.below HF.out.2 (fun b _ h => HOK.out b h) (by decide)
        obtain ⟨b, o, hA, hb, hrow⟩ := hsl.2 (by omega)
        subst hA
        have hbw : b < w.heap.size := HOK.out b hb
        have hj : n - 1 - i < (cI).length := by have := HC0.out.1; omega
        have hrj := row_cells hrow HC0.out.2 hj
        obtain ⟨X, hX⟩ : ∃ X, (cI)[n - 1 - i] = X := ⟨_, rfl⟩
        have hXl : X.length = 34 := by rw [← hX]; exact HC0.out.2 _ (List.getElem_mem _)
        have hX1 : ∀ u ∈ X, u.oneCell' = true := by rw [← hX]; exact H10.out _ (List.getElem_mem _)
        have hstep := rev_step cI n i HC0.out.1 hlt
        rw [hX] at hrj hstep
        have HST := Lib.hid hstep
        have HRJ := Lib.hid (show RowAt wr b (o + (n - 1 - i) * 34) X from hrj)
        have hbB : b < B0 ∧ b ≠ q5 := by have := HSZ.out; omega
        clear hX hj hrow hrj hsl hstep hb
        have hi0 : IntKind.i64.wrap ((n : Int) - 1) = (n : Int) - 1 := w64 _ (by omega)
        have hi1 : IntKind.i64.wrap ((n : Int) - 1 - (i : Int)) = ((n - 1 - i : Nat) : Int) := by rw [w64 _ (by omega)]; omega
        have hjn : n - 1 - i < n := by omega
        obtain ⟨jj, hjj⟩ : ∃ jj, n - 1 - i = jj := ⟨_, rfl⟩
        rw [hjj] at hi1 HRJ hjn
        have hjI : (jj : Int) < (n : Int) := by omega
        have hjI0 : (0 : Int) ≤ (jj : Int) := by omega
        have hu := (Try.underlying56 : Try.prog.underlying 56 = some _)
        have hlx : (Try.prog.info? 56).map (·.size) = some X.length := by rw [infoIn, hXl]
        have hfold := fun (z : Array Value) (hz : z.size = 34) => fold_set X z (by rw [hz, hXl])
        have BQ := Lib.hid (And.intro hbB hbw)
        clear hjj hbB hbw
        go_wp2
        replace HOW := Lib.hid (own_only HOW.out ((Only.refl (fun _ => False) wr).drew) (fun _ _ h => h))
        refine wp_region_tail (S := (fun w' => (Blk w' q 25 #[.slice (some ⟨b, o, none⟩) n c, .slice A' n' c'] ∧ Below w.heap.size w w') ∧ Blk w' q5 25 #[.slice A5 i c5, .slice none 0 0] ∧ RowAt w' b (o + jj * 34) X ∧ B0 ≤ w'.heap.size)) 15 (by kernel_rfl) (by decide) (by kernel_rfl) (⟨HFR.out _ _ ((Only.refl _ wr).drew) HF.out, HU.out.drew, HRJ.out, HBS.out⟩) ?_
        simp only [List.take_succ_cons, List.take_zero, List.drop_succ_cons, List.drop_zero]
        intro hSw
        refine wpAnyH_take (i := 0) (oi := ⟨some 23, _, _, _, _, _⟩) (v := (.pointer (some ⟨q5, 0, none⟩))) rfl (by kernel_rfl) (by kernel_rfl) (by kernel_rfl) (fun _ _ _ h => h) (Or.inl ⟨by rfl, ?_⟩) hSw ?_
        · intro w' hSw'
          have c0 := hSw'.1.1.cell 0
          have c1 := hSw'.2.1.cell 0
          simp only [List.getElem?_toArray, List.getElem?_cons_zero, List.getElem?_cons_succ] at c0 c1
          go_simp
        simp only [Act.put, List.setIfInBounds_toArray, List.set_cons_zero, List.set_cons_succ]
        refine wpAnyH_take (i := 1) (oi := ⟨some 24, _, _, _, _, _⟩) (v := (.slice A5 i c5)) rfl (by kernel_rfl) (by kernel_rfl) (by kernel_rfl) (fun _ _ _ h => h) (Or.inl ⟨by rfl, ?_⟩) hSw ?_
        · intro w' hSw'
          have c0 := hSw'.1.1.cell 0
          have c1 := hSw'.2.1.cell 0
          simp only [List.getElem?_toArray, List.getElem?_cons_zero, List.getElem?_cons_succ] at c0 c1
          go_simp
        simp only [Act.put, List.setIfInBounds_toArray, List.set_cons_zero, List.set_cons_succ]
        refine wpAnyH_take (i := 2) (oi := ⟨some 25, _, _, _, _, _⟩) (v := (.pointer (some ⟨q, 0, none⟩))) rfl (by kernel_rfl) (by kernel_rfl) (by kernel_rfl) (fun _ _ _ h => h) (Or.inl ⟨by rfl, ?_⟩) hSw ?_
        · intro w' hSw'
          have c0 := hSw'.1.1.cell 0
          have c1 := hSw'.2.1.cell 0
          simp only [List.getElem?_toArray, List.getElem?_cons_zero, List.getElem?_cons_succ] at c0 c1
          go_simp
        simp only [Act.put, List.setIfInBounds_toArray, List.set_cons_zero, List.set_cons_succ]
        refine wpAnyH_take (i := 3) (oi := ⟨some 26, _, _, _, _, _⟩) (v := (.slice (some ⟨b, o, none⟩) n c)) rfl (by kernel_rfl) (by kernel_rfl) (by kernel_rfl) (fun _ _ _ h => h) (Or.inl ⟨by rfl, ?_⟩) hSw ?_
        · intro w' hSw'
          have c0 := hSw'.1.1.cell 0
          have c1 := hSw'.2.1.cell 0
          simp only [List.getElem?_toArray, List.getElem?_cons_zero, List.getElem?_cons_succ] at c0 c1
          go_simp
        simp only [Act.put, List.setIfInBounds_toArray, List.set_cons_zero, List.set_cons_succ]
        refine wpAnyH_take (i := 4) (oi := ⟨some 27, _, _, _, _, _⟩) (v := (.pointer (some ⟨q, 0, none⟩))) rfl (by kernel_rfl) (by kernel_rfl) (by kernel_rfl) (fun _ _ _ h => h) (Or.inl ⟨by rfl, ?_⟩) hSw ?_
        · intro w' hSw'
          have c0 := hSw'.1.1.cell 0
          have c1 := hSw'.2.1.cell 0
          simp only [List.getElem?_toArray, List.getElem?_cons_zero, List.getElem?_cons_succ] at c0 c1
          go_simp
        simp only [Act.put, List.setIfInBounds_toArray, List.set_cons_zero, List.set_cons_succ]
        refine wpAnyH_take (i := 5) (oi := ⟨some 28, _, _, _, _, _⟩) (v := (.slice (some ⟨b, o, none⟩) n c)) rfl (by kernel_rfl) (by kernel_rfl) (by kernel_rfl) (fun _ _ _ h => h) (Or.inl ⟨by rfl, ?_⟩) hSw ?_
        · intro w' hSw'
          have c0 := hSw'.1.1.cell 0
          have c1 := hSw'.2.1.cell 0
          simp only [List.getElem?_toArray, List.getElem?_cons_zero, List.getElem?_cons_succ] at c0 c1
          go_simp
        simp only [Act.put, List.setIfInBounds_toArray, List.set_cons_zero, List.set_cons_succ]
        refine wpAnyH_take (i := 6) (oi := ⟨some 29, _, _, _, _, _⟩) (v := (.int .i64 (n : Int))) rfl (by kernel_rfl) (by kernel_rfl) (by kernel_rfl) (fun _ _ _ h => h) (Or.inl ⟨by rfl, ?_⟩) hSw ?_
        · intro w' hSw'
          have c0 := hSw'.1.1.cell 0
          have c1 := hSw'.2.1.cell 0
          simp only [List.getElem?_toArray, List.getElem?_cons_zero, List.getElem?_cons_succ] at c0 c1
          go_simp
        simp only [Act.put, List.setIfInBounds_toArray, List.set_cons_zero, List.set_cons_succ]
        refine wpAnyH_take (i := 7) (oi := ⟨some 30, _, _, _, _, _⟩) (v := (.int .i64 ((n : Int) - 1))) rfl (by kernel_rfl) (by kernel_rfl) (by kernel_rfl) (fun _ _ _ h => h) (Or.inl ⟨by rfl, ?_⟩) hSw ?_
        · intro w' hSw'
          have c0 := hSw'.1.1.cell 0
          have c1 := hSw'.2.1.cell 0
          simp only [List.getElem?_toArray, List.getElem?_cons_zero, List.getElem?_cons_succ] at c0 c1
          go_simp
        simp only [Act.put, List.setIfInBounds_toArray, List.set_cons_zero, List.set_cons_succ]
        refine wpAnyH_take (i := 8) (oi := ⟨some 31, _, _, _, _, _⟩) (v := (.int .i64 (i : Int))) rfl (by kernel_rfl) (by kernel_rfl) (by kernel_rfl) (fun _ _ _ h => h) (Or.inl ⟨by rfl, ?_⟩) hSw ?_
        · intro w' hSw'
          have c0 := hSw'.1.1.cell 0
          have c1 := hSw'.2.1.cell 0
          simp only [List.getElem?_toArray, List.getElem?_cons_zero, List.getElem?_cons_succ] at c0 c1
          go_simp
        simp only [Act.put, List.setIfInBounds_toArray, List.set_cons_zero, List.set_cons_succ]
        refine wpAnyH_take (i := 9) (oi := ⟨some 32, _, _, _, _, _⟩) (v := (.int .i64 (jj : Int))) rfl (by kernel_rfl) (by kernel_rfl) (by kernel_rfl) (fun _ _ _ h => h) (Or.inl ⟨by rfl, ?_⟩) hSw ?_
        · intro w' hSw'
          have c0 := hSw'.1.1.cell 0
          have c1 := hSw'.2.1.cell 0
          simp only [List.getElem?_toArray, List.getElem?_cons_zero, List.getElem?_cons_succ] at c0 c1
          go_simp
        simp only [Act.put, List.setIfInBounds_toArray, List.set_cons_zero, List.set_cons_succ]
        refine wpAnyH_take (i := 10) (oi := ⟨some 33, _, _, _, _, _⟩) (v := (.pointer (some ⟨b, o + jj * 34, none⟩))) rfl (by kernel_rfl) (by kernel_rfl) (by kernel_rfl) (fun _ _ _ h => h) (Or.inl ⟨by rfl, ?_⟩) hSw ?_
        · intro w' hSw'
          have c0 := hSw'.1.1.cell 0
          have c1 := hSw'.2.1.cell 0
          simp only [List.getElem?_toArray, List.getElem?_cons_zero, List.getElem?_cons_succ] at c0 c1
          go_simp
        simp only [Act.put, List.setIfInBounds_toArray, List.set_cons_zero, List.set_cons_succ]
        refine wpAnyH_take (i := 11) (oi := ⟨some 34, _, _, _, _, _⟩) (v := .agg (X).toArray) rfl (by kernel_rfl) (by kernel_rfl) (by kernel_rfl) (fun _ _ _ h => h) (yieldsIf_load_mid (by rfl) _ _ rfl b (o + jj * 34) rfl (X) _ (fun _ h => h.2.2.1) hu rfl hlx) hSw ?_
        simp only [Act.put, List.setIfInBounds_toArray, List.set_cons_zero, List.set_cons_succ]
        refine wpAnyH_ready (rs := [12]) (by kernel_rfl) (by simp) (AllReadyH.cons (o := ⟨some 35, _, _, _, _, _⟩) rfl (fun K hK => ?_) AllReadyH.nil)
        go_simp
        replace HOW := Lib.hid (HOW.out.alloc (.cells X.toArray 56))
        refine hK.out _ _ (⟨HFR.out _ _ ((Only.refl _ _).alloc _) hSw.1, hSw.2.1.alloc _, hSw.2.2.1.only ((Only.refl (fun _ => False) _).alloc _) (fun h => h), Nat.le_trans hSw.2.2.2 (by simp)⟩) ?_
        intro hSw
        clear hK K
        try simp only [Act.put, List.setIfInBounds_toArray, List.set_cons_zero, List.set_cons_succ]
        refine wpAnyH_ready (rs := [13]) (by kernel_rfl) (by simp) (AllReadyH.cons (o := ⟨some 36, _, _, _, _, _⟩) rfl (fun K hK => ?_) AllReadyH.nil)
        refine step_app rfl (.tmp 24) (.tmp 35) 22 rfl B0 56 _ 34 64 Try.underlying22 infoInz (by rfl) (by decide) A5 i c5 rfl _ 1 1 rfl _ HOW.out _ _ (Sl.one_row wr.drew 56 X 34 hXl) hX1 (by unfold maxLen; omega) (by omega) hSw.2.2.2 ?_
        intro A7 c7 w7 hown7 ho7 hat7
        have ho8 := ho7.mono (S' := fun b => B0 ≤ b ∨ b = q5) (fun b hb e => .inl (own_ge HOW.out e))
        have ho9 := ho7.mono (S' := fun b => B0 ≤ b) (fun b hb e => own_ge HOW.out e)
        replace HOW := Lib.hid hown7
        clear hown7 ho7 hat7
        refine hK.out _ _ (⟨HFR.out _ _ ho8 hSw.1, hSw.2.1.only ho9 (by have := HSZ.out; omega), hSw.2.2.1.only ho9 (by have := BQ.out; omega), by have := hSw.2.2.2; have := ho9.size; omega⟩) ?_
        intro hSw
        clear hK K
        try simp only [Act.put, List.setIfInBounds_toArray, List.set_cons_zero, List.set_cons_succ]
        refine wpAnyH_take (i := 14) (oi := ⟨some 37, _, _, _, _, _⟩) (v := (.pointer (some ⟨q5, 0, none⟩))) rfl (by kernel_rfl) (by kernel_rfl) (by kernel_rfl) (fun _ _ _ h => h) (Or.inl ⟨by rfl, ?_⟩) hSw ?_
        · intro w' hSw'
          have c0 := hSw'.1.1.cell 0
          have c1 := hSw'.2.1.cell 0
          simp only [List.getElem?_toArray, List.getElem?_cons_zero, List.getElem?_cons_succ] at c0 c1
          go_simp
        simp only [Act.put, List.setIfInBounds_toArray, List.set_cons_zero, List.set_cons_succ]
        refine wpAnyH_done (by kernel_rfl) ?_ _
        show wpList _ _ _ _ _ _
        replace HF := Lib.hid hSw.1
        replace HU := Lib.hid hSw.2.1
        replace HBS := Lib.hid hSw.2.2.2
        have c1 := HU.out.cell 0
        have f1 := HU.out.frozen 0
        simp only [List.getElem?_toArray, List.getElem?_cons_zero, List.getElem?_cons_succ] at c1
        clear hSw hfold HRJ hi0 hi1 hjI hjI0 hu hlx d2 hX1 hXl
        go_wp2
        go_roundg (n - (i + 1))
        case measure => omega
        case rel =>
          have hob : Only (fun b => b = q5) w7 (w7.setCell ⟨q5, 0, none⟩ (.slice A7 (i + 1) c7)) := (Only.refl (fun b => b = q5) _).setCell (p := ⟨q5, 0, none⟩) (fun _ => rfl) _
          refine ⟨i + 1, A7, c7, by omega, by first | rfl | (rw [IntWalk.wrap64_in _ (by omega)]; rfl), HFR.out _ _ (hob.mono (fun b hb e => .inr e)) HF.out, HU.out.set_ 0 _, by have := HBS.out; have := hob.size; exact Nat.le_trans HBS.out hob.size, own_only ?_ hob (fun k e h => by have := own_ge HOW.out e; have := HSZ.out; omega)⟩
          have := HOW.out
          rw [HST.out]
          exact this
      · have d2 : decide (i < n) = false := by simpa using hlt
        obtain rfl : n = i := by omega
        rw [rev_full cI n HC0.out.1] at HOW
        clear hlt hik
        obtain ⟨Af, rfl⟩ : ∃ Af, Af = A5 := ⟨_, rfl⟩
        obtain ⟨cf, rfl⟩ : ∃ cf, cf = c5 := ⟨_, rfl⟩
        obtain ⟨B1, hB1⟩ : ∃ B1, wr.heap.size = B1 := ⟨_, rfl⟩
        have hshut : insSh.rel wr (fun b => b < B1 ∧ b ≠ q5) [.slice Af n cf] ins.reverse := own_shut HOW.out ((Each.reverse HEI.out).mono (fun _ _ h => weak_in _ _ _ _ _ (inSh.below h HF.out.2 (fun b _ hb => HOK.out b hb)) (fun b hb hh => by have := HOK.out b hh; have := HSZ.out; omega))) (by rw [List.length_reverse, HN.out]) (fun b h1 h2 => by have := HSZ.out; omega)
        have hszf : q < q5 ∧ q5 < B1 ∧ w.heap.size ≤ q := by have := HSZ.out; have := HBS.out; omega
        replace HF := Lib.hid (And.intro HF.out.1 (And.intro HF.out.2 hshut))
        replace HBS := Lib.hid (show B1 ≤ wr.heap.size by omega)
        clear hshut hB1 HOW HFR HSZ d2
        -- what stays as it is
        have hfr : ∀ wa wb : World, Only (fun b => B1 ≤ b ∨ b = q5) wa wb → (Blk wa q 25 #[.slice A n c, .slice A' n' c'] ∧ Below w.heap.size w wa ∧ insSh.rel wa (fun b => b < B1 ∧ b ≠ q5) [.slice Af n cf] ins.reverse) → (Blk wb q 25 #[.slice A n c, .slice A' n' c'] ∧ Below w.heap.size w wb ∧ insSh.rel wb (fun b => b < B1 ∧ b ≠ q5) [.slice Af n cf] ins.reverse) := by
          exact fun wa wb ho ⟨h1, h2, h3⟩ => ⟨h1.only ho (by omega), h2.trans (ho.below h2.size (fun b hb e => by omega)), insSh.only h3 ho (fun b _ hb e => by omega)⟩
        have HFR := Lib.hid hfr
        have HSZ := Lib.hid hszf
        have cq := HF.out.1.cell 1
        simp only [List.getElem?_toArray, List.getElem?_cons_zero, List.getElem?_cons_succ] at cq
        clear hfr hszf
        go_wp2_with fail
        clear cq
        go_loopg [42] n' (fun k v42 wr => ∃ (i : Nat) (A5 : Option Addr) (c5 : Nat), i + k = n' ∧ v42 = .int .i64 (i : Int) ∧ Hid ((Blk wr q 25 #[.slice A n c, .slice A' n' c'] ∧ Below w.heap.size w wr ∧ insSh.rel wr (fun b => b < B1 ∧ b ≠ q5) [.slice Af n cf] ins.reverse)) ∧ Hid (Blk wr q5 25 #[.slice Af n cf, .slice A5 i c5]) ∧ Hid (B1 ≤ wr.heap.size) ∧ Hid (wr.ownsRow B1 58 33 (.slice A5 i c5) i ((cO).reverse.take i).flatten))
        case atStart => exact ⟨0, none, 0, by omega, rfl, HF.out, HU.out, HBS.out, World.ownsRow_nil _ _ _ _⟩
        case round =>
          clear HF HU HBS
          obtain ⟨i, A5, c5, hik, rfl, HF, HU, HBS, HOW⟩ := hrel
          by_cases hlt : i < n'
          · have d2 : decide (i < n') = true := by simpa using hlt
            have hsl := HS1.out.below HF.out.2.1 (fun b _ h => HOK.out b h) (by decide)
            obtain ⟨b, o, hA, hb, hrow⟩ := hsl.2 (by omega)
            subst hA
            have hbw : b < w.heap.size := HOK.out b hb
            have hj : n' - 1 - i < (cO).length := by have := HC1.out.1; omega
            have hrj := row_cells hrow HC1.out.2 hj
            obtain ⟨X, hX⟩ : ∃ X, (cO)[n' - 1 - i] = X := ⟨_, rfl⟩
            have hXl : X.length = 33 := by rw [← hX]; exact HC1.out.2 _ (List.getElem_mem _)
            have hX1 : ∀ u ∈ X, u.oneCell' = true := by rw [← hX]; exact H11.out _ (List.getElem_mem _)
            have hstep := rev_step cO n' i HC1.out.1 hlt
            rw [hX] at hrj hstep
            have HST := Lib.hid hstep
            have HRJ := Lib.hid (show RowAt wr b (o + (n' - 1 - i) * 33) X from hrj)
            have hbB : b < B1 ∧ b ≠ q5 := by have := HSZ.out; omega
            clear hX hj hrow hrj hsl hstep hb
            have hi0 : IntKind.i64.wrap ((n' : Int) - 1) = (n' : Int) - 1 := w64 _ (by omega)
            have hi1 : IntKind.i64.wrap ((n' : Int) - 1 - (i : Int)) = ((n' - 1 - i : Nat) : Int) := by rw [w64 _ (by omega)]; omega
            have hjn : n' - 1 - i < n' := by omega
            obtain ⟨jj, hjj⟩ : ∃ jj, n' - 1 - i = jj := ⟨_, rfl⟩
            rw [hjj] at hi1 HRJ hjn
            have hjI : (jj : Int) < (n' : Int) := by omega
            have hjI0 : (0 : Int) ≤ (jj : Int) := by omega
            have hu := (Try.underlying58 : Try.prog.underlying 58 = some _)
            have hlx : (Try.prog.info? 58).map (·.size) = some X.length := by rw [infoOut, hXl]
            have hfold := fun (z : Array Value) (hz : z.size = 33) => fold_set X z (by rw [hz, hXl])
            have BQ := Lib.hid (And.intro hbB hbw)
            clear hjj hbB hbw
            go_wp2
            replace HOW := Lib.hid (own_only HOW.out ((Only.refl (fun _ => False) wr).drew) (fun _ _ h => h))
            refine wp_region_tail (S := (fun w' => (Blk w' q 25 #[.slice A n c, .slice (some ⟨b, o, none⟩) n' c'] ∧ Below w.heap.size w w' ∧ insSh.rel w' (fun b => b < B1 ∧ b ≠ q5) [.slice Af n cf] ins.reverse) ∧ Blk w' q5 25 #[.slice Af n cf, .slice A5 i c5] ∧ RowAt w' b (o + jj * 33) X ∧ B1 ≤ w'.heap.size)) 15 (by kernel_rfl) (by decide) (by kernel_rfl) (⟨HFR.out _ _ ((Only.refl _ wr).drew) HF.out, HU.out.drew, HRJ.out, HBS.out⟩) ?_
            simp only [List.take_succ_cons, List.take_zero, List.drop_succ_cons, List.drop_zero]
            intro hSw
            refine wpAnyH_take (i := 0) (oi := ⟨some 45, _, _, _, _, _⟩) (v := (.pointer (some ⟨q5, 1, none⟩))) rfl (by kernel_rfl) (by kernel_rfl) (by kernel_rfl) (fun _ _ _ h => h) (Or.inl ⟨by rfl, ?_⟩) hSw ?_
            · intro w' hSw'
              have c0 := hSw'.1.1.cell 1
              have c1 := hSw'.2.1.cell 1
              simp only [List.getElem?_toArray, List.getElem?_cons_zero, List.getElem?_cons_succ] at c0 c1
              go_simp
            simp only [Act.put, List.setIfInBounds_toArray, List.set_cons_zero, List.set_cons_succ]
            refine wpAnyH_take (i := 1) (oi := ⟨some 46, _, _, _, _, _⟩) (v := (.slice A5 i c5)) rfl (by kernel_rfl) (by kernel_rfl) (by kernel_rfl) (fun _ _ _ h => h) (Or.inl ⟨by rfl, ?_⟩) hSw ?_
            · intro w' hSw'
              have c0 := hSw'.1.1.cell 1
              have c1 := hSw'.2.1.cell 1
              simp only [List.getElem?_toArray, List.getElem?_cons_zero, List.getElem?_cons_succ] at c0 c1
              go_simp
            simp only [Act.put, List.setIfInBounds_toArray, List.set_cons_zero, List.set_cons_succ]
            refine wpAnyH_take (i := 2) (oi := ⟨some 47, _, _, _, _, _⟩) (v := (.pointer (some ⟨q, 1, none⟩))) rfl (by kernel_rfl) (by kernel_rfl) (by kernel_rfl) (fun _ _ _ h => h) (Or.inl ⟨by rfl, ?_⟩) hSw ?_
            · intro w' hSw'
              have c0 := hSw'.1.1.cell 1
              have c1 := hSw'.2.1.cell 1
              simp only [List.getElem?_toArray, List.getElem?_cons_zero, List.getElem?_cons_succ] at c0 c1
              go_simp
            simp only [Act.put, List.setIfInBounds_toArray, List.set_cons_zero, List.set_cons_succ]
            refine wpAnyH_take (i := 3) (oi := ⟨some 48, _, _, _, _, _⟩) (v := (.slice (some ⟨b, o, none⟩) n' c')) rfl (by kernel_rfl) (by kernel_rfl) (by kernel_rfl) (fun _ _ _ h => h) (Or.inl ⟨by rfl, ?_⟩) hSw ?_
            · intro w' hSw'
              have c0 := hSw'.1.1.cell 1
              have c1 := hSw'.2.1.cell 1
              simp only [List.getElem?_toArray, List.getElem?_cons_zero, List.getElem?_cons_succ] at c0 c1
              go_simp
            simp only [Act.put, List.setIfInBounds_toArray, List.set_cons_zero, List.set_cons_succ]
            refine wpAnyH_take (i := 4) (oi := ⟨some 49, _, _, _, _, _⟩) (v := (.pointer (some ⟨q, 1, none⟩))) rfl (by kernel_rfl) (by kernel_rfl) (by kernel_rfl) (fun _ _ _ h => h) (Or.inl ⟨by rfl, ?_⟩) hSw ?_
            · intro w' hSw'
              have c0 := hSw'.1.1.cell 1
              have c1 := hSw'.2.1.cell 1
              simp only [List.getElem?_toArray, List.getElem?_cons_zero, List.getElem?_cons_succ] at c0 c1
              go_simp
            simp only [Act.put, List.setIfInBounds_toArray, List.set_cons_zero, List.set_cons_succ]
            refine wpAnyH_take (i := 5) (oi := ⟨some 50, _, _, _, _, _⟩) (v := (.slice (some ⟨b, o, none⟩) n' c')) rfl (by kernel_rfl) (by kernel_rfl) (by kernel_rfl) (fun _ _ _ h => h) (Or.inl ⟨by rfl, ?_⟩) hSw ?_
            · intro w' hSw'
              have c0 := hSw'.1.1.cell 1
              have c1 := hSw'.2.1.cell 1
              simp only [List.getElem?_toArray, List.getElem?_cons_zero, List.getElem?_cons_succ] at c0 c1
              go_simp
            simp only [Act.put, List.setIfInBounds_toArray, List.set_cons_zero, List.set_cons_succ]
            refine wpAnyH_take (i := 6) (oi := ⟨some 51, _, _, _, _, _⟩) (v := (.int .i64 (n' : Int))) rfl (by kernel_rfl) (by kernel_rfl) (by kernel_rfl) (fun _ _ _ h => h) (Or.inl ⟨by rfl, ?_⟩) hSw ?_
            · intro w' hSw'
              have c0 := hSw'.1.1.cell 1
              have c1 := hSw'.2.1.cell 1
              simp only [List.getElem?_toArray, List.getElem?_cons_zero, List.getElem?_cons_succ] at c0 c1
              go_simp
            simp only [Act.put, List.setIfInBounds_toArray, List.set_cons_zero, List.set_cons_succ]
            refine wpAnyH_take (i := 7) (oi := ⟨some 52, _, _, _, _, _⟩) (v := (.int .i64 ((n' : Int) - 1))) rfl (by kernel_rfl) (by kernel_rfl) (by kernel_rfl) (fun _ _ _ h => h) (Or.inl ⟨by rfl, ?_⟩) hSw ?_
            · intro w' hSw'
              have c0 := hSw'.1.1.cell 1
              have c1 := hSw'.2.1.cell 1
              simp only [List.getElem?_toArray, List.getElem?_cons_zero, List.getElem?_cons_succ] at c0 c1
              go_simp
            simp only [Act.put, List.setIfInBounds_toArray, List.set_cons_zero, List.set_cons_succ]
            refine wpAnyH_take (i := 8) (oi := ⟨some 53, _, _, _, _, _⟩) (v := (.int .i64 (i : Int))) rfl (by kernel_rfl) (by kernel_rfl) (by kernel_rfl) (fun _ _ _ h => h) (Or.inl ⟨by rfl, ?_⟩) hSw ?_
            · intro w' hSw'
              have c0 := hSw'.1.1.cell 1
              have c1 := hSw'.2.1.cell 1
              simp only [List.getElem?_toArray, List.getElem?_cons_zero, List.getElem?_cons_succ] at c0 c1
              go_simp
            simp only [Act.put, List.setIfInBounds_toArray, List.set_cons_zero, List.set_cons_succ]
            refine wpAnyH_take (i := 9) (oi := ⟨some 54, _, _, _, _, _⟩) (v := (.int .i64 (jj : Int))) rfl (by kernel_rfl) (by kernel_rfl) (by kernel_rfl) (fun _ _ _ h => h) (Or.inl ⟨by rfl, ?_⟩) hSw ?_
            · intro w' hSw'
              have c0 := hSw'.1.1.cell 1
              have c1 := hSw'.2.1.cell 1
              simp only [List.getElem?_toArray, List.getElem?_cons_zero, List.getElem?_cons_succ] at c0 c1
              go_simp
            simp only [Act.put, List.setIfInBounds_toArray, List.set_cons_zero, List.set_cons_succ]
            refine wpAnyH_take (i := 10) (oi := ⟨some 55, _, _, _, _, _⟩) (v := (.pointer (some ⟨b, o + jj * 33, none⟩))) rfl (by kernel_rfl) (by kernel_rfl) (by kernel_rfl) (fun _ _ _ h => h) (Or.inl ⟨by rfl, ?_⟩) hSw ?_
            · intro w' hSw'
              have c0 := hSw'.1.1.cell 1
              have c1 := hSw'.2.1.cell 1
              simp only [List.getElem?_toArray, List.getElem?_cons_zero, List.getElem?_cons_succ] at c0 c1
              go_simp
            simp only [Act.put, List.setIfInBounds_toArray, List.set_cons_zero, List.set_cons_succ]
            refine wpAnyH_take (i := 11) (oi := ⟨some 56, _, _, _, _, _⟩) (v := .agg (X).toArray) rfl (by kernel_rfl) (by kernel_rfl) (by kernel_rfl) (fun _ _ _ h => h) (yieldsIf_load_mid (by rfl) _ _ rfl b (o + jj * 33) rfl (X) _ (fun _ h => h.2.2.1) hu rfl hlx) hSw ?_
            simp only [Act.put, List.setIfInBounds_toArray, List.set_cons_zero, List.set_cons_succ]
            refine wpAnyH_ready (rs := [12]) (by kernel_rfl) (by simp) (AllReadyH.cons (o := ⟨some 57, _, _, _, _, _⟩) rfl (fun K hK => ?_) AllReadyH.nil)
            go_simp
            replace HOW := Lib.hid (HOW.out.alloc (.cells X.toArray 58))
            refine hK.out _ _ (⟨HFR.out _ _ ((Only.refl _ _).alloc _) hSw.1, hSw.2.1.alloc _, hSw.2.2.1.only ((Only.refl (fun _ => False) _).alloc _) (fun h => h), Nat.le_trans hSw.2.2.2 (by simp)⟩) ?_
            intro hSw
            clear hK K
            try simp only [Act.put, List.setIfInBounds_toArray, List.set_cons_zero, List.set_cons_succ]
            refine wpAnyH_ready (rs := [13]) (by kernel_rfl) (by simp) (AllReadyH.cons (o := ⟨some 58, _, _, _, _, _⟩) rfl (fun K hK => ?_) AllReadyH.nil)
            refine step_app rfl (.tmp 46) (.tmp 57) 23 rfl B1 58 _ 33 40 Try.underlying23 infoOutz (by rfl) (by decide) A5 i c5 rfl _ 1 1 rfl _ HOW.out _ _ (Sl.one_row wr.drew 58 X 33 hXl) hX1 (by unfold maxLen; omega) (by omega) hSw.2.2.2 ?_
            intro A7 c7 w7 hown7 ho7 hat7
            have ho8 := ho7.mono (S' := fun b => B1 ≤ b ∨ b = q5) (fun b hb e => .inl (own_ge HOW.out e))
            have ho9 := ho7.mono (S' := fun b => B1 ≤ b) (fun b hb e => own_ge HOW.out e)
            replace HOW := Lib.hid hown7
            clear hown7 ho7 hat7
            refine hK.out _ _ (⟨HFR.out _ _ ho8 hSw.1, hSw.2.1.only ho9 (by have := HSZ.out; omega), hSw.2.2.1.only ho9 (by have := BQ.out; omega), by have := hSw.2.2.2; have := ho9.size; omega⟩) ?_
            intro hSw
            clear hK K
            try simp only [Act.put, List.setIfInBounds_toArray, List.set_cons_zero, List.set_cons_succ]
            refine wpAnyH_take (i := 14) (oi := ⟨some 59, _, _, _, _, _⟩) (v := (.pointer (some ⟨q5, 1, none⟩))) rfl (by kernel_rfl) (by kernel_rfl) (by kernel_rfl) (fun _ _ _ h => h) (Or.inl ⟨by rfl, ?_⟩) hSw ?_
            · intro w' hSw'
              have c0 := hSw'.1.1.cell 1
              have c1 := hSw'.2.1.cell 1
              simp only [List.getElem?_toArray, List.getElem?_cons_zero, List.getElem?_cons_succ] at c0 c1
              go_simp
            simp only [Act.put, List.setIfInBounds_toArray, List.set_cons_zero, List.set_cons_succ]
            refine wpAnyH_done (by kernel_rfl) ?_ _
            show wpList _ _ _ _ _ _
            replace HF := Lib.hid hSw.1
            replace HU := Lib.hid hSw.2.1
            replace HBS := Lib.hid hSw.2.2.2
            have c1 := HU.out.cell 1
            have f1 := HU.out.frozen 1
            simp only [List.getElem?_toArray, List.getElem?_cons_zero, List.getElem?_cons_succ] at c1
            clear hSw hfold HRJ hi0 hi1 hjI hjI0 hu hlx d2 hX1 hXl
            go_wp2
            go_roundg (n' - (i + 1))
            case measure => omega
            case rel =>
              have hob : Only (fun b => b = q5) w7 (w7.setCell ⟨q5, 1, none⟩ (.slice A7 (i + 1) c7)) := (Only.refl (fun b => b = q5) _).setCell (p := ⟨q5, 1, none⟩) (fun _ => rfl) _
              refine ⟨i + 1, A7, c7, by omega, by first | rfl | (rw [IntWalk.wrap64_in _ (by omega)]; rfl), HFR.out _ _ (hob.mono (fun b hb e => .inr e)) HF.out, HU.out.set_ 1 _, by have := HBS.out; have := hob.size; exact Nat.le_trans HBS.out hob.size, own_only ?_ hob (fun k e h => by have := own_ge HOW.out e; have := HSZ.out; omega)⟩
              have := HOW.out
              rw [HST.out]
              exact this
          · have d2 : decide (i < n') = false := by simpa using hlt
            obtain rfl : n' = i := by omega
            rw [rev_full cO n' HC1.out.1] at HOW
            clear hlt hik
            have hshut : outsSh.rel wr (fun b => True) [.slice A5 n' c5] outs.reverse := own_shut HOW.out ((Each.reverse HEO.out).mono (fun _ _ h => weak_out _ _ _ _ _ (outSh.below h HF.out.2.1 (fun b _ hb => HOK.out b hb)) (fun _ _ _ => trivial))) (by rw [List.length_reverse, HN'.out]) (fun _ _ _ => trivial)
            have HUO := Lib.hid hshut
            have HUI := Lib.hid HF.out.2.2
            have HB := Lib.hid HF.out.1
            have HBL := Lib.hid HF.out.2.1
            clear hshut HOW HFR HSZ d2 HF HBS
            have c1 := HB.out.cell 1
            simp only [List.getElem?_toArray, List.getElem?_cons_zero, List.getElem?_cons_succ] at c1
            obtain ⟨R, hR⟩ : ∃ R, csum 0 outs = R := ⟨_, rfl⟩
            have CS := csum_any wr A' n' c' outs ok (outsSh.below HO.out HBL.out (fun _ h _ => h)) HN'.out
            rw [hR] at CS
            have HR := Lib.hid hR
            clear hR
            obtain ⟨sm, okb⟩ := R
            dsimp only at CS
            replace CS := Lib.hid CS
            go_wp2_with fail
            refine CS.out.mono ?_
            rintro e3 w3 ⟨rfl, a3⟩
            replace HB := Lib.hid (HB.out.below a3 HB.out.lt)
            replace HU := Lib.hid (HU.out.below a3 HU.out.lt)
            replace HBL := Lib.hid (HBL.out.trans (a3.mono HBL.out.size))
            replace HUI := Lib.hid (insSh.below HUI.out a3 (fun _ h _ => h))
            replace HUO := Lib.hid (outsSh.below HUO.out a3 (fun _ h _ => h))
            clear a3 CS c1
            have u1 := HU.out.cell 1
            simp only [List.getElem?_toArray, List.getElem?_cons_zero, List.getElem?_cons_succ] at u1
            have CS := csum_any w3 A5 n' c5 outs.reverse _ HUO.out (by rw [List.length_reverse, HN'.out])
            rw [csum_rev, HR.out] at CS
            dsimp only at CS
            replace CS := Lib.hid CS
            go_wp2_with fail
            refine CS.out.mono ?_
            rintro e4 w4 ⟨rfl, a4⟩
            replace HB := Lib.hid (HB.out.below a4 HB.out.lt)
            replace HU := Lib.hid (HU.out.below a4 HU.out.lt)
            replace HBL := Lib.hid (HBL.out.trans (a4.mono HBL.out.size))
            replace HUI := Lib.hid (insSh.below HUI.out a4 (fun _ h _ => h))
            replace HUO := Lib.hid (outsSh.below HUO.out a4 (fun _ h _ => h))
            clear a4 CS u1
            obtain ⟨E1, hE1⟩ : ∃ E1, ctx (ins, outs, ()) first = E1 := ⟨_, rfl⟩
            obtain ⟨E2, hE2⟩ : ∃ E2, ctx (ins.reverse, outs.reverse, ()) first = E2 := ⟨_, rfl⟩
            have he := ctx_rev ins outs first
            rw [hE1, hE2] at he
            obtain ⟨eb, e1⟩ : ∃ eb, (E1 == 0) = eb := ⟨_, rfl⟩
            have e2 : (E2 == 0) = eb := by rw [he, e1]
            have HE1 := Lib.hid hE1
            have HE2 := Lib.hid hE2
            clear hE1 hE2 he
            go_wp2
            refine wp_region_held_drew (S := (fun w' => Blk w' q 25 #[.slice A n c, .slice A' n' c'] ∧ Blk w' q5 25 #[.slice Af n cf, .slice A5 n' c5] ∧ Below w.heap.size w w' ∧ insSh.rel w' (fun b => b < B1 ∧ b ≠ q5) [.slice Af n cf] ins.reverse ∧ outsSh.rel w' (fun b => True) [.slice A5 n' c5] outs.reverse)) (by kernel_rfl) (⟨HB.out.drew, HU.out.drew, HBL.out.drew, insSh.only HUI.out ((Only.refl (fun _ => False) w4).drew) (fun _ _ _ h => h), outsSh.only HUO.out ((Only.refl (fun _ => False) w4).drew) (fun _ _ _ h => h)⟩) ?_
            intro hSw
            refine wpAnyH_take (i := 0) (oi := ⟨some 73, _, _, _, _, _⟩) (v := (.agg #[.slice A n c, .slice A' n' c'])) rfl (by kernel_rfl) (by kernel_rfl) (by kernel_rfl) (fun _ _ _ h => h) (Or.inl ⟨by rfl, ?_⟩) hSw ?_
            · intro w' hSw'
              have c0 := hSw'.1.cell 0
              have c1 := hSw'.1.cell 1
              have u0 := hSw'.2.1.cell 0
              have u1 := hSw'.2.1.cell 1
              simp only [List.getElem?_toArray, List.getElem?_cons_zero, List.getElem?_cons_succ] at c0 c1 u0 u1
              go_simp
            simp only [Act.put, List.setIfInBounds_toArray, List.set_cons_zero, List.set_cons_succ]
            refine wpAnyH_take (i := 1) (oi := ⟨some 74, _, _, _, _, _⟩) (v := (.bool first)) rfl (by kernel_rfl) (by kernel_rfl) (by kernel_rfl) (fun _ _ _ h => h) (Or.inl ⟨by rfl, ?_⟩) hSw ?_
            · intro w' hSw'
              have c0 := hSw'.1.cell 0
              have c1 := hSw'.1.cell 1
              have u0 := hSw'.2.1.cell 0
              have u1 := hSw'.2.1.cell 1
              simp only [List.getElem?_toArray, List.getElem?_cons_zero, List.getElem?_cons_succ] at c0 c1 u0 u1
              go_simp
            simp only [Act.put, List.setIfInBounds_toArray, List.set_cons_zero, List.set_cons_succ]
            refine wpAnyH_take (i := 4) (oi := ⟨some 77, _, _, _, _, _⟩) (v := (.agg #[.slice Af n cf, .slice A5 n' c5])) rfl (by kernel_rfl) (by kernel_rfl) (by kernel_rfl) (fun _ _ _ h => h) (Or.inl ⟨by rfl, ?_⟩) hSw ?_
            · intro w' hSw'
              have c0 := hSw'.1.cell 0
              have c1 := hSw'.1.cell 1
              have u0 := hSw'.2.1.cell 0
              have u1 := hSw'.2.1.cell 1
              simp only [List.getElem?_toArray, List.getElem?_cons_zero, List.getElem?_cons_succ] at c0 c1 u0 u1
              go_simp
            simp only [Act.put, List.setIfInBounds_toArray, List.set_cons_zero, List.set_cons_succ]
            refine wpAnyH_take (i := 5) (oi := ⟨some 78, _, _, _, _, _⟩) (v := (.bool first)) rfl (by kernel_rfl) (by kernel_rfl) (by kernel_rfl) (fun _ _ _ h => h) (Or.inl ⟨by rfl, ?_⟩) hSw ?_
            · intro w' hSw'
              have c0 := hSw'.1.cell 0
              have c1 := hSw'.1.cell 1
              have u0 := hSw'.2.1.cell 0
              have u1 := hSw'.2.1.cell 1
              simp only [List.getElem?_toArray, List.getElem?_cons_zero, List.getElem?_cons_succ] at c0 c1 u0 u1
              go_simp
            simp only [Act.put, List.setIfInBounds_toArray, List.set_cons_zero, List.set_cons_succ]
            refine wpAnyH_ready (rs := [2]) (by kernel_rfl) (by simp) (AllReadyH.cons (o := ⟨some 75, _, _, _, _, _⟩) rfl (fun K hK => ?_) AllReadyH.nil)
            go_simp
            go_at_call 13
            refine (check_tx_any _ A A' n n' c c' ins outs ok first (insSh.below HI.out hSw.2.2.1 (fun _ h _ => h)) (outsSh.below HO.out hSw.2.2.1 (fun _ h _ => h)) HN.out HN'.out).mono ?_
            rintro e5 w5 ⟨rfl, a5⟩
            rw [HE1.out]
            dsimp only
            refine hK.out _ _ (⟨hSw.1.below a5 hSw.1.lt, hSw.2.1.below a5 hSw.2.1.lt, hSw.2.2.1.trans (a5.mono hSw.2.2.1.size), insSh.below hSw.2.2.2.1 a5 (fun _ h _ => h), outsSh.below hSw.2.2.2.2 a5 (fun _ h _ => h)⟩) ?_
            intro hSw
            clear hK K
            try simp only [Act.put, List.setIfInBounds_toArray, List.set_cons_zero, List.set_cons_succ]
            refine wpAnyH_take (i := 3) (oi := ⟨some 76, _, _, _, _, _⟩) (v := (.bool eb)) rfl (by kernel_rfl) (by kernel_rfl) (by kernel_rfl) (fun _ _ _ h => h) (Or.inl ⟨by rfl, ?_⟩) hSw ?_
            · intro w' hSw'
              have c0 := hSw'.1.cell 0
              have c1 := hSw'.1.cell 1
              have u0 := hSw'.2.1.cell 0
              have u1 := hSw'.2.1.cell 1
              simp only [List.getElem?_toArray, List.getElem?_cons_zero, List.getElem?_cons_succ] at c0 c1 u0 u1
              go_simp
            simp only [Act.put, List.setIfInBounds_toArray, List.set_cons_zero, List.set_cons_succ]
            refine wpAnyH_ready (rs := [6]) (by kernel_rfl) (by simp) (AllReadyH.cons (o := ⟨some 79, _, _, _, _, _⟩) rfl (fun K hK => ?_) AllReadyH.nil)
            go_simp
            go_at_call 13
            refine (check_tx_any _ Af A5 n n' cf c5 ins.reverse outs.reverse _ first (weak_slice weak_in _ _ (fun _ => True) _ _ hSw.2.2.2.1 (fun _ _ _ => trivial)) hSw.2.2.2.2 (by rw [List.length_reverse, HN.out]) (by rw [List.length_reverse, HN'.out])).mono ?_
            rintro e6 w6 ⟨rfl, a6⟩
            rw [HE2.out]
            dsimp only
            refine hK.out _ _ (⟨hSw.1.below a6 hSw.1.lt, hSw.2.1.below a6 hSw.2.1.lt, hSw.2.2.1.trans (a6.mono hSw.2.2.1.size), insSh.below hSw.2.2.2.1 a6 (fun _ h _ => h), outsSh.below hSw.2.2.2.2 a6 (fun _ h _ => h)⟩) ?_
            intro hSw
            clear hK K
            try simp only [Act.put, List.setIfInBounds_toArray, List.set_cons_zero, List.set_cons_succ]
            refine wpAnyH_take (i := 7) (oi := ⟨some 80, _, _, _, _, _⟩) (v := (.bool eb)) rfl (by kernel_rfl) (by kernel_rfl) (by kernel_rfl) (fun _ _ _ h => h) (Or.inl ⟨by rfl, ?_⟩) hSw ?_
            · intro w' hSw'
              have c0 := hSw'.1.cell 0
              have c1 := hSw'.1.cell 1
              have u0 := hSw'.2.1.cell 0
              have u1 := hSw'.2.1.cell 1
              simp only [List.getElem?_toArray, List.getElem?_cons_zero, List.getElem?_cons_succ] at c0 c1 u0 u1
              go_simp
            simp only [Act.put, List.setIfInBounds_toArray, List.set_cons_zero, List.set_cons_succ]
            refine wpAnyH_take (i := 8) (oi := ⟨some 81, _, _, _, _, _⟩) (v := (.bool true)) rfl (by kernel_rfl) (by kernel_rfl) (by kernel_rfl) (fun _ _ _ h => h) (Or.inl ⟨by rfl, ?_⟩) hSw ?_
            · intro w' hSw'
              have c0 := hSw'.1.cell 0
              have c1 := hSw'.1.cell 1
              have u0 := hSw'.2.1.cell 0
              have u1 := hSw'.2.1.cell 1
              simp only [List.getElem?_toArray, List.getElem?_cons_zero, List.getElem?_cons_succ] at c0 c1 u0 u1
              go_simp
            simp only [Act.put, List.setIfInBounds_toArray, List.set_cons_zero, List.set_cons_succ]
            refine wpAnyH_take (i := 9) (oi := ⟨some 82, _, _, _, _, _⟩) (v := (.bool true)) rfl (by kernel_rfl) (by kernel_rfl) (by kernel_rfl) (fun _ _ _ h => h) (Or.inl ⟨by rfl, ?_⟩) hSw ?_
            · intro w' hSw'
              have c0 := hSw'.1.cell 0
              have c1 := hSw'.1.cell 1
              have u0 := hSw'.2.1.cell 0
              have u1 := hSw'.2.1.cell 1
              simp only [List.getElem?_toArray, List.getElem?_cons_zero, List.getElem?_cons_succ] at c0 c1 u0 u1
              go_simp
            simp only [Act.put, List.setIfInBounds_toArray, List.set_cons_zero, List.set_cons_succ]
            refine wpAnyH_take (i := 10) (oi := ⟨some 83, _, _, _, _, _⟩) (v := (.bool okb)) rfl (by kernel_rfl) (by kernel_rfl) (by kernel_rfl) (fun _ _ _ h => h) (Or.inl ⟨by rfl, ?_⟩) hSw ?_
            · intro w' hSw'
              have c0 := hSw'.1.cell 0
              have c1 := hSw'.1.cell 1
              have u0 := hSw'.2.1.cell 0
              have u1 := hSw'.2.1.cell 1
              simp only [List.getElem?_toArray, List.getElem?_cons_zero, List.getElem?_cons_succ] at c0 c1 u0 u1
              go_simp
            simp only [Act.put, List.setIfInBounds_toArray, List.set_cons_zero, List.set_cons_succ]
            refine wpAnyH_take (i := 11) (oi := ⟨some 84, _, _, _, _, _⟩) (v := (.bool okb)) rfl (by kernel_rfl) (by kernel_rfl) (by kernel_rfl) (fun _ _ _ h => h) (Or.inl ⟨by rfl, ?_⟩) hSw ?_
            · intro w' hSw'
              have c0 := hSw'.1.cell 0
              have c1 := hSw'.1.cell 1
              have u0 := hSw'.2.1.cell 0
              have u1 := hSw'.2.1.cell 1
              simp only [List.getElem?_toArray, List.getElem?_cons_zero, List.getElem?_cons_succ] at c0 c1 u0 u1
              go_simp
            simp only [Act.put, List.setIfInBounds_toArray, List.set_cons_zero, List.set_cons_succ]
            refine wpAnyH_take (i := 12) (oi := ⟨some 85, _, _, _, _, _⟩) (v := (.bool true)) rfl (by kernel_rfl) (by kernel_rfl) (by kernel_rfl) (fun _ _ _ h => h) (Or.inl ⟨by rfl, ?_⟩) hSw ?_
            · intro w' hSw'
              have c0 := hSw'.1.cell 0
              have c1 := hSw'.1.cell 1
              have u0 := hSw'.2.1.cell 0
              have u1 := hSw'.2.1.cell 1
              simp only [List.getElem?_toArray, List.getElem?_cons_zero, List.getElem?_cons_succ] at c0 c1 u0 u1
              go_simp
            simp only [Act.put, List.setIfInBounds_toArray, List.set_cons_zero, List.set_cons_succ]
            refine wpAnyH_take (i := 13) (oi := ⟨some 86, _, _, _, _, _⟩) (v := (.bool true)) rfl (by kernel_rfl) (by kernel_rfl) (by kernel_rfl) (fun _ _ _ h => h) (Or.inl ⟨by rfl, ?_⟩) hSw ?_
            · intro w' hSw'
              have c0 := hSw'.1.cell 0
              have c1 := hSw'.1.cell 1
              have u0 := hSw'.2.1.cell 0
              have u1 := hSw'.2.1.cell 1
              simp only [List.getElem?_toArray, List.getElem?_cons_zero, List.getElem?_cons_succ] at c0 c1 u0 u1
              go_simp
            simp only [Act.put, List.setIfInBounds_toArray, List.set_cons_zero, List.set_cons_succ]
            refine wpAnyH_take (i := 14) (oi := ⟨some 87, _, _, _, _, _⟩) (v := (.bool true)) rfl (by kernel_rfl) (by kernel_rfl) (by kernel_rfl) (fun _ _ _ h => h) (Or.inl ⟨by rfl, ?_⟩) hSw ?_
            · intro w' hSw'
              have c0 := hSw'.1.cell 0
              have c1 := hSw'.1.cell 1
              have u0 := hSw'.2.1.cell 0
              have u1 := hSw'.2.1.cell 1
              simp only [List.getElem?_toArray, List.getElem?_cons_zero, List.getElem?_cons_succ] at c0 c1 u0 u1
              go_simp
            simp only [Act.put, List.setIfInBounds_toArray, List.set_cons_zero, List.set_cons_succ]
            refine wpAnyH_take (i := 15) (oi := ⟨some 88, _, _, _, _, _⟩) (v := (.int .i64 sm)) rfl (by kernel_rfl) (by kernel_rfl) (by kernel_rfl) (fun _ _ _ h => h) (Or.inl ⟨by rfl, ?_⟩) hSw ?_
            · intro w' hSw'
              have c0 := hSw'.1.cell 0
              have c1 := hSw'.1.cell 1
              have u0 := hSw'.2.1.cell 0
              have u1 := hSw'.2.1.cell 1
              simp only [List.getElem?_toArray, List.getElem?_cons_zero, List.getElem?_cons_succ] at c0 c1 u0 u1
              go_simp
            simp only [Act.put, List.setIfInBounds_toArray, List.set_cons_zero, List.set_cons_succ]
            refine wpAnyH_take (i := 16) (oi := ⟨some 89, _, _, _, _, _⟩) (v := (.int .i64 sm)) rfl (by kernel_rfl) (by kernel_rfl) (by kernel_rfl) (fun _ _ _ h => h) (Or.inl ⟨by rfl, ?_⟩) hSw ?_
            · intro w' hSw'
              have c0 := hSw'.1.cell 0
              have c1 := hSw'.1.cell 1
              have u0 := hSw'.2.1.cell 0
              have u1 := hSw'.2.1.cell 1
              simp only [List.getElem?_toArray, List.getElem?_cons_zero, List.getElem?_cons_succ] at c0 c1 u0 u1
              go_simp
            simp only [Act.put, List.setIfInBounds_toArray, List.set_cons_zero, List.set_cons_succ]
            refine wpAnyH_take (i := 17) (oi := ⟨some 90, _, _, _, _, _⟩) (v := (.bool true)) rfl (by kernel_rfl) (by kernel_rfl) (by kernel_rfl) (fun _ _ _ h => h) (Or.inl ⟨by rfl, ?_⟩) hSw ?_
            · intro w' hSw'
              have c0 := hSw'.1.cell 0
              have c1 := hSw'.1.cell 1
              have u0 := hSw'.2.1.cell 0
              have u1 := hSw'.2.1.cell 1
              simp only [List.getElem?_toArray, List.getElem?_cons_zero, List.getElem?_cons_succ] at c0 c1 u0 u1
              go_simp
            simp only [Act.put, List.setIfInBounds_toArray, List.set_cons_zero, List.set_cons_succ]
            refine wpAnyH_take (i := 18) (oi := ⟨some 91, _, _, _, _, _⟩) (v := (.bool true)) rfl (by kernel_rfl) (by kernel_rfl) (by kernel_rfl) (fun _ _ _ h => h) (Or.inl ⟨by rfl, ?_⟩) hSw ?_
            · intro w' hSw'
              have c0 := hSw'.1.cell 0
              have c1 := hSw'.1.cell 1
              have u0 := hSw'.2.1.cell 0
              have u1 := hSw'.2.1.cell 1
              simp only [List.getElem?_toArray, List.getElem?_cons_zero, List.getElem?_cons_succ] at c0 c1 u0 u1
              go_simp
            simp only [Act.put, List.setIfInBounds_toArray, List.set_cons_zero, List.set_cons_succ]
            refine wpAnyH_take (i := 19) (oi := ⟨some 4, _, _, _, _, _⟩) (v := (.bool true)) rfl (by kernel_rfl) (by kernel_rfl) (by kernel_rfl) (fun _ _ _ h => h) (Or.inl ⟨by rfl, ?_⟩) hSw ?_
            · intro w' hSw'
              have c0 := hSw'.1.cell 0
              have c1 := hSw'.1.cell 1
              have u0 := hSw'.2.1.cell 0
              have u1 := hSw'.2.1.cell 1
              simp only [List.getElem?_toArray, List.getElem?_cons_zero, List.getElem?_cons_succ] at c0 c1 u0 u1
              go_simp
            simp only [Act.put, List.setIfInBounds_toArray, List.set_cons_zero, List.set_cons_succ]
            refine wpAnyH_done (by kernel_rfl) ?_ _
            go_wp2
            go_ret
            rw [← HQ.out]
            exact ⟨rfl, hSw.2.2.1⟩
end Go.Proofs.Ytkenkhefpemdmaa
