/- WireSmall: for every two numbers the law returns true: a count takes one, three, five or nine bytes, and a greater one no fewer. No conditions. -/
import Derived.Test.YtmcgfcchmpoalaaWj
import Derived.Test.YtmcgfcchmpoalaaRow
namespace Go.Proofs.Ytmcgfcchmpoalaa
open Go.RowKit Go.WideShapes Go.ChangeShapes Go.ChangeAt

theorem countB_length (n : Nat) : (countB n).length = if n < 253 then 1 else if n < 65536 then 3 else if n < 4294967296 then 5 else 9 := by
  unfold countB
  split
  · simp [les]
  · split
    · simp [les]
    · split <;> simp [les]
theorem countB_mono (a b : Nat) (h : a ≤ b) : (countB a).length ≤ (countB b).length := by
  rw [countB_length, countB_length]
  repeat' split
  all_goals omega
theorem two_writers (w : World) : IsWr ((w.alloc (.cells #[.slice none 0 0] 25)).alloc (.cells #[.slice none 0 0] 25)) w.heap.size w.heap.size none [] ∧
    IsWr ((w.alloc (.cells #[.slice none 0 0] 25)).alloc (.cells #[.slice none 0 0] 25)) w.heap.size (w.heap.size + 1) none [] := by
  have h2 := IsWr.new (w.alloc (.cells #[.slice none 0 0] 25))
  constructor
  · exact (IsWr.new w).only ((Only.refl (fun _ => False) _).alloc _) (fun h => h) (fun _ _ h => h)
  · obtain ⟨A, c, h3, h4, h5, h6⟩ := h2
    simp only [World.size_alloc] at h3 h4 h6
    exact ⟨A, c, h3, by omega, h5, own_low h6 (by simp)⟩

set_option maxRecDepth 20000 in
set_option maxHeartbeats 1000000 in
theorem wireSmall_any (a b : Nat) (w : World) :
    Calls Try.prog 4 #[.int .u64 (a : Int), .int .u64 (b : Int)] w fun e w' => e = .returned (.bool true) ∧ Below w.heap.size w w' := by
  have LA := countB_length a
  have LM := Lib.hid (countB_mono a b)
  by_cases h1 : a < 253
  · rw [if_pos h1] at LA
    have LAH := Lib.hid LA
    clear LA
    have d1 : decide ((a : Int) < 253) = true := by simp; omega
    by_cases hab : b < a
    · have dab : decide (b < a) = true := by simpa using hab
      clear hab h1
      go_enter Try.func4, Try.ntmps4
      go_wp2_with fail
      refine (writes_any w).mono ?_
      rintro e1 w1 ⟨rfl, a1⟩
      have A1 := Lib.hid a1
      clear a1
      go_wp2_with fail
      obtain ⟨h1, h2⟩ := two_writers w1
      generalize hW : World.alloc (World.alloc w1 _) _ = W
      rw [hW] at h1 h2
      have B1 := Lib.hid h1
      have B2 := Lib.hid h2
      have B3 := Lib.hid (show Below w.heap.size w W from hW ▸ (A1.out.alloc A1.out.size _).alloc (by have := A1.out.size; simp; omega) _)
      have B4 := Lib.hid (show W.heap.size = w1.heap.size + 2 by rw [← hW]; simp)
      clear h1 h2 hW
      refine (wcount_any w1.heap.size w1.heap.size none [] W a B1.out (by simp)).mono ?_
      rintro e2 w2 ⟨rfl, r2, b1, b2, b3⟩
      have hrow := fun b (hb : r2 = some b) => (show W.heap.size ≤ b by
        rcases b2 with h | ⟨b', h, hb'⟩
        · rw [hb] at h; cases h
        · rw [hb] at h; injection h with h; omega)
      have C1 := Lib.hid b1
      have C2 := Lib.hid (B2.out.only b3 (by intro h; rcases h with h | h; exact absurd h (by omega); cases h) (fun b hb => by cases hb))
      have C3 := Lib.hid (B3.out.trans ((WrS.below B1.out b3).mono A1.out.size))
      have HROW := Lib.hid hrow
      clear b1 b2 b3 hrow
      go_wp2_with fail
      refine (wcount_any (w1.heap.size + 1) w1.heap.size none [] w2 b C2.out (by simp)).mono ?_
      rintro e3 w3 ⟨rfl, r3, b1, b2, b3⟩
      have D1 := Lib.hid (C1.out.only b3 (by intro h; rcases h with h | h; exact absurd h (by omega); cases h) (fun b hb => by intro h; have h5 := HROW.out b hb; have h6 := B4.out; rcases h with h | h; omega; cases h))
      have D3 := Lib.hid (C3.out.trans ((WrS.below C2.out b3).mono A1.out.size))
      have C2 := Lib.hid b1
      clear b1 b2 b3
      go_wp2_with fail
      refine (wlen_any _ _ _ _ w3 D1.out).mono ?_
      rintro e4 w4 ⟨rfl, rfl⟩
      rw [List.nil_append, LAH.out]
      go_wp2_with fail
      go_ret
      exact ⟨rfl, D3.out⟩
    · have dab : decide (b < a) = false := by simpa using hab
      have HM := Lib.hid (LM.out (by omega))
      clear hab h1
      go_enter Try.func4, Try.ntmps4
      go_wp2_with fail
      refine (writes_any w).mono ?_
      rintro e1 w1 ⟨rfl, a1⟩
      have A1 := Lib.hid a1
      clear a1
      go_wp2_with fail
      obtain ⟨h1, h2⟩ := two_writers w1
      generalize hW : World.alloc (World.alloc w1 _) _ = W
      rw [hW] at h1 h2
      have B1 := Lib.hid h1
      have B2 := Lib.hid h2
      have B3 := Lib.hid (show Below w.heap.size w W from hW ▸ (A1.out.alloc A1.out.size _).alloc (by have := A1.out.size; simp; omega) _)
      have B4 := Lib.hid (show W.heap.size = w1.heap.size + 2 by rw [← hW]; simp)
      clear h1 h2 hW
      refine (wcount_any w1.heap.size w1.heap.size none [] W a B1.out (by simp)).mono ?_
      rintro e2 w2 ⟨rfl, r2, b1, b2, b3⟩
      have hrow := fun b (hb : r2 = some b) => (show W.heap.size ≤ b by
        rcases b2 with h | ⟨b', h, hb'⟩
        · rw [hb] at h; cases h
        · rw [hb] at h; injection h with h; omega)
      have C1 := Lib.hid b1
      have C2 := Lib.hid (B2.out.only b3 (by intro h; rcases h with h | h; exact absurd h (by omega); cases h) (fun b hb => by cases hb))
      have C3 := Lib.hid (B3.out.trans ((WrS.below B1.out b3).mono A1.out.size))
      have HROW := Lib.hid hrow
      clear b1 b2 b3 hrow
      go_wp2_with fail
      refine (wcount_any (w1.heap.size + 1) w1.heap.size none [] w2 b C2.out (by simp)).mono ?_
      rintro e3 w3 ⟨rfl, r3, b1, b2, b3⟩
      have D1 := Lib.hid (C1.out.only b3 (by intro h; rcases h with h | h; exact absurd h (by omega); cases h) (fun b hb => by intro h; have h5 := HROW.out b hb; have h6 := B4.out; rcases h with h | h; omega; cases h))
      have D3 := Lib.hid (C3.out.trans ((WrS.below C2.out b3).mono A1.out.size))
      have C2 := Lib.hid b1
      clear b1 b2 b3
      go_wp2_with fail
      refine (wlen_any _ _ _ _ w3 D1.out).mono ?_
      rintro e4 w4 ⟨rfl, rfl⟩
      rw [List.nil_append, LAH.out]
      go_wp2_with fail
      refine (wlen_any _ _ _ _ w3 C2.out).mono ?_
      rintro e5 w5 ⟨rfl, rfl⟩
      have hm := HM.out
      rw [LAH.out] at hm
      have dm : decide ((1 : Int) ≤ ((countB b).length : Int)) = true := by simp; omega
      clear hm
      go_wp2_with fail
      go_ret
      exact ⟨rfl, D3.out⟩
  · by_cases h2 : a < 65536
    · rw [if_neg h1, if_pos h2] at LA
      have LAH := Lib.hid LA
      clear LA
      have d1 : decide ((a : Int) < 253) = false := by simp; omega
      have d2 : decide ((a : Int) < 65536) = true := by simp; omega
      by_cases hab : b < a
      · have dab : decide (b < a) = true := by simpa using hab
        clear hab h1 h2
        go_enter Try.func4, Try.ntmps4
        go_wp2_with fail
        refine (writes_any w).mono ?_
        rintro e1 w1 ⟨rfl, a1⟩
        have A1 := Lib.hid a1
        clear a1
        go_wp2_with fail
        obtain ⟨h1, h2⟩ := two_writers w1
        generalize hW : World.alloc (World.alloc w1 _) _ = W
        rw [hW] at h1 h2
        have B1 := Lib.hid h1
        have B2 := Lib.hid h2
        have B3 := Lib.hid (show Below w.heap.size w W from hW ▸ (A1.out.alloc A1.out.size _).alloc (by have := A1.out.size; simp; omega) _)
        have B4 := Lib.hid (show W.heap.size = w1.heap.size + 2 by rw [← hW]; simp)
        clear h1 h2 hW
        refine (wcount_any w1.heap.size w1.heap.size none [] W a B1.out (by simp)).mono ?_
        rintro e2 w2 ⟨rfl, r2, b1, b2, b3⟩
        have hrow := fun b (hb : r2 = some b) => (show W.heap.size ≤ b by
          rcases b2 with h | ⟨b', h, hb'⟩
          · rw [hb] at h; cases h
          · rw [hb] at h; injection h with h; omega)
        have C1 := Lib.hid b1
        have C2 := Lib.hid (B2.out.only b3 (by intro h; rcases h with h | h; exact absurd h (by omega); cases h) (fun b hb => by cases hb))
        have C3 := Lib.hid (B3.out.trans ((WrS.below B1.out b3).mono A1.out.size))
        have HROW := Lib.hid hrow
        clear b1 b2 b3 hrow
        go_wp2_with fail
        refine (wcount_any (w1.heap.size + 1) w1.heap.size none [] w2 b C2.out (by simp)).mono ?_
        rintro e3 w3 ⟨rfl, r3, b1, b2, b3⟩
        have D1 := Lib.hid (C1.out.only b3 (by intro h; rcases h with h | h; exact absurd h (by omega); cases h) (fun b hb => by intro h; have h5 := HROW.out b hb; have h6 := B4.out; rcases h with h | h; omega; cases h))
        have D3 := Lib.hid (C3.out.trans ((WrS.below C2.out b3).mono A1.out.size))
        have C2 := Lib.hid b1
        clear b1 b2 b3
        go_wp2_with fail
        refine (wlen_any _ _ _ _ w3 D1.out).mono ?_
        rintro e4 w4 ⟨rfl, rfl⟩
        rw [List.nil_append, LAH.out]
        go_wp2_with fail
        go_ret
        exact ⟨rfl, D3.out⟩
      · have dab : decide (b < a) = false := by simpa using hab
        have HM := Lib.hid (LM.out (by omega))
        clear hab h1 h2
        go_enter Try.func4, Try.ntmps4
        go_wp2_with fail
        refine (writes_any w).mono ?_
        rintro e1 w1 ⟨rfl, a1⟩
        have A1 := Lib.hid a1
        clear a1
        go_wp2_with fail
        obtain ⟨h1, h2⟩ := two_writers w1
        generalize hW : World.alloc (World.alloc w1 _) _ = W
        rw [hW] at h1 h2
        have B1 := Lib.hid h1
        have B2 := Lib.hid h2
        have B3 := Lib.hid (show Below w.heap.size w W from hW ▸ (A1.out.alloc A1.out.size _).alloc (by have := A1.out.size; simp; omega) _)
        have B4 := Lib.hid (show W.heap.size = w1.heap.size + 2 by rw [← hW]; simp)
        clear h1 h2 hW
        refine (wcount_any w1.heap.size w1.heap.size none [] W a B1.out (by simp)).mono ?_
        rintro e2 w2 ⟨rfl, r2, b1, b2, b3⟩
        have hrow := fun b (hb : r2 = some b) => (show W.heap.size ≤ b by
          rcases b2 with h | ⟨b', h, hb'⟩
          · rw [hb] at h; cases h
          · rw [hb] at h; injection h with h; omega)
        have C1 := Lib.hid b1
        have C2 := Lib.hid (B2.out.only b3 (by intro h; rcases h with h | h; exact absurd h (by omega); cases h) (fun b hb => by cases hb))
        have C3 := Lib.hid (B3.out.trans ((WrS.below B1.out b3).mono A1.out.size))
        have HROW := Lib.hid hrow
        clear b1 b2 b3 hrow
        go_wp2_with fail
        refine (wcount_any (w1.heap.size + 1) w1.heap.size none [] w2 b C2.out (by simp)).mono ?_
        rintro e3 w3 ⟨rfl, r3, b1, b2, b3⟩
        have D1 := Lib.hid (C1.out.only b3 (by intro h; rcases h with h | h; exact absurd h (by omega); cases h) (fun b hb => by intro h; have h5 := HROW.out b hb; have h6 := B4.out; rcases h with h | h; omega; cases h))
        have D3 := Lib.hid (C3.out.trans ((WrS.below C2.out b3).mono A1.out.size))
        have C2 := Lib.hid b1
        clear b1 b2 b3
        go_wp2_with fail
        refine (wlen_any _ _ _ _ w3 D1.out).mono ?_
        rintro e4 w4 ⟨rfl, rfl⟩
        rw [List.nil_append, LAH.out]
        go_wp2_with fail
        refine (wlen_any _ _ _ _ w3 C2.out).mono ?_
        rintro e5 w5 ⟨rfl, rfl⟩
        have hm := HM.out
        rw [LAH.out] at hm
        have dm : decide ((3 : Int) ≤ ((countB b).length : Int)) = true := by simp; omega
        clear hm
        go_wp2_with fail
        go_ret
        exact ⟨rfl, D3.out⟩
    · by_cases h3 : a < 4294967296
      · rw [if_neg h1, if_neg h2, if_pos h3] at LA
        have LAH := Lib.hid LA
        clear LA
        have d1 : decide ((a : Int) < 253) = false := by simp; omega
        have d2 : decide ((a : Int) < 65536) = false := by simp; omega
        have d3 : decide ((a : Int) < 4294967296) = true := by simp; omega
        by_cases hab : b < a
        · have dab : decide (b < a) = true := by simpa using hab
          clear hab h1 h2 h3
          go_enter Try.func4, Try.ntmps4
          go_wp2_with fail
          refine (writes_any w).mono ?_
          rintro e1 w1 ⟨rfl, a1⟩
          have A1 := Lib.hid a1
          clear a1
          go_wp2_with fail
          obtain ⟨h1, h2⟩ := two_writers w1
          generalize hW : World.alloc (World.alloc w1 _) _ = W
          rw [hW] at h1 h2
          have B1 := Lib.hid h1
          have B2 := Lib.hid h2
          have B3 := Lib.hid (show Below w.heap.size w W from hW ▸ (A1.out.alloc A1.out.size _).alloc (by have := A1.out.size; simp; omega) _)
          have B4 := Lib.hid (show W.heap.size = w1.heap.size + 2 by rw [← hW]; simp)
          clear h1 h2 hW
          refine (wcount_any w1.heap.size w1.heap.size none [] W a B1.out (by simp)).mono ?_
          rintro e2 w2 ⟨rfl, r2, b1, b2, b3⟩
          have hrow := fun b (hb : r2 = some b) => (show W.heap.size ≤ b by
            rcases b2 with h | ⟨b', h, hb'⟩
            · rw [hb] at h; cases h
            · rw [hb] at h; injection h with h; omega)
          have C1 := Lib.hid b1
          have C2 := Lib.hid (B2.out.only b3 (by intro h; rcases h with h | h; exact absurd h (by omega); cases h) (fun b hb => by cases hb))
          have C3 := Lib.hid (B3.out.trans ((WrS.below B1.out b3).mono A1.out.size))
          have HROW := Lib.hid hrow
          clear b1 b2 b3 hrow
          go_wp2_with fail
          refine (wcount_any (w1.heap.size + 1) w1.heap.size none [] w2 b C2.out (by simp)).mono ?_
          rintro e3 w3 ⟨rfl, r3, b1, b2, b3⟩
          have D1 := Lib.hid (C1.out.only b3 (by intro h; rcases h with h | h; exact absurd h (by omega); cases h) (fun b hb => by intro h; have h5 := HROW.out b hb; have h6 := B4.out; rcases h with h | h; omega; cases h))
          have D3 := Lib.hid (C3.out.trans ((WrS.below C2.out b3).mono A1.out.size))
          have C2 := Lib.hid b1
          clear b1 b2 b3
          go_wp2_with fail
          refine (wlen_any _ _ _ _ w3 D1.out).mono ?_
          rintro e4 w4 ⟨rfl, rfl⟩
          rw [List.nil_append, LAH.out]
          go_wp2_with fail
          go_ret
          exact ⟨rfl, D3.out⟩
        · have dab : decide (b < a) = false := by simpa using hab
          have HM := Lib.hid (LM.out (by omega))
          clear hab h1 h2 h3
          go_enter Try.func4, Try.ntmps4
          go_wp2_with fail
          refine (writes_any w).mono ?_
          rintro e1 w1 ⟨rfl, a1⟩
          have A1 := Lib.hid a1
          clear a1
          go_wp2_with fail
          obtain ⟨h1, h2⟩ := two_writers w1
          generalize hW : World.alloc (World.alloc w1 _) _ = W
          rw [hW] at h1 h2
          have B1 := Lib.hid h1
          have B2 := Lib.hid h2
          have B3 := Lib.hid (show Below w.heap.size w W from hW ▸ (A1.out.alloc A1.out.size _).alloc (by have := A1.out.size; simp; omega) _)
          have B4 := Lib.hid (show W.heap.size = w1.heap.size + 2 by rw [← hW]; simp)
          clear h1 h2 hW
          refine (wcount_any w1.heap.size w1.heap.size none [] W a B1.out (by simp)).mono ?_
          rintro e2 w2 ⟨rfl, r2, b1, b2, b3⟩
          have hrow := fun b (hb : r2 = some b) => (show W.heap.size ≤ b by
            rcases b2 with h | ⟨b', h, hb'⟩
            · rw [hb] at h; cases h
            · rw [hb] at h; injection h with h; omega)
          have C1 := Lib.hid b1
          have C2 := Lib.hid (B2.out.only b3 (by intro h; rcases h with h | h; exact absurd h (by omega); cases h) (fun b hb => by cases hb))
          have C3 := Lib.hid (B3.out.trans ((WrS.below B1.out b3).mono A1.out.size))
          have HROW := Lib.hid hrow
          clear b1 b2 b3 hrow
          go_wp2_with fail
          refine (wcount_any (w1.heap.size + 1) w1.heap.size none [] w2 b C2.out (by simp)).mono ?_
          rintro e3 w3 ⟨rfl, r3, b1, b2, b3⟩
          have D1 := Lib.hid (C1.out.only b3 (by intro h; rcases h with h | h; exact absurd h (by omega); cases h) (fun b hb => by intro h; have h5 := HROW.out b hb; have h6 := B4.out; rcases h with h | h; omega; cases h))
          have D3 := Lib.hid (C3.out.trans ((WrS.below C2.out b3).mono A1.out.size))
          have C2 := Lib.hid b1
          clear b1 b2 b3
          go_wp2_with fail
          refine (wlen_any _ _ _ _ w3 D1.out).mono ?_
          rintro e4 w4 ⟨rfl, rfl⟩
          rw [List.nil_append, LAH.out]
          go_wp2_with fail
          refine (wlen_any _ _ _ _ w3 C2.out).mono ?_
          rintro e5 w5 ⟨rfl, rfl⟩
          have hm := HM.out
          rw [LAH.out] at hm
          have dm : decide ((5 : Int) ≤ ((countB b).length : Int)) = true := by simp; omega
          clear hm
          go_wp2_with fail
          go_ret
          exact ⟨rfl, D3.out⟩
      · rw [if_neg h1, if_neg h2, if_neg h3] at LA
        have LAH := Lib.hid LA
        clear LA
        have d1 : decide ((a : Int) < 253) = false := by simp; omega
        have d2 : decide ((a : Int) < 65536) = false := by simp; omega
        have d3 : decide ((a : Int) < 4294967296) = false := by simp; omega
        by_cases hab : b < a
        · have dab : decide (b < a) = true := by simpa using hab
          clear hab h1 h2 h3
          go_enter Try.func4, Try.ntmps4
          go_wp2_with fail
          refine (writes_any w).mono ?_
          rintro e1 w1 ⟨rfl, a1⟩
          have A1 := Lib.hid a1
          clear a1
          go_wp2_with fail
          obtain ⟨h1, h2⟩ := two_writers w1
          generalize hW : World.alloc (World.alloc w1 _) _ = W
          rw [hW] at h1 h2
          have B1 := Lib.hid h1
          have B2 := Lib.hid h2
          have B3 := Lib.hid (show Below w.heap.size w W from hW ▸ (A1.out.alloc A1.out.size _).alloc (by have := A1.out.size; simp; omega) _)
          have B4 := Lib.hid (show W.heap.size = w1.heap.size + 2 by rw [← hW]; simp)
          clear h1 h2 hW
          refine (wcount_any w1.heap.size w1.heap.size none [] W a B1.out (by simp)).mono ?_
          rintro e2 w2 ⟨rfl, r2, b1, b2, b3⟩
          have hrow := fun b (hb : r2 = some b) => (show W.heap.size ≤ b by
            rcases b2 with h | ⟨b', h, hb'⟩
            · rw [hb] at h; cases h
            · rw [hb] at h; injection h with h; omega)
          have C1 := Lib.hid b1
          have C2 := Lib.hid (B2.out.only b3 (by intro h; rcases h with h | h; exact absurd h (by omega); cases h) (fun b hb => by cases hb))
          have C3 := Lib.hid (B3.out.trans ((WrS.below B1.out b3).mono A1.out.size))
          have HROW := Lib.hid hrow
          clear b1 b2 b3 hrow
          go_wp2_with fail
          refine (wcount_any (w1.heap.size + 1) w1.heap.size none [] w2 b C2.out (by simp)).mono ?_
          rintro e3 w3 ⟨rfl, r3, b1, b2, b3⟩
          have D1 := Lib.hid (C1.out.only b3 (by intro h; rcases h with h | h; exact absurd h (by omega); cases h) (fun b hb => by intro h; have h5 := HROW.out b hb; have h6 := B4.out; rcases h with h | h; omega; cases h))
          have D3 := Lib.hid (C3.out.trans ((WrS.below C2.out b3).mono A1.out.size))
          have C2 := Lib.hid b1
          clear b1 b2 b3
          go_wp2_with fail
          refine (wlen_any _ _ _ _ w3 D1.out).mono ?_
          rintro e4 w4 ⟨rfl, rfl⟩
          rw [List.nil_append, LAH.out]
          go_wp2_with fail
          go_ret
          exact ⟨rfl, D3.out⟩
        · have dab : decide (b < a) = false := by simpa using hab
          have HM := Lib.hid (LM.out (by omega))
          clear hab h1 h2 h3
          go_enter Try.func4, Try.ntmps4
          go_wp2_with fail
          refine (writes_any w).mono ?_
          rintro e1 w1 ⟨rfl, a1⟩
          have A1 := Lib.hid a1
          clear a1
          go_wp2_with fail
          obtain ⟨h1, h2⟩ := two_writers w1
          generalize hW : World.alloc (World.alloc w1 _) _ = W
          rw [hW] at h1 h2
          have B1 := Lib.hid h1
          have B2 := Lib.hid h2
          have B3 := Lib.hid (show Below w.heap.size w W from hW ▸ (A1.out.alloc A1.out.size _).alloc (by have := A1.out.size; simp; omega) _)
          have B4 := Lib.hid (show W.heap.size = w1.heap.size + 2 by rw [← hW]; simp)
          clear h1 h2 hW
          refine (wcount_any w1.heap.size w1.heap.size none [] W a B1.out (by simp)).mono ?_
          rintro e2 w2 ⟨rfl, r2, b1, b2, b3⟩
          have hrow := fun b (hb : r2 = some b) => (show W.heap.size ≤ b by
            rcases b2 with h | ⟨b', h, hb'⟩
            · rw [hb] at h; cases h
            · rw [hb] at h; injection h with h; omega)
          have C1 := Lib.hid b1
          have C2 := Lib.hid (B2.out.only b3 (by intro h; rcases h with h | h; exact absurd h (by omega); cases h) (fun b hb => by cases hb))
          have C3 := Lib.hid (B3.out.trans ((WrS.below B1.out b3).mono A1.out.size))
          have HROW := Lib.hid hrow
          clear b1 b2 b3 hrow
          go_wp2_with fail
          refine (wcount_any (w1.heap.size + 1) w1.heap.size none [] w2 b C2.out (by simp)).mono ?_
          rintro e3 w3 ⟨rfl, r3, b1, b2, b3⟩
          have D1 := Lib.hid (C1.out.only b3 (by intro h; rcases h with h | h; exact absurd h (by omega); cases h) (fun b hb => by intro h; have h5 := HROW.out b hb; have h6 := B4.out; rcases h with h | h; omega; cases h))
          have D3 := Lib.hid (C3.out.trans ((WrS.below C2.out b3).mono A1.out.size))
          have C2 := Lib.hid b1
          clear b1 b2 b3
          go_wp2_with fail
          refine (wlen_any _ _ _ _ w3 D1.out).mono ?_
          rintro e4 w4 ⟨rfl, rfl⟩
          rw [List.nil_append, LAH.out]
          go_wp2_with fail
          refine (wlen_any _ _ _ _ w3 C2.out).mono ?_
          rintro e5 w5 ⟨rfl, rfl⟩
          have hm := HM.out
          rw [LAH.out] at hm
          have dm : decide ((9 : Int) ≤ ((countB b).length : Int)) = true := by simp; omega
          clear hm
          go_wp2_with fail
          go_ret
          exact ⟨rfl, D3.out⟩

theorem wireSmall_lifted (os : Os) (started : os.Started) (H : Type) (enc : TypeId × Value → H) :
    ReturnsInHanded {} Try.checked os 4 .any (Rows.wireSmallSpec.pre6 enc Try.prog Try.f4 Rows.wireSmallRow.domain false) (Rows.wireSmallSpec.post enc Try.prog Try.f4 false true false false) := by
  refine law_lift (C := Try.checked) own started (by kernel_rfl) Try.func4
    (ChangeSpec.witness6 (enc := enc) (C := Try.checked) false ⟨#[], #[.int .u64 0, .int .u64 0], []⟩ 8 (by kernel_rfl) (by kernel_rfl) (by kernel_rfl) (by kernel_rfl)) rfl Try.underlying4 laidOut ?hread rfl ?hs ?walk
  case hread =>
    intro t ht
    rw [Try.params4] at ht
    simp at ht
    subst ht
    exact ⟨by kernel_rfl, of_decide_eq_true (by kernel_rfl)⟩
  case hs =>
    intro ds hl
    match ds, hl with
    | [d0, d1], _ => exact ⟨rfl, rfl, rfl⟩
  case walk =>
    intro W base args ds p hval hA
    rw [Try.params4] at hA hval
    obtain ⟨v0, vs0, d0, ds0, p0, q0, hargs, rfl, rfl, h0, r0⟩ := trodAll_cons hA
    obtain ⟨v1, vs1, d1, ds1, p1, q1, rfl, rfl, rfl, h1, r1⟩ := trodAll_cons r0
    obtain ⟨rfl, rfl, rfl⟩ := trodAll_nil r1
    obtain rfl : args = #[v0, v1] := by cases args; simp_all
    obtain ⟨a0, rfl, rfl, rfl, w0⟩ := open_int Try.underlying32 (hval 0 32 v0 rfl rfl) h0
    obtain ⟨n0, rfl⟩ := Int.eq_ofNat_of_zero_le (bounds_u64 w0).1
    have b0 := (bounds_u64 w0).2
    obtain ⟨a1, rfl, rfl, rfl, w1⟩ := open_int Try.underlying32 (hval 1 32 v1 rfl rfl) h1
    obtain ⟨n1, rfl⟩ := Int.eq_ofNat_of_zero_le (bounds_u64 w1).1
    have b1 := (bounds_u64 w1).2
    exact wireSmall_any n0 n1 W

theorem wireSmall_over : Rows.wireSmallRow.holds Try.pinned (OpenSpec.ofChange Rows.wireSmallSpec) :=
  OpenClaim.holds_of_wide 4 Try.f4 rfl rfl rfl rfl rfl rfl rfl ⟨rfl, rfl, rfl, rfl, rfl⟩ rfl rfl rfl rfl rfl (by kernel_rfl) Try.func4 (by kernel_rfl)
    (of_decide_eq_true (by kernel_rfl)) (by unfold Func.isWrapper; first | (rw [if_pos (by decide +kernel)]; kernel_rfl) | (rw [if_neg (by decide +kernel)]; exact ⟨rfl, rfl⟩))
    (fun os started H enc _ => wireSmall_lifted os started H enc)

/-- the statement -/
theorem WireSmall_holds : Rows.WireSmallSaid := wireSmall_over
#print axioms WireSmall_holds
end Go.Proofs.Ytmcgfcchmpoalaa
