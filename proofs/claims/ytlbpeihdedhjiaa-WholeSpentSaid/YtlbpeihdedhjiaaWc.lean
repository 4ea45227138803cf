import Derived.Test.YtlbpeihdedhjiaaWb
namespace Go.Proofs.Ytlbpeihdedhjiaa
open Go.RowKit

/-- one number is put -/
theorem put1 (g B : Nat) (r : Option Nat) (l : List UInt8) (w w1 : World) (size : Int) (n b : Nat) (u : Value) (hu : u = u64v n) (t : TypeId) (hw1 : w1 = w.alloc (.cells #[u] t)) (hbw : b = w.heap.size)
    (h : IsWr w B g r l) (hl : l.length ≤ 1099511627000) :
    Calls Try.prog 55 #[.pointer (some ⟨g, 0, none⟩), .int .i64 size, .slice (some ⟨b, 0, none⟩) 1 1] w1 fun e w' => e = .returned (.tuple #[]) ∧
      ∃ r', IsWr w' B g r' (l ++ le size n) ∧ WrR w r r' ∧ Only (WrS g r) w w' := by
  subst hu hw1 hbw
  have hS : ¬ WrS g r w.heap.size := by
    rintro (e | e)
    · have := h.lt; omega
    · have := (h.row e).2.1; omega
  refine (put_any g B r l _ _ 1 1 size [n] _ (by omega) (h.only ((Only.refl (fun _ => False) w).alloc _) (fun h => h) (fun _ _ h => h)) (Sl.one_new w t (u64v n)) (fun b hb hk => hS (hb ▸ hk)) (by omega)).mono ?_
  rintro e w' ⟨rfl, r', h1, h2, h3⟩
  refine ⟨rfl, r', by simpa using h1, ?_, ?_⟩
  · rcases h2 with e | ⟨b, e, hb⟩
    · exact .inl e
    · exact .inr ⟨b, e, by simp at hb; omega⟩
  · exact ((Only.refl (WrS g r) w).alloc _).trans h3 (fun _ _ h => h)

def countB (n : Nat) : List UInt8 := if n < 253 then les 1 n else if n < 65536 then 253 :: les 2 n else if n < 4294967296 then 254 :: les 4 n else 255 :: les 8 n
theorem countB_len (n : Nat) : (countB n).length ≤ 9 := by unfold countB; split <;> (try split) <;> (try split) <;> simp [les]

set_option maxRecDepth 20000 in
set_option maxHeartbeats 400000 in
theorem wcount_any (g B : Nat) (r : Option Nat) (l : List UInt8) (w : World) (n : Nat) (h : IsWr w B g r l) (hl : l.length ≤ 1099511626000) :
    Calls Try.prog 53 #[.pointer (some ⟨g, 0, none⟩), .int .u64 (n : Int)] w fun e w' => e = .returned (.tuple #[]) ∧
      ∃ r', IsWr w' B g r' (l ++ countB n) ∧ WrR w r r' ∧ Only (WrS g r) w w' := by
  have H := Lib.hid h
  have HL := Lib.hid hl
  clear hl
  by_cases h1 : n < 253
  · have hf : countB n = le 1 n := by rw [countB, if_pos h1]; rfl
    have HF := Lib.hid hf
    have d1 : decide ((n : Int) < 253) = true := by simp; omega
    clear hf h h1
    go_enter Try.func53, Try.ntmps53
    go_wp2_with fail
    have hl2 : l.length ≤ 1099511627000 := by have := HL.out; omega
    refine (put1 g B r l w _ 1 n _ _ rfl _ rfl rfl H.out hl2).mono ?_
    rintro e w' ⟨rfl, hq⟩
    have HQ := Lib.hid hq
    clear hq
    go_wp2_with fail
    go_end0
    exact ⟨rfl, by rw [HF.out]; exact HQ.out⟩
  · by_cases h2 : n < 65536
    · have hf : countB n = le 1 253 ++ le 2 n := by unfold countB; rw [if_neg h1, if_pos h2]; rfl
      have HF := Lib.hid hf
      have d1 : decide ((n : Int) < 253) = false := by simp; omega
      have d2 : decide ((n : Int) < 65536) = true := by simp; omega
      clear hf h h1 h2
      go_enter Try.func53, Try.ntmps53
      go_wp2_with fail
      have hl2 : l.length ≤ 1099511627000 := by have := HL.out; omega
      refine (put1 g B r l w _ 1 253 _ _ rfl _ rfl rfl H.out hl2).mono ?_
      rintro e w1 ⟨rfl, r1, a1, a2, a3⟩
      have A1 := Lib.hid a1
      have A2 := Lib.hid a2
      have A3 := Lib.hid a3
      clear a1 a2 a3 hl2
      go_wp2_with fail
      have hl3 : (l ++ le 1 253).length ≤ 1099511627000 := by rw [List.length_append]; have := HL.out; have := le_len 1 253; omega
      refine (put1 g B r1 _ w1 _ 2 n _ _ rfl _ rfl rfl A1.out hl3).mono ?_
      rintro e w2 ⟨rfl, r2, a1, a2, a3⟩
      have B1 := Lib.hid a1
      have B2 := Lib.hid a2
      have B3 := Lib.hid a3
      clear a1 a2 a3 hl3
      go_wp2_with fail
      go_end0
      exact ⟨rfl, r2, by rw [HF.out, ← List.append_assoc]; exact B1.out, A2.out.trans B2.out A3.out.size, WrS.trans A3.out A2.out B3.out⟩
    · by_cases h3 : n < 4294967296
      · have hf : countB n = le 1 254 ++ le 4 n := by unfold countB; rw [if_neg h1, if_neg h2, if_pos h3]; rfl
        have HF := Lib.hid hf
        have d1 : decide ((n : Int) < 253) = false := by simp; omega
        have d2 : decide ((n : Int) < 65536) = false := by simp; omega
        have d3 : decide ((n : Int) < 4294967296) = true := by simp; omega
        clear hf h h1 h2 h3
        go_enter Try.func53, Try.ntmps53
        go_wp2_with fail
        have hl2 : l.length ≤ 1099511627000 := by have := HL.out; omega
        refine (put1 g B r l w _ 1 254 _ _ rfl _ rfl rfl H.out hl2).mono ?_
        rintro e w1 ⟨rfl, r1, a1, a2, a3⟩
        have A1 := Lib.hid a1
        have A2 := Lib.hid a2
        have A3 := Lib.hid a3
        clear a1 a2 a3 hl2
        go_wp2_with fail
        have hl3 : (l ++ le 1 254).length ≤ 1099511627000 := by rw [List.length_append]; have := HL.out; have := le_len 1 254; omega
        refine (put1 g B r1 _ w1 _ 4 n _ _ rfl _ rfl rfl A1.out hl3).mono ?_
        rintro e w2 ⟨rfl, r2, a1, a2, a3⟩
        have B1 := Lib.hid a1
        have B2 := Lib.hid a2
        have B3 := Lib.hid a3
        clear a1 a2 a3 hl3
        go_wp2_with fail
        go_end0
        exact ⟨rfl, r2, by rw [HF.out, ← List.append_assoc]; exact B1.out, A2.out.trans B2.out A3.out.size, WrS.trans A3.out A2.out B3.out⟩
      · have hf : countB n = le 1 255 ++ le 8 n := by unfold countB; rw [if_neg h1, if_neg h2, if_neg h3]; rfl
        have HF := Lib.hid hf
        have d1 : decide ((n : Int) < 253) = false := by simp; omega
        have d2 : decide ((n : Int) < 65536) = false := by simp; omega
        have d3 : decide ((n : Int) < 4294967296) = false := by simp; omega
        clear hf h h1 h2 h3
        go_enter Try.func53, Try.ntmps53
        go_wp2_with fail
        have hl2 : l.length ≤ 1099511627000 := by have := HL.out; omega
        refine (put1 g B r l w _ 1 255 _ _ rfl _ rfl rfl H.out hl2).mono ?_
        rintro e w1 ⟨rfl, r1, a1, a2, a3⟩
        have A1 := Lib.hid a1
        have A2 := Lib.hid a2
        have A3 := Lib.hid a3
        clear a1 a2 a3 hl2
        go_wp2_with fail
        have hl3 : (l ++ le 1 255).length ≤ 1099511627000 := by rw [List.length_append]; have := HL.out; have := le_len 1 255; omega
        refine (put1 g B r1 _ w1 _ 8 n _ _ rfl _ rfl rfl A1.out hl3).mono ?_
        rintro e w2 ⟨rfl, r2, a1, a2, a3⟩
        have B1 := Lib.hid a1
        have B2 := Lib.hid a2
        have B3 := Lib.hid a3
        clear a1 a2 a3 hl3
        go_wp2_with fail
        go_end0
        exact ⟨rfl, r2, by rw [HF.out, ← List.append_assoc]; exact B1.out, A2.out.trans B2.out A3.out.size, WrS.trans A3.out A2.out B3.out⟩
end Go.Proofs.Ytlbpeihdedhjiaa
