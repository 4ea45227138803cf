import Derived.Test.YtpcombaecbjmfaaWf
import Derived.Deep.DeepCutAuto
import Derived.Deep.CutBlock
namespace Go.Proofs.Ytpcombaecbjmfaa
open Go.RowKit

/-- a count's head: the number, the least that its form may have, what is left -/
def cHead (l : List UInt8) (e : Int) : Nat × Nat × List UInt8 × Int :=
  if numOf (rawO l 1) = 253 then (numOf (rawO (rawL l 1) 2), 253, rawL (rawL l 1) 2, rawE (rawL l 1) (rawE l e 1) 2)
  else if numOf (rawO l 1) = 254 then (numOf (rawO (rawL l 1) 4), 65536, rawL (rawL l 1) 4, rawE (rawL l 1) (rawE l e 1) 4)
  else if numOf (rawO l 1) = 255 then (numOf (rawO (rawL l 1) 8), 4294967296, rawL (rawL l 1) 8, rawE (rawL l 1) (rawE l e 1) 8)
  else (numOf (rawO l 1), 0, rawL l 1, rawE l e 1)
def cEnd (most : Nat) : Nat × Nat × List UInt8 × Int → Nat × List UInt8 × Int
  | (n, least, l, e) => if e ≠ 0 then (0, l, e) else if n < least then (0, [], errOf e 70) else if most < n then (0, [], errOf e 2) else (n, l, e)
def rcountS (l : List UInt8) (e : Int) (most : Nat) : Nat × List UInt8 × Int := cEnd most (cHead l e)

set_option maxRecDepth 20000 in
set_option maxHeartbeats 400000 in
theorem rcount_any (w : World) (lo hi g : Nat) (l : List UInt8) (e : Int) (most : Nat) (h : IsRd w lo hi g l e) :
    Calls Try.prog 49 #[.pointer (some ⟨g, 0, none⟩), .int .u64 (most : Int)] w fun e' w' => e' = .returned (.int .u64 ((rcountS l e most).1 : Nat)) ∧ IsRd w' lo hi g (rcountS l e most).2.1 (rcountS l e most).2.2 ∧ Only (fun b => b = g) w w' := by
  have H0 := Lib.hid h
  clear h
  go_enter Try.func49, Try.ntmps49
  go_wp2_with fail
  refine (rnum_any w lo hi g l e 1 H0.out).mono ?_
  rintro e1 w1 ⟨rfl, a2, a3⟩
  have A2 := Lib.hid a2
  have A3 := Lib.hid a3
  generalize hn1 : numOf (rawO l 1) = n1
  have HN1 := Lib.hid hn1
  clear a2 a3 hn1
  go_upto_block 0 with fail
  go_cut [5, 6] (fun v5 v6 wc => ∃ (N Lst : Nat) (l2 : List UInt8) (e2 : Int), v5 = .int .u64 (N : Int) ∧ v6 = .int .u64 (Lst : Int) ∧ Hid (cHead l e = (N, Lst, l2, e2)) ∧ IsRd wc lo hi g l2 e2 ∧ Hid (Only (fun b => b = g) w wc))
  case first =>
    by_cases c1 : n1 = 253
    · subst c1
      go_wp2_with fail
      refine (rnum_any w1 lo hi g (rawL l 1) (rawE l e 1) 2 A2.out).mono ?_
      rintro e2 w2 ⟨rfl, b2, b3⟩
      have B2 := Lib.hid b2
      have B3 := Lib.hid b3
      clear b2 b3
      go_wp2_with fail
      go_meet
      exact ⟨_, 253, _, _, rfl, rfl, by rw [Hid, cHead, HN1.out]; rfl, B2.out, A3.out.trans B3.out (fun _ _ h => h)⟩
    · by_cases c2 : n1 = 254
      · subst c2
        go_wp2_with fail
        refine (rnum_any w1 lo hi g (rawL l 1) (rawE l e 1) 4 A2.out).mono ?_
        rintro e2 w2 ⟨rfl, b2, b3⟩
        have B2 := Lib.hid b2
        have B3 := Lib.hid b3
        clear b2 b3
        go_wp2_with fail
        go_meet
        exact ⟨_, 65536, _, _, rfl, rfl, by rw [Hid, cHead, HN1.out]; rfl, B2.out, A3.out.trans B3.out (fun _ _ h => h)⟩
      · by_cases c3 : n1 = 255
        · subst c3
          go_wp2_with fail
          refine (rnum_any w1 lo hi g (rawL l 1) (rawE l e 1) 8 A2.out).mono ?_
          rintro e2 w2 ⟨rfl, b2, b3⟩
          have B2 := Lib.hid b2
          have B3 := Lib.hid b3
          clear b2 b3
          go_wp2_with fail
          go_meet
          exact ⟨_, 4294967296, _, _, rfl, rfl, by rw [Hid, cHead, HN1.out]; rfl, B2.out, A3.out.trans B3.out (fun _ _ h => h)⟩
        · have d1 : ((n1 : Int) == 253) = false := by simp; omega
          have d2 : ((n1 : Int) == 254) = false := by simp; omega
          have d3 : ((n1 : Int) == 255) = false := by simp; omega
          have C := Lib.hid (And.intro c1 (And.intro c2 c3))
          clear c1 c2 c3
          go_wp2_with fail
          go_meet
          exact ⟨n1, 0, _, _, rfl, rfl, by rw [Hid, cHead, HN1.out, if_neg C.out.1, if_neg C.out.2.1, if_neg C.out.2.2], A2.out, A3.out⟩
  case rest =>
    obtain ⟨N, Lst, l2, e2, rfl, rfl, HH, hrd, HO⟩ := hcut
    have HR := Lib.hid hrd
    obtain ⟨A, m, c, hblk, h1, h2, h3, h4, h5, h6, h7⟩ := hrd
    have hc1 := hblk.cell 1
    simp only [List.getElem?_toArray, List.getElem?_cons_zero, List.getElem?_cons_succ] at hc1
    clear h1 h2 h3 h4 h5 h6 h7 hblk
    by_cases k1 : e2 = 0
    · subst k1
      by_cases k2 : N < Lst
      · have q : rcountS l e most = (0, [], errOf 0 70) := by rw [rcountS, HH.out, cEnd, if_neg (by simp), if_pos k2]
        have d2 : decide (N < Lst) = true := by simpa using k2
        have Q := Lib.hid q
        clear q k2
        go_wp2_with fail
        refine (fail_any wc lo hi g l2 0 70 HR.out).mono ?_
        rintro e3 w3 ⟨rfl, b2, b3⟩
        have B2 := Lib.hid b2
        have B3 := Lib.hid b3
        clear b2 b3
        go_wp2
        go_ret
        exact ⟨by rw [Q.out]; rfl, by rw [Q.out]; exact B2.out, HO.out.trans B3.out (fun _ _ h => h)⟩
      · by_cases k3 : most < N
        · have q : rcountS l e most = (0, [], errOf 0 2) := by rw [rcountS, HH.out, cEnd, if_neg (by simp), if_neg k2, if_pos k3]
          have d2 : decide (N < Lst) = false := by simpa using k2
          have d3 : decide (most < N) = true := by simpa using k3
          have Q := Lib.hid q
          clear q k2 k3
          go_wp2_with fail
          refine (fail_any wc lo hi g l2 0 2 HR.out).mono ?_
          rintro e3 w3 ⟨rfl, b2, b3⟩
          have B2 := Lib.hid b2
          have B3 := Lib.hid b3
          clear b2 b3
          go_wp2
          go_ret
          exact ⟨by rw [Q.out]; rfl, by rw [Q.out]; exact B2.out, HO.out.trans B3.out (fun _ _ h => h)⟩
        · have q : rcountS l e most = (N, l2, 0) := by rw [rcountS, HH.out, cEnd, if_neg (by simp), if_neg k2, if_neg k3]
          have d2 : decide (N < Lst) = false := by simpa using k2
          have d3 : decide (most < N) = false := by simpa using k3
          have Q := Lib.hid q
          clear q k2 k3
          go_wp2
          go_ret
          exact ⟨by rw [Q.out]; rfl, by rw [Q.out]; exact HR.out, HO.out⟩
    · have q : rcountS l e most = (0, l2, e2) := by rw [rcountS, HH.out, cEnd, if_pos k1]
      have d1 : (e2 != 0) = true := by simpa using k1
      have Q := Lib.hid q
      clear q k1
      go_wp2
      go_ret
      exact ⟨by rw [Q.out]; rfl, by rw [Q.out]; exact HR.out, HO.out⟩
end Go.Proofs.Ytpcombaecbjmfaa
