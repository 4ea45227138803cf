/- What law13.keeps finds, plainly. -/
import Derived.Test.YtlbpeihdedhjiaaKpm
namespace Go.Proofs.Ytlbpeihdedhjiaa
open Go.RowKit
theorem ne_of_beq_f {a b : List UInt8} (h : (a == b) = false) : a ≠ b := by simpa using h
theorem csum_one (a : Int) (k : List UInt8) (h0 : 0 ≤ a) (h1 : a ≤ 1125899906842624) : csum 0 [(a, k, ())] = (a, true) := by
  rw [csum, if_neg (by omega), if_neg (by omega), csum]
  congr 1
  omega
theorem lay_fresh (L : CoL) (amt h : Int) (ins : List InT) (lock : List UInt8) (hn : getC L (txX (ins, [(amt, lock, ())], ()), 0) = none) :
    layN L (ins, [(amt, lock, ())], ()) = 0 ∧ layL L (ins, [(amt, lock, ())], ()) h = L ++ [((txX (ins, [(amt, lock, ())], ()), 0), (amt, lock, h))] := by
  have hE : layE L (txX (ins, [(amt, lock, ())], ())) 1 = false := by
    rw [layE, List.any_eq_false]
    intro i hi
    have : i = 0 := by have := List.mem_range.1 hi; omega
    subst this
    rw [hn]
    simp
  refine ⟨?_, ?_⟩
  · rw [layN, if_neg (by rw [show List.length [(amt, lock, ())] = 1 from rfl, hE]; decide)]
  · rw [layL, if_neg (by rw [show List.length [(amt, lock, ())] = 1 from rfl, hE]; decide)]
    rfl
theorem get_one (p : PtT) (c : CoT) : getC [(p, c)] p = some c := by simp [getC]
theorem get_skip (p q : PtT) (c : CoT) (L : CoL) (h : q ≠ p) : getC ((q, c) :: L) p = getC L p := by simp [getC, h]
theorem del_one (p : PtT) (c : CoT) : delC [(p, c)] p = [] := by simp [delC]
theorem keep1 : connM 1 50 [kT1] [] = (kL1, [], 0) := by
  have hl := lay_fresh [] 50 1 [mkIn [97]] (sha [107]) rfl
  have hc : conM 1 [] [] [] 0 = ([], [], 0, 0) := rfl
  rw [kT1, mkT, conn_ok hc rfl (csum_one 50 (sha [107]) (by decide) (by decide)) (by kernel_rfl)]
  simp only [hl.1, hl.2, List.nil_append]
  rfl
def kU2 : CoL := [((txX kT1, 0), (50, sha [107], 1))]
theorem keep2 : connM 2 50 [kT2, kT3] kL1 = (kL2, kU2, 0) := by
  have h23 : (txX kT3, 0) ≠ (txX kT2, 0) := by intro e; injection e with e1 _; exact ne_of_beq_f kid23 e1.symm
  have hs : spendM [((txX kT1, ((0 : Nat) : Int), ()), [107], ())] kL1 [] 0 = ([], kU2, 50, 0) := by
    rw [spendM_some (c := (50, sha [107], 1)) (by rw [kL1, get_one]) (by simp), kL1, del_one, spendM]
    have w1 : wrap64 (0 + 50) = 50 := IntWalk.wrap64_in _ (by omega)
    exact congrArg (fun z => (([] : CoL), kU2, z, (0 : Int))) w1
  have hl3 := lay_fresh [] 48 2 [((txX kT1, ((0 : Nat) : Int), ()), [107], ())] zid rfl
  have hc : conM 2 [kT3] kL1 [] 0 = ([((txX kT3, 0), (48, zid, 2))], kU2, 2, 0) := by
    rw [show kT3 = ([((txX kT1, ((0 : Nat) : Int), ()), [107], ())], [(48, zid, ())], ()) from rfl]
    rw [conM_ok hs rfl (csum_one 48 zid (by decide) (by decide)) (by kernel_rfl) hl3.1 hl3.2, conM]
    have w2 : wrap64 (0 + wrap64 (50 - 48)) = 2 := by rw [IntWalk.wrap64_in (50 - 48) (by omega)]; exact IntWalk.wrap64_in _ (by omega)
    exact congrArg (fun z => (([((txX kT3, 0), (48, zid, 2))] : CoL), kU2, z, (0 : Int))) w2
  have hl2 := lay_fresh [((txX kT3, 0), (48, zid, 2))] 52 2 [mkIn [98]] (sha [107]) (by
    show getC _ (txX kT2, 0) = none
    rw [get_skip _ _ _ _ h23]; rfl)
  rw [show kT2 = ([mkIn [98]], [(52, sha [107], ())], ()) from rfl, conn_ok hc rfl (csum_one 52 (sha [107]) (by decide) (by decide)) (by kernel_rfl)]
  simp only [hl2.1, hl2.2]
  rfl
theorem keep3 : getC kL2 (txX kT1, 0) = none := by
  have h13 : (txX kT3, 0) ≠ (txX kT1, 0) := by intro e; injection e with e1 _; exact ne_of_beq_f kid13 e1.symm
  have h12 : (txX kT2, 0) ≠ (txX kT1, 0) := by intro e; injection e with e1 _; exact ne_of_beq_f kid12 e1.symm
  rw [kL2, get_skip _ _ _ _ h13, get_skip _ _ _ _ h12]
  rfl
theorem keep4 : discM [kT2, kT3] kU2 kL2 = kL1 := by
  have h23 : (txX kT3, 0) ≠ (txX kT2, 0) := by intro e; injection e with e1 _; exact ne_of_beq_f kid23 e1.symm
  have e1 : takC (txX kT2) 1 kL2 = [((txX kT3, 0), (48, zid, 2))] := by
    simp [takC, delC, kL2, h23]
  have e2 : takC (txX kT3) 1 [((txX kT3, 0), (48, zid, 2))] = [] := by
    simp [takC, delC]
  rw [discM, show kT2.2.1.length = 1 from rfl, e1]
  show discR kU2 [kT3] 1 _ = _
  rw [discR, show kT3.2.1.length = 1 from rfl, e2]
  rfl
theorem keep5 : getC kL1 (txX kT1, 0) = some (50, sha [107], 1) := get_one _ _
theorem kfit1 : TxFit kT1 := ⟨by simp [kT1, mkT], by simp [kT1, mkT], by intro i hi; simp only [kT1, mkT, List.mem_singleton] at hi; subst hi; simp [mkIn]⟩
theorem kfit2 : TxFit kT2 := ⟨by simp [kT2, mkT], by simp [kT2, mkT], by intro i hi; simp only [kT2, mkT, List.mem_singleton] at hi; subst hi; simp [mkIn]⟩
theorem kfit3 : TxFit kT3 := ⟨by simp [kT3, spT], by simp [kT3, spT], by intro i hi; simp only [kT3, spT, List.mem_singleton] at hi; subst hi; simp⟩
end Go.Proofs.Ytlbpeihdedhjiaa
