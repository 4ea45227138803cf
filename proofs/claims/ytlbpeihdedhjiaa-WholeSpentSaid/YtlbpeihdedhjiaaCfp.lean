/- CoinsFees, plainly. -/
import Derived.Test.YtlbpeihdedhjiaaKpn
namespace Go.Proofs.Ytlbpeihdedhjiaa
open Go.RowKit
def fT1 (made : Int) : TxT := mkT made [107] [97]
def fT2 (first : Int) : TxT := mkT first [107] [98]
def fT3 (made kept : Int) : TxT := spT (txX (fT1 made)) [107] kept zid
def fL1 (made : Int) : CoL := [((txX (fT1 made), 0), (made, sha [107], 1))]
def fL3 (made kept : Int) : CoL := [((txX (fT3 made kept), 0), (kept, zid, 2))]
theorem fee1 (made : Int) (h0 : 0 ≤ made) (h1 : made ≤ 1125899906842624) : connM 1 made [fT1 made] [] = (fL1 made, [], 0) := by
  have hl := lay_fresh [] made 1 [mkIn [97]] (sha [107]) rfl
  have hc : conM 1 [] [] [] 0 = ([], [], 0, 0) := rfl
  have hw : wrap64 (made - made) = 0 := by rw [Int.sub_self]; exact IntWalk.wrap64_in _ (by omega)
  rw [fT1, mkT, conn_ok hc rfl (csum_one made (sha [107]) h0 h1) (by simp only [hw]; decide)]
  simp only [hl.1, hl.2, List.nil_append]
  rfl
theorem feec (made kept : Int) (h0 : 0 ≤ made) (h1 : made ≤ 1125899906842624) (k0 : 0 ≤ kept) (k1 : kept ≤ made) : conM 2 [fT3 made kept] (fL1 made) [] 0 = (fL3 made kept, fL1 made, made - kept, 0) := by
  have hs : spendM [((txX (fT1 made), ((0 : Nat) : Int), ()), [107], ())] (fL1 made) [] 0 = ([], fL1 made, made, 0) := by
    rw [spendM_some (c := (made, sha [107], 1)) (by rw [fL1, get_one]) (by simp), fL1, del_one, spendM]
    have w1 : wrap64 (0 + made) = made := by rw [Int.zero_add]; exact IntWalk.wrap64_in _ (by omega)
    exact congrArg (fun z => (([] : CoL), fL1 made, z, (0 : Int))) w1
  have hl3 := lay_fresh [] kept 2 [((txX (fT1 made), ((0 : Nat) : Int), ()), [107], ())] zid rfl
  rw [show fT3 made kept = ([((txX (fT1 made), ((0 : Nat) : Int), ()), [107], ())], [(kept, zid, ())], ()) from rfl]
  rw [conM_ok hs rfl (csum_one kept zid k0 (by omega)) (by simp only [Bool.not_true, Bool.false_or, decide_eq_false_iff_not]; omega) hl3.1 hl3.2, conM]
  have w2 : wrap64 (0 + wrap64 (made - kept)) = made - kept := by rw [IntWalk.wrap64_in (made - kept) (by omega), Int.zero_add]; exact IntWalk.wrap64_in _ (by omega)
  exact congrArg (fun z => (fL3 made kept, fL1 made, z, (0 : Int))) w2
theorem fee_bad (made kept first : Int) (h0 : 0 ≤ made) (h1 : made ≤ 1125899906842624) (k0 : 0 ≤ kept) (k1 : kept ≤ made) (f0 : 0 ≤ first) (f1 : first ≤ 1125899906842624) (hb : ¬ first - 7 ≤ made - kept) :
    connM 2 7 [fT2 first, fT3 made kept] (fL1 made) = (fL3 made kept, fL1 made, 121) := by
  rw [show fT2 first = ([mkIn [98]], [(first, sha [107], ())], ()) from rfl]
  have hw : wrap64 (first - 7) = first - 7 := IntWalk.wrap64_in _ (by omega)
  exact conn_amount (feec made kept h0 h1 k0 k1) rfl (csum_one first (sha [107]) f0 f1) (by simp only [hw, Bool.not_true, Bool.false_or, decide_eq_true_eq]; omega)
theorem fee_good (made kept first : Int) (h0 : 0 ≤ made) (h1 : made ≤ 1125899906842624) (k0 : 0 ≤ kept) (k1 : kept ≤ made) (f0 : 0 ≤ first) (f1 : first ≤ 1125899906842624) (hg : first - 7 ≤ made - kept) (hne : (txX (fT2 first) == txX (fT3 made kept)) = false) :
    connM 2 7 [fT2 first, fT3 made kept] (fL1 made) = (fL3 made kept ++ [((txX (fT2 first), 0), (first, sha [107], 2))], fL1 made, 0) := by
  have h23 : (txX (fT3 made kept), 0) ≠ (txX (fT2 first), 0) := by intro e; injection e with e1 _; exact ne_of_beq_f hne e1.symm
  have hl2 := lay_fresh (fL3 made kept) first 2 [mkIn [98]] (sha [107]) (by
    show getC _ (txX (fT2 first), 0) = none
    rw [fL3, get_skip _ _ _ _ h23]; rfl)
  have hw : wrap64 (first - 7) = first - 7 := IntWalk.wrap64_in _ (by omega)
  rw [show fT2 first = ([mkIn [98]], [(first, sha [107], ())], ()) from rfl, conn_ok (feec made kept h0 h1 k0 k1) rfl (csum_one first (sha [107]) f0 f1) (by simp only [hw, Bool.not_true, Bool.false_or, decide_eq_false_iff_not]; omega)]
  simp only [hl2.1, hl2.2]
theorem ffit1 (a : Int) : TxFit (fT1 a) := ⟨by simp [fT1, mkT], by simp [fT1, mkT], by intro i hi; simp only [fT1, mkT, List.mem_singleton] at hi; subst hi; simp [mkIn]⟩
theorem ffit2 (a : Int) : TxFit (fT2 a) := ⟨by simp [fT2, mkT], by simp [fT2, mkT], by intro i hi; simp only [fT2, mkT, List.mem_singleton] at hi; subst hi; simp [mkIn]⟩
theorem ffit3 (a b : Int) : TxFit (fT3 a b) := ⟨by simp [fT3, spT], by simp [fT3, spT], by intro i hi; simp only [fT3, spT, List.mem_singleton] at hi; subst hi; simp⟩
end Go.Proofs.Ytlbpeihdedhjiaa
