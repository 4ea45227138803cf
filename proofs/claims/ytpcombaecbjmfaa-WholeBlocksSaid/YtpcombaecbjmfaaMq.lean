/- Plainly: the levels over some sums. No walk here. -/
import Derived.Test.YtpcombaecbjmfaaMr
namespace Go.Proofs.Ytpcombaecbjmfaa
open Go.RowKit
def lv (ids : List Id32) : Nat → List Id32
  | 0 => ids
  | k + 1 => mup (lv ids k)
def cntN (n : Nat) : Nat → Nat
  | 0 => n
  | k + 1 => (cntN n k + 1) / 2
def twk (ids : List Id32) : Nat → Bool
  | 0 => false
  | k + 1 => twk ids k || mtw (lv ids k)
theorem lv_len (ids : List Id32) (k : Nat) : (lv ids k).length = cntN ids.length k := by
  induction k with
  | zero => rfl
  | succ k ih => rw [lv, mup_length _ _ (Nat.le_refl _), cntN, ih]
theorem cntN_le (n k : Nat) : cntN n k ≤ n := by
  induction k with
  | zero => exact Nat.le_refl _
  | succ k ih => rw [cntN]; omega
theorem cntN_pos (n k : Nat) (h : 0 < n) : 0 < cntN n k := by
  induction k with
  | zero => exact h
  | succ k ih => rw [cntN]; omega
theorem mup_getD : ∀ (i : Nat) (row : List Id32), 2 * i < row.length → (mup row).getD i [] = if 2 * i + 1 < row.length then sha2 (row.getD (2 * i) [] ++ row.getD (2 * i + 1) []) else sha2 (row.getD (2 * i) [] ++ row.getD (2 * i) []) := by
  intro i
  induction i with
  | zero =>
    intro row h
    match row, h with
    | [a], _ => rfl
    | a :: b :: r, _ => simp [mup]
  | succ i ih =>
    intro row h
    match row, h with
    | [a], h => simp at h
    | a :: b :: r, h =>
      have h2 : 2 * i < r.length := by simp at h; omega
      have := ih r h2
      have e1 : 2 * (i + 1) = 2 * i + 1 + 1 := by omega
      have e2 : 2 * (i + 1) + 1 = 2 * i + 1 + 1 + 1 := by omega
      rw [mup, e1]
      simp only [List.getD_cons_succ, List.length_cons]
      rw [this]
      by_cases hlt : 2 * i + 1 < r.length
      · rw [if_pos hlt, if_pos (by omega)]
      · rw [if_neg hlt, if_neg (by omega)]
theorem mup_32 : ∀ (n : Nat) (row : List Id32), row.length ≤ n → ∀ x ∈ mup row, x.length = 32 := by
  intro n
  induction n with
  | zero => intro row h x hx; match row, h with | [], _ => cases hx
  | succ n ih =>
    intro row h x hx
    match row, h with
    | [], _ => cases hx
    | [a], _ => simp only [mup, List.mem_singleton] at hx; rw [hx]; exact sha_len _
    | a :: b :: r, h =>
      simp only [mup, List.mem_cons] at hx
      rcases hx with rfl | hx
      · exact sha_len _
      · exact ih r (by simp at h; omega) x hx
theorem lv_32 (ids : List Id32) (h : ∀ x ∈ ids, x.length = 32) (k : Nat) : ∀ x ∈ lv ids k, x.length = 32 := by
  cases k with
  | zero => exact h
  | succ k => exact mup_32 _ _ (Nat.le_refl _)
theorem getD_mem32 {l : List Id32} (h : ∀ x ∈ l, x.length = 32) {i : Nat} (hi : i < l.length) : (l.getD i []).length = 32 := by
  unfold List.getD
  rw [List.getElem?_eq_getElem hi]
  exact h _ (List.getElem_mem _)
theorem getD_getElem {l : List Id32} {i : Nat} (hi : i < l.length) : l.getD i [] = l[i] := by
  unfold List.getD
  rw [List.getElem?_eq_getElem hi]
  rfl
theorem root_lv (ids : List Id32) (k : Nat) (h : ∀ j, j < k → 1 < cntN ids.length j) : mrootF ids false = mrootF (lv ids k) (twk ids k) := by
  induction k with
  | zero => rfl
  | succ k ih =>
    rw [ih (fun j hj => h j (by omega)), mrootF_step _ _ (by rw [lv_len]; exact h k (by omega))]
    rfl
theorem root_top (ids : List Id32) (k : Nat) (h : ∀ j, j < k → 1 < cntN ids.length j) (hk : cntN ids.length k ≤ 1) (h0 : 0 < ids.length) : mroot ids = ((lv ids k).getD 0 [], twk ids k) := by
  have h1 : mroot ids = mrootF ids false := rfl
  have hp : 0 < (lv ids k).length := by rw [lv_len]; exact cntN_pos _ _ h0
  rw [h1, root_lv ids k h, mrootF_one _ _ (by rw [lv_len]; exact hk)]
  congr 1
  unfold List.getD
  rw [List.getElem?_eq_getElem hp]
  rfl
theorem mtw_step (row : List Id32) (j : Nat) (h : 2 * j + 1 < row.length) : mtw (row.take (2 * (j + 1))) = (mtw (row.take (2 * j)) || row.getD (2 * j) [] == row.getD (2 * j + 1) []) := by
  rw [(mup_two row j h).2, getD_getElem (by omega), getD_getElem h]
theorem mtw_all (row : List Id32) (j : Nat) (h : ¬ 2 * j + 1 < row.length) (hj : 2 * j ≤ row.length + 1) : mtw (row.take (2 * j)) = mtw row := by
  rcases Nat.lt_or_ge (2 * j) row.length with h1 | h1
  · exact (mup_last row j (by omega)).2.symm
  · rw [List.take_of_length_le h1]
end Go.Proofs.Ytpcombaecbjmfaa
