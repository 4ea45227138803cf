/- Plainly: the way of a sum to its root leads there. What one owns, cut and overwritten. -/
import Derived.Test.YtpcombaecbjmfaaLe
import Derived.Test.YtpcombaecbjmfaaMq
namespace Go.Proofs.Ytpcombaecbjmfaa
open Go.RowKit
/-- the sum beside one -/
def sib (row : List Id32) (a : Nat) : Id32 := if a % 2 = 0 then (if a + 1 < row.length then row.getD (a + 1) [] else row.getD a []) else row.getD (a - 1) []
def wayN : Nat → List Id32 → Nat → List Id32
  | 0, _, _ => []
  | n + 1, row, a => if row.length ≤ 1 then [] else sib row a :: wayN n (mup row) (a / 2)
theorem way_leads : ∀ (n : Nat) (row : List Id32) (a : Nat), row.length ≤ n → a < row.length → leadM (row.getD a []) a (wayN n row a) = (mrootF row false).1 := by
  intro n
  induction n with
  | zero => intro row a h h2; omega
  | succ n ih =>
    intro row a h h2
    rw [wayN]
    by_cases h1 : row.length ≤ 1
    · rw [if_pos h1, mrootF_one row false h1]
      obtain rfl : a = 0 := by omega
      show row.getD 0 [] = row.getD 0 _
      rw [getD_getElem h2]
      unfold List.getD
      rw [List.getElem?_eq_getElem h2]
      rfl
    · rw [if_neg h1, leadM, mrootF_step row false (by omega)]
      have hl := mup_length _ row (Nat.le_refl _)
      have hm : ∀ tw tw' : Bool, (mrootF (mup row) tw).1 = (mrootF (mup row) tw').1 := by
        intro tw tw'
        have : ∀ (k : Nat) (r : List Id32) (t t' : Bool), (mrootN k r t).1 = (mrootN k r t').1 := by
          intro k
          induction k with
          | zero => intro r t t'; rfl
          | succ k ihk =>
            intro r t t'
            rw [mrootN, mrootN]
            by_cases hr : r.length ≤ 1
            · rw [if_pos hr, if_pos hr]
            · rw [if_neg hr, if_neg hr]; exact ihk _ _ _
        exact this _ _ _ _
      rw [hm (false || mtw row) false, ← ih (mup row) (a / 2) (by omega) (by omega)]
      congr 1
      rw [mup_getD (a / 2) row (by omega)]
      unfold sib
      by_cases he : a % 2 = 0
      · rw [if_pos he, if_pos he]
        have e1 : 2 * (a / 2) = a := by omega
        rw [e1]
        by_cases hlt : a + 1 < row.length
        · rw [if_pos hlt, if_pos hlt]
        · rw [if_neg hlt, if_neg hlt]
      · rw [if_neg he, if_neg he]
        have e1 : 2 * (a / 2) = a - 1 := by omega
        have e2 : a - 1 + 1 = a := by omega
        rw [e1, e2, if_pos h2]
theorem sib_32 (row : List Id32) (h : ∀ x ∈ row, x.length = 32) (a : Nat) (ha : a < row.length) : (sib row a).length = 32 := by
  unfold sib
  split
  · split
    · exact getD_mem32 h (by assumption)
    · exact getD_mem32 h ha
  · exact getD_mem32 h (by omega)
theorem wayN_32 : ∀ (n : Nat) (row : List Id32) (a : Nat), (∀ x ∈ row, x.length = 32) → a < row.length → ∀ y ∈ wayN n row a, y.length = 32 := by
  intro n
  induction n with
  | zero => intro row a _ _ y hy; cases hy
  | succ n ih =>
    intro row a h ha y hy
    rw [wayN] at hy
    by_cases h1 : row.length ≤ 1
    · rw [if_pos h1] at hy; cases hy
    · rw [if_neg h1, List.mem_cons] at hy
      rcases hy with rfl | hy
      · exact sib_32 row h a ha
      · exact ih (mup row) (a / 2) (mup_32 _ row (Nat.le_refl _)) (by rw [mup_length _ row (Nat.le_refl _)]; omega) y hy
theorem wayN_len : ∀ (n : Nat) (row : List Id32) (a : Nat), (wayN n row a).length ≤ n := by
  intro n
  induction n with
  | zero => intro row a; exact Nat.le_refl _
  | succ n ih =>
    intro row a
    rw [wayN]
    split
    · exact Nat.zero_le _
    · rw [List.length_cons]; have := ih (mup row) (a / 2); omega
/-! ### memory -/
theorem own_cells {w : World} {base : Nat} {e : TypeId} {size n c : Nat} {A : Option Addr} {xs : List Value} (h : w.ownsRow base e size (.slice A n c) n xs) (hn : 0 < n) :
    ∃ g L, A = some ⟨g, 0, none⟩ ∧ base ≤ g ∧ Blk w g e (List.toArray L) ∧ n * size ≤ L.length ∧ L.take (n * size) = xs ∧
      ∀ (w' : World) (L' : List Value) (k : Nat), Blk w' g e L'.toArray → L'.length = L.length → k ≤ n → w'.ownsRow base e size (.slice (some ⟨g, 0, none⟩) k c) k (L'.take (k * size)) := by
  rcases h.2 with ⟨e1, e2⟩ | ⟨g, cap, cur, e1, h1, h2, h3, h4, h5, h6⟩
  · omega
  · injection e1 with e1 e2 e3
    subst e1 e3
    have hle : n * size ≤ cur.toList.length := by rw [Array.length_toList, h5]; exact Nat.mul_le_mul_right _ h3
    refine ⟨g, cur.toList, rfl, h1, by rw [Array.toArray_toList]; exact h2, hle, h6, ?_⟩
    intro w' L' k hb hl hk
    have hle2 : k * size ≤ L'.length := by rw [hl]; exact Nat.le_trans (Nat.mul_le_mul_right _ hk) hle
    refine ⟨by rw [List.length_take]; omega, .inr ⟨g, c, L'.toArray, rfl, h1, hb, by omega, h4, ?_, rfl⟩⟩
    rw [List.size_toArray, hl, Array.length_toList, h5]
theorem over_take (L : List Value) (o : Nat) (cs : List Value) (k : Nat) (h : o + cs.length ≤ k) (hk : k ≤ L.length) : (over L o cs).take k = over (L.take k) o cs := by
  unfold over
  have e1 : (L.take o).length = o := by rw [List.length_take]; omega
  rw [List.take_append, e1, List.take_append, List.take_of_length_le (show (L.take o).length ≤ k by omega), List.take_of_length_le (show cs.length ≤ k - o by omega), List.take_take, Nat.min_eq_left (show o ≤ k by omega), List.drop_take]
  rw [show k - o - cs.length = k - (o + cs.length) by omega]
theorem over_len (L : List Value) (o : Nat) (cs : List Value) (h : o + cs.length ≤ L.length) : (over L o cs).length = L.length := by
  unfold over
  simp only [List.length_append, List.length_take, List.length_drop]
  omega
theorem ids_take (row : List Id32) (h : ∀ x ∈ row, x.length = 32) (i : Nat) (hi : i ≤ row.length) : (row.flatMap bts).take (i * 32) = (row.take i).flatMap bts ∧ (row.flatMap bts).drop (i * 32) = (row.drop i).flatMap bts := by
  have e : row.flatMap bts = (row.take i).flatMap bts ++ (row.drop i).flatMap bts := by rw [← List.flatMap_append, List.take_append_drop]
  have hl : ((row.take i).flatMap bts).length = i * 32 := by rw [ids_len _ (fun x hx => h x (List.mem_of_mem_take hx)), List.length_take, Nat.min_eq_left hi]
  constructor
  · rw [e]; exact List.take_left' hl
  · rw [e]; exact List.drop_left' hl
theorem over_ids (row : List Id32) (h : ∀ x ∈ row, x.length = 32) (i : Nat) (hi : i < row.length) (z : Id32) (hz : z.length = 32) : over (row.flatMap bts) (i * 32) (bts z) = (row.set i z).flatMap bts := by
  unfold over
  rw [(ids_take row h i (by omega)).1, show i * 32 + (bts z).length = (i + 1) * 32 by rw [bts_length, hz]; omega, (ids_take row h (i + 1) (by omega)).2, List.set_eq_take_append_cons_drop, if_pos hi, List.flatMap_append, List.flatMap_cons]
/-- sums of one's own -/
def OwnI (w : World) (base : Nat) (A : Option Addr) (n c : Nat) (row : List Id32) : Prop := w.ownsRow base 32 32 (.slice A n c) n (row.flatMap bts) ∧ row.length = n ∧ ∀ x ∈ row, x.length = 32
theorem OwnI.store {w : World} {base n c : Nat} {A : Option Addr} {row : List Id32} (h : OwnI w base A n c row) (hn : 0 < n) : ∃ g L, A = some ⟨g, 0, none⟩ ∧ base ≤ g ∧ Blk w g 32 (List.toArray L) ∧ n * 32 ≤ L.length ∧
    (∀ (w' : World) (i : Nat) (z : Id32), i < n → z.length = 32 → Blk w' g 32 (over L (i * 32) (bts z)).toArray → OwnI w' base (some ⟨g, 0, none⟩) n c (row.set i z)) ∧
    (∀ k, k ≤ n → OwnI w base (some ⟨g, 0, none⟩) k c (row.take k)) := by
  obtain ⟨g, L, e, h1, h2, h3, h4, h5⟩ := own_cells h.1 hn
  refine ⟨g, L, e, h1, h2, h3, ?_, ?_⟩
  · intro w' i z hi hz hb
    have hlen : i * 32 + (bts z).length ≤ n * 32 := by rw [bts_length, hz]; omega
    have := h5 w' _ n hb (over_len _ _ _ (by omega)) (Nat.le_refl _)
    rw [over_take _ _ _ _ hlen h3, h4, over_ids row h.2.2 i (by rw [h.2.1]; exact hi) z hz] at this
    refine ⟨this, by rw [List.length_set]; exact h.2.1, ?_⟩
    intro x hx
    rcases List.mem_or_eq_of_mem_set hx with hx | hx
    · exact h.2.2 x hx
    · rw [hx]; exact hz
  · intro k hk
    have := h5 w L k h2 rfl hk
    have e2 : L.take (k * 32) = (row.take k).flatMap bts := by
      rw [← (ids_take row h.2.2 k (by rw [h.2.1]; exact hk)).1, ← h4, List.take_take, Nat.min_eq_left (by omega)]
    rw [e2] at this
    exact ⟨this, by rw [List.length_take, h.2.1]; omega, fun x hx => h.2.2 x (List.mem_of_mem_take hx)⟩
theorem OwnI.sl {w : World} {base n c : Nat} {A : Option Addr} {row : List Id32} (h : OwnI w base A n c row) : Sl w (fun b => base ≤ b ∧ b < w.heap.size) 32 A n (row.flatMap bts) := Sl.of_own h.1
theorem OwnI.only {w w' : World} {base n c : Nat} {A : Option Addr} {row : List Id32} {S : Nat → Prop} (h : OwnI w base A n c row) (hw : Only S w w') (hn : ∀ k, (Value.slice A n c).ownBlock = some k → ¬ S k) : OwnI w' base A n c row :=
  ⟨own_only h.1 hw hn, h.2⟩
theorem OwnI.new {w w' : World} {base n c : Nat} {A : Option Addr} {row : List Id32} (h : OwnI w base A n c row) (hw : Below w.heap.size w w') : OwnI w' base A n c row := h.only (Only.of_new hw (fun _ => False)) (fun _ _ h => h)
theorem OwnI.snoc {w : World} {base n c : Nat} {A : Option Addr} {row : List Id32} {y : Id32} (h : w.ownsRow base 32 32 (.slice A (n + 1) c) (n + 1) (row.flatMap bts ++ bts y)) (hn : row.length = n) (h32 : ∀ x ∈ row, x.length = 32) (hy : y.length = 32) : OwnI w base A (n + 1) c (row ++ [y]) :=
  ⟨ids_snoc h, by simp [hn], fun x hx => by
    rcases List.mem_append.1 hx with hx | hx
    · exact h32 x hx
    · rw [List.mem_singleton.1 hx]; exact hy⟩
/-! what the inner loop does -/
theorem mup_even (row : List Id32) (i : Nat) (h : 2 * i + 1 < row.length) : (mup row).getD i [] = sha2 (row.getD (2 * i) [] ++ row.getD (2 * i + 1) []) := by
  rw [mup_getD i row (by omega), if_pos h]
/-- the first i of the next level, behind them this one's -/
def half (row : List Id32) (i : Nat) : List Id32 := (mup row).take i ++ row.drop i
theorem half_len (row : List Id32) (i : Nat) (h : 2 * i ≤ row.length) : (half row i).length = row.length := by
  have := mup_length _ row (Nat.le_refl _)
  rw [half, List.length_append, List.length_take, List.length_drop, this]
  omega
theorem half_get (row : List Id32) (i j : Nat) (h : 2 * i ≤ row.length) (hj : i ≤ j) : (half row i).getD j [] = row.getD j [] := by
  have := mup_length _ row (Nat.le_refl _)
  have hl : ((mup row).take i).length = i := by rw [List.length_take, this]; omega
  unfold half List.getD
  rw [List.getElem?_append_right (by omega), hl, List.getElem?_drop, show i + (j - i) = j by omega]
theorem half_step (row : List Id32) (i : Nat) (h : 2 * i + 1 < row.length) : (half row i).set i (sha2 (row.getD (2 * i) [] ++ row.getD (2 * i + 1) [])) = half row (i + 1) := by
  have hm := mup_length _ row (Nat.le_refl _)
  have hl : ((mup row).take i).length = i := by rw [List.length_take, hm]; omega
  have hi : i < (mup row).length := by rw [hm]; omega
  rw [half, half, List.set_append_right _ _ (by omega), hl, Nat.sub_self, List.drop_eq_getElem_cons (show i < row.length by omega), List.set_cons_zero, take_snoc' (mup row) i hi, List.append_assoc, ← mup_even row i h, getD_getElem hi]
  rfl
theorem half_all (row : List Id32) (k : Nat) (h : row.length = 2 * k) : (half row k).take k = mup row := by
  have hm := mup_length _ row (Nat.le_refl _)
  have hl : ((mup row).take k).length = k := by rw [List.length_take, hm]; omega
  rw [half, List.take_left' hl, List.take_of_length_le (by omega)]
theorem mup_dup (row : List Id32) (k : Nat) (h : row.length = 2 * k + 1) : mup (row ++ [row.getD (2 * k) []]) = mup row := by
  have e : row = row.take (2 * k) ++ [row.getD (2 * k) []] := by
    rw [getD_getElem (by omega), ← take_snoc' row (2 * k) (by omega), List.take_of_length_le (by omega)]
  have hl : (row.take (2 * k)).length = 2 * k := by rw [List.length_take]; omega
  obtain ⟨x, hx⟩ : ∃ x, row.getD (2 * k) [] = x := ⟨_, rfl⟩
  rw [hx] at e ⊢
  obtain ⟨P, hP⟩ : ∃ P, row.take (2 * k) = P := ⟨_, rfl⟩
  rw [hP] at e hl
  rw [e, List.append_assoc, (mup_app _ P ([x] ++ [x]) (Nat.le_refl _) (by omega)).1, (mup_app _ P [x] (Nat.le_refl _) (by omega)).1]
  rfl
end Go.Proofs.Ytpcombaecbjmfaa
