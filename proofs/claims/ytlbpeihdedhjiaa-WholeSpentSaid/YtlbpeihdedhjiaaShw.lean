/- Shapes: whose blocks may be said more widely; slices of rows read backwards, put together. No program in sight. -/
import Derived.Test.YtlbpeihdedhjiaaShp
namespace Go.Proofs.Ytlbpeihdedhjiaa
open Go.RowKit
def Shape.Weak {α : Type} (s : Shape α) : Prop := ∀ (w : World) (ok ok' : Nat → Prop) (cs : List Value) (a : α), s.rel w ok cs a → (∀ b, b < w.heap.size → ok b → ok' b) → s.rel w ok' cs a
theorem weak_int (k : IntKind) : (shInt k).Weak := fun _ _ _ _ _ h _ => h
theorem weak_bool : shBool.Weak := fun _ _ _ _ _ h _ => h
theorem weak_str : shStr.Weak := fun _ _ _ _ _ h _ => h
theorem weak_arr (n : Nat) : (shArr n).Weak := fun _ _ _ _ _ h _ => h
theorem weak_unit : shUnit.Weak := fun _ _ _ _ _ h _ => h
theorem weak_bytes : shBytes.Weak := fun _ _ _ _ _ h hw => by
  obtain ⟨v, h1, h2⟩ := h
  exact ⟨v, h1, h2.weak hw⟩
theorem weak_pair {α β : Type} {s : Shape α} {t : Shape β} (h1 : s.Weak) (h2 : t.Weak) : (shPair s t).Weak := fun w ok ok' _ _ h hw => by
  obtain ⟨c, d, e, k1, k2⟩ := h
  exact ⟨c, d, e, h1 w ok ok' _ _ k1 hw, h2 w ok ok' _ _ k2 hw⟩
theorem weak_slice {α : Type} {s : Shape α} {hs : 0 < s.size} (h1 : s.Weak) : (shSlice s hs).Weak := fun w ok ok' _ _ h hw => by
  obtain ⟨A, c, cells, k1, k2, k3, k4, k5⟩ := h
  exact ⟨A, c, cells, k1, k2, k3, k4.mono (fun _ _ h => h1 w ok ok' _ _ h hw), k5.weak hw hs⟩
theorem Each.append {α : Type} {r : List Value → α → Prop} {cs cs' ls ls'} (h : Each r cs ls) (h' : Each r cs' ls') : Each r (cs ++ cs') (ls ++ ls') := by
  induction h with
  | nil => exact h'
  | cons h _ ih => exact .cons h ih
theorem Each.reverse {α : Type} {r : List Value → α → Prop} {cs ls} (h : Each r cs ls) : Each r cs.reverse ls.reverse := by
  induction h with
  | nil => exact .nil
  | cons h _ ih => rw [List.reverse_cons, List.reverse_cons]; exact ih.append (.cons h .nil)
theorem flat_len_s {cells : List (List Value)} {size : Nat} (h : ∀ c ∈ cells, c.length = size) : cells.flatten.length = cells.length * size := by
  induction cells with
  | nil => simp
  | cons c cells ih => rw [List.flatten_cons, List.length_append, ih (fun d hd => h d (by simp [hd])), h c (by simp), List.length_cons, Nat.succ_mul]; omega
theorem row_cells {w : World} {b o size : Nat} {cells : List (List Value)} (h : RowAt w b o cells.flatten) (hl : ∀ c ∈ cells, c.length = size) {j : Nat} (hj : j < cells.length) : RowAt w b (o + j * size) cells[j] := by
  have hd := h.drop (j * size)
  have e : cells.flatten = (cells.take j).flatten ++ (cells[j] ++ (cells.drop (j + 1)).flatten) := by
    conv => lhs; rw [← List.take_append_drop j cells, List.drop_eq_getElem_cons hj]
    rw [List.flatten_append, List.flatten_cons]
  have hk : ((cells.take j).flatten).length = j * size := by rw [flat_len_s (fun c hc => hl c (List.mem_of_mem_take hc)), List.length_take, Nat.min_eq_left (by omega)]
  rw [e, List.drop_left' hk] at hd
  intro k u hu
  exact hd k u (by rw [List.getElem?_append_left (List.getElem?_eq_some_iff.1 hu).1]; exact hu)
/-- what a slice reads as, with its cells at hand -/
theorem shSlice_open {α : Type} {s : Shape α} {hs : 0 < s.size} {w : World} {ok : Nat → Prop} {A : Option Addr} {n c : Nat} {ls : List α} (h : (shSlice s hs).rel w ok [.slice A n c] ls) :
    ∃ cells, ls.length = n ∧ n ≤ c ∧ c ≤ maxLen ∧ Each (s.rel w ok) cells ls ∧ Sl w ok s.size A n cells.flatten ∧ cells.length = n ∧ ∀ c ∈ cells, c.length = s.size := by
  obtain ⟨A', c', cells, h1, h2, h3, h4, h5⟩ := h
  simp only [List.cons.injEq, and_true] at h1
  injection h1 with e1 e2 e3
  subst e1 e2 e3
  refine ⟨cells, rfl, h2, h3, h4, h5, h4.len, fun c hc => ?_⟩
  obtain ⟨i, hi, rfl⟩ := List.getElem_of_mem hc
  obtain ⟨c, hc1, hc2⟩ := h4.get i (by rw [← h4.len]; exact hi)
  rw [List.getElem?_eq_getElem hi] at hc1
  rw [Option.some.inj hc1]
  exact s.len hc2
theorem own_shut {α : Type} {s : Shape α} {hs : 0 < s.size} {w : World} {ok : Nat → Prop} {base : Nat} {e : TypeId} {A : Option Addr} {n c : Nat} {cells : List (List Value)} {ls : List α} (h : w.ownsRow base e s.size (.slice A n c) n cells.flatten)
    (hE : Each (s.rel w ok) cells ls) (hn : ls.length = n) (hok : ∀ b, base ≤ b → b < w.heap.size → ok b) : (shSlice s hs).rel w ok [.slice A n c] ls := by
  subst hn
  obtain ⟨A', c', e', h1, h2⟩ := own_form h
  injection e' with e1 e2 e3
  subst e1 e3
  exact ⟨A, c, cells, rfl, h1, h2, hE, (Sl.of_own h).weak (fun b hb h => hok b h.1 hb) hs⟩
theorem RowAt.below {w w' : World} {b o : Nat} {xs : List Value} (h : RowAt w b o xs) (hx : 0 < xs.length) (a : Below w.heap.size w w') : RowAt w' b o xs :=
  h.only (Only.of_below a) (by have := h.lt hx; omega)
/-- the second of two new blocks -/
theorem Blk.newS (w : World) (o : Obj) (t : TypeId) (L : List Value) : Blk ((w.alloc o).alloc (.cells L.toArray t)) (w.heap.size + 1) t L.toArray := by
  have := Blk.new (w.alloc o) t L.toArray
  simpa using this
end Go.Proofs.Ytlbpeihdedhjiaa
