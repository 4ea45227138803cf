/- A region that draws its order, but for its last operations, which wait for all the others and come in one order: the head under a condition, the tail as a plain list. No program in sight. -/
import Derived.StillTailTactics
import Derived.Deep.RegionHeld3
namespace Go.Proofs.Ytlbpeihdedhjiaa
open Go
/-- what the head must come to: the tail's own way -/
def TailQ (P : Program) (ops : Array Oper) (Q : Exit → Act → World → Prop) (tail : List Oper) : Exit → Act → World → Prop
  | .normal, a, w => wpList P ops Q tail a w
  | e, a, w => Q e a w
/-- the first n wait for earlier ones alone; the next one for all of them; each further one for the one ahead of it -/
def tailOk (md : Region.Mode) (ops : Array Oper) (n : Nat) : Bool :=
  (List.range n).all (fun j => match ops[j]? with
    | some o => o.after.all (fun e => !Region.binds md e || decide (e.on < j)) && (match o.guard with | some g => decide (g.1 < n) | none => true)
    | none => true) &&
  (List.range n).all (fun i => Region.waitsFor md ops n i) && Region.chainB md ops n && Region.seqB md ops (ops.size - n) n (List.replicate n true ++ List.replicate (ops.size - n) false).toArray
section
variable {P : Program} {md : Region.Mode} {Q : Exit → Act → World → Prop} {S : World → Prop}
theorem wp_tailQ {o : Oper} {a : Act} {w : World} {K : Act → World → Prop} {ops : Array Oper} {tail : List Oper} (h : o.wp P a w K (TailQ P ops Q tail)) : o.wp P a w K Q := by
  unfold Oper.wp at *
  generalize (execOp a.eval o).run P w = r at *
  cases r with
  | ok n w' => cases n <;> first | exact h | (refine Calls.mono h fun e w'' he => ?_; cases e <;> exact he)
  | halt x w' => cases x <;> exact h
theorem count_set : ∀ (ls : List Bool) (i : Nat), ls[i]? = some false → (ls.set i true).count false + 1 = ls.count false := by
  intro ls
  induction ls with
  | nil => intro i h; simp at h
  | cons x ls ih =>
    intro i h
    cases i with
    | zero => simp at h; subst h; simp
    | succ i =>
      have := ih i (by simpa using h)
      rw [List.set_cons_succ]
      cases x <;> simp <;> omega
theorem all_true : ∀ (ls : List Bool), ls.count false = 0 → ls = List.replicate ls.length true := by
  intro ls
  induction ls with
  | nil => intro _; rfl
  | cons x ls ih =>
    intro h
    cases x with
    | false => simp at h
    | true => rw [List.length_cons, List.replicate_succ, ← ih (by simpa using h)]
/-- the first one that has not come up -/
theorem first_false : ∀ (ls : List Bool), 0 < ls.count false → ∃ j : Nat, ls[j]? = some false ∧ ∀ i : Nat, i < j → ls[i]? = some true := by
  intro ls
  induction ls with
  | nil => intro h; simp at h
  | cons x ls ih =>
    intro h
    cases x with
    | false => exact ⟨0, rfl, fun i hi => absurd hi (by omega)⟩
    | true =>
      obtain ⟨j, h1, h2⟩ := ih (by simpa using h)
      refine ⟨j + 1, by simpa using h1, fun i hi => ?_⟩
      cases i with
      | zero => rfl
      | succ i => simpa using h2 i (by omega)
theorem ext_get {ls : List Bool} {n k : Nat} (hl : ls.length = n) {i : Nat} (hi : i < n) (d : Bool) : (ls ++ List.replicate k false).toArray.getD i d = ls[i]'(by omega) := by
  simp [Array.getD, hl, List.getElem_append_left (by omega : i < ls.length)]
  intro h; omega
theorem ext_tail {ls : List Bool} {n k : Nat} (hl : ls.length = n) {i : Nat} (h0 : n ≤ i) (hi : i < n + k) (d : Bool) : (ls ++ List.replicate k false).toArray.getD i d = false := by
  rw [Array.getD_eq_getD_getElem?, List.getElem?_toArray, List.getElem?_append_right (by omega), List.getElem?_replicate, if_pos (by omega)]
  rfl
theorem wpAny_of_take (l : List Oper) (n k : Nat) (hlen : l.length = n + k) (hB : tailOk md l.toArray n = true) : ∀ (fuel : Nat) (ls : List Bool) (a : Act) (w : World), ls.length = n → ls.count false = fuel →
    wpAny P md (l.take n).toArray (TailQ P l.toArray Q (l.drop n)) fuel ls.toArray a w → wpAny P md l.toArray Q (fuel + k) (ls ++ List.replicate k false).toArray a w := by
  simp only [tailOk, Bool.and_eq_true, List.all_eq_true, List.mem_range] at hB
  obtain ⟨⟨⟨h1, h2⟩, h3⟩, h4⟩ := hB
  have hk : l.toArray.size - n = k := by simp [hlen]
  rw [hk] at h4
  have hsz : (l.drop n).length = k := by simp [hlen]
  intro fuel
  induction fuel with
  | zero =>
    intro ls a w hl hc h
    have hall := all_true ls hc
    rw [hl] at hall
    have := wpAny_of_seq (P := P) (md := md) (ops := l.toArray) (Q' := Q) (l.drop n) n (ls ++ List.replicate k false).toArray a w (fun j => by simp [List.getElem?_drop]) (by rw [hsz, hall]; exact h4) h.2
    rw [hsz] at this
    rw [Nat.zero_add]
    exact this
  | succ fuel ih =>
    intro ls a w hl hc h
    obtain ⟨j, hj, hjt⟩ := first_false ls (by omega)
    have hjn : j < n := by rw [← hl]; exact (List.getElem?_eq_some_iff.1 hj).1
    have hjf : ls[j]'(by omega) = false := by rw [List.getElem?_eq_getElem (by omega)] at hj; exact Option.some.inj hj
    have hop : l.toArray[j]? = some (l[j]'(by omega)) := by rw [List.getElem?_toArray]; exact List.getElem?_eq_getElem _
    have hjr : j ∈ Region.ready md l.toArray (ls ++ List.replicate k false).toArray := by
      refine mem_ready.2 ⟨by rw [ext_get hl hjn]; exact hjf, _, hop, fun e he hb => ?_⟩
      have hq := h1 j hjn
      rw [hop] at hq
      simp only [Bool.and_eq_true, Array.all_eq_true_iff_forall_mem, Bool.or_eq_true, Bool.not_eq_true', decide_eq_true_eq] at hq
      have hon : e.on < j := by
        rcases hq.1 e he with h | h
        · rw [h] at hb; cases hb
        · exact h
      have ht := hjt _ hon
      rw [List.getElem?_eq_getElem (by omega)] at ht
      rw [ext_get hl (by omega)]
      exact Option.some.inj ht
    rw [show fuel + 1 + k = (fuel + k) + 1 by omega]
    refine ⟨(fun hr => by rw [hr] at hjr; cases hjr), fun i hi => ?_⟩
    obtain ⟨hif, oi, hoi, hiw⟩ := mem_ready.1 hi
    have hil : i < n + k := by
      rw [List.getElem?_toArray] at hoi
      rw [← hlen]; exact (List.getElem?_eq_some_iff.1 hoi).1
    have hin : i < n := by
      rcases Nat.lt_trichotomy i n with h | h | h
      · exact h
      · exfalso
        subst h
        obtain ⟨oj, hoj, e, he, hb, hon⟩ := Region.waitsFor_spec (h2 j hjn)
        rw [hoi] at hoj
        obtain rfl := Option.some.inj hoj
        have := hiw e he hb
        rw [hon, ext_get hl hjn, hjf] at this
        cases this
      · exfalso
        have hch := h3
        simp only [Region.chainB, List.all_eq_true, List.mem_range, Bool.or_eq_true, decide_eq_true_eq] at hch
        have hw := (hch i (by simp [hlen]; omega)).resolve_left (by omega)
        obtain ⟨oj, hoj, e, he, hb, hon⟩ := Region.waitsFor_spec hw
        rw [hoi] at hoj
        obtain rfl := Option.some.inj hoj
        have := hiw e he hb
        rw [hon, ext_tail hl (by omega) (by omega)] at this
        cases this
    have hit : (l.take n).toArray[i]? = some oi := by
      rw [List.getElem?_toArray] at hoi ⊢
      rw [List.getElem?_take, if_pos hin, hoi]
    have hq := h1 i hin
    rw [hoi] at hq
    simp only [Bool.and_eq_true, Array.all_eq_true_iff_forall_mem, Bool.or_eq_true, Bool.not_eq_true', decide_eq_true_eq] at hq
    have hfi : ls[i]'(by omega) = false := by rw [ext_get hl hin] at hif; exact hif
    have hir : i ∈ Region.ready md (l.take n).toArray ls.toArray := by
      refine mem_ready.2 ⟨?_, oi, hit, fun e he hb => ?_⟩
      · rw [Array.getD_eq_getD_getElem?, List.getElem?_toArray, List.getElem?_eq_getElem (by omega)]; exact hfi
      · have hon : e.on < i := by
          rcases hq.1 e he with h | h
          · rw [h] at hb; cases hb
          · exact h
        have := hiw e he hb
        rw [ext_get hl (by omega)] at this
        rw [Array.getD_eq_getD_getElem?, List.getElem?_toArray, List.getElem?_eq_getElem (by omega)]
        exact this
    have hop' := h.2 i hir
    have hset : (ls ++ List.replicate k false).toArray.setIfInBounds i true = ((ls.set i true) ++ List.replicate k false).toArray := by
      rw [List.setIfInBounds_toArray, List.set_append_left _ _ (by omega)]
    rw [hset]
    have hwant : Region.wanted oi (yielded l.toArray a.tmps) = Region.wanted oi (yielded (l.take n).toArray a.tmps) := by
      unfold Region.wanted
      cases hg : oi.guard with
      | none => rfl
      | some g =>
        have hgn : g.1 < n := by have := hq.2; rw [hg] at this; simpa using this
        obtain ⟨g1, g2⟩ := g
        simp only [yielded, List.getElem?_toArray, List.getElem?_take, if_pos hgn]
    unfold wpOp at hop' ⊢
    simp only [hoi]
    simp only [hit] at hop'
    rw [hwant]
    have hih : ∀ a w, wpAny P md (l.take n).toArray (TailQ P l.toArray Q (l.drop n)) fuel (ls.toArray.setIfInBounds i true) a w → wpAny P md l.toArray Q (fuel + k) ((ls.set i true) ++ List.replicate k false).toArray a w := by
      intro a w hh
      rw [List.setIfInBounds_toArray] at hh
      exact ih (ls.set i true) a w (by simp [hl]) (by have := count_set ls i (by rw [List.getElem?_eq_getElem (by omega), hfi]); omega) hh
    split
    · rename_i hw
      rw [if_pos hw] at hop'
      exact hop'.imp (fun h => Oper.wp_mono hih (wp_tailQ h)) id
    · rename_i hw
      rw [if_neg hw] at hop'
      exact hih _ _ hop'
/-- the beginning: as the kit's law for such a region, but the tail is a plain list -/
theorem wp_region_tail {id : Nat} {a : Act} {w : World} {l : List Oper} (n : Nat) (hm : P.follows .mixedOrders = true) (hn : n ≤ l.length) (hB : tailOk .any l.toArray n = true) (hS : S w.drew)
    (h : S w.drew → wpAnyH P .any (l.take n).toArray (TailQ P l.toArray Q (l.drop n)) S n (List.replicate n false).toArray a w.drew) : (Code.region id l.toArray true).wp P Q a w := by
  refine wp_region_any hm ?_
  have h1 := wpAny_of_take (md := .any) (Q := Q) l n (l.length - n) (by omega) hB n (List.replicate n false) a w.drew (by simp) (by simp) (wpAny_of_held _ _ _ _ (h hS))
  rw [List.replicate_append_replicate, show n + (l.length - n) = l.length by omega] at h1
  have e : Array.replicate l.toArray.size false = (List.replicate l.length false).toArray := by simp
  rw [e, List.size_toArray]
  exact h1
end
end Go.Proofs.Ytlbpeihdedhjiaa
