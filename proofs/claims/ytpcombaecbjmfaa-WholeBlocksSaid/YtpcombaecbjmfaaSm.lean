/- Plainly: a transaction that is too long is none; bytes behind what is read stay; what lies in memory is of a form that can be read again. No walk here. -/
import Derived.Test.YtpcombaecbjmfaaRf
import Derived.Test.YtpcombaecbjmfaaGd
namespace Go.Proofs.Ytpcombaecbjmfaa
open Go.RowKit
theorem tk_keep {n : Int} {s : RS} {e : Int} (he : e ≠ 0) (h : s.2 = e) : (tk n s).2 = e := by
  show rawE s.1 s.2 n = e
  unfold rawE errOf
  rw [h, if_neg he]
  split <;> rfl
theorem rawE_keep {l : List UInt8} {x n e : Int} (he : e ≠ 0) (h : x = e) : rawE l x n = e := tk_keep (s := (l, x)) he h
theorem cHead_keep {l : List UInt8} {x e : Int} (he : e ≠ 0) (h : x = e) : (cHead l x).2.2.2 = e := by
  unfold cHead
  split
  · exact rawE_keep he (rawE_keep he h)
  · split
    · exact rawE_keep he (rawE_keep he h)
    · split
      · exact rawE_keep he (rawE_keep he h)
      · exact rawE_keep he h
theorem cnt_keep {n : Nat} {s : RS} {e : Int} (he : e ≠ 0) (h : s.2 = e) : (cnt n s).2.2 = e := by
  show (rcountS s.1 s.2 n).2.2 = e
  have hc := cHead_keep (l := s.1) he h
  unfold rcountS
  generalize cHead s.1 s.2 = x at hc
  obtain ⟨m, least, l, e'⟩ := x
  simp only [cEnd] at hc ⊢
  rw [if_pos (by rw [hc]; exact he)]
  exact hc
theorem inR_keep {s : RS} {e : Int} (he : e ≠ 0) (h : s.2 = e) : (inR s).2.2 = e := by rw [inR_2]; exact tk_keep he (cnt_keep he (tk_keep he (tk_keep he h)))
theorem outR_keep {s : RS} {e : Int} (he : e ≠ 0) (h : s.2 = e) : (outR s).2.2 = e := tk_keep he (tk_keep he h)
theorem many_keep {α : Type} {f : RS → α × RS} {e : Int} (hf : ∀ s : RS, s.2 = e → (f s).2.2 = e) (n : Nat) {s : RS} (h : s.2 = e) : (many f n s).2.2 = e := by
  induction n with
  | zero => exact h
  | succ n ih => exact hf _ ih
theorem txO_keep {s : RS} {e : Int} (he : e ≠ 0) (h : (txI s).2.2 = e) : (txO s).2.2 = e := by
  have h2 := cnt_keep (n := 32) he h
  unfold txO
  generalize cnt 32 (txI s).2 = x at h2 ⊢
  exact many_keep (f := outR) (fun _ h => outR_keep he h) x.1 h2
theorem cnt_long (n m : Nat) (h : m < n) (hn : n < 18446744073709551616) (r : List UInt8) : (cnt m (countB n ++ r, 0)).2.2 = 2 := by
  show (rcountS (countB n ++ r) 0 m).2.2 = 2
  rw [rcountS_countB n m hn, if_neg (by simp), if_pos h]
theorem inR_long (i : InT) (h32 : i.1.1.length = 32) (hk : 100 < i.2.1.length) (hl : i.2.1.length < 18446744073709551616) (r : List UInt8) : (inR (inB i ++ r, 0)).2.2 = 2 := by
  obtain ⟨⟨id, ix, _⟩, key, _⟩ := i
  have h32 : id.length = 32 := h32
  have hk : 100 < key.length := hk
  have e : inB ((id, ix, ()), key, ()) ++ r = id ++ (les 4 ix.toNat ++ (countB key.length ++ (key ++ r))) := by simp [inB]
  have t1 : tk 32 (id ++ (les 4 ix.toNat ++ (countB key.length ++ (key ++ r))), 0) = (les 4 ix.toNat ++ (countB key.length ++ (key ++ r)), 0) := tk_fwd _ _ _ _ (by rw [h32]; rfl)
  have t2 : tk 4 (les 4 ix.toNat ++ (countB key.length ++ (key ++ r)), 0) = (countB key.length ++ (key ++ r), 0) := tk_fwd _ _ _ _ (by rw [les_length]; rfl)
  rw [e, inR_2, t1, t2]
  exact tk_keep (by decide) (cnt_long _ _ hk hl _)
theorem many_long : ∀ (l : List InT) (r : List UInt8), (∀ i ∈ l, InOk i) → (∀ i ∈ l, i.2.1.length < 18446744073709551616) → (∃ i ∈ l, 100 < i.2.1.length) → (many inR l.length (l.flatMap inB ++ r, 0)).2.2 = 2 := by
  intro l
  induction l with
  | nil => intro r _ _ h; obtain ⟨i, hi, _⟩ := h; cases hi
  | cons x l ih =>
    intro r h1 h2 h3
    rw [List.length_cons, many_cons, List.flatMap_cons, List.append_assoc]
    by_cases hx : 100 < x.2.1.length
    · exact many_keep (fun _ h => inR_keep (by decide) h) _ (inR_long x (h1 x (by simp)).id hx (h2 x (by simp)) _)
    · rw [inR_fwd x (h1 x (by simp)) (by omega)]
      simp only
      refine ih r (fun i hi => h1 i (by simp [hi])) (fun i hi => h2 i (by simp [hi])) ?_
      obtain ⟨i, hi, hk⟩ := h3
      rcases List.mem_cons.1 hi with rfl | hi
      · exact absurd hk hx
      · exact ⟨i, hi, hk⟩
theorem endS_two {l : List UInt8} : endS l 2 = 2 := by unfold endS; rw [if_neg (fun h => absurd h.1 (by decide))]
/-- too many parts, or too long ones -/
theorem txE_long (t : TxT) (ht : TxOk t) (hf : TxFit t) (hg : goodB t = false) : txE (txB t) = 2 := by
  obtain ⟨ins, outs, un⟩ := t
  have f1 : ins.length ≤ 1000 := hf.1
  have f2 : outs.length ≤ 1000 := hf.2.1
  have f3 : ∀ i ∈ ins, i.2.1.length ≤ 10000 := hf.2.2
  have e : txB (ins, outs, un) = countB ins.length ++ (ins.flatMap inB ++ (countB outs.length ++ outs.flatMap outB)) := by simp [txB]
  have key : (txO (txB (ins, outs, un), 0)).2.2 = 2 := by
    by_cases h1 : 32 < ins.length
    · refine txO_keep (by decide) ?_
      unfold txI
      rw [e]
      exact many_keep (fun _ h => inR_keep (by decide) h) _ (cnt_long _ _ h1 (by omega) _)
    have c1 := cnt_fwd ins.length 32 (by omega) (by omega) (ins.flatMap inB ++ (countB outs.length ++ outs.flatMap outB))
    by_cases h2 : ∃ i ∈ ins, 100 < i.2.1.length
    · refine txO_keep (by decide) ?_
      unfold txI
      rw [e, c1]
      exact many_long ins _ ht.ins (fun i hi => by have := f3 i hi; omega) h2
    · have h3 : 32 < outs.length := by
        have ha : (ins.all fun i => decide (i.2.1.length ≤ 100)) = true := by
          rw [List.all_eq_true]
          intro i hi
          rw [decide_eq_true_eq]
          exact Nat.le_of_not_lt (fun h => h2 ⟨i, hi, h⟩)
        simp only [goodB, ha, Bool.true_and, Bool.and_eq_false_iff, decide_eq_false_iff_not] at hg
        omega
      have m1 := many_fwd (f := inR) (g := inB) ins (countB outs.length ++ outs.flatMap outB) (fun i hi r => inR_fwd i (ht.ins i hi) (Nat.le_of_not_lt (fun h => h2 ⟨i, hi, h⟩)) r)
      have i1 : txI (txB (ins, outs, un), 0) = (ins, (countB outs.length ++ outs.flatMap outB, 0)) := by
        unfold txI
        rw [e, c1]
        exact m1
      unfold txO
      rw [i1]
      exact many_keep (fun _ h => outR_keep (by decide) h) _ (cnt_long _ _ h3 (by omega) _)
  rw [txE, txR_2, key]
  exact endS_two
/-- what may be read again is read -/
theorem txE_good (t : TxT) (ht : TxOk t) (hg : goodB t = true) : txE (txB t) = 0 ∧ txR (txB t, 0) = (t, ([], 0)) := by
  simp only [goodB, Bool.and_eq_true, decide_eq_true_eq, List.all_eq_true] at hg
  obtain ⟨h1, h2⟩ := txE_fwd t ht hg.1.2 hg.2 hg.1.1
  exact ⟨h2, h1⟩
/-- what lies in memory -/
theorem ins_ok {w : World} {ok : Nat → Prop} {A : Option Addr} {n c : Nat} {ins : List InT} (h : insSh.rel w ok [.slice A n c] ins) : ∀ i ∈ ins, InOk i := by
  intro i hi
  obtain ⟨j, hj, rfl⟩ := List.getElem_of_mem hi
  obtain ⟨b, o, id, ix, key, v, _, _, e, _, _, hid, hix⟩ := ins_at h hj
  rw [e]
  exact ⟨hid, Int.natCast_nonneg _, by simp only; omega⟩
theorem outs_ok {w : World} {ok : Nat → Prop} {A : Option Addr} {n c : Nat} {outs : List OutT} (h : outsSh.rel w ok [.slice A n c] outs) : ∀ o ∈ outs, OutOk o := by
  intro i hi
  obtain ⟨j, hj, rfl⟩ := List.getElem_of_mem hi
  obtain ⟨b, o, amt, lock, _, _, e, _, hl, h1, h2⟩ := outs_at h hj
  rw [e]
  exact ⟨hl, h1, h2⟩
theorem tx_ok {w : World} {ok : Nat → Prop} {A A' : Option Addr} {n c n' c' : Nat} {ins : List InT} {outs : List OutT} (hi : insSh.rel w ok [.slice A n c] ins) (ho : outsSh.rel w ok [.slice A' n' c'] outs) : TxOk (ins, outs, ()) := ⟨ins_ok hi, outs_ok ho⟩
end Go.Proofs.Ytpcombaecbjmfaa
