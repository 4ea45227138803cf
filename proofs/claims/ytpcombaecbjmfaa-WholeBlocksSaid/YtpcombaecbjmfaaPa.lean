/- Plain laws of numbers and bytes: what is written as a count is read as one. No walk here. -/
import Derived.Test.YtpcombaecbjmfaaWh
namespace Go.Proofs.Ytpcombaecbjmfaa
open Go.RowKit

theorem countB_length' (n : Nat) : (countB n).length = if n < 253 then 1 else if n < 65536 then 3 else if n < 4294967296 then 5 else 9 := by
  unfold countB
  split
  · simp [les]
  · split
    · simp [les]
    · split <;> simp [les]
theorem rawO_app (a r : List UInt8) (n : Int) (h : n = (a.length : Int)) : rawO (a ++ r) n = a := by
  subst h
  rw [rawO, if_neg (by simp; omega)]
  simp
theorem rawL_app (a r : List UInt8) (n : Int) (h : n = (a.length : Int)) : rawL (a ++ r) n = r := by
  subst h
  rw [rawL, if_neg (by simp; omega)]
  simp
theorem rawE_app (a r : List UInt8) (e n : Int) (h : n = (a.length : Int)) : rawE (a ++ r) e n = e := by
  subst h
  rw [rawE, if_neg (by simp; omega)]
theorem leb_toNat (n i : Nat) : (leb n i).toNat = n / 256 ^ i % 256 := by unfold leb; rw [UInt8.toNat_ofNat']
theorem les_length (k n : Nat) : (les k n).length = k := by simp [les]
theorem ofLE_les (k n : Nat) : ofLE (les k n) = n % 256 ^ k := by
  induction k with
  | zero => simp [les, ofLE, Nat.mod_one]
  | succ k ih =>
    rw [les_succ, ofLE_snoc, ih, les_length, leb_toNat, Nat.pow_succ, Nat.mod_mul, Nat.mul_comm (256 ^ k)]
theorem numOf_les (k n : Nat) (h : k ≤ 8) : numOf (les k n) = n % 256 ^ k := by
  unfold numOf
  rw [List.take_of_length_le (by rw [les_length]; exact h), ofLE_les]
theorem les_cons (k n : Nat) : les (k + 1) n = UInt8.ofNat n :: les k (n / 256) := by
  induction k generalizing n with
  | zero => simp [les, leb, List.range_succ]
  | succ k ih =>
    rw [les_succ, ih, les_succ k (n / 256)]
    simp only [List.cons_append, List.cons.injEq, true_and]
    congr 2
    unfold leb
    rw [Nat.pow_succ, Nat.mul_comm, Nat.div_div_eq_div_mul]
theorem les_ofLE (l : List UInt8) : les l.length (ofLE l) = l := by
  induction l with
  | nil => rfl
  | cons b l ih =>
    rw [List.length_cons, les_cons, ofLE]
    have h1 : (b.toNat + 256 * ofLE l) / 256 = ofLE l := by have := b.toNat_lt; omega
    rw [h1, ih]
    congr 1
    apply UInt8.toNat_inj.1
    rw [UInt8.toNat_ofNat']
    have := b.toNat_lt
    omega
theorem numOf_one (b : UInt8) : numOf [b] = b.toNat := by simp [numOf, ofLE]

/-- a count is read as it was written -/
theorem cHead_small (n : Nat) (h : n < 253) (r : List UInt8) (e : Int) : cHead (les 1 n ++ r) e = (n, 0, r, e) := by
  have h1 : numOf (rawO (les 1 n ++ r) 1) = n := by rw [rawO_app _ _ _ (by simp [les]), numOf_les _ _ (by omega)]; omega
  rw [cHead, h1, if_neg (by omega), if_neg (by omega), if_neg (by omega), rawL_app _ _ _ (by simp [les]), rawE_app _ _ _ _ (by simp [les])]
theorem cHead_mark (m : UInt8) (c : List UInt8) (r : List UInt8) (e : Int) : numOf (rawO (m :: c ++ r) 1) = m.toNat ∧ rawL (m :: c ++ r) 1 = c ++ r ∧ rawE (m :: c ++ r) e 1 = e := by
  have h : m :: c ++ r = [m] ++ (c ++ r) := rfl
  rw [h, rawO_app _ _ _ (by simp), rawL_app _ _ _ (by simp), rawE_app _ _ _ _ (by simp), numOf_one]
  exact ⟨rfl, rfl, rfl⟩
theorem cHead_countB (n : Nat) (hn : n < 18446744073709551616) (r : List UInt8) (e : Int) : ∃ least, least ≤ n ∧ cHead (countB n ++ r) e = (n, least, r, e) := by
  unfold countB
  split
  · rename_i h
    exact ⟨0, by omega, cHead_small n h r e⟩
  · rename_i h1
    split
    · rename_i h
      obtain ⟨a1, a2, a3⟩ := cHead_mark 253 (les 2 n) r e
      refine ⟨253, by omega, ?_⟩
      rw [cHead, a1, if_pos (by decide), a2, a3, rawO_app _ _ _ (by simp [les]), rawL_app _ _ _ (by simp [les]), rawE_app _ _ _ _ (by simp [les]), numOf_les _ _ (by omega), Nat.mod_eq_of_lt (by omega)]
    · rename_i h2
      split
      · rename_i h
        obtain ⟨a1, a2, a3⟩ := cHead_mark 254 (les 4 n) r e
        refine ⟨65536, by omega, ?_⟩
        rw [cHead, a1, if_neg (by decide), if_pos (by decide), a2, a3, rawO_app _ _ _ (by simp [les]), rawL_app _ _ _ (by simp [les]), rawE_app _ _ _ _ (by simp [les]), numOf_les _ _ (by omega), Nat.mod_eq_of_lt (by omega)]
      · rename_i h3
        obtain ⟨a1, a2, a3⟩ := cHead_mark 255 (les 8 n) r e
        refine ⟨4294967296, by omega, ?_⟩
        rw [cHead, a1, if_neg (by decide), if_neg (by decide), if_pos (by decide), a2, a3, rawO_app _ _ _ (by simp [les]), rawL_app _ _ _ (by simp [les]), rawE_app _ _ _ _ (by simp [les]), numOf_les _ _ (by omega), Nat.mod_eq_of_lt (by omega)]
theorem rcountS_countB (n most : Nat) (hn : n < 18446744073709551616) (r : List UInt8) (e : Int) : rcountS (countB n ++ r) e most = if e ≠ 0 then (0, r, e) else if most < n then (0, [], 2) else (n, r, 0) := by
  obtain ⟨least, h1, h2⟩ := cHead_countB n hn r e
  rw [rcountS, h2, cEnd]
  by_cases he : e = 0
  · subst he
    have h3 : ¬ ((0 : Int) ≠ 0) := by simp
    have h4 : ¬ n < least := by omega
    by_cases h5 : most < n
    · simp only [if_neg h3, if_neg h4, if_pos h5]
      rfl
    · simp only [if_neg h3, if_neg h4, if_neg h5]
  · simp only [if_pos he]

theorem raw_parts (l : List UInt8) (n : Nat) (h : n ≤ l.length) (e : Int) : rawO l n = l.take n ∧ rawL l n = l.drop n ∧ rawE l e n = e := by
  have hn : ¬ ((n : Int) < 0 ∨ (l.length : Int) < n) := by omega
  rw [rawO, rawL, rawE, if_neg hn, if_neg hn, if_neg hn]
  exact ⟨rfl, rfl, rfl⟩
theorem raw_bad (l : List UInt8) (n : Nat) (h : l.length < n) (e : Int) : rawO l n = [] ∧ rawL l n = [] ∧ rawE l e n = errOf e 6 := by
  have hn : ((n : Int) < 0 ∨ (l.length : Int) < n) := by omega
  rw [rawO, rawL, rawE, if_pos hn, if_pos hn, if_pos hn]
  exact ⟨rfl, rfl, rfl⟩
theorem numOf_take (l : List UInt8) (k : Nat) (hk : k ≤ 8) (h : k ≤ l.length) : les k (numOf (l.take k)) = l.take k := by
  have hl : (l.take k).length = k := by rw [List.length_take]; omega
  have := les_ofLE (l.take k)
  rw [hl] at this
  unfold numOf
  rw [List.take_of_length_le (by omega)]
  exact this
/-- whatever is read as a count is one, written in its least form; behind an error nothing is left -/
theorem rcountS_one (l : List UInt8) (most : Nat) : ((rcountS l 0 most).2.2 ≠ 0 → (rcountS l 0 most).1 = 0 ∧ (rcountS l 0 most).2.1 = []) ∧
    ((rcountS l 0 most).2.2 = 0 → l = countB (rcountS l 0 most).1 ++ (rcountS l 0 most).2.1 ∧ (rcountS l 0 most).1 < 18446744073709551616) := by
  have key : ∀ (n least : Nat) (l2 : List UInt8) (e2 : Int), cHead l 0 = (n, least, l2, e2) → (e2 ≠ 0 → l2 = []) → (e2 = 0 → ¬ n < least → l = countB n ++ l2 ∧ n < 18446744073709551616) →
      ((rcountS l 0 most).2.2 ≠ 0 → (rcountS l 0 most).1 = 0 ∧ (rcountS l 0 most).2.1 = []) ∧
      ((rcountS l 0 most).2.2 = 0 → l = countB (rcountS l 0 most).1 ++ (rcountS l 0 most).2.1 ∧ (rcountS l 0 most).1 < 18446744073709551616) := by
    intro n least l2 e2 hc hz ho
    rw [rcountS, hc, cEnd]
    by_cases he : e2 = 0
    · subst he
      rw [if_neg (by simp)]
      by_cases h1 : n < least
      · rw [if_pos h1]; simp [errOf]
      · rw [if_neg h1]
        by_cases h2 : most < n
        · rw [if_pos h2]; simp [errOf]
        · rw [if_neg h2]
          exact ⟨fun h => absurd rfl h, fun _ => ho rfl h1⟩
    · rw [if_pos he]
      exact ⟨fun _ => ⟨rfl, hz he⟩, fun h => absurd h he⟩
  match l with
  | [] =>
    refine key 0 0 [] 6 (by decide) (fun _ => rfl) (fun h => absurd h (by decide))
  | m :: c =>
    obtain ⟨a1, a2, a3⟩ := cHead_mark m c [] 0
    simp only [List.append_nil] at a1 a2 a3
    have mid : ∀ (k : Nat) (mark least : Nat), k ≤ 8 → m.toNat = mark → (k ≤ c.length → (mark = 253 ∧ k = 2 ∧ least = 253 ∨ mark = 254 ∧ k = 4 ∧ least = 65536 ∨ mark = 255 ∧ k = 8 ∧ least = 4294967296)) →
        cHead (m :: c) 0 = (numOf (rawO c k), least, rawL c k, rawE c 0 k) → ((rcountS (m :: c) 0 most).2.2 ≠ 0 → (rcountS (m :: c) 0 most).1 = 0 ∧ (rcountS (m :: c) 0 most).2.1 = []) ∧
      ((rcountS (m :: c) 0 most).2.2 = 0 → (m :: c) = countB (rcountS (m :: c) 0 most).1 ++ (rcountS (m :: c) 0 most).2.1 ∧ (rcountS (m :: c) 0 most).1 < 18446744073709551616) := by
      intro k mark least hk8 hm hks hc
      by_cases hk : k ≤ c.length
      · obtain ⟨b1, b2, b3⟩ := raw_parts c k hk 0
        rw [b1, b2, b3] at hc
        refine key _ _ _ _ hc (fun h => absurd rfl h) (fun _ hl => ?_)
        have hn := numOf_take c k hk8 hk
        have hlt := numOf_lt c k hk8
        have hu := numOf_u64 (c.take k)
        refine ⟨?_, hu⟩
        have hm2 : ∀ x : UInt8, x.toNat = mark → m = x := fun x hx => UInt8.toNat_inj.1 (by rw [hm, hx])
        generalize numOf (c.take k) = n at *
        have hcn : c = les k n ++ c.drop k := by rw [hn, List.take_append_drop]
        rcases hks hk with ⟨rfl, rfl, rfl⟩ | ⟨rfl, rfl, rfl⟩ | ⟨rfl, rfl, rfl⟩
        · rw [countB, if_neg (by omega), if_pos (by omega), hm2 253 rfl]
          conv => lhs; rw [hcn]
          rfl
        · rw [countB, if_neg (by omega), if_neg (by omega), if_pos (by omega), hm2 254 rfl]
          conv => lhs; rw [hcn]
          rfl
        · rw [countB, if_neg (by omega), if_neg (by omega), if_neg (by omega), hm2 255 rfl]
          conv => lhs; rw [hcn]
          rfl
      · obtain ⟨b1, b2, b3⟩ := raw_bad c k (by omega) 0
        rw [b1, b2, b3] at hc
        exact key _ _ _ _ hc (fun _ => rfl) (fun h => absurd h (by decide))
    have hc0 : cHead (m :: c) 0 = if m.toNat = 253 then (numOf (rawO c 2), 253, rawL c 2, rawE c 0 2) else if m.toNat = 254 then (numOf (rawO c 4), 65536, rawL c 4, rawE c 0 4) else if m.toNat = 255 then (numOf (rawO c 8), 4294967296, rawL c 8, rawE c 0 8) else (m.toNat, 0, c, 0) := by
      rw [cHead, a1, a2, a3]
    by_cases h1 : m.toNat = 253
    · rw [if_pos h1] at hc0
      exact mid 2 253 253 (by omega) h1 (fun _ => .inl ⟨rfl, rfl, rfl⟩) hc0
    · rw [if_neg h1] at hc0
      by_cases h2 : m.toNat = 254
      · rw [if_pos h2] at hc0
        exact mid 4 254 65536 (by omega) h2 (fun _ => .inr (.inl ⟨rfl, rfl, rfl⟩)) hc0
      · rw [if_neg h2] at hc0
        by_cases h3 : m.toNat = 255
        · rw [if_pos h3] at hc0
          exact mid 8 255 4294967296 (by omega) h3 (fun _ => .inr (.inr ⟨rfl, rfl, rfl⟩)) hc0
        · rw [if_neg h3] at hc0
          have := m.toNat_lt
          refine key _ _ _ _ hc0 (fun h => absurd rfl h) (fun _ _ => ⟨?_, by omega⟩)
          rw [countB, if_pos (by omega)]
          simp [les, leb, List.range_succ]
end Go.Proofs.Ytpcombaecbjmfaa
