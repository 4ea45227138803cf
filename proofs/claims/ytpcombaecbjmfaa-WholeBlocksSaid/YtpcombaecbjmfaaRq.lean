/- Plainly: bytes that are read as a transaction or a block without an error are that one's bytes; and whatever is written is read as it was. No walk here. -/
import Derived.Test.YtpcombaecbjmfaaRp
import Derived.Test.YtpcombaecbjmfaaTw
import Derived.Test.YtpcombaecbjmfaaPa
namespace Go.Proofs.Ytpcombaecbjmfaa
open Go.RowKit
/-! ### an error stays -/
theorem tk_bad {n : Int} {s : RS} (h : s.2 ≠ 0) : (tk n s).2 ≠ 0 := by
  show rawE s.1 s.2 n ≠ 0
  unfold rawE errOf
  by_cases hc : n < 0 ∨ (s.1.length : Int) < n
  · rw [if_pos hc, if_neg h]; exact h
  · rw [if_neg hc]; exact h
theorem rawE_bad {l : List UInt8} {e n : Int} (h : e ≠ 0) : rawE l e n ≠ 0 := tk_bad (s := (l, e)) h
theorem cHead_bad {l : List UInt8} {e : Int} (h : e ≠ 0) : (cHead l e).2.2.2 ≠ 0 := by
  unfold cHead
  split
  · exact rawE_bad (rawE_bad h)
  · split
    · exact rawE_bad (rawE_bad h)
    · split
      · exact rawE_bad (rawE_bad h)
      · exact rawE_bad h
theorem cnt_bad {n : Nat} {s : RS} (h : s.2 ≠ 0) : (cnt n s).2.2 ≠ 0 := by
  show (rcountS s.1 s.2 n).2.2 ≠ 0
  have hc := cHead_bad (l := s.1) h
  unfold rcountS
  generalize cHead s.1 s.2 = x at hc
  obtain ⟨m, least, l, e⟩ := x
  simp only [cEnd] at hc ⊢
  rw [if_pos hc]
  exact hc
theorem inR_bad {s : RS} (h : s.2 ≠ 0) : (inR s).2.2 ≠ 0 := by rw [inR_2]; exact tk_bad (cnt_bad (tk_bad (tk_bad h)))
theorem outR_bad {s : RS} (h : s.2 ≠ 0) : (outR s).2.2 ≠ 0 := tk_bad (tk_bad h)
theorem many_bad {α : Type} {f : RS → α × RS} (hf : ∀ s : RS, s.2 ≠ 0 → (f s).2.2 ≠ 0) (n : Nat) {s : RS} (h : s.2 ≠ 0) : (many f n s).2.2 ≠ 0 := by
  induction n with
  | zero => exact h
  | succ n ih => exact hf _ ih
/-! ### back: without an error what was read was there -/
theorem tk_back {n : Nat} {s : RS} (h : (tk (n : Int) s).2 = 0) : s.2 = 0 ∧ s.1 = rawO s.1 n ++ (tk (n : Int) s).1 ∧ (rawO s.1 n).length = n := by
  have h0 : s.2 = 0 := Classical.byContradiction fun hc => tk_bad hc h
  have hl : n ≤ s.1.length := by
    rcases Nat.lt_or_ge s.1.length n with hlt | hge
    · exfalso
      have := (raw_bad s.1 n hlt s.2).2.2
      have e : (tk (n : Int) s).2 = errOf s.2 6 := this
      rw [e, h0] at h
      simp [errOf] at h
    · exact hge
  obtain ⟨h1, h2, h3⟩ := raw_parts s.1 n hl s.2
  refine ⟨h0, ?_, ?_⟩
  · show s.1 = rawO s.1 n ++ rawL s.1 n
    rw [h1, h2, List.take_append_drop]
  · rw [h1, List.length_take]; omega
theorem cnt_back {m : Nat} {s : RS} (h : (cnt m s).2.2 = 0) : s.2 = 0 ∧ s.1 = countB (cnt m s).1 ++ (cnt m s).2.1 ∧ (cnt m s).1 < 18446744073709551616 := by
  have h0 : s.2 = 0 := Classical.byContradiction fun hc => cnt_bad hc h
  obtain ⟨l, e⟩ := s
  simp only at h0
  subst h0
  exact ⟨rfl, (rcountS_one l m).2 h⟩
theorem num_back (l : List UInt8) (k : Nat) (hk : k ≤ 8) (hl : (rawO l k).length = k) : les k (numOf (rawO l k)) = rawO l k := by
  have hle : k ≤ l.length := by
    rcases Nat.lt_or_ge l.length k with hlt | hge
    · rw [(raw_bad l k hlt 0).1] at hl
      simp at hl
      omega
    · exact hge
  rw [(raw_parts l k hle 0).1]
  exact numOf_take l k hk hle
theorem idS_full (o : List UInt8) (h : o.length = 32) : idS o = o := by
  unfold idS
  rw [List.take_of_length_le (by omega), h]
  simp
theorem textS_1 (l : List UInt8) (e : Int) : (textS l e 100).1 = rawO (cnt 100 (l, e)).2.1 ((cnt 100 (l, e)).1 : Nat) := by
  rw [show (100 : Int) = ((100 : Nat) : Int) from rfl]
  unfold textS
  rw [Int.toNat_natCast]
  rfl
theorem inR_1 (s : RS) : (inR s).1 = ((idS (rawO s.1 32), ((numOf (rawO (tk 32 s).1 4) : Nat) : Int), ()), rawO (cnt 100 (tk 4 (tk 32 s))).2.1 ((cnt 100 (tk 4 (tk 32 s))).1 : Nat), ()) := by
  rw [inR]
  simp only [textS_1]
theorem inR_back {s : RS} (h : (inR s).2.2 = 0) : s.2 = 0 ∧ s.1 = inB (inR s).1 ++ (inR s).2.1 := by
  rw [inR_2] at h
  rw [inR_2, inR_1]
  obtain ⟨a, ha⟩ : ∃ a, tk 32 s = a := ⟨_, rfl⟩
  rw [ha] at h ⊢
  obtain ⟨b, hb⟩ : ∃ b, tk 4 a = b := ⟨_, rfl⟩
  rw [hb] at h ⊢
  obtain ⟨c, hc⟩ : ∃ c, cnt 100 b = c := ⟨_, rfl⟩
  rw [hc] at h ⊢
  obtain ⟨c1, c2, c3⟩ := tk_back h
  obtain ⟨d1, d2, _⟩ := cnt_back (m := 100) (s := b) (by rw [hc]; exact c1)
  obtain ⟨b1, b2, b3⟩ := tk_back (n := 4) (s := a) (by rw [show tk ((4 : Nat) : Int) a = tk 4 a from rfl, hb]; exact d1)
  obtain ⟨a1, a2, a3⟩ := tk_back (n := 32) (s := s) (by rw [show tk ((32 : Nat) : Int) s = tk 32 s from rfl, ha]; exact b1)
  rw [show tk ((32 : Nat) : Int) s = tk 32 s from rfl, ha] at a2
  rw [show tk ((4 : Nat) : Int) a = tk 4 a from rfl, hb] at b2
  rw [hc] at d2
  refine ⟨a1, ?_⟩
  have hid := idS_full _ a3
  have hnum := num_back a.1 4 (by omega) b3
  rw [show ((32 : Nat) : Int) = 32 from rfl] at a2 hid
  rw [show ((4 : Nat) : Int) = 4 from rfl] at b2 hnum
  obtain ⟨x, hx⟩ : ∃ x, rawO s.1 32 = x := ⟨_, rfl⟩
  obtain ⟨y, hy⟩ : ∃ y, rawO a.1 4 = y := ⟨_, rfl⟩
  obtain ⟨z, hz⟩ : ∃ z, rawO c.2.1 ((c.1 : Nat) : Int) = z := ⟨_, rfl⟩
  rw [hx] at a2 hid ⊢
  rw [hy] at b2 hnum ⊢
  rw [hz] at c2 c3 ⊢
  rw [hid]
  unfold inB
  simp only [Int.toNat_natCast, hnum, c3]
  conv => lhs; rw [a2, b2, d2, c2]
  simp only [List.append_assoc]
theorem u64n_wrap (n : Nat) (h : n < 18446744073709551616) : u64n (IntKind.i64.wrap (n : Int)) = n := by
  unfold u64n
  rw [IntKind.wrap_i64]
  omega
theorem outR_1 (s : RS) : (outR s).1 = (IntKind.i64.wrap ((numOf (rawO s.1 8) : Nat) : Int), idS (rawO (tk 8 s).1 32), ()) := by rw [outR]
theorem outR_2 (s : RS) : (outR s).2 = tk 32 (tk 8 s) := by rw [outR]
theorem outR_back {s : RS} (h : (outR s).2.2 = 0) : s.2 = 0 ∧ s.1 = outB (outR s).1 ++ (outR s).2.1 := by
  rw [outR_2] at h
  rw [outR_2, outR_1]
  obtain ⟨a, ha⟩ : ∃ a, tk 8 s = a := ⟨_, rfl⟩
  rw [ha] at h ⊢
  obtain ⟨b1, b2, b3⟩ := tk_back (n := 32) (s := a) h
  obtain ⟨a1, a2, a3⟩ := tk_back (n := 8) (s := s) (by rw [show tk ((8 : Nat) : Int) s = tk 8 s from rfl, ha]; exact b1)
  rw [show tk ((8 : Nat) : Int) s = tk 8 s from rfl, ha] at a2
  refine ⟨a1, ?_⟩
  have hid := idS_full _ b3
  have hnum := num_back s.1 8 (by omega) a3
  have hlt : numOf (rawO s.1 8) < 18446744073709551616 := numOf_u64 _
  rw [show ((8 : Nat) : Int) = 8 from rfl] at a2 hnum
  rw [show ((32 : Nat) : Int) = 32 from rfl] at b2 hid
  obtain ⟨x, hx⟩ : ∃ x, rawO s.1 8 = x := ⟨_, rfl⟩
  obtain ⟨y, hy⟩ : ∃ y, rawO a.1 32 = y := ⟨_, rfl⟩
  rw [hx] at a2 hnum hlt ⊢
  rw [hy] at b2 hid ⊢
  rw [hid]
  unfold outB
  simp only [u64n_wrap _ hlt, hnum]
  conv => lhs; rw [a2, b2]
  simp only [List.append_assoc]
theorem many_back {α : Type} {f : RS → α × RS} {g : α → List UInt8} (hf : ∀ s : RS, (f s).2.2 = 0 → s.2 = 0 ∧ s.1 = g (f s).1 ++ (f s).2.1) (n : Nat) {s : RS} (h : (many f n s).2.2 = 0) :
    s.2 = 0 ∧ s.1 = (many f n s).1.flatMap g ++ (many f n s).2.1 := by
  induction n with
  | zero => exact ⟨h, rfl⟩
  | succ n ih =>
    obtain ⟨h1, h2⟩ := hf _ h
    obtain ⟨h3, h4⟩ := ih h1
    refine ⟨h3, ?_⟩
    conv => lhs; rw [h4, h2]
    simp only [many, List.flatMap_append, List.append_assoc]
    simp
theorem txR_back {s : RS} (h : (txR s).2.2 = 0) : s.2 = 0 ∧ s.1 = txB (txR s).1 ++ (txR s).2.1 := by
  rw [txR_2] at h ⊢
  have h0 := h
  unfold txO at h0
  obtain ⟨o1, o2⟩ := many_back (fun _ h => outR_back h) _ h0
  obtain ⟨c1, c2, _⟩ := cnt_back o1
  have h1 := c1
  unfold txI at h1
  obtain ⟨i1, i2⟩ := many_back (fun _ h => inR_back h) _ h1
  obtain ⟨d1, d2, _⟩ := cnt_back i1
  refine ⟨d1, ?_⟩
  have e1 : (txR s).1.1 = (txI s).1 := by simp only [txR]
  have e2 : (txR s).1.2.1 = (txO s).1 := by simp only [txR]
  have l1 : (txI s).1.length = (cnt 32 s).1 := by unfold txI; exact many_len _ _ _
  have l2 : (txO s).1.length = (cnt 32 (txI s).2).1 := by unfold txO; exact many_len _ _ _
  rw [txB, e1, e2, l1, l2]
  have q1 : (cnt 32 s).2.1 = (txI s).1.flatMap inB ++ (txI s).2.1 := by unfold txI; exact i2
  have q2 : (cnt 32 (txI s).2).2.1 = (txO s).1.flatMap outB ++ (txO s).2.1 := by unfold txO; exact o2
  conv => lhs; rw [d2, q1, c2, q2]
  simp only [List.append_assoc]
theorem endS_zero {l : List UInt8} {e : Int} (h : endS l e = 0) : e = 0 ∧ l = [] := by
  unfold endS at h
  by_cases hc : e = 0 ∧ l ≠ []
  · rw [if_pos hc] at h; cases h
  · rw [if_neg hc] at h
    refine ⟨h, Classical.byContradiction fun hl => hc ⟨h, hl⟩⟩
/-- bytes that are a transaction -/
theorem txE_zero {l : List UInt8} (h : txE l = 0) : l = txB (txR (l, 0)).1 := by
  obtain ⟨h1, h2⟩ := endS_zero h
  obtain ⟨_, h3⟩ := txR_back h1
  rw [h2, List.append_nil] at h3
  exact h3
end Go.Proofs.Ytpcombaecbjmfaa
