/- Plainly: what stands behind the bytes that are read does not change what is read; blocks back and forth. No walk here. -/
import Derived.Test.YtpcombaecbjmfaaSm
import Derived.Test.YtpcombaecbjmfaaRk
namespace Go.Proofs.Ytpcombaecbjmfaa
open Go.RowKit
theorem tk_app {n : Nat} {s : RS} (h : (tk (n : Int) s).2 = 0) (x : List UInt8) : rawO (s.1 ++ x) n = rawO s.1 n ∧ tk (n : Int) (s.1 ++ x, s.2) = ((tk (n : Int) s).1 ++ x, 0) := by
  obtain ⟨h0, h2, h3⟩ := tk_back h
  have e : s.1 ++ x = rawO s.1 n ++ ((tk (n : Int) s).1 ++ x) := by rw [← List.append_assoc, ← h2]
  have e1 := rawO_app (rawO s.1 n) ((tk (n : Int) s).1 ++ x) n (by rw [h3])
  have e2 := tk_fwd (rawO s.1 n) ((tk (n : Int) s).1 ++ x) 0 n (by rw [h3])
  rw [← e] at e1 e2
  exact ⟨e1, by rw [h0]; exact e2⟩
theorem cnt_app {m : Nat} {s : RS} (h : (cnt m s).2.2 = 0) (x : List UInt8) : cnt m (s.1 ++ x, s.2) = ((cnt m s).1, ((cnt m s).2.1 ++ x, 0)) := by
  obtain ⟨h0, h2, h3⟩ := cnt_back h
  have e := cnt_fwd (cnt m s).1 m (cnt_le _ _) h3 ((cnt m s).2.1 ++ x)
  rw [← List.append_assoc, ← h2] at e
  rw [h0]
  exact e
theorem inR_app {s : RS} (h : (inR s).2.2 = 0) (x : List UInt8) : inR (s.1 ++ x, s.2) = ((inR s).1, ((inR s).2.1 ++ x, 0)) := by
  rw [inR_2] at h
  obtain ⟨a, ha⟩ : ∃ a, tk 32 s = a := ⟨_, rfl⟩
  obtain ⟨b, hb⟩ : ∃ b, tk 4 a = b := ⟨_, rfl⟩
  obtain ⟨c, hc⟩ : ∃ c, cnt 100 b = c := ⟨_, rfl⟩
  rw [ha, hb, hc] at h
  have c1 := (tk_back h).1
  have hc0 : (cnt 100 b).2.2 = 0 := by rw [hc]; exact c1
  have b1 := (cnt_back hc0).1
  have hb0 : (tk ((4 : Nat) : Int) a).2 = 0 := by rw [show tk ((4 : Nat) : Int) a = tk 4 a from rfl, hb]; exact b1
  have a1 := (tk_back hb0).1
  have ha0 : (tk ((32 : Nat) : Int) s).2 = 0 := by rw [show tk ((32 : Nat) : Int) s = tk 32 s from rfl, ha]; exact a1
  obtain ⟨p1, p2⟩ := tk_app ha0 x
  obtain ⟨q1, q2⟩ := tk_app hb0 x
  have r1 := cnt_app hc0 x
  obtain ⟨t1, t2⟩ := tk_app h x
  rw [show tk ((32 : Nat) : Int) (s.1 ++ x, s.2) = tk 32 (s.1 ++ x, s.2) from rfl, show tk ((32 : Nat) : Int) s = tk 32 s from rfl, ha, ← a1] at p2
  rw [show tk ((4 : Nat) : Int) (a.1 ++ x, a.2) = tk 4 (a.1 ++ x, a.2) from rfl, show tk ((4 : Nat) : Int) a = tk 4 a from rfl, hb, ← b1] at q2
  rw [hc, ← c1] at r1
  refine Prod.ext ?_ ?_
  · rw [inR_1, inR_1]
    simp only [p2, q2, r1, ha, hb, hc]
    rw [show rawO (s.1 ++ x) 32 = rawO s.1 32 from p1, show rawO (a.1 ++ x) 4 = rawO a.1 4 from q1, t1]
  · rw [inR_2, inR_2, p2, q2, r1, ha, hb, hc]
    exact t2
theorem outR_app {s : RS} (h : (outR s).2.2 = 0) (x : List UInt8) : outR (s.1 ++ x, s.2) = ((outR s).1, ((outR s).2.1 ++ x, 0)) := by
  rw [outR_2] at h
  obtain ⟨a, ha⟩ : ∃ a, tk 8 s = a := ⟨_, rfl⟩
  rw [ha] at h
  have hb0 : (tk ((32 : Nat) : Int) a).2 = 0 := h
  have a1 := (tk_back hb0).1
  have ha0 : (tk ((8 : Nat) : Int) s).2 = 0 := by rw [show tk ((8 : Nat) : Int) s = tk 8 s from rfl, ha]; exact a1
  obtain ⟨p1, p2⟩ := tk_app ha0 x
  obtain ⟨q1, q2⟩ := tk_app hb0 x
  rw [show tk ((8 : Nat) : Int) (s.1 ++ x, s.2) = tk 8 (s.1 ++ x, s.2) from rfl, show tk ((8 : Nat) : Int) s = tk 8 s from rfl, ha, ← a1] at p2
  refine Prod.ext ?_ ?_
  · rw [outR_1, outR_1]
    simp only [p2, ha]
    rw [show rawO (s.1 ++ x) 8 = rawO s.1 8 from p1, show rawO (a.1 ++ x) 32 = rawO a.1 32 from q1]
  · rw [outR_2, outR_2, p2, ha]
    exact q2
theorem many_app {α : Type} {f : RS → α × RS} (hb : ∀ s : RS, (f s).2.2 = 0 → s.2 = 0) (hf : ∀ (s : RS) (x : List UInt8), (f s).2.2 = 0 → f (s.1 ++ x, s.2) = ((f s).1, ((f s).2.1 ++ x, 0))) (n : Nat) {s : RS} (h : (many f n s).2.2 = 0) (x : List UInt8) :
    many f n (s.1 ++ x, s.2) = ((many f n s).1, ((many f n s).2.1 ++ x, 0)) := by
  induction n with
  | zero =>
    have h : s.2 = 0 := h
    simp only [many, h]
  | succ n ih =>
    have h1 : (f (many f n s).2).2.2 = 0 := h
    have h2 := hb _ h1
    have h3 := hf _ x h1
    rw [h2] at h3
    simp only [many, ih h2, h3]
theorem txI_app {s : RS} (h : (txI s).2.2 = 0) (x : List UInt8) : txI (s.1 ++ x, s.2) = ((txI s).1, ((txI s).2.1 ++ x, 0)) := by
  have h1 := h
  unfold txI at h1
  have c1 := (many_back (fun _ h => inR_back h) _ h1).1
  have e := cnt_app c1 x
  have m := many_app (f := inR) (fun _ h => (inR_back h).1) (fun _ x h => inR_app h x) _ h1 x
  rw [c1] at m
  unfold txI
  rw [e]
  exact m
theorem txO_app {s : RS} (h : (txO s).2.2 = 0) (x : List UInt8) : txO (s.1 ++ x, s.2) = ((txO s).1, ((txO s).2.1 ++ x, 0)) := by
  have h1 := h
  unfold txO at h1
  have c1 := (many_back (fun _ h => outR_back h) _ h1).1
  have i1 := (cnt_back c1).1
  have i2 := txI_app i1 x
  have e := cnt_app c1 x
  have m := many_app (f := outR) (fun _ h => (outR_back h).1) (fun _ x h => outR_app h x) _ h1 x
  rw [c1] at m
  rw [i1] at e
  unfold txO
  rw [i2]
  simp only [e]
  exact m
theorem txR_app {s : RS} (h : (txR s).2.2 = 0) (x : List UInt8) : txR (s.1 ++ x, s.2) = ((txR s).1, ((txR s).2.1 ++ x, 0)) := by
  rw [txR_2] at h
  have o := txO_app h x
  have h1 := h
  unfold txO at h1
  have i1 := (cnt_back (many_back (fun _ h => outR_back h) _ h1).1).1
  have i := txI_app i1 x
  simp only [txR, o, i]
theorem blkR_app {s : RS} (h : (blkR s).2.2 = 0) (x : List UInt8) : blkR (s.1 ++ x, s.2) = ((blkR s).1, ((blkR s).2.1 ++ x, 0)) := by
  have h1 := h
  unfold blkR at h1
  have c1 := (many_back (fun _ h => txR_back h) _ h1).1
  have t1 : (tk ((80 : Nat) : Int) s).2 = 0 := (cnt_back c1).1
  obtain ⟨_, t2⟩ := tk_app t1 x
  have e := cnt_app c1 x
  have m := many_app (f := txR) (fun _ h => (txR_back h).1) (fun _ x h => txR_app h x) _ h1 x
  rw [c1] at m
  rw [show (tk 80 s).2 = 0 from t1] at e
  unfold blkR
  rw [show tk 80 (s.1 ++ x, s.2) = ((tk 80 s).1 ++ x, 0) from t2, e]
  exact m
theorem goodB_of {t : TxT} (h : goodB t = true) : t.1.length ≤ 32 ∧ t.2.1.length ≤ 32 ∧ ∀ i ∈ t.1, i.2.1.length ≤ 100 := by
  simp only [goodB, Bool.and_eq_true, decide_eq_true_eq, List.all_eq_true] at h
  exact ⟨h.1.2, h.2, h.1.1⟩
/-- a block's bytes are read as its transactions -/
theorem blkR_fwd (hd : List UInt8) (T : List TxT) (h80 : hd.length = 80) (hT : T.length ≤ 32) (hok : ∀ t ∈ T, TxOk t) (hg : ∀ t ∈ T, goodB t = true) (r : List UInt8) :
    blkR (hd ++ (countB T.length ++ T.flatMap txB) ++ r, 0) = (T, (r, 0)) := by
  have t1 := tk_fwd hd (countB T.length ++ (T.flatMap txB ++ r)) 0 80 (by rw [h80]; rfl)
  have c1 := cnt_fwd T.length 32 hT (by omega) (T.flatMap txB ++ r)
  have m1 := many_fwd (f := txR) (g := txB) T r (fun t ht r => txR_fwd t (hok t ht) (goodB_of (hg t ht)).1 (goodB_of (hg t ht)).2.1 (goodB_of (hg t ht)).2.2 r)
  unfold blkR
  rw [show hd ++ (countB T.length ++ T.flatMap txB) ++ r = hd ++ (countB T.length ++ (T.flatMap txB ++ r)) by simp, t1, c1]
  exact m1
theorem endS_more {l : List UInt8} (h : l ≠ []) : endS l 0 = 70 := by unfold endS; rw [if_pos ⟨rfl, h⟩]
theorem blkE_cut {x : List UInt8} {T : List TxT} (h : ∀ r, blkR (x ++ r, 0) = (T, (r, 0))) {cut : Nat} (hc : cut < x.length) : blkE (x.take cut) ≠ 0 := by
  intro h0
  unfold blkE at h0
  by_cases hb : 8192 < (x.take cut).length
  · rw [if_pos hb] at h0; cases h0
  rw [if_neg hb] at h0
  obtain ⟨h1, h2⟩ := endS_zero h0
  have e := blkR_app h1 (x.drop cut)
  simp only [List.take_append_drop] at e
  have e2 := h []
  rw [List.append_nil] at e2
  rw [e2, h2] at e
  have e3 := congrArg (fun y => y.2.1) e
  simp only [List.nil_append] at e3
  have e4 := congrArg List.length e3
  simp only [List.length_nil, List.length_drop] at e4
  omega
theorem blkE_more {x : List UInt8} {T : List TxT} (h : ∀ r, blkR (x ++ r, 0) = (T, (r, 0))) (m : UInt8) : blkE (x ++ [m]) ≠ 0 := by
  unfold blkE
  split
  · decide
  · rw [h [m], endS_more (by simp)]; decide
theorem txE_more {t : TxT} (ht : TxOk t) (hg : goodB t = true) (m : UInt8) : txE (txB t ++ [m]) = 70 := by
  obtain ⟨h1, h2, h3⟩ := goodB_of hg
  rw [txE, txR_fwd t ht h1 h2 h3 [m], endS_more (by simp)]
end Go.Proofs.Ytpcombaecbjmfaa
