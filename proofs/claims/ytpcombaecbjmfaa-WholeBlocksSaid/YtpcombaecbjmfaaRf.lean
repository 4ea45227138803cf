/- Plainly: a transaction's bytes are read as it. No walk here. -/
import Derived.Test.YtpcombaecbjmfaaRq
namespace Go.Proofs.Ytpcombaecbjmfaa
open Go.RowKit
structure InOk (i : InT) : Prop where
  id : i.1.1.length = 32
  lo : 0 ≤ i.1.2.1
  hi : i.1.2.1 < 4294967296
structure OutOk (o : OutT) : Prop where
  lock : o.2.1.length = 32
  lo : -9223372036854775808 ≤ o.1
  hi : o.1 < 9223372036854775808
/-- may a transaction be read again? -/
structure TxOk (t : TxT) : Prop where
  ins : ∀ i ∈ t.1, InOk i
  outs : ∀ o ∈ t.2.1, OutOk o
theorem tk_fwd (a r : List UInt8) (e n : Int) (h : n = (a.length : Int)) : tk n (a ++ r, e) = (r, e) := by
  unfold tk
  simp only [rawL_app a r n h, rawE_app a r e n h]
theorem cnt_fwd (n m : Nat) (h : n ≤ m) (hn : n < 18446744073709551616) (r : List UInt8) : cnt m (countB n ++ r, 0) = (n, (r, 0)) := by
  show rcountS (countB n ++ r) 0 m = _
  rw [rcountS_countB n m hn, if_neg (by simp), if_neg (by omega)]
theorem inR_fwd (i : InT) (hi : InOk i) (hk : i.2.1.length ≤ 100) (r : List UInt8) : inR (inB i ++ r, 0) = (i, (r, 0)) := by
  obtain ⟨⟨id, ix, _⟩, key, _⟩ := i
  have h32 : id.length = 32 := hi.id
  have h0 : 0 ≤ ix := hi.lo
  have h1 : ix < 4294967296 := hi.hi
  have hk : key.length ≤ 100 := hk
  have e : inB ((id, ix, ()), key, ()) ++ r = id ++ (les 4 ix.toNat ++ (countB key.length ++ (key ++ r))) := by simp [inB]
  have t1 : tk 32 (id ++ (les 4 ix.toNat ++ (countB key.length ++ (key ++ r))), 0) = (les 4 ix.toNat ++ (countB key.length ++ (key ++ r)), 0) := tk_fwd _ _ _ _ (by rw [h32]; rfl)
  have t2 : tk 4 (les 4 ix.toNat ++ (countB key.length ++ (key ++ r)), 0) = (countB key.length ++ (key ++ r), 0) := tk_fwd _ _ _ _ (by rw [les_length]; rfl)
  have t3 := cnt_fwd key.length 100 hk (by omega) (key ++ r)
  have t4 : tk ((key.length : Nat) : Int) (key ++ r, 0) = (r, 0) := tk_fwd _ _ _ _ rfl
  have q1 : rawO (id ++ (les 4 ix.toNat ++ (countB key.length ++ (key ++ r)))) 32 = id := rawO_app _ _ _ (by rw [h32]; rfl)
  have q2 : rawO (les 4 ix.toNat ++ (countB key.length ++ (key ++ r))) 4 = les 4 ix.toNat := rawO_app _ _ _ (by rw [les_length]; rfl)
  have q3 : rawO (key ++ r) ((key.length : Nat) : Int) = key := rawO_app _ _ _ rfl
  rw [e]
  refine Prod.ext ?_ ?_
  · rw [inR_1]
    simp only [t1, t2, t3, q1, q2, q3, idS_full id h32, numOf_les 4 ix.toNat (by omega)]
    have : ((ix.toNat % 256 ^ 4 : Nat) : Int) = ix := by omega
    rw [this]
  · rw [inR_2, t1, t2, t3]
    exact t4
theorem outR_fwd (o : OutT) (ho : OutOk o) (r : List UInt8) : outR (outB o ++ r, 0) = (o, (r, 0)) := by
  obtain ⟨amt, lock, _⟩ := o
  have h32 : lock.length = 32 := ho.lock
  have h0 : -9223372036854775808 ≤ amt := ho.lo
  have h1 : amt < 9223372036854775808 := ho.hi
  have e : outB (amt, lock, ()) ++ r = les 8 (u64n amt) ++ (lock ++ r) := by simp [outB]
  have t1 : tk 8 (les 8 (u64n amt) ++ (lock ++ r), 0) = (lock ++ r, 0) := tk_fwd _ _ _ _ (by rw [les_length]; rfl)
  have t2 : tk 32 (lock ++ r, 0) = (r, 0) := tk_fwd _ _ _ _ (by rw [h32]; rfl)
  have q1 : rawO (les 8 (u64n amt) ++ (lock ++ r)) 8 = les 8 (u64n amt) := rawO_app _ _ _ (by rw [les_length]; rfl)
  have q2 : rawO (lock ++ r) 32 = lock := rawO_app _ _ _ (by rw [h32]; rfl)
  rw [e]
  refine Prod.ext ?_ ?_
  · rw [outR_1]
    simp only [t1, q1, q2, idS_full lock h32, numOf_les 8 (u64n amt) (by omega)]
    have : IntKind.i64.wrap ((u64n amt % 256 ^ 8 : Nat) : Int) = amt := by
      rw [IntKind.wrap_i64]; unfold u64n; omega
    rw [this]
  · rw [outR_2, t1, t2]
theorem many_cons {α : Type} (f : RS → α × RS) (n : Nat) : ∀ s : RS, many f (n + 1) s = ((f s).1 :: (many f n (f s).2).1, (many f n (f s).2).2) := by
  induction n with
  | zero => intro s; rfl
  | succ n ih =>
    intro s
    rw [many, ih s]
    simp only [many, List.cons_append]
theorem many_fwd {α : Type} {f : RS → α × RS} {g : α → List UInt8} : ∀ (l : List α) (r : List UInt8), (∀ x ∈ l, ∀ r, f (g x ++ r, 0) = (x, (r, 0))) → many f l.length (l.flatMap g ++ r, 0) = (l, (r, 0)) := by
  intro l
  induction l with
  | nil => intro r _; rfl
  | cons x l ih =>
    intro r h
    rw [List.length_cons, many_cons, List.flatMap_cons, List.append_assoc, h x (by simp)]
    simp only
    rw [ih r (fun y hy => h y (by simp [hy]))]
theorem txR_fwd (t : TxT) (ht : TxOk t) (h1 : t.1.length ≤ 32) (h2 : t.2.1.length ≤ 32) (hk : ∀ i ∈ t.1, i.2.1.length ≤ 100) (r : List UInt8) : txR (txB t ++ r, 0) = (t, (r, 0)) := by
  obtain ⟨ins, outs, _⟩ := t
  have h1 : ins.length ≤ 32 := h1
  have h2 : outs.length ≤ 32 := h2
  have e : txB (ins, outs, ()) ++ r = countB ins.length ++ (ins.flatMap inB ++ (countB outs.length ++ (outs.flatMap outB ++ r))) := by simp [txB]
  have c1 := cnt_fwd ins.length 32 h1 (by omega) (ins.flatMap inB ++ (countB outs.length ++ (outs.flatMap outB ++ r)))
  have m1 := many_fwd (f := inR) (g := inB) ins (countB outs.length ++ (outs.flatMap outB ++ r)) (fun i hi r => inR_fwd i (ht.ins i hi) (hk i hi) r)
  have c2 := cnt_fwd outs.length 32 h2 (by omega) (outs.flatMap outB ++ r)
  have m2 := many_fwd (f := outR) (g := outB) outs r (fun o ho r => outR_fwd o (ht.outs o ho) r)
  have i1 : txI (txB (ins, outs, ()) ++ r, 0) = (ins, (countB outs.length ++ (outs.flatMap outB ++ r), 0)) := by
    unfold txI
    rw [e, c1]
    exact m1
  have o1 : txO (txB (ins, outs, ()) ++ r, 0) = (outs, (r, 0)) := by
    unfold txO
    rw [i1]
    simp only [c2]
    exact m2
  simp only [txR, i1, o1]
theorem txE_fwd (t : TxT) (ht : TxOk t) (h1 : t.1.length ≤ 32) (h2 : t.2.1.length ≤ 32) (hk : ∀ i ∈ t.1, i.2.1.length ≤ 100) : txR (txB t, 0) = (t, ([], 0)) ∧ txE (txB t) = 0 := by
  have h := txR_fwd t ht h1 h2 hk []
  rw [List.append_nil] at h
  refine ⟨h, ?_⟩
  rw [txE, h]
  rfl
end Go.Proofs.Ytpcombaecbjmfaa
