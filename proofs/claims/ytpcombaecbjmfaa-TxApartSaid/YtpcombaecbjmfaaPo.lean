/- Outputs are compared; unlike transactions have unlike bytes. -/
import Derived.Test.YtpcombaecbjmfaaPt
import Derived.Test.YtpcombaecbjmfaaSm
namespace Go.Proofs.Ytpcombaecbjmfaa
open Go.RowKit
theorem outC_len' (amt : Int) (lock : List UInt8) (h : lock.length = 32) : (outC amt lock).length = 33 := by simp [outC, h]
theorem keyLits_out (amt : Int) (lock : List UInt8) (hl32 : lock.length = 32) (h1 : -9223372036854775808 ≤ amt) (h2 : amt < 9223372036854775808) :
    (Try.prog).keyLits 3 63 (outC amt lock) = some (Lit.int .i64 amt :: (lock.map fun b => Lit.int .u8 (b.toNat : Int))) := by
  unfold Program.keyLits
  rw [Try.underlying63]
  have hl : (outC amt lock).length = (Try.prog).cellsOf 63 := by rw [outC_len' amt lock hl32]; kernel_rfl
  have e1 : ((outC amt lock).drop 0).take ((Try.prog).cellsOf 2) = [.int .i64 amt] := by
    rw [show (Try.prog).cellsOf 2 = 1 from by kernel_rfl, List.drop_zero, outC]; rfl
  have e2 : ((outC amt lock).drop 1).take ((Try.prog).cellsOf 32) = bts lock := by
    rw [show (Try.prog).cellsOf 32 = 32 from by kernel_rfl, outC, List.drop_succ_cons, List.drop_zero, List.take_of_length_le (by simp [hl32])]
  have k1 := keyLits_arr_d (P := Try.prog) 0 (t := 32) Try.underlying32 Try.underlying5 (by kernel_rfl) (by kernel_rfl) lock hl32
  have k2 : (Try.prog).keyLits 2 2 [.int .i64 amt] = some [Lit.int .i64 amt] := by
    unfold Program.keyLits
    rw [Try.underlying2]
    simp only [Lit.wf, true_and]
    rw [if_pos]
    simp [IntKind.min, IntKind.max, IntKind.signed, IntKind.bits]
    omega
  simp only [hl, true_and]
  rw [if_pos (by kernel_rfl)]
  simp only [List.mapM_cons, List.mapM_nil, e1, e2, k1, k2]
  simp
theorem out_keyT : (Try.prog).keyTypeAt 3 63 = true := by kernel_rfl
theorem out_formed (amt : Int) (lock : List UInt8) (h : lock.length = 32) : (Value.agg (outC amt lock).toArray).formed Try.prog 63 = true := by
  simp [Value.formed, Try.underlying63, outC_len' amt lock h, show (Try.prog).cellsOf 63 = 33 from by kernel_rfl]
theorem u8_map_inj : ∀ (a b : List UInt8), (a.map fun b => Lit.int .u8 (b.toNat : Int)) = (b.map fun b => Lit.int .u8 (b.toNat : Int)) → a = b := by
  intro a
  induction a with
  | nil => intro b h; cases b with | nil => rfl | cons _ _ => simp at h
  | cons u a ih =>
    intro b h
    cases b with
    | nil => simp at h
    | cons v b =>
      simp only [List.map_cons, List.cons.injEq, Lit.int.injEq, true_and] at h
      rw [ih b h.2, UInt8.toNat_inj.1 (by omega : u.toNat = v.toNat)]
set_option maxRecDepth 20000 in
theorem run_eq_out (a a' : Int) (l l' : List UInt8) (h : l.length = 32) (h' : l'.length = 32) (h1 : -9223372036854775808 ≤ a) (h2 : a < 9223372036854775808) (h1' : -9223372036854775808 ≤ a') (h2' : a' < 9223372036854775808) (w : World) (d : Nat) :
    (Op.equalIn (d + 3) 63 (.agg (outC a l).toArray) (.agg (outC a' l').toArray)).run Try.prog w = .ok (decide (a = a' ∧ l = l')) w := by
  obtain ⟨r, e1, e2⟩ := run_equalIn_deep d 3 63 out_keyT w 3 3 (.agg (outC a l).toArray) (.agg (outC a' l').toArray) _ _ (out_formed a l h) (out_formed a' l' h')
    (show (Try.prog).keyLits 3 63 (Value.agg (outC a l).toArray).cells.toList = some _ from keyLits_out a l h h1 h2) (show (Try.prog).keyLits 3 63 (Value.agg (outC a' l').toArray).cells.toList = some _ from keyLits_out a' l' h' h1' h2')
  rw [e1]
  congr 1
  rw [Bool.eq_iff_iff, e2, decide_eq_true_iff]
  constructor
  · intro e
    injection e with e3 e4
    injection e3 with _ e5
    exact ⟨e5, u8_map_inj _ _ e4⟩
  · rintro ⟨rfl, rfl⟩; rfl
/-! unlike transactions have unlike bytes -/
theorem countB_inj {n m : Nat} {r s : List UInt8} (hn : n < 18446744073709551616) (hm : m < 18446744073709551616) (h : countB n ++ r = countB m ++ s) : n = m ∧ r = s := by
  have e1 := cnt_fwd n 18446744073709551615 (by omega) hn r
  have e2 := cnt_fwd m 18446744073709551615 (by omega) hm s
  rw [h, e2] at e1
  injection e1 with e3 e4
  injection e4 with e5 _
  exact ⟨e3.symm, e5.symm⟩
theorem les_inj {k n m : Nat} (hk : k ≤ 8) (hn : n < 256 ^ k) (hm : m < 256 ^ k) (h : les k n = les k m) : n = m := by
  have e1 := numOf_les k n hk
  have e2 := numOf_les k m hk
  rw [h, e2, Nat.mod_eq_of_lt hn, Nat.mod_eq_of_lt hm] at e1
  exact e1.symm
theorem inB_inj {i j : InT} {r s : List UInt8} (hi : InOk i) (hj : InOk j) (ki : i.2.1.length ≤ 10000) (kj : j.2.1.length ≤ 10000) (h : inB i ++ r = inB j ++ s) : i = j ∧ r = s := by
  obtain ⟨⟨id, ix, _⟩, key, _⟩ := i
  obtain ⟨⟨id', ix', _⟩, key', _⟩ := j
  have a1 : id.length = 32 := hi.id
  have a2 : id'.length = 32 := hj.id
  have b1 : 0 ≤ ix := hi.lo
  have b2 : ix < 4294967296 := hi.hi
  have b3 : 0 ≤ ix' := hj.lo
  have b4 : ix' < 4294967296 := hj.hi
  have ki : key.length ≤ 10000 := ki
  have kj : key'.length ≤ 10000 := kj
  simp only [inB, List.append_assoc] at h
  obtain ⟨p1, p2⟩ := List.append_inj h (by rw [a1, a2])
  obtain ⟨p3, p4⟩ := List.append_inj p2 (by rw [les_length, les_length])
  have p5 := les_inj (k := 4) (by omega) (by omega) (by omega) p3
  have p6 : ix = ix' := by omega
  obtain ⟨p7, p8⟩ := countB_inj (n := key.length) (m := key'.length) (by omega) (by omega) p4
  obtain ⟨p9, q1⟩ := List.append_inj p8 p7
  subst p1 p6 p9
  exact ⟨rfl, q1⟩
theorem u64n_lt' (z : Int) : u64n z < 256 ^ 8 := by unfold u64n; omega
theorem outB_inj {i j : OutT} {r s : List UInt8} (hi : OutOk i) (hj : OutOk j) (h : outB i ++ r = outB j ++ s) : i = j ∧ r = s := by
  obtain ⟨amt, lock, _⟩ := i
  obtain ⟨amt', lock', _⟩ := j
  have a1 : lock.length = 32 := hi.lock
  have a2 : lock'.length = 32 := hj.lock
  have b1 := hi.lo
  have b2 := hi.hi
  have b3 := hj.lo
  have b4 := hj.hi
  simp only at b1 b2 b3 b4
  simp only [outB, List.append_assoc] at h
  obtain ⟨p1, p2⟩ := List.append_inj h (by rw [les_length, les_length])
  have p3 := les_inj (k := 8) (by omega) (u64n_lt' _) (u64n_lt' _) p1
  have p4 : amt = amt' := by unfold u64n at p3; omega
  obtain ⟨p5, p6⟩ := List.append_inj p2 (by rw [a1, a2])
  subst p4 p5
  exact ⟨rfl, p6⟩
theorem flat_inj {α : Type} {g : α → List UInt8} (hg : α → Prop) (hinj : ∀ (x y : α) (r s : List UInt8), hg x → hg y → g x ++ r = g y ++ s → x = y ∧ r = s) :
    ∀ (a b : List α) (r s : List UInt8), a.length = b.length → (∀ x ∈ a, hg x) → (∀ x ∈ b, hg x) → a.flatMap g ++ r = b.flatMap g ++ s → a = b ∧ r = s := by
  intro a
  induction a with
  | nil => intro b r s hl _ _ h; cases b with | nil => exact ⟨rfl, h⟩ | cons _ _ => simp at hl
  | cons x a ih =>
    intro b r s hl ha hb h
    cases b with
    | nil => simp at hl
    | cons y b =>
      simp only [List.flatMap_cons, List.append_assoc] at h
      obtain ⟨p1, p2⟩ := hinj x y _ _ (ha x (by simp)) (hb y (by simp)) h
      obtain ⟨p3, p4⟩ := ih b r s (by simpa using hl) (fun z hz => ha z (by simp [hz])) (fun z hz => hb z (by simp [hz])) p2
      rw [p1, p3]
      exact ⟨rfl, p4⟩
theorem txB_inj {a b : TxT} (ha : TxOk a) (hb : TxOk b) (fa : TxFit a) (fb : TxFit b) (h : txB a = txB b) : a = b := by
  obtain ⟨ins, outs, _⟩ := a
  obtain ⟨ins2, outs2, _⟩ := b
  have f1 : ins.length ≤ 1000 := fa.1
  have f2 : outs.length ≤ 1000 := fa.2.1
  have f3 : ins2.length ≤ 1000 := fb.1
  have f4 : outs2.length ≤ 1000 := fb.2.1
  simp only [txB, List.append_assoc] at h
  obtain ⟨p1, p2⟩ := countB_inj (n := ins.length) (m := ins2.length) (by omega) (by omega) h
  obtain ⟨p3, p4⟩ := flat_inj (g := inB) (fun i => InOk i ∧ i.2.1.length ≤ 10000) (fun x y r s hx hy h => inB_inj hx.1 hy.1 hx.2 hy.2 h) ins ins2 _ _ p1 (fun i hi => ⟨ha.ins i hi, fa.2.2 i hi⟩) (fun i hi => ⟨hb.ins i hi, fb.2.2 i hi⟩) p2
  obtain ⟨p5, p6⟩ := countB_inj (n := outs.length) (m := outs2.length) (by omega) (by omega) p4
  obtain ⟨p7, _⟩ := flat_inj (g := outB) OutOk (fun x y r s hx hy h => outB_inj hx hy h) outs outs2 [] [] p5 ha.outs hb.outs (by simpa using p6)
  rw [p3, p7]
end Go.Proofs.Ytpcombaecbjmfaa
