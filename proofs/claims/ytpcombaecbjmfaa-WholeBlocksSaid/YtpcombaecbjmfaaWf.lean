import Derived.Test.YtpcombaecbjmfaaWe
namespace Go.Proofs.Ytpcombaecbjmfaa
open Go.RowKit

def ofLE : List UInt8 → Nat
  | [] => 0
  | b :: r => b.toNat + 256 * ofLE r
def numOf (l : List UInt8) : Nat := ofLE (l.take 8)

theorem pow256_le {j k : Nat} (h : j ≤ k) : 256 ^ j ≤ 256 ^ k := Nat.pow_le_pow_right (by decide) h
theorem ofLE_snoc (l : List UInt8) (b : UInt8) : ofLE (l ++ [b]) = ofLE l + b.toNat * 256 ^ l.length := by
  induction l with
  | nil => simp [ofLE]
  | cons a l ih =>
    rw [List.cons_append, ofLE, ih, ofLE, List.length_cons, Nat.pow_succ, Nat.mul_add, ← Nat.add_assoc]
    congr 1
    rw [Nat.mul_left_comm, Nat.mul_comm 256 (256 ^ _)]
theorem ofLE_lt (l : List UInt8) : ofLE l < 256 ^ l.length := by
  induction l with
  | nil => simp [ofLE]
  | cons a l ih =>
    rw [ofLE, List.length_cons, Nat.pow_succ]
    have := a.toNat_lt
    omega
theorem or_step (N b j : Nat) (hN : N < 256 ^ j) (hb : b < 256) (hj : j < 8) :
    bits .or .u64 (N : Int) (IntKind.u64.wrap (IntKind.u64.wrap (b : Int) * 2 ^ (8 * j))) = ((N + b * 256 ^ j : Nat) : Int) := by
  have h1 : 256 ^ j * 256 ≤ 18446744073709551616 := by
    have := pow256_le (show j + 1 ≤ 8 by omega)
    rw [Nat.pow_succ] at this
    exact this
  have h2 : b * 256 ^ j ≤ 255 * 256 ^ j := Nat.mul_le_mul_right _ (by omega)
  have hp : 0 < 256 ^ j := Nat.pow_pos (by decide)
  have hw : IntKind.u64.wrap (b : Int) = (b : Int) := by
    rw [IntKind.wrap_u64]
    omega
  have h3 : ((b : Int) * 2 ^ (8 * j)) = ((b * 256 ^ j : Nat) : Int) := by
    rw [pow_8, Int.natCast_mul]
  have hw2 : IntKind.u64.wrap ((b * 256 ^ j : Nat) : Int) = ((b * 256 ^ j : Nat) : Int) := by
    rw [IntKind.wrap_u64]
    omega
  rw [hw, h3, hw2, u64_or_nat _ _ (by omega) (by omega)]
  congr 1
  rw [Nat.or_comm, Nat.mul_comm, Nat.add_comm]
  have e : (256 : Nat) ^ j = 2 ^ (8 * j) := by rw [Nat.pow_mul]
  rw [e] at hN ⊢
  exact (Nat.two_pow_add_eq_or_of_lt hN b).symm
theorem numOf_snoc (l : List UInt8) (j : Nat) (hj : j < l.length) (h8 : j < 8) : numOf (l.take (j + 1)) = numOf (l.take j) + l[j].toNat * 256 ^ j := by
  unfold numOf
  rw [List.take_take, List.take_take, Nat.min_eq_right (by omega), Nat.min_eq_right (by omega), List.take_succ_eq_append_getElem hj, ofLE_snoc, List.length_take, Nat.min_eq_left (by omega)]
theorem numOf_same (l : List UInt8) (j : Nat) (h8 : 8 ≤ j) : numOf (l.take (j + 1)) = numOf (l.take j) := by
  unfold numOf
  rw [List.take_take, List.take_take, Nat.min_eq_left (by omega), Nat.min_eq_left (by omega)]
theorem numOf_lt (l : List UInt8) (j : Nat) (h8 : j ≤ 8) : numOf (l.take j) < 256 ^ j := by
  unfold numOf
  rw [List.take_take, Nat.min_eq_right (by omega)]
  refine Nat.lt_of_lt_of_le (ofLE_lt _) (pow256_le ?_)
  rw [List.length_take]
  omega
theorem numOf_u64 (l : List UInt8) : numOf l < 18446744073709551616 := by
  unfold numOf
  refine Nat.lt_of_lt_of_le (ofLE_lt _) (Nat.le_trans (pow256_le (k := 8) ?_) (by decide))
  rw [List.length_take]
  omega

set_option maxRecDepth 20000 in
set_option maxHeartbeats 400000 in
theorem rnum_any (w : World) (lo hi g : Nat) (l : List UInt8) (e n : Int) (h : IsRd w lo hi g l e) :
    Calls Try.prog 64 #[.pointer (some ⟨g, 0, none⟩), .int .i64 n] w fun e' w' => e' = .returned (.int .u64 (numOf (rawO l n) : Nat)) ∧ IsRd w' lo hi g (rawL l n) (rawE l e n) ∧ Only (fun b => b = g) w w' := by
  have H0 := Lib.hid h
  have hlen : (rawO l n).length ≤ 1000000000000 := by
    obtain ⟨A, m, cp, hblk, h1, h2, h3, h4, h5, h6, h7⟩ := h
    have := rawO_len l n
    omega
  have HLEN := Lib.hid hlen
  clear h hlen
  go_enter Try.func64, Try.ntmps64
  go_wp2_with fail
  refine (rraw_any w lo hi g l e n H0.out).mono ?_
  rintro e1 w1 ⟨v, rfl, a1, a2, a3⟩
  have A2 := Lib.hid a2
  have A3 := Lib.hid a3
  obtain ⟨A, m, c, rfl, hm, hown⟩ := a1
  have hs := Sl.of_own hown
  have hml : m ≤ 1000000000000 := by have := HLEN.out; omega
  have HM := Lib.hid hm
  clear a2 a3 hm hown
  go_wp2
  go_loopg [5, 6, 7, 12] m (fun q s _ _ i wr => ∃ (j N : Nat), j + q = m ∧ i = .int .i64 j ∧ s = .int .u64 (N : Int) ∧ Hid (N = numOf ((rawO l n).take j)) ∧ wr = w1)
  case atStart => exact ⟨0, 0, by omega, rfl, rfl, by simp [Hid, numOf, ofLE], rfl⟩
  case round =>
    obtain ⟨j, N, hj, rfl, rfl, HN, rfl⟩ := hrel
    by_cases hlt : j < m
    · obtain ⟨b, o, u, rfl, hb, hu, hc⟩ := hs.at1 hlt
      have hjl : j < (rawO l n).length := by have := HM.out; omega
      rw [bts_get _ _ hjl] at hu
      obtain rfl := Option.some.inj hu
      unfold Bt at hc
      clear hu
      by_cases h8 : j < 8
      · go_wp2
        go_roundg (m - 1 - j)
        case measure => omega
        case rel => exact ⟨j + 1, _, by omega, by go_num, by rw [or_step N _ j (by rw [HN.out]; exact numOf_lt _ _ (by omega)) (UInt8.toNat_lt _) h8], by rw [Hid, numOf_snoc _ _ hjl h8, HN.out], rfl⟩
      · go_wp2
        go_roundg (m - 1 - j)
        case measure => omega
        case rel => exact ⟨j + 1, N, by omega, by go_num, rfl, by rw [Hid, numOf_same _ _ (by omega), HN.out], rfl⟩
    · go_wp2
      go_ret
      obtain rfl : j = m := by omega
      refine ⟨?_, A2.out, A3.out⟩
      have := HN.out
      rw [List.take_of_length_le (by have := HM.out; omega)] at this
      rw [← this]
      rfl
end Go.Proofs.Ytpcombaecbjmfaa
