/- hash: words and turns. -/
import Derived.Test.YtlbpeihdedhjiaaWb
namespace Go.Proofs.Ytlbpeihdedhjiaa
open Go.RowKit
theorem w64 (n : Int) (h : -9223372036854775808 ≤ n ∧ n < 9223372036854775808) : IntKind.i64.wrap n = n := by rw [IntKind.wrap_i64]; omega
section
theorem ofInt32 (a : Nat) (ha : a < 4294967296) : (BitVec.ofInt 32 (a : Int)).toNat = a := by
  rw [BitVec.ofInt_natCast, BitVec.toNat_ofNat]; exact Nat.mod_eq_of_lt (by omega)
theorem wrap_u32n (n : Nat) (h : n < 4294967296) : IntKind.u32.wrap (n : Int) = (n : Int) := by
  have : IntKind.u32.wrap (n : Int) = (n : Int) % 4294967296 := by simp [IntKind.wrap, IntKind.signed, IntKind.bits]
  rw [this]; omega
theorem and32 (a b : Nat) (ha : a < 4294967296) (hb : b < 4294967296) : bits .and .u32 (a : Int) (b : Int) = ((a &&& b : Nat) : Int) := by
  have hx : a &&& b < 2 ^ 32 := Nat.and_lt_two_pow _ (by omega)
  show IntKind.u32.wrap ((BitVec.ofInt 32 (a : Int) &&& BitVec.ofInt 32 (b : Int)).toNat : Int) = _
  rw [BitVec.toNat_and, ofInt32 a ha, ofInt32 b hb, wrap_u32n _ (by omega)]
theorem or32 (a b : Nat) (ha : a < 4294967296) (hb : b < 4294967296) : bits .or .u32 (a : Int) (b : Int) = ((a ||| b : Nat) : Int) := by
  have hx : a ||| b < 2 ^ 32 := Nat.or_lt_two_pow (by omega) (by omega)
  show IntKind.u32.wrap ((BitVec.ofInt 32 (a : Int) ||| BitVec.ofInt 32 (b : Int)).toNat : Int) = _
  rw [BitVec.toNat_or, ofInt32 a ha, ofInt32 b hb, wrap_u32n _ (by omega)]
theorem xor32 (a b : Nat) (ha : a < 4294967296) (hb : b < 4294967296) : bits .xor .u32 (a : Int) (b : Int) = ((a ^^^ b : Nat) : Int) := by
  have hx : a ^^^ b < 2 ^ 32 := Nat.xor_lt_two_pow (by omega) (by omega)
  show IntKind.u32.wrap ((BitVec.ofInt 32 (a : Int) ^^^ BitVec.ofInt 32 (b : Int)).toNat : Int) = _
  rw [BitVec.toNat_xor, ofInt32 a ha, ofInt32 b hb, wrap_u32n _ (by omega)]
end
/-- or of numbers that share no bit -/
theorem or_add (a b i : Nat) (h : b < 2 ^ i) : a * 2 ^ i ||| b = a * 2 ^ i + b := by
  rw [← Nat.shiftLeft_eq, Nat.shiftLeft_add_eq_or_of_lt h]
/-- a number of 32 bits, turned to the right -/
def rot (x n : Nat) : Nat := x / 2 ^ n + x % 2 ^ n * 2 ^ (32 - n)
theorem rot_lt (x n : Nat) (hx : x < 4294967296) (hn : n ≤ 32) : rot x n < 4294967296 := by
  unfold rot
  have h1 : x % 2 ^ n < 2 ^ n := Nat.mod_lt _ (Nat.two_pow_pos n)
  have h2 : 2 ^ n * 2 ^ (32 - n) = 4294967296 := by rw [← Nat.pow_add, show n + (32 - n) = 32 by omega]
  have h3 : x / 2 ^ n < 2 ^ (32 - n) := by rw [Nat.div_lt_iff_lt_mul (Nat.two_pow_pos n), Nat.mul_comm, h2]; exact hx
  have h4 : (x % 2 ^ n + 1) * 2 ^ (32 - n) ≤ 2 ^ n * 2 ^ (32 - n) := Nat.mul_le_mul_right _ h1
  rw [h2, Nat.add_mul] at h4
  omega
theorem rot_or (x n : Nat) (hx : x < 4294967296) (hn : n ≤ 32) : bits .or .u32 (((x * 2 ^ (32 - n) % 4294967296 : Nat) : Nat) : Int) ((x / 2 ^ n : Nat) : Int) = (rot x n : Nat) := by
  have h2 : 2 ^ n * 2 ^ (32 - n) = 4294967296 := by rw [← Nat.pow_add, show n + (32 - n) = 32 by omega]
  have h3 : x / 2 ^ n < 2 ^ (32 - n) := by rw [Nat.div_lt_iff_lt_mul (Nat.two_pow_pos n), Nat.mul_comm, h2]; exact hx
  have h5 : x / 2 ^ n ≤ x := Nat.div_le_self _ _
  rw [or32 _ _ (Nat.mod_lt _ (by decide)) (by omega), show x * 2 ^ (32 - n) % 4294967296 = x % 2 ^ n * 2 ^ (32 - n) by rw [← h2, Nat.mul_mod_mul_right], or_add _ _ _ h3, rot, Nat.add_comm]
set_option maxRecDepth 20000 in
set_option maxHeartbeats 400000 in
theorem rotl_any (x n : Nat) (k s : Int) (hx : x < 4294967296) (hk : (n = 7 ∧ k = -7 ∧ s = 25) ∨ (n = 18 ∧ k = -18 ∧ s = 14) ∨ (n = 17 ∧ k = -17 ∧ s = 15) ∨ (n = 19 ∧ k = -19 ∧ s = 13) ∨ (n = 6 ∧ k = -6 ∧ s = 26) ∨ (n = 11 ∧ k = -11 ∧ s = 21) ∨ (n = 25 ∧ k = -25 ∧ s = 7) ∨ (n = 2 ∧ k = -2 ∧ s = 30) ∨ (n = 13 ∧ k = -13 ∧ s = 19) ∨ (n = 22 ∧ k = -22 ∧ s = 10)) (w : World) : Calls Try.prog 43 #[.int .u32 (x : Int), .int .i64 k] w fun e w' => e = .returned (.int .u32 (rot x n : Nat)) ∧ w = w' := by
  have h1 : bits BinOp.and IntKind.u64 (IntKind.u64.wrap k) 31 = s := by
    rcases hk with ⟨rfl, rfl, rfl⟩ | ⟨rfl, rfl, rfl⟩ | ⟨rfl, rfl, rfl⟩ | ⟨rfl, rfl, rfl⟩ | ⟨rfl, rfl, rfl⟩ | ⟨rfl, rfl, rfl⟩ | ⟨rfl, rfl, rfl⟩ | ⟨rfl, rfl, rfl⟩ | ⟨rfl, rfl, rfl⟩ | ⟨rfl, rfl, rfl⟩ <;> decide
  have HR := Lib.hid (rot_or x n hx (by omega))
  clear hx
  rcases hk with ⟨rfl, rfl, rfl⟩ | ⟨rfl, rfl, rfl⟩ | ⟨rfl, rfl, rfl⟩ | ⟨rfl, rfl, rfl⟩ | ⟨rfl, rfl, rfl⟩ | ⟨rfl, rfl, rfl⟩ | ⟨rfl, rfl, rfl⟩ | ⟨rfl, rfl, rfl⟩ | ⟨rfl, rfl, rfl⟩ | ⟨rfl, rfl, rfl⟩
  all_goals
    go_enter Try.func43, Try.ntmps43
    go_wp2
    go_ret
    exact ⟨congrArg (fun z => Ending.returned (Value.int IntKind.u32 z)) HR.out, rfl⟩
/-- four bytes as a number, the highest first -/
def wordN (a b c d : UInt8) : Nat := a.toNat * 16777216 + b.toNat * 65536 + c.toNat * 256 + d.toNat
def wordS (l : List UInt8) (i : Nat) : Nat := wordN (l.getD i 0) (l.getD (i + 1) 0) (l.getD (i + 2) 0) (l.getD (i + 3) 0)
theorem wordS_lt (l : List UInt8) (i : Nat) : wordS l i < 4294967296 := by
  unfold wordS wordN
  have := (l.getD i 0).toNat_lt; have := (l.getD (i + 1) 0).toNat_lt; have := (l.getD (i + 2) 0).toNat_lt; have := (l.getD (i + 3) 0).toNat_lt
  omega
theorem bstr_getD (l : List UInt8) (i : Nat) (h : i < (bstr l).size) : (bstr l)[i]'h = l.getD i 0 := by
  have hl : i < l.length := by rw [bstr_size] at h; exact h
  show l.toArray[i]'_ = _
  simp [List.getD, hl]; rfl
theorem word_bits (a b c d : UInt8) : bits .or .u32 (bits .or .u32 (bits .or .u32 ((a.toNat : Int) % 4294967296 * 16777216 % 4294967296) ((b.toNat : Int) % 4294967296 * 65536 % 4294967296)) ((c.toNat : Int) % 4294967296 * 256 % 4294967296)) ((d.toNat : Int) % 4294967296) = (wordN a b c d : Nat) := by
  have := a.toNat_lt; have := b.toNat_lt; have := c.toNat_lt; have := d.toNat_lt
  rw [show (a.toNat : Int) % 4294967296 * 16777216 % 4294967296 = ((a.toNat * 2 ^ 24 : Nat) : Int) by omega, show (b.toNat : Int) % 4294967296 * 65536 % 4294967296 = ((b.toNat * 2 ^ 16 : Nat) : Int) by omega, show (c.toNat : Int) % 4294967296 * 256 % 4294967296 = ((c.toNat * 2 ^ 8 : Nat) : Int) by omega, show (d.toNat : Int) % 4294967296 = (d.toNat : Int) by omega]
  rw [or32 _ _ (by omega) (by omega), or_add _ _ 24 (by omega)]
  rw [or32 _ _ (by omega) (by omega), show a.toNat * 2 ^ 24 + b.toNat * 2 ^ 16 = (a.toNat * 256 + b.toNat) * 2 ^ 16 by omega, or_add _ _ 16 (by omega)]
  rw [or32 _ _ (by omega) (by omega), show (a.toNat * 256 + b.toNat) * 2 ^ 16 + c.toNat * 2 ^ 8 = (a.toNat * 65536 + b.toNat * 256 + c.toNat) * 2 ^ 8 by omega, or_add _ _ 8 (by omega)]
  unfold wordN
  omega
set_option maxRecDepth 20000 in
set_option maxHeartbeats 400000 in
theorem word_any (l : List UInt8) (i : Nat) (hi : i + 3 < l.length) (hl : l.length ≤ 1000000000000) (w : World) :
    Calls Try.prog 42 #[.string (bstr l), .int .i64 (i : Int)] w fun e w' => e = .returned (.int .u32 (wordS l i : Nat)) ∧ ∃ n, w' = w.drewN n := by
  have hsz := bstr_size l
  have b0 : (i : Int) < ((bstr l).size : Int) := by omega
  have b1 : (i : Int) + 1 < ((bstr l).size : Int) := by omega
  have b2 : (i : Int) + 2 < ((bstr l).size : Int) := by omega
  have b3 : (i : Int) + 3 < ((bstr l).size : Int) := by omega
  have c0 : i < l.length := by omega
  have c1 : i + 1 < l.length := by omega
  have c2 : i + 2 < l.length := by omega
  have c3 : i + 3 < l.length := by omega
  have d1 : (i : Int) + 1 < (l.length : Int) := by omega
  have d2 : (i : Int) + 2 < (l.length : Int) := by omega
  have d3 : (i : Int) + 3 < (l.length : Int) := by omega
  have z0 : (0 : Int) ≤ (i : Int) := by omega
  have z1 : (0 : Int) ≤ (i : Int) + 1 := by omega
  have z2 : (0 : Int) ≤ (i : Int) + 2 := by omega
  have z3 : (0 : Int) ≤ (i : Int) + 3 := by omega
  have w1 : IntKind.i64.wrap ((i : Int) + 1) = (i : Int) + 1 := w64 _ (by omega)
  have w2 : IntKind.i64.wrap ((i : Int) + 2) = (i : Int) + 2 := w64 _ (by omega)
  have w3 : IntKind.i64.wrap ((i : Int) + 3) = (i : Int) + 3 := w64 _ (by omega)
  have HI := Lib.hid hi
  have HSZ := Lib.hid hsz
  clear hi hl hsz
  go_enter Try.func42, Try.ntmps42
  go_wp2
  go_region
  go_wp2
  go_ret
  refine ⟨?_, 1, rfl⟩
  have hb := word_bits (l.getD i 0) (l.getD (i + 1) 0) (l.getD (i + 2) 0) (l.getD (i + 3) 0)
  rw [← bstr_getD l i (by rw [HSZ.out]; omega), ← bstr_getD l (i + 1) (by rw [HSZ.out]; omega), ← bstr_getD l (i + 2) (by rw [HSZ.out]; omega), ← bstr_getD l (i + 3) (by rw [HSZ.out]; omega)] at hb
  rw [wordS, ← bstr_getD l i (by rw [HSZ.out]; omega), ← bstr_getD l (i + 1) (by rw [HSZ.out]; omega), ← bstr_getD l (i + 2) (by rw [HSZ.out]; omega), ← bstr_getD l (i + 3) (by rw [HSZ.out]; omega)]
  exact congrArg (fun z => Ending.returned (Value.int IntKind.u32 z)) hb
end Go.Proofs.Ytlbpeihdedhjiaa
