/- The document's hash: turn, low, List. -/
import Derived.Test.YtnonabmbichfnaaHc
import Derived.Test.YtnonabmbichfnaaHe
namespace Go.Proofs.Ytnonabmbichfnaa
open Go.RowKit
theorem rot_zero (x : Nat) : rot x 0 = x := by simp [rot, Nat.mod_one]
theorem rot_succ (x j : Nat) (hj : j < 32) : rot x (j + 1) = rot x j / 2 + rot x j % 2 * 2147483648 := by
  have hp : (2 : Nat) ^ (32 - j) = 2 * 2 ^ (31 - j) := by rw [show 32 - j = (31 - j) + 1 by omega, Nat.pow_succ]; omega
  have hq : (2 : Nat) ^ j * 2 ^ (31 - j) = 2147483648 := by rw [← Nat.pow_add, show j + (31 - j) = 31 by omega]
  have h1 : x / 2 ^ (j + 1) = x / 2 ^ j / 2 := by rw [Nat.pow_succ, Nat.div_div_eq_div_mul]
  have h2 : x % 2 ^ (j + 1) = x % 2 ^ j + 2 ^ j * (x / 2 ^ j % 2) := by rw [Nat.pow_succ, Nat.mod_mul]
  have h3 : 32 - (j + 1) = 31 - j := by omega
  unfold rot
  rw [h1, h2, h3, hp]
  generalize x / 2 ^ j = a
  generalize x % 2 ^ j = r
  generalize (2 : Nat) ^ (31 - j) = P at hq ⊢
  generalize (2 : Nat) ^ j = J at hq ⊢
  have e1 : a + r * (2 * P) = a + 2 * (r * P) := by rw [Nat.mul_left_comm]
  have e2 : (a + r * (2 * P)) / 2 = a / 2 + r * P := by rw [e1, Nat.add_mul_div_left _ _ (by omega)]
  have e3 : (a + r * (2 * P)) % 2 = a % 2 := by rw [e1, Nat.add_mul_mod_self_left]
  rw [e2, e3, Nat.add_mul, Nat.mul_right_comm, hq, Nat.mul_comm 2147483648]
  omega
set_option maxRecDepth 20000 in
set_option maxHeartbeats 400000 in
theorem turn_any (x n : Nat) (w : World) (hx : x < 4294967296) (hn : n ≤ 31) :
    Calls Try.prog 65 #[.int .u32 (x : Int), .int .i64 (n : Int)] w fun e w' => e = .returned (.int .u32 ((rot x n : Nat) : Int)) ∧ w' = w := by
  have HX := Lib.hid hx
  have HN := Lib.hid hn
  clear hx
  go_enter Try.func65, Try.ntmps65
  go_wp2
  go_loopg [0, 5, 6] n (fun q v0 v5 v6 wr => ∃ (j y : Nat), j + q = n ∧ v5 = .int .i64 j ∧ v0 = .int .u32 (y : Int) ∧ Hid (y = rot x j) ∧ y < 4294967296 ∧ wr = w)
  case atStart => exact ⟨0, x, by omega, rfl, rfl, by rw [Hid, rot_zero], HX.out, rfl⟩
  case round =>
    obtain ⟨j, y, hj, rfl, rfl, HY, hy, rfl⟩ := hrel
    by_cases hlt : j < n
    · have w1 : IntKind.u32.wrap ((y : Int) % 2 * 2147483648) = ((y % 2 * 2147483648 : Nat) : Int) := by rw [IntKind.wrap_u32]; omega
      have w2 : IntKind.u32.wrap ((y : Int) / 2 + ((y % 2 * 2147483648 : Nat) : Int)) = ((y / 2 + y % 2 * 2147483648 : Nat) : Int) := by rw [IntKind.wrap_u32]; omega
      have w3 : IntKind.u32.wrap ((y : Int) / 2) = (y : Int) / 2 := by rw [IntKind.wrap_u32]; omega
      have w4 : IntKind.u32.wrap ((y : Int) % 2) = (y : Int) % 2 := by rw [IntKind.wrap_u32]; omega
      have HYL := Lib.hid hy
      clear hy
      go_wp2
      go_roundg (n - 1 - j)
      case measure => omega
      case rel =>
        refine ⟨j + 1, y / 2 + y % 2 * 2147483648, by omega, by first | rfl | (rw [IntWalk.wrap64_in _ (by omega)]; rfl), by first | rfl | (have := HYL.out; refine congrArg _ ?_; omega), ?_, ?_, rfl⟩
        · rw [Hid, rot_succ x j (by omega), HY.out]
        · have := HYL.out; omega
    · obtain rfl : j = n := by omega
      clear hy
      go_wp2
      go_ret
      exact ⟨by rw [← HY.out]; rfl, rfl⟩
set_option maxRecDepth 20000 in
set_option maxHeartbeats 400000 in
theorem low_any (x n : Nat) (w : World) (hx : x < 4294967296) (hn : n ≤ 31) :
    Calls Try.prog 66 #[.int .u32 (x : Int), .int .i64 (n : Int)] w fun e w' => e = .returned (.int .u32 ((x / 2 ^ n : Nat) : Int)) ∧ w' = w := by
  have HX := Lib.hid hx
  clear hx
  go_enter Try.func66, Try.ntmps66
  go_wp2
  go_loopg [0, 5] n (fun q v0 v5 wr => ∃ (j y : Nat), j + q = n ∧ v5 = .int .i64 j ∧ v0 = .int .u32 (y : Int) ∧ Hid (y = x / 2 ^ j) ∧ wr = w)
  case atStart => exact ⟨0, x, by omega, rfl, rfl, by simp [Hid], rfl⟩
  case round =>
    obtain ⟨j, y, hj, rfl, rfl, HY, rfl⟩ := hrel
    by_cases hlt : j < n
    · have hyl : y < 4294967296 := by rw [HY.out]; exact Nat.lt_of_le_of_lt (Nat.div_le_self _ _) HX.out
      have w3 : IntKind.u32.wrap ((y : Int) / 2) = (y : Int) / 2 := by rw [IntKind.wrap_u32]; omega
      clear hyl
      go_wp2
      go_roundg (n - 1 - j)
      case measure => omega
      case rel =>
        refine ⟨j + 1, y / 2, by omega, by first | rfl | (rw [IntWalk.wrap64_in _ (by omega)]; rfl), by first | rfl | (rw [w3]; rfl), ?_, rfl⟩
        rw [Hid, HY.out, Nat.pow_succ, Nat.div_div_eq_div_mul]
    · obtain rfl : j = n := by omega
      go_wp2
      go_ret
      exact ⟨by rw [← HY.out]; rfl, rfl⟩
/-- the 64 numbers -/
def kL : List Nat := (List.range 64).map kS
theorem kL_get (i : Nat) (h : i < 64) : kL.getD i 0 = kS i := by simp [kL, List.getD, h]
theorem kL_cells : us kL = [.int .u32 1116352408, .int .u32 1899447441, .int .u32 3049323471, .int .u32 3921009573, .int .u32 961987163, .int .u32 1508970993, .int .u32 2453635748, .int .u32 2870763221, .int .u32 3624381080, .int .u32 310598401, .int .u32 607225278, .int .u32 1426881987, .int .u32 1925078388, .int .u32 2162078206, .int .u32 2614888103, .int .u32 3248222580, .int .u32 3835390401, .int .u32 4022224774, .int .u32 264347078, .int .u32 604807628, .int .u32 770255983, .int .u32 1249150122, .int .u32 1555081692, .int .u32 1996064986, .int .u32 2554220882, .int .u32 2821834349, .int .u32 2952996808, .int .u32 3210313671, .int .u32 3336571891, .int .u32 3584528711, .int .u32 113926993, .int .u32 338241895, .int .u32 666307205, .int .u32 773529912, .int .u32 1294757372, .int .u32 1396182291, .int .u32 1695183700, .int .u32 1986661051, .int .u32 2177026350, .int .u32 2456956037, .int .u32 2730485921, .int .u32 2820302411, .int .u32 3259730800, .int .u32 3345764771, .int .u32 3516065817, .int .u32 3600352804, .int .u32 4094571909, .int .u32 275423344, .int .u32 430227734, .int .u32 506948616, .int .u32 659060556, .int .u32 883997877, .int .u32 958139571, .int .u32 1322822218, .int .u32 1537002063, .int .u32 1747873779, .int .u32 1955562222, .int .u32 2024104815, .int .u32 2227730452, .int .u32 2361852424, .int .u32 2428436474, .int .u32 2756734187, .int .u32 3204031479, .int .u32 3329325298] := by kernel_rfl
set_option maxRecDepth 20000 in
set_option maxHeartbeats 4000000 in
theorem klist_any (w : World) : Calls Try.prog 64 #[] w fun e w' => e = .returned (.slice (some ⟨w.heap.size, 0, none⟩) 64 64) ∧ Blk w' w.heap.size 35 (us kL).toArray ∧ Below w.heap.size w w' := by
  rw [kL_cells]
  go_enter Try.func64, Try.ntmps64
  go_wp2
  go_ret
  exact ⟨rfl, Blk.new _ _ _, (Below.refl _ _).alloc (Nat.le_refl _) _⟩
end Go.Proofs.Ytnonabmbichfnaa
