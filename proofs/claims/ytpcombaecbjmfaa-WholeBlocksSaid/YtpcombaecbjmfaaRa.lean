/- The document's answers of layer 6, walked. -/
import Derived.Test.YtpcombaecbjmfaaPa
import Derived.Test.YtpcombaecbjmfaaRows
namespace Go.Proofs.Ytpcombaecbjmfaa
open Go.RowKit

theorem bstr_nil : (⟨#[]⟩ : ByteArray) = bstr [] := rfl
theorem les_zero (n : Nat) : les 0 n = [] := rfl
theorem div_pow (n k : Nat) : n / 256 ^ k / 256 = n / 256 ^ (k + 1) := by rw [Nat.div_div_eq_div_mul, Nat.pow_succ]
theorem run_byte {P : Program} {src e dst : TypeId} (hs : P.underlying src = some (.slice e)) (he : P.underlying e = some (.int .u8)) (hd : P.underlying dst = some .string) (w : World) (x : Int) (b : UInt8) (hx : Value.int .u8 x = Bt b) (t : TypeId) :
    (convert src dst (.slice (some ⟨w.heap.size, 0, none⟩) 1 1)).run P (w.alloc (.cells #[.int .u8 x] t)) = .ok (.string (bstr [b])) (w.alloc (.cells #[.int .u8 x] t)) := by
  rw [hx]
  exact IsB.str (ok := fun b => b = w.heap.size) ⟨_, 1, 1, rfl, rfl, Nat.le_refl _, Sl.one_new w t (Bt b)⟩ hs he hd
theorem byte_mod (m : Nat) (x : Int) (hx : x = ((m % 256 : Nat) : Int)) : Value.int .u8 x = Bt (UInt8.ofNat m) := by
  unfold Bt
  rw [hx, u8_of]
set_option maxRecDepth 20000 in
set_option maxHeartbeats 400000 in
theorem num06_any (size : Int) (n : Nat) (w : World) (hs : size ≤ 1000) (hn : n < 18446744073709551616) :
    Calls Try.prog 36 #[.int .i64 size, .int .u64 (n : Int)] w fun e w' => e = .returned (.string (bstr (les size.toNat n))) ∧ Below w.heap.size w w' := by
  have HN := Lib.hid hn
  clear hn
  go_enter Try.func36, Try.ntmps36
  go_wp2
  go_loopg [1, 5, 6] size.toNat (fun q v1 v5 v6 wr => ∃ (j m : Nat) (s : ByteArray), j + q = size.toNat ∧ v6 = .int .i64 j ∧ v1 = .int .u64 (m : Int) ∧ v5 = .string s ∧ Hid (m = n / 256 ^ j) ∧ Hid (s = bstr (les j n)) ∧ Hid (Below w.heap.size w wr))
  case atStart => exact ⟨0, n, _, by omega, rfl, rfl, rfl, by simp [Hid], rfl, Below.refl _ _⟩
  case round =>
    obtain ⟨j, m, s, hj, rfl, rfl, rfl, HM, HS, HB⟩ := hrel
    by_cases hlt : (j : Int) < size
    · have hb := run_byte Try.underlying28 Try.underlying5 Try.underlying9 wr ((m : Int) % 256) (UInt8.ofNat m) (byte_mod m _ (by omega)) 5
      have hw : IntKind.u64.wrap ((m : Int) / 256) = (m : Int) / 256 := by rw [IntKind.wrap_u64]; have := HN.out; have h2 : m ≤ n := (by rw [HM.out]; exact Nat.div_le_self _ _); omega
      have hss : s.size ≤ 1000 := by rw [HS.out, bstr_size, les_length]; omega
      go_wp2
      go_roundg (size.toNat - 1 - j)
      case measure => omega
      case rel =>
        refine ⟨j + 1, m / 256, _, by omega, by go_num, by go_num, rfl, by rw [Hid, HM.out, div_pow], ?_, HB.out.alloc HB.out.size _⟩
        rw [Hid, HS.out, bstr_append, les_succ, leb, HM.out]
    · go_wp2
      go_ret
      obtain rfl : j = size.toNat := by omega
      exact ⟨by rw [← HS.out]; rfl, HB.out⟩
/-! Count -/
theorem str_cons (x : UInt8) (l : List UInt8) : (⟨#[x]⟩ : ByteArray) ++ bstr l = bstr (x :: l) := by
  have : (⟨#[x]⟩ : ByteArray) = bstr [x] := rfl
  rw [this, bstr_append]
  rfl
set_option maxRecDepth 20000 in
set_option maxHeartbeats 400000 in
theorem count06_any (n : Nat) (w : World) (hn : n < 18446744073709551616) :
    Calls Try.prog 35 #[.int .u64 (n : Int)] w fun e w' => e = .returned (.string (bstr (countB n))) ∧ Below w.heap.size w w' := by
  by_cases h1 : n < 253
  · have q : countB n = les 1 n := by rw [countB, if_pos h1]
    have Q := Lib.hid q
    have d0 : decide ((n : Int) ≤ 252) = true := by simp; omega
    have N6 := Lib.hid (num06_any 1 n w (by omega) hn)
    have hss : (bstr (les 1 n)).size ≤ 100 := by rw [bstr_size, les_length]; omega
    clear q hn h1
    go_enter Try.func35, Try.ntmps35
    go_wp2_with fail
    refine N6.out.mono ?_
    rintro e1 w1 ⟨rfl, a1⟩
    have A1 := Lib.hid a1
    clear a1
    go_wp2_with fail
    go_ret
    exact ⟨by rw [Q.out]; rfl, A1.out⟩
  · by_cases h2 : n < 65536
    · have q : countB n = 253 :: les 2 n := by rw [countB, if_neg h1, if_pos h2]
      have Q := Lib.hid q
      have d0 : decide ((n : Int) ≤ 252) = false := by simp; omega
      have d1 : decide ((n : Int) ≤ 65535) = true := by simp; omega
      have N6 := Lib.hid (num06_any 2 n w (by omega) hn)
      have hss : (bstr (les 2 n)).size ≤ 100 := by rw [bstr_size, les_length]; omega
      clear q hn h1 h2
      go_enter Try.func35, Try.ntmps35
      go_wp2_with fail
      refine N6.out.mono ?_
      rintro e1 w1 ⟨rfl, a1⟩
      have A1 := Lib.hid a1
      clear a1
      go_wp2_with fail
      go_ret
      exact ⟨by rw [Q.out]; exact congrArg (fun s => Ending.returned (Value.string s)) (str_cons _ _), A1.out⟩
    · by_cases h3 : n < 4294967296
      · have q : countB n = 254 :: les 4 n := by rw [countB, if_neg h1, if_neg h2, if_pos h3]
        have Q := Lib.hid q
        have d0 : decide ((n : Int) ≤ 252) = false := by simp; omega
        have d1 : decide ((n : Int) ≤ 65535) = false := by simp; omega
        have d2 : decide ((n : Int) ≤ 4294967295) = true := by simp; omega
        have N6 := Lib.hid (num06_any 4 n w (by omega) hn)
        have hss : (bstr (les 4 n)).size ≤ 100 := by rw [bstr_size, les_length]; omega
        clear q hn h1 h2 h3
        go_enter Try.func35, Try.ntmps35
        go_wp2_with fail
        refine N6.out.mono ?_
        rintro e1 w1 ⟨rfl, a1⟩
        have A1 := Lib.hid a1
        clear a1
        go_wp2_with fail
        go_ret
        exact ⟨by rw [Q.out]; exact congrArg (fun s => Ending.returned (Value.string s)) (str_cons _ _), A1.out⟩
      · have q : countB n = 255 :: les 8 n := by rw [countB, if_neg h1, if_neg h2, if_neg h3]
        have Q := Lib.hid q
        have d0 : decide ((n : Int) ≤ 252) = false := by simp; omega
        have d1 : decide ((n : Int) ≤ 65535) = false := by simp; omega
        have d2 : decide ((n : Int) ≤ 4294967295) = false := by simp; omega
        have N6 := Lib.hid (num06_any 8 n w (by omega) hn)
        have hss : (bstr (les 8 n)).size ≤ 100 := by rw [bstr_size, les_length]; omega
        clear q hn h1 h2 h3
        go_enter Try.func35, Try.ntmps35
        go_wp2_with fail
        refine N6.out.mono ?_
        rintro e1 w1 ⟨rfl, a1⟩
        have A1 := Lib.hid a1
        clear a1
        go_wp2_with fail
        go_ret
        exact ⟨by rw [Q.out]; exact congrArg (fun s => Ending.returned (Value.string s)) (str_cons _ _), A1.out⟩
set_option maxRecDepth 20000 in
set_option maxHeartbeats 400000 in
theorem text06_any (l : List UInt8) (w : World) (hl : l.length < 1000000000) :
    Calls Try.prog 37 #[.string (bstr l)] w fun e w' => e = .returned (.string (bstr (countB l.length ++ l))) ∧ Below w.heap.size w w' := by
  have C := Lib.hid (count06_any l.length w (by omega))
  have hw : IntKind.u64.wrap (l.length : Int) = (l.length : Int) := by rw [IntKind.wrap_u64]; omega
  have h1 : (bstr (countB l.length)).size ≤ 100 := by rw [bstr_size]; have := countB_len l.length; omega
  have h2 : (bstr l).size = l.length := bstr_size l
  have h3 : (bstr l).size ≤ 1000000000 := by rw [h2]; omega
  go_enter Try.func37, Try.ntmps37
  go_wp2_with fail
  refine C.out.mono ?_
  rintro e1 w1 ⟨rfl, a1⟩
  have A1 := Lib.hid a1
  clear a1
  go_wp2_with fail
  go_ret
  exact ⟨congrArg (fun s => Ending.returned (Value.string s)) (bstr_append _ _), A1.out⟩
theorem bstr_get (l : List UInt8) (i : Nat) (_h : i < l.length) (h2 : i < (bstr l).size) : (bstr l)[i] = l[i] := rfl
theorem low_step (l : List UInt8) (j : Nat) (hj : j < l.length) (h8 : j < 8) : ofLE ((l.take 8).drop j) = l[j].toNat + 256 * ofLE ((l.take 8).drop (j + 1)) := by
  have h : j < (l.take 8).length := by rw [List.length_take]; omega
  rw [List.drop_eq_getElem_cons h, ofLE, List.getElem_take]
theorem low_lt (l : List UInt8) (j : Nat) : ofLE ((l.take 8).drop (j + 1)) < 72057594037927936 := by
  refine Nat.lt_of_lt_of_le (ofLE_lt _) (Nat.le_trans (pow256_le (k := 7) ?_) (by decide))
  rw [List.length_drop, List.length_take]
  omega
set_option maxRecDepth 20000 in
set_option maxHeartbeats 400000 in
theorem low06_any (l : List UInt8) (w : World) (hl : l.length < 1000000000000) :
    Calls Try.prog 69 #[.string (bstr l)] w fun e w' => e = .returned (.int .u64 (numOf l : Nat)) ∧ w = w' := by
  have hsz := bstr_size l
  go_enter Try.func69, Try.ntmps69
  go_wp2
  go_loopg [3, 4] (l.length + 1) (fun q v3 v4 wr => ∃ (j m : Nat) (z : Int), j + 1 = q ∧ j ≤ l.length ∧ v4 = .int .i64 z ∧ z + 1 = j ∧ v3 = .int .u64 (m : Int) ∧ Hid (m = ofLE ((l.take 8).drop j)) ∧ w = wr)
  case atStart => exact ⟨l.length, 0, _, by omega, by omega, rfl, by omega, rfl, by rw [Hid, List.drop_of_length_le (by rw [List.length_take]; omega)]; rfl, rfl⟩
  case round =>
    obtain ⟨j, m, z, hj, hjl, rfl, hz, rfl, HM, rfl⟩ := hrel
    rcases j with _ | i
    · obtain rfl : z = -1 := by omega
      clear hz
      go_wp2
      go_ret
      exact ⟨by rw [show m = numOf l from HM.out]; rfl, rfl⟩
    · obtain rfl : z = (i : Int) := by omega
      clear hz
      have hil : i < (bstr l).size := by omega
      have hm : m < 72057594037927936 := by rw [HM.out]; exact low_lt l i
      by_cases h8 : i < 8
      · go_wp2
        go_roundg (i + 1)
        case measure => omega
        case rel =>
          refine ⟨i, (l[i]'(by omega)).toNat + 256 * m, _, by omega, by omega, rfl, by omega, ?_, by rw [Hid, HM.out]; exact (low_step l i (by omega) h8).symm, rfl⟩
          congr 1
          rw [bstr_get l i (by omega) hil]
          have := (l[i]'(by omega)).toNat_lt
          rw [IntKind.wrap_u64, IntKind.wrap_u64]
          omega
      · go_wp2
        go_roundg (i + 1)
        case measure => omega
        case rel => exact ⟨i, m, _, by omega, by omega, rfl, by omega, rfl, by rw [Hid, HM.out, List.drop_of_length_le (by rw [List.length_take]; omega), List.drop_of_length_le (by rw [List.length_take]; omega)], rfl⟩
end Go.Proofs.Ytpcombaecbjmfaa
