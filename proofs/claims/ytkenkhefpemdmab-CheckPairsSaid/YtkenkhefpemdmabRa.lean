/- The document's answers of layer 6, walked. -/
import Derived.Test.YtkenkhefpemdmabPa
import Derived.Test.YtkenkhefpemdmabRows
namespace Go.Proofs.Ytkenkhefpemdmab
open Go.RowKit

theorem bstr_nil : (⟨#[]⟩ : ByteArray) = bstr [] := rfl
theorem les_zero (n : Nat) : les 0 n = [] := rfl
theorem div_pow (n k : Nat) : n / 256 ^ k / 256 = n / 256 ^ (k + 1) := by rw [Nat.div_div_eq_div_mul, Nat.pow_succ]
theorem run_byte {P : Program} {src e dst : TypeId} (hs : P.underlying src = some (.slice e)) (he : P.underlying e = some (.int .u8)) (hd : P.underlying dst = some .string) (w : World) (x : Int) (b : UInt8) (hx : Value.int .u8 x = Bt b) (t : TypeId) :
    (convert src dst (.slice (some ⟨w.heap.size, 0, none⟩) 1 1)).run P (w.alloc (.cells #[.int .u8 x] t)) = .ok (.string (bstr [b])) (w.alloc (.cells #[.int .u8 x] t)) := by
  rw [hx]
  exact IsB.str (ok := fun b => b = w.heap.size) ⟨_, 1, 1, rfl, rfl, Nat.le_refl _, Sl.one_new w t (Bt b)⟩ hs he hd
theorem byte_mod (m : Nat) (x : Int) (hx : x = ((m % 256 : Nat) : Int)) : Value.int .u8 x = Bt (UInt8.ofNat m) := by
  unfold Bt
  rw [hx, u8_of]
/-! Count -/
theorem str_cons (x : UInt8) (l : List UInt8) : (⟨#[x]⟩ : ByteArray) ++ bstr l = bstr (x :: l) := by
  have : (⟨#[x]⟩ : ByteArray) = bstr [x] := rfl
  rw [this, bstr_append]
  rfl
theorem bstr_get (l : List UInt8) (i : Nat) (_h : i < l.length) (h2 : i < (bstr l).size) : (bstr l)[i] = l[i] := rfl
theorem low_step (l : List UInt8) (j : Nat) (hj : j < l.length) (h8 : j < 8) : ofLE ((l.take 8).drop j) = l[j].toNat + 256 * ofLE ((l.take 8).drop (j + 1)) := by
  have h : j < (l.take 8).length := by rw [List.length_take]; omega
  rw [List.drop_eq_getElem_cons h, ofLE, List.getElem_take]
theorem low_lt (l : List UInt8) (j : Nat) : ofLE ((l.take 8).drop (j + 1)) < 72057594037927936 := by
  refine Nat.lt_of_lt_of_le (ofLE_lt _) (Nat.le_trans (pow256_le (k := 7) ?_) (by decide))
  rw [List.length_drop, List.length_take]
  omega
end Go.Proofs.Ytkenkhefpemdmab
