/- The document's State of layer 6: Take, Number. -/
import Derived.Test.YtnonabmbichfnaaRa
import Derived.RegionTactic
import Derived.BigRegion
import Derived.Deep.CutBlock
import Derived.Deep.DeepCutAuto
namespace Go.Proofs.Ytnonabmbichfnaa
open Go.RowKit
/-- the document's state: what is left, the error's number -/
def stV (l : List UInt8) (c : Int) : Value := .agg #[.string (bstr l), .int .i64 c]
theorem bstr_take (l : List UInt8) (k : Nat) : (bstr l).extract 0 k = bstr (l.take k) := by
  apply ByteArray.ext
  rw [ByteArray.data_extract]
  apply Array.ext'
  simp [bstr]
theorem bstr_drop (l : List UInt8) (k : Nat) : (bstr l).extract k l.length = bstr (l.drop k) := by
  apply ByteArray.ext
  rw [ByteArray.data_extract]
  apply Array.ext'
  simp only [bstr, List.extract_toArray, List.extract_eq_take_drop]
  rw [List.take_of_length_le (by simp)]
theorem rawO_take_lt (l : List UInt8) (k : Nat) (hk : k ≤ 8) : numOf (rawO l k) < 256 ^ k := by
  by_cases h : k ≤ l.length
  · rw [(raw_parts l k h 0).1]; exact numOf_lt l k hk
  · rw [(raw_bad l k (by omega) 0).1]; exact Nat.pow_pos (by decide)
theorem rawL_len (l : List UInt8) (n : Int) : (rawL l n).length ≤ l.length := by unfold rawL; split <;> simp
theorem count_form (n k least : Nat) (h : k = 2 ∧ least = 253 ∨ k = 4 ∧ least = 65536 ∨ k = 8 ∧ least = 4294967296) (hn : n < 256 ^ k) : ((countB n).length = k + 1) ↔ ¬ n < least := by
  rw [countB_length']
  rcases h with ⟨rfl, rfl⟩ | ⟨rfl, rfl⟩ | ⟨rfl, rfl⟩
  all_goals
    repeat' split
    all_goals omega
/-- behind an error nothing is left -/
def okSt (l : List UInt8) (e : Int) : Prop := e ≠ 0 → l = []
theorem okSt.raw {l : List UInt8} {e : Int} (h : okSt l e) (n : Int) : okSt (rawL l n) (rawE l e n) := by
  unfold rawL rawE
  split
  · intro _; rfl
  · intro he; rw [h he]; simp
end Go.Proofs.Ytnonabmbichfnaa
