/- The parts of layer 6's statements. -/
import Derived.Test.YtmcgfcchmpoalaaShp
namespace Go.Proofs.Ytmcgfcchmpoalaa
/-- a part: its kind, size, number, greatest number, bytes, ID -/
abbrev Part := Int × Int × Int × Int × List UInt8 × List UInt8 × Unit
def partSh : Shape Part := shPair (shInt .i64) (shPair (shInt .i64) (shPair (shInt .u64) (shPair (shInt .u64) (shPair shBytes (shPair (shArr 32) shUnit)))))
def partsSh : Shape (List Part) := shSlice partSh (by decide)
theorem opens_part : Opens Try.prog 44 partSh :=
  opens_struct Try.underlying44 (by kernel_rfl)
    (opensF_cons (opens_int Try.underlying3) rfl (by kernel_rfl) (opensF_cons (opens_int Try.underlying3) rfl (by kernel_rfl)
    (opensF_cons (opens_int Try.underlying32) rfl (by kernel_rfl) (opensF_cons (opens_int Try.underlying32) rfl (by kernel_rfl)
    (opensF_cons (opens_bytes Try.underlying22 Try.underlying5 (by kernel_rfl)) rfl (by kernel_rfl)
    (opensF_cons (opens_arr Try.underlying42 Try.underlying5 (by kernel_rfl) (by kernel_rfl)) rfl (by kernel_rfl) (opensF_nil _)))))))
theorem opens_parts : Opens Try.prog 40 partsSh := opens_slice Try.underlying40 (by kernel_rfl) opens_part
/-- the cells of a part -/
def partC (k sz n m : Int) (v : Value) (id : List UInt8) : List Value := .int .i64 k :: .int .i64 sz :: .int .u64 n :: .int .u64 m :: v :: bts id
theorem partC_len (k sz n m : Int) (v : Value) (id : List UInt8) (h : id.length = 32) : (partC k sz n m v id).length = 37 := by simp [partC, h]
theorem partC_one (k sz n m : Int) (v : Value) (id : List UInt8) (hv : v.oneCell' = true) : ∀ u ∈ partC k sz n m v id, u.oneCell' = true := by
  intro u hu
  simp only [partC, List.mem_cons] at hu
  rcases hu with rfl | rfl | rfl | rfl | rfl | hu
  · rfl
  · rfl
  · rfl
  · rfl
  · exact hv
  · exact bts_one id u hu
/-- a part of a list that lies in memory -/
theorem parts_at {w : World} {ok : Nat → Prop} {A : Option Addr} {n c : Nat} {ps : List Part} (h : partsSh.rel w ok [.slice A n c] ps) {i : Nat} (hi : i < ps.length) :
    ∃ b o k sz nn m l id v, A = some ⟨b, o, none⟩ ∧ ok b ∧ ps[i] = (k, sz, ((nn : Nat) : Int), ((m : Nat) : Int), l, id, ()) ∧ IsB w ok v l ∧ id.length = 32 ∧ RowAt w b (o + i * 37) (partC k sz nn m v id) ∧ -9223372036854775808 ≤ sz ∧ sz < 9223372036854775808 ∧ nn < 18446744073709551616 ∧ m < 18446744073709551616 := by
  obtain ⟨b, o, cs, h1, hok, h3, h4⟩ := shSlice_at h hi
  obtain ⟨c1, d1, e1, r1, c2, d2, e2, r2, c3, d3, e3, r3, c4, d4, e4, r4, c5, d5, e5, r5, c6, d6, e6, r6, r7⟩ := h3
  obtain ⟨r1, w1⟩ := r1
  obtain ⟨r2, w2⟩ := r2
  obtain ⟨r3, w3⟩ := r3
  obtain ⟨r4, w4⟩ := r4
  obtain ⟨v, r5, hb⟩ := r5
  obtain ⟨r6, hid⟩ := r6
  have r7' : d6 = [] := r7
  have b2 := bounds_i64 w2
  have b3 := bounds_u64 w3
  have b4 := bounds_u64 w4
  obtain ⟨n3, hn3⟩ := Int.eq_ofNat_of_zero_le b3.1
  obtain ⟨n4, hn4⟩ := Int.eq_ofNat_of_zero_le b4.1
  refine ⟨b, o, ps[i].1, ps[i].2.1, n3, n4, ps[i].2.2.2.2.1, ps[i].2.2.2.2.2.1, v, h1, hok, ?_, hb, hid, ?_, b2.1, by omega, by omega, by omega⟩
  · rw [← hn3, ← hn4]
  · have : cs = partC ps[i].1 ps[i].2.1 n3 n4 v ps[i].2.2.2.2.2.1 := by
      rw [e1, e2, e3, e4, e5, e6, r1, r2, r3, r4, r5, r6, r7', hn3, hn4]
      simp [partC]
    rw [← this]
    exact h4
end Go.Proofs.Ytmcgfcchmpoalaa
