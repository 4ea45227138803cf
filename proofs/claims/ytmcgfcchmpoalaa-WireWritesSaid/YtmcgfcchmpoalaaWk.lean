/- What a part is written as; law06's 'size'. -/
import Derived.Laws.Bits64b
import Derived.Test.YtmcgfcchmpoalaaWj
import Derived.Test.YtmcgfcchmpoalaaRb
import Derived.Test.YtmcgfcchmpoalaaSp
import Derived.Test.YtmcgfcchmpoalaaPa
import Derived.Test.YtmcgfcchmpoalaaEq
namespace Go.Proofs.Ytmcgfcchmpoalaa
open Go.RowKit
def clamp8 (n : Int) : Nat := (min n 8).toNat
set_option maxRecDepth 20000 in
set_option maxHeartbeats 400000 in
theorem size06_any (n : Int) (w : World) : Calls Try.prog 22 #[.int .i64 n] w fun e w' => e = .returned (.int .i64 (clamp8 n : Nat)) ∧ w = w' := by
  have hq : ((clamp8 n : Nat) : Int) = if 8 < n then 8 else if n < 0 then 0 else n := by unfold clamp8; repeat' split <;> omega
  by_cases h1 : 8 < n
  · have d1 : decide (n < 8) = false := by simp; omega
    have d2 : decide (8 < n) = true := by simpa using h1
    rw [if_pos h1] at hq
    rw [hq]
    clear hq
    go_enter Try.func22, Try.ntmps22
    go_wp2
    all_goals (go_ret; exact ⟨rfl, rfl⟩)
  · rw [if_neg h1] at hq
    by_cases h0 : n < 0
    · rw [if_pos h0] at hq
      rw [hq]
      clear hq
      go_enter Try.func22, Try.ntmps22
      go_wp2
      all_goals (go_ret; exact ⟨rfl, rfl⟩)
    · rw [if_neg h0] at hq
      rw [hq]
      clear hq
      go_enter Try.func22, Try.ntmps22
      go_wp2
      all_goals go_ret
      · exact ⟨rfl, rfl⟩
      · obtain rfl : n = 0 := by omega
        exact ⟨rfl, rfl⟩
/-- a part's bytes -/
def partB : Part → List UInt8
  | (k, sz, n, _, l, id, _) => if k = 0 then le sz n.toNat else if k = 1 then countB n.toNat else if k = 2 then l else if k = 3 then countB l.length ++ l else if k = 4 then id else []
theorem le_len8 (k : Int) (n : Nat) : (le k n).length ≤ 8 := by rw [le, les_length]; omega
theorem partB_len (p : Part) (h : p.2.2.2.2.1.length ≤ 1000) (hi : p.2.2.2.2.2.1.length = 32) : (partB p).length ≤ 1100 := by
  obtain ⟨k, sz, n, m, l, id, _⟩ := p
  simp only [partB] at h hi ⊢
  have := le_len8 sz n.toNat
  have := countB_len n.toNat
  have := countB_len l.length
  repeat' split
  all_goals simp <;> omega
theorem take_snoc {α : Type} (l : List α) (i : Nat) (h : i < l.length) : l.take (i + 1) = l.take i ++ [l[i]] := by
  rw [List.take_add_one, List.getElem?_eq_getElem h]; rfl
theorem drop_part (ps : List Part) (i : Nat) (h : i < ps.length) : (ps.drop i).flatMap partB = partB ps[i] ++ (ps.drop (i + 1)).flatMap partB := by
  rw [List.drop_eq_getElem_cons h, List.flatMap_cons]
theorem textS_app (pl R : List UInt8) (n : Nat) (h : n = pl.length) (hl : pl.length < 18446744073709551616) : textS (countB pl.length ++ pl ++ R) 0 (n : Int) = (pl, R, 0) := by
  subst h
  have hc : rcountS (countB pl.length ++ (pl ++ R)) 0 pl.length = (pl.length, pl ++ R, 0) := by rw [rcountS_countB _ _ hl, if_neg (by simp), if_neg (by omega)]
  rw [textS, Int.toNat_natCast, List.append_assoc, hc]
  simp only [rawO_app pl R _ rfl, rawL_app pl R _ rfl, rawE_app pl R _ _ rfl]
section
variable {P : Program} {ops : Array Oper} {o : Oper} {a : Act} {w : World} {Q : Exit → Act → World → Prop} {K : Act → World → Prop}
theorem step_ld {E : Prop} (hgd : o.guard = none) (ty : TypeId) (x : Operand) (ho : o.op = .load ty x) (b oo : Nat) (hx : a.eval x = .pointer (some ⟨b, oo, none⟩)) (cs : List Value) (hc : RowAt w b oo cs)
    (d : TypeDesc) (hu : P.underlying ty = some d) (hd : d.isRow = true) (n : Nat) (hi : (P.info? ty).map (·.size) = some n) (hn : n = cs.length)
    (h : K (a.put o.dst (.agg cs.toArray)) w) : if Region.wanted o (yielded ops a.tmps) = true then Oper.wp P o a w K Q else E := by
  have hw : Region.wanted o (yielded ops a.tmps) = true := by simp [Region.wanted, hgd]
  rw [if_pos hw]
  exact wp_load_mid ty x ho b oo hx cs d hc hu hd (by rw [hi, hn]) h
end
theorem and_pow (n k : Nat) (h : n < 18446744073709551616) (hk : k ≤ 7) : (((n % 256 ^ k : Nat) : Int) != bits BinOp.and IntKind.u64 ((n : Nat) : Int) (((256 ^ k - 1 : Nat) : Nat) : Int)) = false := by
  have h1 : 256 ^ k - 1 < 18446744073709551616 := by
    have : 256 ^ k ≤ 256 ^ 7 := Nat.pow_le_pow_right (by decide) hk
    omega
  rw [bits_and_u64_nat n _ h h1, show (256 : Nat) ^ k = 2 ^ (8 * k) by rw [show (256 : Nat) = 2 ^ 8 by decide, ← Nat.pow_mul], Nat.and_two_pow_sub_one_eq_mod, bne_self_eq_false]
theorem idS_self' (o : List UInt8) (h : o.length = 32) : idS o = o := by rw [idS, h, List.take_of_length_le (by omega)]; simp
theorem row5 {w : World} {q : Nat} {t : TypeId} {k sz n m : Int} {v : Value} {id : List UInt8} (h : Blk w q t (partC k sz n m v id).toArray) : RowAt w.drew q 5 (bts id) := fun j u hj => by
  have := (h.drew).cell (5 + j)
  rw [this, Nat.add_comm 5 j]; simpa [partC] using hj
theorem infoPartW : (Try.prog.info? 44).map (·.size) = some 37 := by kernel_rfl
theorem IsB.of_blk5 {w : World} {q : Nat} {t : TypeId} {k sz n m : Int} {v : Value} {id : List UInt8} (h : Blk w q t (partC k sz n m v id).toArray) (hl : id.length = 32) : IsB w (fun b => b = q) (.slice (some ⟨q, 5, none⟩) 32 32) id :=
  ⟨some ⟨q, 5, none⟩, 32, 32, rfl, hl.symm, Nat.le_refl _, by simp [hl], fun _ => ⟨q, 5, rfl, rfl, fun j u hj => by rw [h.cell (5 + j), Nat.add_comm 5 j]; simpa [partC] using hj⟩⟩
end Go.Proofs.Ytmcgfcchmpoalaa
