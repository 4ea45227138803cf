/- Arrays of bytes are compared as lists of bytes. No program in sight. -/
import Derived.Test.YtlbpeihdedhjiaaWa
import Derived.DeepKeys
import Derived.DataShut
import Derived.MapKept
namespace Go.Proofs.Ytlbpeihdedhjiaa
open Go.RowKit
theorem str_ne {a b : ByteArray} (h : ¬ a = b) : (a == b) = false := Bool.eq_false_iff.2 (fun e => h ((Go.MapKept.bytes_beq _ _).1 e))
theorem bstr_beq (l m : List UInt8) : (bstr l == bstr m) = (l == m) := by
  by_cases h : l = m
  · subst h
    rw [(Go.MapKept.bytes_beq _ _).2 rfl]
    simp
  · rw [str_ne (fun e => h (bstr_inj e))]
    symm
    simpa using h
theorem keyLits_arr {P : Program} {t e : TypeId} {n : Nat} (ht : P.underlying t = some (.array n e)) (he : P.underlying e = some (.int .u8)) (hc : P.cellsOf e = 1) (hct : P.cellsOf t = n) (x : List UInt8) (hx : x.length = n) :
    P.keyLits 2 t (bts x) = some (x.map fun b => Lit.int .u8 (b.toNat : Int)) := by
  unfold Program.keyLits
  rw [ht]
  simp only [bts_length, hx, hct, if_true]
  have one : ∀ (i : Nat) (hi : i < n), P.keyLits 1 e (((bts x).drop (i * P.cellsOf e)).take (P.cellsOf e)) = some [Lit.int .u8 ((x[i]'(by omega)).toNat : Int)] := by
    intro i hi
    have h1 : ((bts x).drop (i * P.cellsOf e)).take (P.cellsOf e) = [Bt (x[i]'(by omega))] := by
      rw [hc, Nat.mul_one, List.drop_eq_getElem_cons (by simpa using by omega)]
      simp [bts]
    rw [h1]
    unfold Program.keyLits
    rw [he]
    have := UInt8.toNat_lt (x[i]'(by omega))
    simp only [Bt, Lit.wf, true_and]
    rw [if_pos]
    simp [IntKind.min, IntKind.max, IntKind.signed, IntKind.bits]
    omega
  rw [mapM_some_of_get (List.range n) (x.map fun b => [Lit.int .u8 (b.toNat : Int)]) (by simp [hx])]
  · simp only [Option.map_some, Option.some.injEq]
    clear one hx
    induction x with
    | nil => rfl
    | cons a x ih => simp [ih]
  · intro i j hj
    rw [List.getElem?_eq_some_iff] at hj
    obtain ⟨hi, hj⟩ := hj
    simp at hi hj
    subst hj
    rw [one i hi, List.getElem?_map, List.getElem?_eq_getElem (by omega)]
    rfl
theorem run_eq_arr {P : Program} {t e : TypeId} {n : Nat} (ht : P.underlying t = some (.array n e)) (he : P.underlying e = some (.int .u8)) (hc : P.cellsOf e = 1) (hct : P.cellsOf t = n) (hk : P.keyTypeAt 2 t = true) (x y : List UInt8) (hx : x.length = n) (hy : y.length = n) (w : World) (d : Nat) :
    (Op.equalIn (d + 2) t (.agg (bts x).toArray) (.agg (bts y).toArray)).run P w = .ok (x == y) w := by
  obtain ⟨r, h1, h2⟩ := run_equalIn_deep d 2 t hk w 2 2 (.agg (bts x).toArray) (.agg (bts y).toArray) _ _ (by simp [Value.formed, ht, hct, hx]) (by simp [Value.formed, ht, hct, hy])
    (by simpa [Value.cells] using keyLits_arr ht he hc hct x hx) (by simpa [Value.cells] using keyLits_arr ht he hc hct y hy)
  rw [h1]
  congr 1
  rw [Bool.eq_iff_iff, h2, beq_iff_eq]
  constructor
  · intro h
    have hinj : ∀ (a b : List UInt8), (a.map fun b => Lit.int .u8 (b.toNat : Int)) = (b.map fun b => Lit.int .u8 (b.toNat : Int)) → a = b := by
      intro a
      induction a with
      | nil => intro b h; cases b with | nil => rfl | cons _ _ => simp at h
      | cons u a ih =>
        intro b h
        cases b with
        | nil => simp at h
        | cons v b =>
          simp only [List.map_cons, List.cons.injEq, Lit.int.injEq, true_and] at h
          rw [ih b h.2, UInt8.toNat_inj.1 (by omega : u.toNat = v.toNat)]
    exact hinj x y h
  · intro h; rw [h]
end Go.Proofs.Ytlbpeihdedhjiaa
