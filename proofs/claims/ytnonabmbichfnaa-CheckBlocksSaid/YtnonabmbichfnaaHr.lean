/- head.get4, head.Read. -/
import Derived.Test.YtnonabmbichfnaaRd
import Derived.Test.YtnonabmbichfnaaHa
import Derived.Test.YtnonabmbichfnaaBl
namespace Go.Proofs.Ytnonabmbichfnaa
open Go.RowKit
theorem get4_bits (a b c d : UInt8) : bits .or .u32 (bits .or .u32 (bits .or .u32 ((a.toNat : Int) % 4294967296) ((b.toNat : Int) % 4294967296 * 256 % 4294967296)) ((c.toNat : Int) % 4294967296 * 65536 % 4294967296)) ((d.toNat : Int) % 4294967296 * 16777216 % 4294967296) = ((ofLE [a, b, c, d] : Nat) : Int) := by
  have := a.toNat_lt; have := b.toNat_lt; have := c.toNat_lt; have := d.toNat_lt
  rw [show (a.toNat : Int) % 4294967296 = ((a.toNat : Nat) : Int) by omega, show (b.toNat : Int) % 4294967296 * 256 % 4294967296 = ((b.toNat * 2 ^ 8 : Nat) : Int) by omega, show (c.toNat : Int) % 4294967296 * 65536 % 4294967296 = ((c.toNat * 2 ^ 16 : Nat) : Int) by omega, show (d.toNat : Int) % 4294967296 * 16777216 % 4294967296 = ((d.toNat * 2 ^ 24 : Nat) : Int) by omega]
  rw [or32 _ _ (by omega) (by omega), Nat.or_comm, or_add _ _ 8 (by omega)]
  rw [or32 _ _ (by omega) (by omega), Nat.or_comm, or_add _ _ 16 (by omega)]
  rw [or32 _ _ (by omega) (by omega), Nat.or_comm, or_add _ _ 24 (by omega)]
  simp only [ofLE]
  omega
theorem row_sub {w : World} {b o : Nat} {l : List UInt8} (h : RowAt w b o (bts l)) (i k : Nat) : RowAt w b (o + i) (bts ((l.drop i).take k)) := by
  have := (h.drop i).take k
  rwa [show ((bts l).drop i).take k = bts ((l.drop i).take k) by simp [bts, List.map_drop, List.map_take]] at this
/-- the four bytes, the sum, at a place -/
def n4 (l : List UInt8) (i : Nat) : Nat := ofLE ((l.drop i).take 4)
def id32 (l : List UInt8) (i : Nat) : List UInt8 := (l.drop i).take 32
def z32 : List UInt8 := List.replicate 32 0
/-- the header that bytes are: its cells -/
def hdrR (l : List UInt8) : List Value := if l.length = 80 then hdrC (n4 l 0) (id32 l 4) (id32 l 36) (n4 l 68) (n4 l 72) (n4 l 76) else hdrC 0 z32 z32 0 0 0
def hdrE (l : List UInt8) : Int := if l.length = 80 then 0 else 6
theorem built_hdr0 : Try.prog.built 39 [] = some (hdrC 0 z32 z32 0 0 0).toArray := by show _ = _; kernel_rfl
theorem built_hdr6 (v t b n : Int) (x y : List UInt8) (hx : x.length = 32) (hy : y.length = 32) : Try.prog.built 39 [(0, .int .u32 v), (1, .agg (bts x).toArray), (2, .agg (bts y).toArray), (3, .int .u32 t), (4, .int .u32 b), (5, .int .u32 n)] = some (.int .u32 v :: (bts x ++ (bts y ++ [.int .u32 t, .int .u32 b, .int .u32 n]))).toArray := by
  match x, hx with
  | [_, _, _, _, _, _, _, _, _, _, _, _, _, _, _, _, _, _, _, _, _, _, _, _, _, _, _, _, _, _, _, _], _ =>
    match y, hy with
    | [_, _, _, _, _, _, _, _, _, _, _, _, _, _, _, _, _, _, _, _, _, _, _, _, _, _, _, _, _, _, _, _], _ => (show _ = _; kernel_rfl)
theorem drewN_row {w : World} {b o : Nat} {xs : List Value} (h : RowAt w b o xs) (n : Nat) : RowAt (w.drewN n) b o xs := h
theorem exec_arr {P : Program} {o : Oper} {a : Act} {w : World} {ty e : TypeId} {n : Nat} {x : Operand} {A : Option Addr} {len cap : Nat} (ho : o.op = .sliceToArrayPointer ty x) (hu : P.underlying ty = some (.array n e)) (hx : a.eval x = .slice A len cap) (hn : n ≤ len) : (execOp a.eval o).run P w = .ok (.value (.pointer A)) w := by
  have h : ¬ len < n := by omega
  unfold execOp
  simp only [ho, hx]
  simp [Instr.arrayAt, run_underlying hu, h]
end Go.Proofs.Ytnonabmbichfnaa
