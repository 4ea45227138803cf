/- head.put4, head.Bytes. -/
import Derived.Test.YtlbpeihdedhjiaaSt
import Derived.Test.YtlbpeihdedhjiaaTw
import Derived.Test.YtlbpeihdedhjiaaHc
import Derived.Deep.RegionLaw
import Derived.Deep.RegionHeld3
namespace Go.Proofs.Ytlbpeihdedhjiaa
open Go.RowKit
section
variable {P : Program} {ops : Array Oper} {o : Oper} {a : Act} {w : World} {Q : Exit → Act → World → Prop} {K : Act → World → Prop}
theorem step_app {E : Prop} (hgd : o.guard = none) (s x : Operand) (t : TypeId)
    (ho : o.op = .call { callee := .builtin .append, args := #[s, x], argTypes := #[t, t] })
    (base : Nat) (e : TypeId) (z : Value) (size bytes : Nat) (ht : P.underlying t = some (.slice e))
    (hinfo : (P.info? e).map (fun i => (i.zero, i.size, i.bytes)) = some (some z, size, bytes)) (hzs : z.cells.size = size) (hsz : 0 < size)
    (A0 : Option Addr) (n c0 : Nat) (hs : a.eval s = .slice A0 n c0) (A : Option Addr) (m c : Nat) (hx : a.eval x = .slice A m c)
    (xs : List Value) (hown : w.ownsRow base e size (.slice A0 n c0) n xs)
    (ok : Nat → Prop) (news : List Value) (hr : Sl w ok size A m news) (h1 : ∀ u ∈ news, u.oneCell' = true)
    (h63 : n + m ≤ maxLen) (hbytes : (n + m) * bytes ≤ 140737488355328) (hbase : base ≤ w.heap.size)
    (h : ∀ A' c' w', w'.ownsRow base e size (.slice A' (n + m) c') (n + m) (xs ++ news) → Only (fun b => (Value.slice A0 n c0).ownBlock = some b) w w' →
      ((Value.slice A' (n + m) c').ownBlock = (Value.slice A0 n c0).ownBlock ∨ (Value.slice A' (n + m) c').ownBlock = some w.heap.size) → K (a.put o.dst (.slice A' (n + m) c')) w') :
    if Region.wanted o (yielded ops a.tmps) = true then Oper.wp P o a w K Q else E := by
  have hw : Region.wanted o (yielded ops a.tmps) = true := by simp [Region.wanted, hgd]
  rw [if_pos hw]
  exact wp_app w s x t ho base e z size bytes ht hinfo hzs hsz A0 n c0 hs A m c hx xs hown ok news hr h1 h63 hbytes hbase h
end
theorem les4_cells (n : Nat) : bts (les 4 n) = [.int .u8 ((n : Int) % 256), .int .u8 ((n : Int) / 256 % 256), .int .u8 ((n : Int) / 65536 % 256), .int .u8 ((n : Int) / 16777216 % 256)] := by
  have e : les 4 n = [leb n 0, leb n 1, leb n 2, leb n 3] := rfl
  rw [e]
  simp only [bts, List.map_cons, List.map_nil, ← leb_cell]
  simp
/-- bytes of one's own: nobody else's from 'base' on -/
def Own (w : World) (base : Nat) (A : Option Addr) (c : Nat) (l : List UInt8) : Prop := w.ownsRow base 5 1 (.slice A l.length c) l.length (bts l)
theorem Own.only {w w' : World} {base : Nat} {A : Option Addr} {c : Nat} {l : List UInt8} {S : Nat → Prop} (h : Own w base A c l) (hw : Only S w w') (hn : ∀ k, (Value.slice A l.length c).ownBlock = some k → ¬ S k) : Own w' base A c l := own_only h hw hn
/-- the cells of a header -/
def hdrC (v : Nat) (prev root : List UInt8) (t b n : Nat) : List Value := .int .u32 ((v : Nat) : Int) :: (bts prev ++ (bts root ++ [.int .u32 ((t : Nat) : Int), .int .u32 ((b : Nat) : Int), .int .u32 ((n : Nat) : Int)]))
theorem hdrC_len (v : Nat) (prev root : List UInt8) (t b n : Nat) (h1 : prev.length = 32) (h2 : root.length = 32) : (hdrC v prev root t b n).length = 68 := by simp [hdrC, h1, h2]
theorem hdrC_one (v : Nat) (prev root : List UInt8) (t b n : Nat) : ∀ u ∈ hdrC v prev root t b n, u.oneCell' = true := by
  intro u hu
  simp only [hdrC, List.mem_cons, List.mem_append, List.not_mem_nil, or_false] at hu
  rcases hu with rfl | hu | hu | rfl | rfl | rfl
  · rfl
  · exact bts_one _ u hu
  · exact bts_one _ u hu
  · rfl
  · rfl
  · rfl
theorem hdr_cells {w : World} {ok : Nat → Prop} {cs : List Value} {h : HdrT} (hh : hdrSh.rel w ok cs h) :
    ∃ (v t b n : Nat) (prev root : List UInt8), h = (((v : Nat) : Int), prev, root, ((t : Nat) : Int), ((b : Nat) : Int), ((n : Nat) : Int), ()) ∧ cs = hdrC v prev root t b n ∧ prev.length = 32 ∧ root.length = 32 ∧ v < 4294967296 ∧ t < 4294967296 ∧ b < 4294967296 ∧ n < 4294967296 := by
  obtain ⟨v, prev, root, t, b, n, _⟩ := h
  obtain ⟨c1, d1, rfl, ⟨h1, w1⟩, ⟨c2, d2, rfl, ⟨h2, l2⟩, ⟨c3, d3, rfl, ⟨h3, l3⟩, ⟨c4, d4, rfl, ⟨h4, w4⟩, ⟨c5, d5, rfl, ⟨h5, w5⟩, ⟨c6, d6, rfl, ⟨h6, w6⟩, h7⟩⟩⟩⟩⟩⟩ := hh
  have b1 := bounds_u32' w1
  have b4 := bounds_u32' w4
  have b5 := bounds_u32' w5
  have b6 := bounds_u32' w6
  simp only at b1 b4 b5 b6 h1 h2 h3 h4 h5 h6 l2 l3
  obtain ⟨v, rfl⟩ := Int.eq_ofNat_of_zero_le b1.1
  obtain ⟨t, rfl⟩ := Int.eq_ofNat_of_zero_le b4.1
  obtain ⟨b, rfl⟩ := Int.eq_ofNat_of_zero_le b5.1
  obtain ⟨n, rfl⟩ := Int.eq_ofNat_of_zero_le b6.1
  have h7' : d6 = [] := h7
  subst h1 h2 h3 h4 h5 h6 h7'
  exact ⟨v, t, b, n, prev, root, rfl, by simp [hdrC], l2, l3, by omega, by omega, by omega, by omega⟩
/-- a header's bytes -/
def hdrB (v : Nat) (prev root : List UInt8) (t b n : Nat) : List UInt8 := les 4 v ++ prev ++ root ++ les 4 t ++ les 4 b ++ les 4 n
theorem hdrB_len (v : Nat) (prev root : List UInt8) (t b n : Nat) (h1 : prev.length = 32) (h2 : root.length = 32) : (hdrB v prev root t b n).length = 80 := by simp [hdrB, les_length, h1, h2]
theorem hdr_cell0 {w : World} {q v t b n : Nat} {prev root : List UInt8} {T : TypeId} (h : Blk w q T (hdrC v prev root t b n).toArray) : w.cell? ⟨q, 0, none⟩ = some (.int .u32 ((v : Nat) : Int)) := by
  rw [h.cell 0, List.getElem?_toArray, hdrC]; rfl
theorem hdr_cellT {w : World} {q v t b n : Nat} {prev root : List UInt8} {T : TypeId} (h : Blk w q T (hdrC v prev root t b n).toArray) (h1 : prev.length = 32) (h2 : root.length = 32) :
    w.cell? ⟨q, 65, none⟩ = some (.int .u32 ((t : Nat) : Int)) ∧ w.cell? ⟨q, 66, none⟩ = some (.int .u32 ((b : Nat) : Int)) ∧ w.cell? ⟨q, 67, none⟩ = some (.int .u32 ((n : Nat) : Int)) := by
  refine ⟨?_, ?_, ?_⟩
  · rw [h.cell 65, List.getElem?_toArray, hdrC, List.getElem?_cons_succ, List.getElem?_append_right (by simp [h1]), List.getElem?_append_right (by simp [h1, h2])]; simp [h1, h2]
  · rw [h.cell 66, List.getElem?_toArray, hdrC, List.getElem?_cons_succ, List.getElem?_append_right (by simp [h1]), List.getElem?_append_right (by simp [h1, h2])]; simp [h1, h2]
  · rw [h.cell 67, List.getElem?_toArray, hdrC, List.getElem?_cons_succ, List.getElem?_append_right (by simp [h1]), List.getElem?_append_right (by simp [h1, h2])]; simp [h1, h2]
theorem hdr_prev {w : World} {q v t b n : Nat} {prev root : List UInt8} {T : TypeId} (h : Blk w q T (hdrC v prev root t b n).toArray) (h1 : prev.length = 32) : Sl w (fun b => b = q) 1 (some ⟨q, 1, none⟩) 32 (bts prev) :=
  ⟨by simp [h1], fun _ => ⟨q, 1, rfl, rfl, fun j u hj => by
    have hjl := (List.getElem?_eq_some_iff.1 hj).1
    rw [h.cell (1 + j), List.getElem?_toArray, hdrC, Nat.add_comm 1 j, List.getElem?_cons_succ, List.getElem?_append_left hjl]; exact hj⟩⟩
theorem hdr_root {w : World} {q v t b n : Nat} {prev root : List UInt8} {T : TypeId} (h : Blk w q T (hdrC v prev root t b n).toArray) (h1 : prev.length = 32) (h2 : root.length = 32) : Sl w (fun b => b = q) 1 (some ⟨q, 33, none⟩) 32 (bts root) :=
  ⟨by simp [h2], fun _ => ⟨q, 33, rfl, rfl, fun j u hj => by
    have hjl := (List.getElem?_eq_some_iff.1 hj).1
    rw [h.cell (33 + j), List.getElem?_toArray, hdrC, show 33 + j = (32 + j) + 1 by omega, List.getElem?_cons_succ, List.getElem?_append_right (by simp [h1]), show 32 + j - (bts prev).length = j by simp [h1], List.getElem?_append_left hjl]; exact hj⟩⟩
end Go.Proofs.Ytlbpeihdedhjiaa
