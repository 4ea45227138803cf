/- hash.block. -/
import Derived.Test.YtlbpeihdedhjiaaHa
import Derived.Deep.RegionHeld3
namespace Go.Proofs.Ytlbpeihdedhjiaa
open Go.RowKit
def us (l : List Nat) : List Value := l.map fun (x : Nat) => Value.int .u32 ((x : Nat) : Int)
theorem us_length (l : List Nat) : (us l).length = l.length := by simp [us]
theorem us_append (a b : List Nat) : us (a ++ b) = us a ++ us b := by simp [us]
theorem us_get (l : List Nat) (i : Nat) (h : i < l.length) : (us l)[i]? = some (.int .u32 ((l.getD i 0 : Nat) : Int)) := by simp [us, h, List.getD]
def sg0 (x : Nat) : Nat := rot x 7 ^^^ rot x 18 ^^^ x / 8
def sg1 (x : Nat) : Nat := rot x 17 ^^^ rot x 19 ^^^ x / 1024
/-- the next word of the schedule -/
def wnext (b : List UInt8) (l : List Nat) : Nat :=
  if l.length < 16 then wordS b (4 * l.length)
  else (l.getD (l.length - 16) 0 + sg0 (l.getD (l.length - 15) 0) + l.getD (l.length - 7) 0 + sg1 (l.getD (l.length - 2) 0)) % 4294967296
def sched (b : List UInt8) : Nat → List Nat
  | 0 => []
  | n + 1 => sched b n ++ [wnext b (sched b n)]
theorem sched_len (b : List UInt8) (n : Nat) : (sched b n).length = n := by
  induction n with
  | zero => rfl
  | succ n ih => simp [sched, ih]
theorem wnext_lt (b : List UInt8) (l : List Nat) : wnext b l < 4294967296 := by
  unfold wnext
  split
  · exact wordS_lt _ _
  · exact Nat.mod_lt _ (by decide)
theorem sched_lt (b : List UInt8) (n : Nat) : ∀ x ∈ sched b n, x < 4294967296 := by
  induction n with
  | zero => intro x hx; simp [sched] at hx
  | succ n ih =>
    intro x hx
    rw [sched, List.mem_append] at hx
    rcases hx with hx | hx
    · exact ih x hx
    · rw [List.mem_singleton] at hx; rw [hx]; exact wnext_lt _ _
theorem sched_getD_lt (b : List UInt8) (n j : Nat) : (sched b n).getD j 0 < 4294967296 := by
  rw [List.getD]
  cases h : (sched b n)[j]? with
  | none => simp
  | some x => exact sched_lt b n x (List.mem_of_getElem? h)
theorem xor_lt32 (a b : Nat) (ha : a < 4294967296) (hb : b < 4294967296) : a ^^^ b < 4294967296 := by
  have := @Nat.xor_lt_two_pow a b 32 (by omega) (by omega); omega
theorem x3_bits (x n m k : Nat) (hx : x < 4294967296) (hn : n ≤ 32) (hm : m ≤ 32) : bits .xor .u32 (bits .xor .u32 ((rot x n : Nat) : Int) ((rot x m : Nat) : Int)) ((x / k : Nat) : Int) = ((rot x n ^^^ rot x m ^^^ x / k : Nat) : Int) := by
  have h1 := rot_lt x n hx hn
  have h2 := rot_lt x m hx hm
  have h3 : x / k ≤ x := Nat.div_le_self _ _
  rw [xor32 _ _ h1 h2, xor32 _ _ (xor_lt32 _ _ h1 h2) (by omega)]
theorem sg0_bits (x : Nat) (hx : x < 4294967296) : bits .xor .u32 (bits .xor .u32 ((rot x 7 : Nat) : Int) ((rot x 18 : Nat) : Int)) ((x : Int) / 8) = ((sg0 x : Nat) : Int) := x3_bits x 7 18 8 hx (by omega) (by omega)
theorem sg1_bits (x : Nat) (hx : x < 4294967296) : bits .xor .u32 (bits .xor .u32 ((rot x 17 : Nat) : Int) ((rot x 19 : Nat) : Int)) ((x : Int) / 1024) = ((sg1 x : Nat) : Int) := x3_bits x 17 19 1024 hx (by omega) (by omega)
/-- the cells of the schedule, so far -/
def wcells (b : List UInt8) (n : Nat) : List Value := us (sched b n ++ List.replicate (64 - n) 0)
theorem wcells_len (b : List UInt8) (n : Nat) (h : n ≤ 64) : (wcells b n).length = 64 := by simp [wcells, us_length, sched_len]; omega
theorem wcells_set (b : List UInt8) (n : Nat) (h : n < 64) : (wcells b n).set n (.int .u32 ((wnext b (sched b n) : Nat) : Int)) = wcells b (n + 1) := by
  have h1 : List.replicate (64 - n) 0 = 0 :: List.replicate (64 - (n + 1)) 0 := by rw [show 64 - n = (64 - (n + 1)) + 1 by omega]; rfl
  unfold wcells
  rw [h1, us_append, us_append, sched, us_append, List.set_append_right _ _ (by rw [us_length, sched_len]; omega), us_length, sched_len, Nat.sub_self]
  simp [us]
theorem wcells_get (b : List UInt8) (n i : Nat) (h : i < n) : (wcells b n)[i]? = some (.int .u32 (((sched b n).getD i 0 : Nat) : Int)) := by
  rw [wcells, us_append, List.getElem?_append_left (by rw [us_length, sched_len]; exact h), us_get _ _ (by rw [sched_len]; exact h)]
theorem wcells_any (b : List UInt8) (n i : Nat) (h : i < 64) (hn : n ≤ 64) : ∃ x : Nat, (wcells b n)[i]? = some (.int .u32 (x : Int)) := by
  unfold wcells
  exact ⟨_, us_get _ _ (by rw [List.length_append, sched_len, List.length_replicate]; omega)⟩
/-- the three blocks of hash.block -/
structure Bk3 (w0 wr : World) (p2 p4 p5 : Nat) (c2 c4 c5 : List Value) : Prop where
  b2 : Blk wr p2 92 c2.toArray
  b4 : Blk wr p4 92 c4.toArray
  b5 : Blk wr p5 112 c5.toArray
  below : Below w0.heap.size w0 wr
  h2 : w0.heap.size ≤ p2
  h4 : p2 < p4
  h5 : p4 < p5
theorem below_drewN2 {B : Nat} {a w : World} (h : Below B a w) (n : Nat) : Below B a (w.drewN n) := ⟨h.os, h.tape, h.output, h.size, h.block⟩
theorem Bk3.drewN {w0 wr : World} {p2 p4 p5 : Nat} {c2 c4 c5 : List Value} (h : Bk3 w0 wr p2 p4 p5 c2 c4 c5) (n : Nat) : Bk3 w0 (wr.drewN n) p2 p4 p5 c2 c4 c5 :=
  ⟨h.b2.drewN n, h.b4.drewN n, h.b5.drewN n, below_drewN2 h.below n, h.h2, h.h4, h.h5⟩
theorem Bk3.drew {w0 wr : World} {p2 p4 p5 : Nat} {c2 c4 c5 : List Value} (h : Bk3 w0 wr p2 p4 p5 c2 c4 c5) : Bk3 w0 wr.drew p2 p4 p5 c2 c4 c5 := h.drewN 1
theorem Bk3.only {w0 wr w' : World} {p2 p4 p5 : Nat} {c2 c4 c5 : List Value} {S : Nat → Prop} (h : Bk3 w0 wr p2 p4 p5 c2 c4 c5) (ho : Only S wr w') (hn : ∀ b, b ≤ p5 → ¬ S b) : Bk3 w0 w' p2 p4 p5 c2 c4 c5 :=
  ⟨h.b2.only ho (hn _ (by have := h.h4; have := h.h5; omega)), h.b4.only ho (hn _ (by have := h.h5; omega)), h.b5.only ho (hn _ (Nat.le_refl _)), h.below.trans (ho.below h.below.size (fun b hb hs => hn b (by have := h.h2; have := h.h4; have := h.h5; omega) hs)), h.h2, h.h4, h.h5⟩
theorem Bk3.set5 {w0 wr : World} {p2 p4 p5 : Nat} {c2 c4 c5 : List Value} (h : Bk3 w0 wr p2 p4 p5 c2 c4 c5) (i : Nat) (u : Value) : Bk3 w0 (wr.setCell ⟨p5, i, none⟩ u) p2 p4 p5 c2 c4 (c5.set i u) := by
  have := h.h2; have := h.h4; have := h.h5
  refine ⟨h.b2.far (by show p2 ≠ p5; omega) u, h.b4.far (by show p4 ≠ p5; omega) u, ?_, h.below.trans (Only.below ((Only.refl (fun b => b = p5) wr).setCell (fun _ => rfl) u) h.below.size (fun b hb e => by omega)), h.h2, h.h4, h.h5⟩
  have := h.b5.set_ i u
  simpa using this
theorem Bk3.set2 {w0 wr : World} {p2 p4 p5 : Nat} {c2 c4 c5 : List Value} (h : Bk3 w0 wr p2 p4 p5 c2 c4 c5) (i : Nat) (u : Value) : Bk3 w0 (wr.setCell ⟨p2, i, none⟩ u) p2 p4 p5 (c2.set i u) c4 c5 := by
  have := h.h2; have := h.h4; have := h.h5
  refine ⟨?_, h.b4.far (by show p4 ≠ p2; omega) u, h.b5.far (by show p5 ≠ p2; omega) u, h.below.trans (Only.below ((Only.refl (fun b => b = p2) wr).setCell (fun _ => rfl) u) h.below.size (fun b hb e => by omega)), h.h2, h.h4, h.h5⟩
  have := h.b2.set_ i u
  simpa using this
theorem Bk3.cell5 {w0 wr : World} {p2 p4 p5 : Nat} {c2 c4 c5 : List Value} (h : Bk3 w0 wr p2 p4 p5 c2 c4 c5) (i : Nat) : wr.cell? ⟨p5, i, none⟩ = c5[i]? := by rw [h.b5.cell i, List.getElem?_toArray]
theorem infoA8 : (Try.prog.info? 92).map (·.size) = some 8 := by kernel_rfl
theorem Bk3.start (w : World) (c2 c4 c5 : List Value) (z4 z5 : Array Value) (h4 : c4.toArray = z4) (h5 : c5.toArray = z5) :
    Bk3 w (((w.alloc (.cells c2.toArray 92)).alloc (.cells z4 92)).alloc (.cells z5 112)) w.heap.size (w.heap.size + 1) (w.heap.size + 1 + 1) c2 c4 c5 := by
  subst h4; subst h5
  refine ⟨((Blk.new w _ _).alloc _).alloc _, ?_, ?_, (((Below.refl _ _).alloc (Nat.le_refl _) _).alloc (by simp) _).alloc (by simp; omega) _, Nat.le_refl _, by omega, by omega⟩
  · have := (Blk.new (w.alloc (.cells c2.toArray 92)) 92 c4.toArray).alloc (.cells c5.toArray 112)
    simpa using this
  · have := Blk.new ((w.alloc (.cells c2.toArray 92)).alloc (.cells c4.toArray 92)) 112 c5.toArray
    simpa using this
theorem us_one (l : List Nat) : ∀ u ∈ us l, u.oneCell' = true := by
  intro u hu
  simp only [us, List.mem_map] at hu
  obtain ⟨x, _, rfl⟩ := hu
  rfl
theorem len8 (l : List Nat) (h : l.length = 8) : ∃ a b c d e f g i, l = [a, b, c, d, e, f, g, i] := by
  match l, h with
  | [a, b, c, d, e, f, g, i], _ => exact ⟨a, b, c, d, e, f, g, i, rfl⟩
structure Bk4 (w0 wr : World) (p2 p4 p5 p12 : Nat) (c2 c4 c5 c12 : List Value) : Prop where
  k3 : Bk3 w0 wr p2 p4 p5 c2 c4 c5
  b12 : Blk wr p12 92 c12.toArray
  h12 : p5 < p12
theorem Bk4.cell {w0 wr : World} {p2 p4 p5 p12 : Nat} {c2 c4 c5 c12 : List Value} (h : Bk4 w0 wr p2 p4 p5 p12 c2 c4 c5 c12) (i : Nat) : wr.cell? ⟨p12, i, none⟩ = c12[i]? := by rw [h.b12.cell i, List.getElem?_toArray]
theorem Bk4.cell2 {w0 wr : World} {p2 p4 p5 p12 : Nat} {c2 c4 c5 c12 : List Value} (h : Bk4 w0 wr p2 p4 p5 p12 c2 c4 c5 c12) (i : Nat) : wr.cell? ⟨p2, i, none⟩ = c2[i]? := by rw [h.k3.b2.cell i, List.getElem?_toArray]
theorem Bk4.drew {w0 wr : World} {p2 p4 p5 p12 : Nat} {c2 c4 c5 c12 : List Value} (h : Bk4 w0 wr p2 p4 p5 p12 c2 c4 c5 c12) : Bk4 w0 wr.drew p2 p4 p5 p12 c2 c4 c5 c12 := ⟨h.k3.drew, h.b12.drew, h.h12⟩
theorem Bk4.drewN {w0 wr : World} {p2 p4 p5 p12 : Nat} {c2 c4 c5 c12 : List Value} (h : Bk4 w0 wr p2 p4 p5 p12 c2 c4 c5 c12) (n : Nat) : Bk4 w0 (wr.drewN n) p2 p4 p5 p12 c2 c4 c5 c12 := ⟨h.k3.drewN n, h.b12.drewN n, h.h12⟩
theorem Bk4.set12 {w0 wr w' : World} {p2 p4 p5 p12 : Nat} {c2 c4 c5 c12 d : List Value} (h : Bk4 w0 wr p2 p4 p5 p12 c2 c4 c5 c12) (ho : Only (fun b => b = p12) wr w') (hb : Blk w' p12 92 d.toArray) : Bk4 w0 w' p2 p4 p5 p12 c2 c4 c5 d :=
  ⟨h.k3.only ho (fun b hb e => by have := h.h12; omega), hb, h.h12⟩
theorem Bk4.set2 {w0 wr : World} {p2 p4 p5 p12 : Nat} {c2 c4 c5 c12 : List Value} (h : Bk4 w0 wr p2 p4 p5 p12 c2 c4 c5 c12) (i : Nat) (u : Value) : Bk4 w0 (wr.setCell ⟨p2, i, none⟩ u) p2 p4 p5 p12 (c2.set i u) c4 c5 c12 :=
  ⟨h.k3.set2 i u, h.b12.far (by have := h.h12; have := h.k3.h4; have := h.k3.h5; show p12 ≠ p2; omega) u, h.h12⟩
/-- the standard's 64 numbers, as bytes -/
def kB : List UInt8 := [66, 138, 47, 152, 113, 55, 68, 145, 181, 192, 251, 207, 233, 181, 219, 165, 57, 86, 194, 91, 89, 241, 17, 241, 146, 63, 130, 164, 171, 28, 94, 213, 216, 7, 170, 152, 18, 131, 91, 1, 36, 49, 133, 190, 85, 12, 125, 195, 114, 190, 93, 116, 128, 222, 177, 254, 155, 220, 6, 167, 193, 155, 241, 116, 228, 155, 105, 193, 239, 190, 71, 134, 15, 193, 157, 198, 36, 12, 161, 204, 45, 233, 44, 111, 74, 116, 132, 170, 92, 176, 169, 220, 118, 249, 136, 218, 152, 62, 81, 82, 168, 49, 198, 109, 176, 3, 39, 200, 191, 89, 127, 199, 198, 224, 11, 243, 213, 167, 145, 71, 6, 202, 99, 81, 20, 41, 41, 103, 39, 183, 10, 133, 46, 27, 33, 56, 77, 44, 109, 252, 83, 56, 13, 19, 101, 10, 115, 84, 118, 106, 10, 187, 129, 194, 201, 46, 146, 114, 44, 133, 162, 191, 232, 161, 168, 26, 102, 75, 194, 75, 139, 112, 199, 108, 81, 163, 209, 146, 232, 25, 214, 153, 6, 36, 244, 14, 53, 133, 16, 106, 160, 112, 25, 164, 193, 22, 30, 55, 108, 8, 39, 72, 119, 76, 52, 176, 188, 181, 57, 28, 12, 179, 78, 216, 170, 74, 91, 156, 202, 79, 104, 46, 111, 243, 116, 143, 130, 238, 120, 165, 99, 111, 132, 200, 120, 20, 140, 199, 2, 8, 144, 190, 255, 250, 164, 80, 108, 235, 190, 249, 163, 247, 198, 113, 120, 242]
theorem kB_len : kB.length = 256 := by kernel_rfl
def kS (n : Nat) : Nat := wordS kB (4 * n)
def bS1 (e : Nat) : Nat := rot e 6 ^^^ rot e 11 ^^^ rot e 25
def bS0 (a : Nat) : Nat := rot a 2 ^^^ rot a 13 ^^^ rot a 22
def chs (e f g : Nat) : Nat := (e &&& f) ^^^ ((4294967295 - e) &&& g)
def maj (a b c : Nat) : Nat := (a &&& b) ^^^ (a &&& c) ^^^ (b &&& c)
theorem x3r_bits (x n m k : Nat) (hx : x < 4294967296) (hn : n ≤ 32) (hm : m ≤ 32) (hk : k ≤ 32) : bits .xor .u32 (bits .xor .u32 ((rot x n : Nat) : Int) ((rot x m : Nat) : Int)) ((rot x k : Nat) : Int) = ((rot x n ^^^ rot x m ^^^ rot x k : Nat) : Int) := by
  have h1 := rot_lt x n hx hn
  have h2 := rot_lt x m hx hm
  have h3 := rot_lt x k hx hk
  rw [xor32 _ _ h1 h2, xor32 _ _ (xor_lt32 _ _ h1 h2) h3]
theorem bS1_bits (x : Nat) (hx : x < 4294967296) : bits .xor .u32 (bits .xor .u32 ((rot x 6 : Nat) : Int) ((rot x 11 : Nat) : Int)) ((rot x 25 : Nat) : Int) = ((bS1 x : Nat) : Int) := x3r_bits x 6 11 25 hx (by omega) (by omega) (by omega)
theorem bS0_bits (x : Nat) (hx : x < 4294967296) : bits .xor .u32 (bits .xor .u32 ((rot x 2 : Nat) : Int) ((rot x 13 : Nat) : Int)) ((rot x 22 : Nat) : Int) = ((bS0 x : Nat) : Int) := x3r_bits x 2 13 22 hx (by omega) (by omega) (by omega)
theorem wrap32 (n : Int) : IntKind.u32.wrap n = n % 4294967296 := by simp [IntKind.wrap, IntKind.signed, IntKind.bits]
theorem and_lt32 (a b : Nat) (hb : b < 4294967296) : a &&& b < 4294967296 := by
  have := @Nat.and_lt_two_pow a b 32 (by omega); omega
theorem t1_steps (h e f g k w : Nat) (he : e < 4294967296) (hf : f < 4294967296) (hg : g < 4294967296) :
    ∃ A1 A2 A3 A4 A5 A6 A7 T : Nat, Hid (T = (h + bS1 e + chs e f g + k + w) % 4294967296) ∧ IntKind.u32.wrap ((h : Int) + ((bS1 e : Nat) : Int)) = A1 ∧ bits BinOp.and IntKind.u32 (e : Int) (f : Int) = A2 ∧
      bits BinOp.xor IntKind.u32 (if IntKind.u32.signed = true then -1 else IntKind.u32.max) (e : Int) = A3 ∧ bits BinOp.and IntKind.u32 (A3 : Int) (g : Int) = A4 ∧ bits BinOp.xor IntKind.u32 (A2 : Int) (A4 : Int) = A5 ∧
      IntKind.u32.wrap ((A1 : Int) + (A5 : Int)) = A6 ∧ IntKind.u32.wrap ((A6 : Int) + (k : Int)) = A7 ∧ IntKind.u32.wrap ((A7 : Int) + (w : Int)) = T := by
  have hx : (if IntKind.u32.signed = true then (-1 : Int) else IntKind.u32.max) = ((4294967295 : Nat) : Int) := by decide
  have h1 : 4294967295 ^^^ e = 4294967295 - e := by
    have h0 := BitVec.toNat_not (x := BitVec.ofNat 32 e)
    rw [BitVec.not_def, BitVec.toNat_xor, BitVec.toNat_allOnes, BitVec.toNat_ofNat, Nat.mod_eq_of_lt (by omega)] at h0
    simpa using h0
  have l1 : e &&& f < 4294967296 := and_lt32 _ _ hf
  have l2 : (4294967295 - e) &&& g < 4294967296 := and_lt32 _ _ hg
  refine ⟨(h + bS1 e) % 4294967296, e &&& f, 4294967295 - e, (4294967295 - e) &&& g, chs e f g, ((h + bS1 e) % 4294967296 + chs e f g) % 4294967296, (((h + bS1 e) % 4294967296 + chs e f g) % 4294967296 + k) % 4294967296, (((((h + bS1 e) % 4294967296 + chs e f g) % 4294967296 + k) % 4294967296 + w) % 4294967296), by rw [Hid]; omega, ?_, and32 _ _ he hf, ?_, and32 _ _ (by omega) hg, xor32 _ _ l1 l2, ?_, ?_, ?_⟩
  · rw [wrap32]; omega
  · rw [hx, xor32 _ _ (by omega) he, h1]
  · rw [wrap32]; omega
  · rw [wrap32]; omega
  · rw [wrap32]; omega
theorem maj_bits (a b c : Nat) (ha : a < 4294967296) (hb : b < 4294967296) (hc : c < 4294967296) :
    bits BinOp.xor IntKind.u32 (bits BinOp.xor IntKind.u32 (bits BinOp.and IntKind.u32 (a : Int) (b : Int)) (bits BinOp.and IntKind.u32 (a : Int) (c : Int))) (bits BinOp.and IntKind.u32 (b : Int) (c : Int)) = ((maj a b c : Nat) : Int) := by
  have l1 : a &&& b < 4294967296 := by have := @Nat.and_lt_two_pow a b 32 (by omega); omega
  have l2 : a &&& c < 4294967296 := by have := @Nat.and_lt_two_pow a c 32 (by omega); omega
  have l3 : b &&& c < 4294967296 := by have := @Nat.and_lt_two_pow b c 32 (by omega); omega
  rw [and32 _ _ ha hb, and32 _ _ ha hc, and32 _ _ hb hc, xor32 _ _ l1 l2, xor32 _ _ (xor_lt32 _ _ l1 l2) l3]
  rfl
/-- one of the 64 rounds -/
def rnd (k w : Nat) : List Nat → List Nat
  | [a, b, c, d, e, f, g, h] =>
    [((h + bS1 e + chs e f g + k + w) % 4294967296 + bS0 a + maj a b c) % 4294967296, a, b, c, (d + (h + bS1 e + chs e f g + k + w) % 4294967296) % 4294967296, e, f, g]
  | l => l
def rnds (hl ws : List Nat) : Nat → List Nat
  | 0 => hl
  | n + 1 => rnd (kS n) (ws.getD n 0) (rnds hl ws n)
/-- two rows of eight, added up to a place -/
def addL (h r : List Nat) (i : Nat) : List Nat := (List.range 8).map fun j => if j < i then (h.getD j 0 + r.getD j 0) % 4294967296 else h.getD j 0
theorem addL_len (h r : List Nat) (i : Nat) : (addL h r i).length = 8 := by simp [addL]
theorem addL_getElem (h r : List Nat) (i j : Nat) (hj : j < 8) : (addL h r i)[j]? = some (if j < i then (h.getD j 0 + r.getD j 0) % 4294967296 else h.getD j 0) := by
  rw [addL, List.getElem?_map, List.getElem?_range hj]; rfl
theorem addL_get (h r : List Nat) (i j : Nat) (hj : j < 8) : (addL h r i).getD j 0 = if j < i then (h.getD j 0 + r.getD j 0) % 4294967296 else h.getD j 0 := by
  rw [List.getD, addL_getElem h r i j hj]; rfl
theorem addL_zero (h r : List Nat) (hh : h.length = 8) : addL h r 0 = h := by
  apply List.ext_getElem?
  intro j
  by_cases hj : j < 8
  · rw [addL_getElem h r 0 j hj, if_neg (by omega), List.getD, List.getElem?_eq_getElem (by omega)]; rfl
  · rw [List.getElem?_eq_none (by rw [addL_len]; omega), List.getElem?_eq_none (by omega)]
theorem addL_set (h r : List Nat) (i : Nat) (hi : i < 8) : (us (addL h r i)).set i (.int .u32 (((h.getD i 0 + r.getD i 0) % 4294967296 : Nat) : Int)) = us (addL h r (i + 1)) := by
  have hs : (us (addL h r i)).set i (.int .u32 (((h.getD i 0 + r.getD i 0) % 4294967296 : Nat) : Int)) = us ((addL h r i).set i ((h.getD i 0 + r.getD i 0) % 4294967296)) := by rw [us, us, List.map_set]
  rw [hs]
  congr 1
  apply List.ext_getElem?
  intro j
  by_cases hj : j < 8
  · rw [addL_getElem h r (i + 1) j hj, List.getElem?_set]
    by_cases hij : i = j
    · subst hij; rw [if_pos rfl, if_pos (by rw [addL_len]; exact hi), if_pos (by omega)]
    · rw [if_neg hij, addL_getElem h r i j hj]
      congr 1
      by_cases h3 : j < i
      · rw [if_pos h3, if_pos (by omega)]
      · rw [if_neg h3, if_neg (by omega)]
  · rw [List.getElem?_eq_none (by rw [List.length_set, addL_len]; omega), List.getElem?_eq_none (by rw [addL_len]; omega)]
/-- eight numbers, gone on by 64 bytes -/
def blk (hl : List Nat) (b : List UInt8) : List Nat := addL hl (rnds hl (sched b 64) 64) 8
theorem blk_len (hl : List Nat) (b : List UInt8) : (blk hl b).length = 8 := addL_len _ _ _
theorem blk_all_lt (hl : List Nat) (b : List UInt8) : ∀ x ∈ blk hl b, x < 4294967296 := by
  intro x hx
  simp only [blk, addL, List.mem_map, List.mem_range] at hx
  obtain ⟨j, hj, rfl⟩ := hx
  rw [if_pos hj]
  exact Nat.mod_lt _ (by decide)
theorem rnds_len (hl ws : List Nat) (n : Nat) (h : hl.length = 8) : (rnds hl ws n).length = 8 := by
  induction n with
  | zero => exact h
  | succ n ih =>
    obtain ⟨a, b, c, d, e, f, g, i, hv⟩ := len8 _ ih
    rw [rnds, hv]; rfl
theorem rnds_lt (hl ws : List Nat) (n : Nat) (h : ∀ x ∈ hl, x < 4294967296) : ∀ x ∈ rnds hl ws n, x < 4294967296 := by
  induction n with
  | zero => exact h
  | succ n ih =>
    intro x hx
    rw [rnds] at hx
    unfold rnd at hx
    split at hx
    · rename_i a b c d e f g i hv
      rw [hv] at ih
      simp only [List.mem_cons, List.not_mem_nil, or_false] at ih hx
      rcases hx with rfl | rfl | rfl | rfl | rfl | rfl | rfl | rfl
      · exact Nat.mod_lt _ (by decide)
      · exact ih _ (by simp)
      · exact ih _ (by simp)
      · exact ih _ (by simp)
      · exact Nat.mod_lt _ (by decide)
      · exact ih _ (by simp)
      · exact ih _ (by simp)
      · exact ih _ (by simp)
    · exact ih x hx
set_option maxRecDepth 20000 in
set_option maxHeartbeats 4000000 in
theorem block_any (hl : List Nat) (b : List UInt8) (h8 : hl.length = 8) (hlt : ∀ x ∈ hl, x < 4294967296) (hb : b.length = 64) (w : World) :
    Calls Try.prog 28 #[.agg (us hl).toArray, .string (bstr b)] w fun e w' => e = .returned (.agg (us (blk hl b)).toArray) ∧ Below w.heap.size w w' := by
  have WD := Lib.hid (fun (i : Nat) (h : i < 16) w' => show Calls Try.prog 42 #[.string (bstr b), .int .i64 (4 * (i : Int))] w' _ by have := word_any b (4 * i) (by omega) (by omega) w'; rwa [Int.natCast_mul] at this)
  have WK := Lib.hid (fun (i : Nat) (h : i < 64) w' => show Calls Try.prog 42 #[.string ⟨#[66, 138, 47, 152, 113, 55, 68, 145, 181, 192, 251, 207, 233, 181, 219, 165, 57, 86, 194, 91, 89, 241, 17, 241, 146, 63, 130, 164, 171, 28, 94, 213, 216, 7, 170, 152, 18, 131, 91, 1, 36, 49, 133, 190, 85, 12, 125, 195, 114, 190, 93, 116, 128, 222, 177, 254, 155, 220, 6, 167, 193, 155, 241, 116, 228, 155, 105, 193, 239, 190, 71, 134, 15, 193, 157, 198, 36, 12, 161, 204, 45, 233, 44, 111, 74, 116, 132, 170, 92, 176, 169, 220, 118, 249, 136, 218, 152, 62, 81, 82, 168, 49, 198, 109, 176, 3, 39, 200, 191, 89, 127, 199, 198, 224, 11, 243, 213, 167, 145, 71, 6, 202, 99, 81, 20, 41, 41, 103, 39, 183, 10, 133, 46, 27, 33, 56, 77, 44, 109, 252, 83, 56, 13, 19, 101, 10, 115, 84, 118, 106, 10, 187, 129, 194, 201, 46, 146, 114, 44, 133, 162, 191, 232, 161, 168, 26, 102, 75, 194, 75, 139, 112, 199, 108, 81, 163, 209, 146, 232, 25, 214, 153, 6, 36, 244, 14, 53, 133, 16, 106, 160, 112, 25, 164, 193, 22, 30, 55, 108, 8, 39, 72, 119, 76, 52, 176, 188, 181, 57, 28, 12, 179, 78, 216, 170, 74, 91, 156, 202, 79, 104, 46, 111, 243, 116, 143, 130, 238, 120, 165, 99, 111, 132, 200, 120, 20, 140, 199, 2, 8, 144, 190, 255, 250, 164, 80, 108, 235, 190, 249, 163, 247, 198, 113, 120, 242]⟩, .int .i64 (4 * (i : Int))] w' (fun e w'' => e = .returned (.int .u32 ((kS i : Nat) : Int)) ∧ ∃ n, w'' = w'.drewN n) by have := word_any kB (4 * i) (by rw [kB_len]; omega) (by rw [kB_len]; omega) w'; rwa [Int.natCast_mul] at this)
  have H8 := Lib.hid h8
  have HB := Lib.hid hb
  have HLT := Lib.hid hlt
  clear h8 hb hlt
  go_enter Try.func28, Try.ntmps28
  go_wp2_with fail
  generalize hW : World.alloc (World.alloc (World.alloc w _) _) _ = W
  have K0 : Bk3 w W w.heap.size (w.heap.size + 1) (w.heap.size + 1 + 1) (us hl) (us (List.replicate 8 0)) (wcells b 0) := by
    rw [← hW]
    exact Bk3.start w (us hl) (us (List.replicate 8 0)) (wcells b 0) _ _ (by kernel_rfl) (by kernel_rfl)
  clear hW
  generalize w.heap.size = p2 at K0 ⊢
  generalize p2 + 1 + 1 = p5 at K0 ⊢
  generalize p2 + 1 = p4 at K0 ⊢
  have HK := Lib.hid K0
  clear K0
  go_loopg [21] 16 (fun q v21 wr => ∃ (i : Nat), i + q = 16 ∧ v21 = .int .i64 i ∧ Hid (Bk3 w wr p2 p4 p5 (us hl) (us (List.replicate 8 0)) (wcells b i)))
  case atStart => exact ⟨0, by omega, rfl, HK⟩
  case round =>
    clear HK
    obtain ⟨i, hi, rfl, HK⟩ := hrel
    by_cases hlt : i < 16
    · have dlt : decide ((i : Int) < 16) = true := by simp; omega
      go_wp2_with fail
      refine (WD.out i hlt _).mono ?_
      rintro e1 w1 ⟨rfl, n1, rfl⟩
      have hk := HK.out.drewN n1
      obtain ⟨x, hx⟩ := wcells_any b i i (by omega) (by omega)
      have p := (hk.cell5 i).trans hx
      have f := hk.b5.frozen i
      have HK1 := Lib.hid hk
      clear hk hx
      have hsx : HK1.out = HK1.out := rfl
      clear hsx
      have hst := Lib.hid (show Bk3 w ((wr.drewN n1).setCell ⟨p5, i, none⟩ (.int .u32 ((wordS b (4 * i) : Nat) : Int))) p2 p4 p5 (us hl) (us (List.replicate 8 0)) (wcells b (i + 1)) by
        have h := HK1.out.set5 i (.int .u32 ((wordS b (4 * i) : Nat) : Int))
        rw [← wcells_set b i (by omega), wnext, sched_len, if_pos hlt]
        exact h)
      go_wp2_with fail
      go_roundg (15 - i)
      case measure => omega
      case rel => exact ⟨i + 1, by omega, rfl, hst.out⟩
    · have dlt : decide ((i : Int) < 16) = false := by simp; omega
      obtain rfl : i = 16 := by omega
      clear hlt hi
      go_wp2_with fail
      go_loopg [7] 48 (fun q v7 wr => ∃ (i : Nat), i + q = 64 ∧ 16 ≤ i ∧ v7 = .int .i64 i ∧ Hid (Bk3 w wr p2 p4 p5 (us hl) (us (List.replicate 8 0)) (wcells b i)))
      case atStart => exact ⟨16, by omega, by omega, rfl, HK⟩
      case round =>
        clear HK
        obtain ⟨i, hi, h16, rfl, HK⟩ := hrel
        by_cases hlt : i < 64
        · have dl2 : decide ((i : Int) < 64) = true := by simp; omega
          have s15 : IntKind.i64.wrap ((i : Int) - 15) = ((i - 15 : Nat) : Int) := by rw [w64 _ (by omega)]; omega
          have s2 : IntKind.i64.wrap ((i : Int) - 2) = ((i - 2 : Nat) : Int) := by rw [w64 _ (by omega)]; omega
          have s16 : IntKind.i64.wrap ((i : Int) - 16) = ((i - 16 : Nat) : Int) := by rw [w64 _ (by omega)]; omega
          have s7 : IntKind.i64.wrap ((i : Int) - 7) = ((i - 7 : Nat) : Int) := by rw [w64 _ (by omega)]; omega
          obtain ⟨j15, hj15⟩ : ∃ j, i - 15 = j := ⟨_, rfl⟩
          obtain ⟨j2, hj2⟩ : ∃ j, i - 2 = j := ⟨_, rfl⟩
          obtain ⟨j16, hj16⟩ : ∃ j, i - 16 = j := ⟨_, rfl⟩
          obtain ⟨j7, hj7⟩ : ∃ j, i - 7 = j := ⟨_, rfl⟩
          rw [hj15] at s15; rw [hj2] at s2; rw [hj16] at s16; rw [hj7] at s7
          have lb15 : j15 < 64 := by omega
          have lb2 : j2 < 64 := by omega
          have lb16 : j16 < 64 := by omega
          have lb7 : j7 < 64 := by omega
          have q15 := (HK.out.cell5 j15).trans (wcells_get b i j15 (by omega))
          have q2 := (HK.out.cell5 j2).trans (wcells_get b i j2 (by omega))
          obtain ⟨x15, hx15⟩ : ∃ x, (sched b i).getD j15 0 = x := ⟨_, rfl⟩
          obtain ⟨x2, hx2⟩ : ∃ x, (sched b i).getD j2 0 = x := ⟨_, rfl⟩
          rw [hx15] at q15; rw [hx2] at q2
          have HH := Lib.hid hi
          have HJ := Lib.hid (And.intro hj15 (And.intro hj2 (And.intro hj16 (And.intro hj7 (And.intro hx15 hx2)))))
          clear hj15 hj2 hj16 hj7 hx15 hx2
          go_wp2
          go_region
          have lx15 : x15 < 4294967296 := by rw [← HJ.out.2.2.2.2.1]; exact sched_getD_lt b i j15
          have lx2 : x2 < 4294967296 := by rw [← HJ.out.2.2.2.2.2]; exact sched_getD_lt b i j2
          have R1 := Lib.hid (fun w' => rotl_any x15 7 (-7) 25 lx15 (by simp) w')
          have R2 := Lib.hid (fun w' => rotl_any x15 18 (-18) 14 lx15 (by simp) w')
          have R3 := Lib.hid (fun w' => rotl_any x2 17 (-17) 15 lx2 (by simp) w')
          have R4 := Lib.hid (fun w' => rotl_any x2 19 (-19) 13 lx2 (by simp) w')
          have ex := sg0_bits x15 lx15
          have ey := sg1_bits x2 lx2
          clear lx15 lx2 q15 q2
          go_wp2_with fail
          refine (R1.out _).mono ?_
          rintro e1 w1 ⟨rfl, rfl⟩
          go_wp2_with fail
          refine (R2.out _).mono ?_
          rintro e1 w1 ⟨rfl, rfl⟩
          go_wp2_with fail
          refine (R3.out _).mono ?_
          rintro e1 w1 ⟨rfl, rfl⟩
          go_wp2_with fail
          refine (R4.out _).mono ?_
          rintro e1 w1 ⟨rfl, rfl⟩
          clear R1 R2 R3 R4
          have q16 := ((HK.out.drew.drew).cell5 j16).trans (wcells_get b i j16 (by have := HH.out; have := HJ.out.2.2.1; omega))
          have q7 := ((HK.out.drew.drew).cell5 j7).trans (wcells_get b i j7 (by have := HH.out; have := HJ.out.2.2.2.1; omega))
          obtain ⟨x16, hx16⟩ : ∃ x, (sched b i).getD j16 0 = x := ⟨_, rfl⟩
          obtain ⟨x7, hx7⟩ : ∃ x, (sched b i).getD j7 0 = x := ⟨_, rfl⟩
          rw [hx16] at q16; rw [hx7] at q7
          obtain ⟨x, hx⟩ := wcells_any b i i hlt (by omega)
          have p := ((HK.out.drew.drew).cell5 i).trans hx
          have f := (HK.out.drew.drew).b5.frozen i
          have HX := Lib.hid (And.intro hx16 hx7)
          clear hx16 hx7 hx
          go_wp2
          go_region
          have hst := Lib.hid (show Bk3 w ((wr.setCell ⟨p5, i, none⟩ (.int .u32 (((x16 : Int) + (sg0 x15 : Nat) + (x7 : Nat) + (sg1 x2 : Nat)) % 4294967296))).drew.drew) p2 p4 p5 (us hl) (us (List.replicate 8 0)) (wcells b (i + 1)) by
            have h := ((HK.out.set5 i (.int .u32 (((x16 + sg0 x15 + x7 + sg1 x2) % 4294967296 : Nat) : Int))).drew).drew
            obtain ⟨hj15, hj2, hj16, hj7, hx15, hx2⟩ := HJ.out
            rw [← wcells_set b i hlt, wnext, sched_len, if_neg (by omega), hj15, hj2, hj16, hj7, hx15, hx2, HX.out.1, HX.out.2]
            exact h)
          clear ex ey q16 q7 p f
          go_wp2
          have hi := HH.out
          go_roundg (63 - i)
          case measure => omega
          case rel => exact ⟨i + 1, by omega, by omega, rfl, hst.out⟩
        · have dl2 : decide ((i : Int) < 64) = false := by simp; omega
          obtain rfl : i = 64 := by omega
          clear hlt hi h16
          have r2 := HK.out.b2.rowAll
          go_wp2_with (first
            | (with_reducible refine wpList_ld rfl 92 (.tmp 2) rfl p2 0 rfl (us hl) r2 _ Try.underlying92 rfl 8 infoA8 (by rw [us_length, H8.out]) ?_)
            | (with_reducible refine wpList_stb rfl 92 (.tmp 12) (.tmp 74) rfl wr.heap.size 0 _ rfl rfl 92 _ (Blk.new wr _ _) ?h1 ?h2 ?h3 ?_))
          case h1 => simp [us_length, H8.out]
          case h2 => rw [infoA8]; simp [us_length, H8.out]
          case h3 => exact us_one hl
          intro w4 b4 o4
          rw [over_all _ _ (by simp [us_length, H8.out])] at b4
          have hk := HK.out.only (((Only.refl (fun b => wr.heap.size ≤ b) wr).alloc _).trans o4 (fun b _ e => by omega)) (fun b hb hs => by have := HK.out.b5.lt; omega)
          have h12 : p5 < wr.heap.size := HK.out.b5.lt
          clear HK r2 o4
          generalize wr.heap.size = p12 at b4 h12 ⊢
          have K4 := Lib.hid (show Bk4 w w4 p2 p4 p5 p12 (us hl) (us (List.replicate 8 0)) (wcells b 64) (us hl) from ⟨hk, b4, h12⟩)
          clear hk b4 h12
          go_wp2_with fail
          go_loopg [75] 64 (fun q v75 wr => ∃ (i : Nat), i + q = 64 ∧ v75 = .int .i64 i ∧ Hid (Bk4 w wr p2 p4 p5 p12 (us hl) (us (List.replicate 8 0)) (wcells b 64) (us (rnds hl (sched b 64) i))))
          case atStart => exact ⟨0, by omega, rfl, K4⟩
          case round =>
            clear K4
            obtain ⟨i, hi, rfl, HK⟩ := hrel
            by_cases hlt : i < 64
            · have dl2 : decide ((i : Int) < 64) = true := by simp; omega
              have hr8 : (rnds hl (sched b 64) i).length = 8 := rnds_len hl (sched b 64) i H8.out
              have hrl := rnds_lt hl (sched b 64) i HLT.out
              obtain ⟨vl, hvl⟩ : ∃ vl, rnds hl (sched b 64) i = vl := ⟨_, rfl⟩
              rw [hvl] at hr8 hrl HK
              obtain ⟨va, vb, vc, vd, ve, vf, vg, vh, rfl⟩ := len8 vl hr8
              have HV := Lib.hid hvl
              have HL := Lib.hid hrl
              clear hvl hr8 hrl
              obtain ⟨W1, hW1⟩ : ∃ x, (sched b 64).getD i 0 = x := ⟨_, rfl⟩
              have pw := (HK.out.k3.cell5 i).trans (wcells_get b 64 i hlt)
              rw [hW1] at pw
              have HW1 := Lib.hid hW1
              clear hW1
              have p0 := HK.out.cell 0
              have p4_ := HK.out.cell 4
              have p1 := HK.out.cell 1
              have p2_ := HK.out.cell 2
              have p3 := HK.out.cell 3
              have p5_ := HK.out.cell 5
              have p6 := HK.out.cell 6
              have p7 := HK.out.cell 7
              simp only [us, List.map_cons, List.map_nil, List.getElem?_cons_zero, List.getElem?_cons_succ] at p0 p1 p2_ p3 p4_ p5_ p6 p7
              go_wp2_with fail
              go_region
              have la : va < 4294967296 := HL.out va (by simp)
              have le : ve < 4294967296 := HL.out ve (by simp)
              have R1 := Lib.hid (fun w' => rotl_any ve 6 (-6) 26 le (by simp) w')
              have R2 := Lib.hid (fun w' => rotl_any ve 11 (-11) 21 le (by simp) w')
              have R3 := Lib.hid (fun w' => rotl_any ve 25 (-25) 7 le (by simp) w')
              have R4 := Lib.hid (fun w' => rotl_any va 2 (-2) 30 la (by simp) w')
              have R5 := Lib.hid (fun w' => rotl_any va 13 (-13) 19 la (by simp) w')
              have R6 := Lib.hid (fun w' => rotl_any va 22 (-22) 10 la (by simp) w')
              have ex := bS1_bits ve le
              have ey := bS0_bits va la
              clear la le p0 p1 p2_ p3 p4_ p5_ p6 p7 pw
              go_wp2_with fail
              refine (R1.out _).mono ?_
              rintro e1 w1 ⟨rfl, rfl⟩
              go_wp2_with fail
              refine (R2.out _).mono ?_
              rintro e1 w1 ⟨rfl, rfl⟩
              go_wp2_with fail
              refine (R3.out _).mono ?_
              rintro e1 w1 ⟨rfl, rfl⟩
              clear R1 R2 R3
              have wk1 := WK.out i hlt
              obtain ⟨K1, hK1⟩ : ∃ x, kS i = x := ⟨_, rfl⟩
              rw [hK1] at wk1
              have WK1 := Lib.hid wk1
              have HK1 := Lib.hid hK1
              clear wk1 hK1
              have bz : (0 : Int) ≤ (i : Int) := by omega
              have bi : (i : Int) < 64 := by omega
              have w4i : IntKind.i64.wrap (4 * (i : Int)) = 4 * (i : Int) := w64 _ (by omega)
              have HS := Lib.hid (fun n => show (wr.drew.drew.drewN n).cell? ⟨p12, 7, none⟩ = some (.int .u32 (vh : Int)) ∧ (wr.drew.drew.drewN n).cell? ⟨p12, 5, none⟩ = some (.int .u32 (vf : Int)) ∧ (wr.drew.drew.drewN n).cell? ⟨p12, 6, none⟩ = some (.int .u32 (vg : Int)) ∧ (wr.drew.drew.drewN n).cell? ⟨p5, i, none⟩ = some (.int .u32 (W1 : Int)) by
                refine ⟨(HK.out.drew.drew.drewN n).cell 7, (HK.out.drew.drew.drewN n).cell 5, (HK.out.drew.drew.drewN n).cell 6, ?_⟩
                rw [← HW1.out]
                exact ((HK.out.k3.drew.drew.drewN n).cell5 i).trans (wcells_get b 64 i hlt))
              have hS : wr.drew.drew.cell? ⟨p12, 7, none⟩ = some (.int .u32 (vh : Int)) ∧ wr.drew.drew.cell? ⟨p12, 5, none⟩ = some (.int .u32 (vf : Int)) ∧ wr.drew.drew.cell? ⟨p12, 6, none⟩ = some (.int .u32 (vg : Int)) ∧ wr.drew.drew.cell? ⟨p5, i, none⟩ = some (.int .u32 (W1 : Int)) := by
                refine ⟨HK.out.drew.drew.cell 7, HK.out.drew.drew.cell 5, HK.out.drew.drew.cell 6, ?_⟩
                rw [← HW1.out]
                exact (HK.out.k3.drew.drew.cell5 i).trans (wcells_get b 64 i hlt)
              obtain ⟨A1, A2, A3, A4, A5, A6, A7, T1, HT1, e93, e97, e99, e102, e103, e104, e108, e112⟩ := t1_steps vh ve vf vg K1 W1 (HL.out ve (by simp)) (HL.out vf (by simp)) (HL.out vg (by simp))
              go_wp2
              go_region_held3 (fun w' => w'.cell? ⟨p12, 7, none⟩ = some (.int .u32 (vh : Int)) ∧ w'.cell? ⟨p12, 5, none⟩ = some (.int .u32 (vf : Int)) ∧ w'.cell? ⟨p12, 6, none⟩ = some (.int .u32 (vg : Int)) ∧ w'.cell? ⟨p5, i, none⟩ = some (.int .u32 (W1 : Int)))
                (first | exact hS5 | exact hS) (first
                | (go_at_call 42; refine (WK1.out _).mono ?_; rintro e5 w5 ⟨rfl, n5, rfl⟩; have hS5 := HS.out n5; dsimp only))
              clear e93 e97 e99 e102 e103 e104 e108 e112 hS bz bi w4i HS WK1
              have hk5 := HK.out.drew.drew.drewN n5
              generalize wr.drew.drew.drewN n5 = w5 at hk5 ⊢
              go_wp2_with fail
              refine (R4.out _).mono ?_
              rintro e1 w1 ⟨rfl, rfl⟩
              go_wp2_with fail
              refine (R5.out _).mono ?_
              rintro e1 w1 ⟨rfl, rfl⟩
              go_wp2_with fail
              refine (R6.out _).mono ?_
              rintro e1 w1 ⟨rfl, rfl⟩
              clear R4 R5 R6
              have p0 := hk5.cell 0
              have p4_ := hk5.cell 4
              have p1 := hk5.cell 1
              have p2_ := hk5.cell 2
              have p3 := hk5.cell 3
              have p5_ := hk5.cell 5
              have p6 := hk5.cell 6
              simp only [us, List.map_cons, List.map_nil, List.getElem?_cons_zero, List.getElem?_cons_succ] at p0 p1 p2_ p3 p4_ p5_ p6
              have HK5 := Lib.hid hk5
              clear hk5
              have em := maj_bits va vb vc (HL.out va (by simp)) (HL.out vb (by simp)) (HL.out vc (by simp))
              go_wp2_with (with_reducible refine wpList_stb rfl 92 (.tmp 12) (.tmp 157) rfl p12 0 _ rfl rfl 92 _ HK5.out.b12 ?h1 ?h2 ?h3 ?_)
              case h1 => simp [us]
              case h2 => rw [infoA8]; rfl
              case h3 => exact ⟨rfl, rfl, rfl, rfl, rfl, rfl, rfl, rfl⟩
              intro w6 b6 o6
              rw [over_all _ _ (by simp [us])] at b6
              have hk6 := HK5.out.set12 o6 b6
              have hnx : rnds hl (sched b 64) (i + 1) = [(T1 + bS0 va + maj va vb vc) % 4294967296, va, vb, vc, (vd + T1) % 4294967296, ve, vf, vg] := by rw [rnds, HV.out, HW1.out, HK1.out, rnd, ← HT1.out]
              have HNX := Lib.hid hnx
              have HK6 := Lib.hid hk6
              clear em p0 p1 p2_ p3 p4_ p5_ p6 b6 o6 hk6 hnx HK5 HK
              go_wp2_with fail
              go_roundg (63 - i)
              case measure => omega
              case rel => exact ⟨i + 1, by omega, rfl, by rw [HNX.out]; exact HK6.out⟩
            · have dl2 : decide ((i : Int) < 64) = false := by simp; omega
              obtain rfl : i = 64 := by omega
              clear hlt hi
              obtain ⟨rl, hrl⟩ : ∃ rl, rnds hl (sched b 64) 64 = rl := ⟨_, rfl⟩
              have hrl8 : rl.length = 8 := by rw [← hrl]; exact rnds_len hl (sched b 64) 64 H8.out
              rw [hrl] at HK
              have HRL := Lib.hid hrl
              have HR8 := Lib.hid hrl8
              clear hrl hrl8
              go_wp2_with fail
              go_loopg [159] 8 (fun q v159 wr => ∃ (i : Nat), i + q = 8 ∧ v159 = .int .i64 i ∧ Hid (Bk4 w wr p2 p4 p5 p12 (us (addL hl rl i)) (us (List.replicate 8 0)) (wcells b 64) (us rl)))
              case atStart => exact ⟨0, by omega, rfl, by rw [addL_zero hl rl H8.out]; exact HK⟩
              case round =>
                clear HK
                obtain ⟨i, hi, rfl, HK⟩ := hrel
                by_cases hlt : i < 8
                · have dl3 : decide ((i : Int) < 8) = true := by simp; omega
                  have bz : (0 : Int) ≤ (i : Int) := by omega
                  have bi : (i : Int) < 8 := by omega
                  obtain ⟨X, hX⟩ : ∃ X, hl.getD i 0 = X := ⟨_, rfl⟩
                  obtain ⟨Y, hY⟩ : ∃ Y, rl.getD i 0 = Y := ⟨_, rfl⟩
                  have pX := (HK.out.drew.cell2 i).trans (us_get _ i (by rw [addL_len]; exact hlt))
                  rw [addL_get hl rl i i hlt, if_neg (by omega), hX] at pX
                  have fX := HK.out.drew.k3.b2.frozen i
                  have pY := (HK.out.drew.cell i).trans (us_get _ i (by rw [HR8.out]; exact hlt))
                  rw [hY] at pY
                  have HXY := Lib.hid (And.intro hX hY)
                  clear hX hY
                  go_wp2
                  go_region
                  have hst := Lib.hid (show Bk4 w ((wr.setCell ⟨p2, i, none⟩ (.int .u32 (((X : Int) + (Y : Int)) % 4294967296))).drew) p2 p4 p5 p12 (us (addL hl rl (i + 1))) (us (List.replicate 8 0)) (wcells b 64) (us rl) by
                    have h := (HK.out.set2 i (.int .u32 (((X + Y) % 4294967296 : Nat) : Int))).drew
                    rw [← HXY.out.1, ← HXY.out.2, addL_set hl rl i hlt] at h
                    rw [← HXY.out.1, ← HXY.out.2]
                    exact h)
                  clear pX pY fX HK
                  go_wp2
                  go_roundg (7 - i)
                  case measure => omega
                  case rel => exact ⟨i + 1, by omega, rfl, hst.out⟩
                · have dl3 : decide ((i : Int) < 8) = false := by simp; omega
                  obtain rfl : i = 8 := by omega
                  clear hlt hi
                  have r2 := HK.out.k3.b2.rowAll
                  go_wp2_with (first
                    | (with_reducible refine wpList_ld rfl 92 (.tmp 2) rfl p2 0 rfl (us (addL hl rl 8)) r2 _ Try.underlying92 rfl 8 infoA8 (by rw [us_length, addL_len]) ?_)
                    | (with_reducible refine wpList_stb rfl 92 (.tmp 4) (.tmp 171) rfl p4 0 _ rfl rfl 92 _ HK.out.k3.b4 ?h1 ?h2 ?h3 ?_))
                  case h1 => simp [us_length, addL_len]
                  case h2 => rw [infoA8]; simp [us_length, addL_len]
                  case h3 => exact us_one _
                  intro w6 b6 o6
                  rw [over_all _ _ (by simp [us_length, addL_len])] at b6
                  have HB6 := Lib.hid b6
                  have HBL := Lib.hid (HK.out.k3.below.trans (o6.below HK.out.k3.below.size (fun b hb e => by have := HK.out.k3.h2; have := HK.out.k3.h4; omega)))
                  clear b6 o6
                  go_wp2
                  refine bodyPost_ret (results_cell_row rfl _ _ p4 92 (us (addL hl rl 8)).toArray (0, 0) _ rfl HB6.out Try.underlying92 rfl (by rw [infoA8]; simp [us_length, addL_len])) rfl ?_
                  exact ⟨by rw [blk, HRL.out], HBL.out⟩
end Go.Proofs.Ytlbpeihdedhjiaa
