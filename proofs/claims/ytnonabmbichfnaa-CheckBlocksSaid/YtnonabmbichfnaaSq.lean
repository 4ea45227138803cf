/- The document's hash, plainly: what its loops reckon is sha. No walk here. -/
import Derived.Test.YtnonabmbichfnaaSr
namespace Go.Proofs.Ytnonabmbichfnaa
open Go.RowKit
/-- four bytes as a number, so far -/
def wpart (l : List UInt8) (o : Nat) : Nat → Nat
  | 0 => 0
  | j + 1 => wpart l o j * 256 + (l.getD (o + j) 0).toNat
theorem wpart4 (l : List UInt8) (o : Nat) : wpart l o 4 = wordS l o := by
  simp only [wpart, wordS, wordN, Nat.add_zero]
  omega
theorem wpart_lt (l : List UInt8) (o j : Nat) (h : j ≤ 4) : wpart l o j < 256 ^ j := by
  induction j with
  | zero => simp [wpart]
  | succ j ih =>
    have h1 := ih (by omega)
    have h2 := (l.getD (o + j) 0).toNat_lt
    rw [wpart, Nat.pow_succ]
    generalize 256 ^ j = P at *
    omega
theorem wpart_lt3 (l : List UInt8) (o j : Nat) (h : j < 4) : wpart l o j < 16777216 :=
  Nat.lt_of_lt_of_le (wpart_lt l o j (by omega)) (by have := Nat.pow_le_pow_right (show 0 < 256 by decide) (show j ≤ 3 by omega); simpa using this)
theorem getD_block (P : List UInt8) (i k : Nat) (hk : k < 64) : ((P.drop (64 * i)).take 64).getD k 0 = P.getD (64 * i + k) 0 := by
  simp only [List.getD, List.getElem?_take, if_pos hk, List.getElem?_drop]
theorem wpart_block (P : List UInt8) (i o j : Nat) (h : o + j ≤ 64) : wpart ((P.drop (64 * i)).take 64) o j = wpart P (64 * i + o) j := by
  induction j with
  | zero => rfl
  | succ j ih => rw [wpart, wpart, ih (by omega), getD_block _ _ _ (by omega), Nat.add_assoc]
theorem word_block (P : List UInt8) (i o : Nat) (h : o + 4 ≤ 64) : wpart P (64 * i + o) 4 = wordS ((P.drop (64 * i)).take 64) o := by
  rw [← wpart4, wpart_block _ _ _ _ h]
/-- the last bytes of a length -/
def tl8 (nn i : Nat) : List UInt8 := (be8 nn).drop (8 - i)
theorem tl8_zero (nn : Nat) : tl8 nn 0 = [] := rfl
theorem tl8_all (nn : Nat) : tl8 nn 8 = be8 nn := rfl
theorem tl8_len (nn i : Nat) (h : i ≤ 8) : (tl8 nn i).length = i := by simp [tl8, be8]; omega
theorem tl8_succ (nn i : Nat) (h : i < 8) : tl8 nn (i + 1) = UInt8.ofNat (8 * nn / 256 ^ i) :: tl8 nn i := by
  rcases (show i = 0 ∨ i = 1 ∨ i = 2 ∨ i = 3 ∨ i = 4 ∨ i = 5 ∨ i = 6 ∨ i = 7 by omega) with rfl | rfl | rfl | rfl | rfl | rfl | rfl | rfl <;> simp [tl8, be8]
/-- a number's bytes set, the last first -/
def setm (cells : List Value) (i x : Nat) : Nat → List Value
  | 0 => cells
  | m + 1 => (setm cells i x m).set (4 * i + 3 - m) (Bt (UInt8.ofNat (x / 256 ^ m)))
theorem setm_len (cells : List Value) (i x m : Nat) : (setm cells i x m).length = cells.length := by
  induction m with
  | zero => rfl
  | succ m ih => rw [setm, List.length_set, ih]
theorem setm_all (H : List Nat) (i : Nat) (hH : H.length = 8) (hi : i < 8) : setm (bts (idp H i)) i (H.getD i 0) 4 = bts (idp H (i + 1)) := by
  have hlen : ((H.flatMap be4).take (4 * i)).length = 4 * i := by rw [List.length_take, flat4_len, hH]; omega
  have hp : (bts ((H.flatMap be4).take (4 * i))).length = 4 * i := by rw [bts_length, hlen]
  have hr : List.replicate (32 - 4 * i) (0 : UInt8) = 0 :: 0 :: 0 :: 0 :: List.replicate (32 - 4 * (i + 1)) 0 := by rw [show 32 - 4 * i = (32 - 4 * (i + 1)) + 1 + 1 + 1 + 1 by omega]; rfl
  simp only [setm]
  rw [idp, idp, hr, bts_append, take4 H i (by omega), bts_append, bts_append]
  rw [show 4 * i + 3 - 0 = 4 * i + 3 by omega, show 4 * i + 3 - 1 = 4 * i + 2 by omega, show 4 * i + 3 - 2 = 4 * i + 1 by omega, show 4 * i + 3 - 3 = 4 * i by omega]
  rw [List.set_append_right _ _ (by omega), hp, List.set_append_right _ _ (by omega), hp, List.set_append_right _ _ (by omega), hp, List.set_append_right _ _ (by omega), hp]
  rw [show 4 * i - 4 * i = 0 by omega, show 4 * i + 1 - 4 * i = 1 by omega, show 4 * i + 2 - 4 * i = 2 by omega, show 4 * i + 3 - 4 * i = 3 by omega]
  simp [bts, be4]
/-- three xored -/
theorem xor3_steps (a b c : Nat) (ha : a < 4294967296) (hb : b < 4294967296) (hc : c < 4294967296) :
    ∃ X Y : Nat, Hid (Y = a ^^^ b ^^^ c) ∧ bits BinOp.xor IntKind.u32 (a : Int) (b : Int) = (X : Int) ∧ bits BinOp.xor IntKind.u32 (X : Int) (c : Int) = (Y : Int) :=
  ⟨_, _, rfl, xor32 a b ha hb, xor32 _ c (xor_lt32 a b ha hb) hc⟩
/-- the schedule's next word -/
theorem wn_steps (x16 s0 x7 s1 : Nat) : ∃ A1 A2 A3 : Nat, Hid (A3 = (x16 + s0 + x7 + s1) % 4294967296) ∧ IntKind.u32.wrap ((x16 : Int) + (s0 : Int)) = A1 ∧ IntKind.u32.wrap ((A1 : Int) + (x7 : Int)) = A2 ∧ IntKind.u32.wrap ((A2 : Int) + (s1 : Int)) = A3 := by
  refine ⟨(x16 + s0) % 4294967296, ((x16 + s0) % 4294967296 + x7) % 4294967296, (((x16 + s0) % 4294967296 + x7) % 4294967296 + s1) % 4294967296, ?_, ?_, ?_, ?_⟩
  · rw [Hid]; omega
  all_goals rw [wrap32]; omega
theorem t1r_steps (h s e f g k w : Nat) (he : e < 4294967296) (hf : f < 4294967296) (hg : g < 4294967296) :
    ∃ A1 A2 A3 A4 A5 A6 A7 T : Nat, Hid (T = (h + s + chs e f g + k + w) % 4294967296) ∧ IntKind.u32.wrap ((h : Int) + (s : Int)) = A1 ∧ bits BinOp.and IntKind.u32 (e : Int) (f : Int) = A2 ∧
      IntKind.u32.wrap (4294967295 - (e : Int)) = A3 ∧ bits BinOp.and IntKind.u32 (A3 : Int) (g : Int) = A4 ∧ bits BinOp.xor IntKind.u32 (A2 : Int) (A4 : Int) = A5 ∧
      IntKind.u32.wrap ((A1 : Int) + (A5 : Int)) = A6 ∧ IntKind.u32.wrap ((A6 : Int) + (k : Int)) = A7 ∧ IntKind.u32.wrap ((A7 : Int) + (w : Int)) = T := by
  have l4 := and_lt32 (4294967295 - e) g hg
  have l2 := and_lt32 e f hf
  refine ⟨(h + s) % 4294967296, e &&& f, 4294967295 - e, (4294967295 - e) &&& g, (e &&& f) ^^^ ((4294967295 - e) &&& g), ((h + s) % 4294967296 + chs e f g) % 4294967296, (((h + s) % 4294967296 + chs e f g) % 4294967296 + k) % 4294967296, ((((h + s) % 4294967296 + chs e f g) % 4294967296 + k) % 4294967296 + w) % 4294967296, ?_, ?_, and32 e f he hf, ?_, and32 _ g (by omega) hg, xor32 _ _ l2 l4, ?_, ?_, ?_⟩
  · rw [Hid]; omega
  all_goals (try rw [show (e &&& f) ^^^ ((4294967295 - e) &&& g) = chs e f g from rfl]); rw [wrap32]; omega
theorem t2_steps (s a b c : Nat) (ha : a < 4294967296) (hb : b < 4294967296) (hc : c < 4294967296) :
    ∃ A1 A2 A3 A4 A5 T : Nat, Hid (T = (s + maj a b c) % 4294967296) ∧ bits BinOp.and IntKind.u32 (a : Int) (b : Int) = A1 ∧ bits BinOp.and IntKind.u32 (a : Int) (c : Int) = A2 ∧ bits BinOp.xor IntKind.u32 (A1 : Int) (A2 : Int) = A3 ∧
      bits BinOp.and IntKind.u32 (b : Int) (c : Int) = A4 ∧ bits BinOp.xor IntKind.u32 (A3 : Int) (A4 : Int) = A5 ∧ IntKind.u32.wrap ((s : Int) + (A5 : Int)) = T := by
  have l1 := and_lt32 a b hb
  have l2 := and_lt32 a c hc
  have l4 := and_lt32 b c hc
  refine ⟨_, _, _, _, _, (s + maj a b c) % 4294967296, rfl, and32 a b ha hb, and32 a c ha hc, xor32 _ _ l1 l2, and32 b c hb hc, xor32 _ _ (xor_lt32 _ _ l1 l2) l4, ?_⟩
  rw [show a &&& b ^^^ a &&& c ^^^ b &&& c = maj a b c from rfl, wrap32]
  omega
/-- the round's sums -/
theorem vn_steps (t1 t2 d : Nat) : ∃ A B : Nat, Hid (A = (t1 + t2) % 4294967296) ∧ Hid (B = (d + t1) % 4294967296) ∧ IntKind.u32.wrap ((t1 : Int) + (t2 : Int)) = A ∧ IntKind.u32.wrap ((d : Int) + (t1 : Int)) = B := by
  refine ⟨(t1 + t2) % 4294967296, (d + t1) % 4294967296, rfl, rfl, ?_, ?_⟩ <;> rw [wrap32] <;> omega
theorem infoU32 : (Try.prog.info? 35).map (fun i => (i.zero, i.size, i.bytes)) = some (some (.int .u32 0), 1, 4) := by kernel_rfl
/-- numbers of one's own -/
def OwnU (w : World) (base : Nat) (A : Option Addr) (n c : Nat) (l : List Nat) : Prop := w.ownsRow base 35 1 (.slice A n c) n (us l) ∧ l.length = n
theorem OwnU.nil (w : World) (base : Nat) : OwnU w base none 0 0 [] := ⟨World.ownsRow_nil _ _ _ _, rfl⟩
theorem OwnU.addr {w : World} {base n c : Nat} {A : Option Addr} {l : List Nat} (h : OwnU w base A n c l) (hn : 0 < n) : ∃ g, A = some ⟨g, 0, none⟩ ∧ base ≤ g ∧ g < w.heap.size ∧ RowAt w g 0 (us l) := by
  obtain ⟨h1, h2⟩ := h
  have hs := Sl.of_own h1
  obtain ⟨g, cap, hv, _, _⟩ := h1.form hn
  injection hv with e1 e2 e3
  subst e1
  obtain ⟨b, o, e, hb, hr⟩ := hs.2 hn
  injection e with e
  injection e with e4 e5
  subst e4 e5
  exact ⟨g, rfl, hb.1, hb.2, hr⟩
theorem OwnU.only {w w' : World} {base n c : Nat} {A : Option Addr} {l : List Nat} {S : Nat → Prop} (h : OwnU w base A n c l) (hw : Only S w w') (hn : ∀ k, base ≤ k → k < w.heap.size → ¬ S k) : OwnU w' base A n c l :=
  ⟨own_only h.1 hw (fun k hk => hn k (h.1.lt k hk).1 (h.1.lt k hk).2), h.2⟩
theorem row_us {w : World} {g o : Nat} {l : List Nat} (h : RowAt w g o (us l)) {i : Nat} (hi : i < l.length) : w.cell? ⟨g, o + i, none⟩ = some (.int .u32 ((l.getD i 0 : Nat) : Int)) := h i _ (us_get l i hi)
theorem row_us0 {w : World} {g : Nat} {l : List Nat} (h : RowAt w g 0 (us l)) {i : Nat} (hi : i < l.length) : w.cell? ⟨g, i, none⟩ = some (.int .u32 ((l.getD i 0 : Nat) : Int)) := by
  have := row_us h hi; rwa [Nat.zero_add] at this
theorem us_all (l : List Nat) : ∀ u ∈ us l, u.oneCell' = true := us_one l
theorem OwnU.row {w : World} {base n c g : Nat} {l : List Nat} (h : OwnU w base (some ⟨g, 0, none⟩) n c l) (hn : 0 < n) : base ≤ g ∧ g < w.heap.size ∧ RowAt w g 0 (us l) := by
  obtain ⟨g', e, h1, h2, h3⟩ := h.addr hn
  injection e with e
  injection e with e
  subst e
  exact ⟨h1, h2, h3⟩
set_option maxRecDepth 20000 in
set_option maxHeartbeats 400000 in
theorem run_bs8 (w : World) (a b c d e f g h : Nat) : (Instr.buildSlice 115 8 #[(0, .int .u32 (a : Int)), (1, .int .u32 (b : Int)), (2, .int .u32 (c : Int)), (3, .int .u32 (d : Int)), (4, .int .u32 (e : Int)), (5, .int .u32 (f : Int)), (6, .int .u32 (g : Int)), (7, .int .u32 (h : Int))]).run Try.prog w =
   .ok (.slice (some ⟨w.heap.size, 0, none⟩) 8 8) (w.alloc (.cells #[.int .u32 (a : Int), .int .u32 (b : Int), .int .u32 (c : Int), .int .u32 (d : Int), .int .u32 (e : Int), .int .u32 (f : Int), .int .u32 (g : Int), .int .u32 (h : Int)] 35)) := by
  go_simp
theorem exec_bsl {P : Program} {o : Oper} {a : Act} {w w' : World} {t : TypeId} {n : Nat} {parts : Array (Nat × Operand)} {l : Array (Nat × Value)} {v : Value} (ho : o.op = .buildSlice t n parts) (hr : (Instr.buildSlice t n l).run P w = .ok v w') (hl : (parts.map fun p => (p.1, a.eval p.2)) = l) :
    (execOp a.eval o).run P w = .ok (.value v) w' := by
  have hr' : (Instr.buildSlice t n (parts.map fun p => (p.1, a.eval p.2))).run P w = .ok v w' := by rw [hl]; exact hr
  unfold execOp
  simp only [ho, Sem.run_bind, hr', Result.andThen_ok]
  rfl
theorem row_eight {w : World} {g : Nat} {a b c d e f i j : Nat} (h : RowAt w g 0 (us [a, b, c, d, e, f, i, j])) :
    w.cell? ⟨g, 0, none⟩ = some (.int .u32 (a : Int)) ∧ w.cell? ⟨g, 1, none⟩ = some (.int .u32 (b : Int)) ∧ w.cell? ⟨g, 2, none⟩ = some (.int .u32 (c : Int)) ∧ w.cell? ⟨g, 3, none⟩ = some (.int .u32 (d : Int)) ∧
    w.cell? ⟨g, 4, none⟩ = some (.int .u32 (e : Int)) ∧ w.cell? ⟨g, 5, none⟩ = some (.int .u32 (f : Int)) ∧ w.cell? ⟨g, 6, none⟩ = some (.int .u32 (i : Int)) ∧ w.cell? ⟨g, 7, none⟩ = some (.int .u32 (j : Int)) :=
  ⟨h 0 _ rfl, h 1 _ rfl, h 2 _ rfl, h 3 _ rfl, h 4 _ rfl, h 5 _ rfl, h 6 _ rfl, h 7 _ rfl⟩
theorem RowAt.new_us (w : World) (t : TypeId) (l : List Nat) : RowAt (w.alloc (.cells (us l).toArray t)) w.heap.size 0 (us l) := (Blk.new w t (us l).toArray).rowAll
theorem row_len {w : World} {g : Nat} {xs : List Value} (h : RowAt w g 0 xs) (hx : 0 < xs.length) : g < w.heap.size := h.lt hx
theorem step_newu {P : Program} {ops : Array Oper} {o : Oper} {ac : Act} {w : World} {Q : Exit → Act → World → Prop} {K : Act → World → Prop} {E : Prop} (hw : Region.wanted o (yielded ops ac.tmps) = true) (ob : Obj) (v : Nat → Value) (hr : (execOp ac.eval o).run P w = .ok (.value (v w.heap.size)) (w.alloc ob))
    (h : ∀ N w', N = w.heap.size → w' = w.alloc ob → Below w.heap.size w w' → K (ac.put o.dst (v N)) w') : if Region.wanted o (yielded ops ac.tmps) = true then Oper.wp P o ac w K Q else E := by
  rw [if_pos hw]
  unfold Oper.wp
  rw [hr]
  exact h _ _ rfl rfl ((Below.refl _ _).alloc (Nat.le_refl _) _)
end Go.Proofs.Ytnonabmbichfnaa
