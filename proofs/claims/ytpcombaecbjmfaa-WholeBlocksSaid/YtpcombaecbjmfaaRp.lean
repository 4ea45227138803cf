/- Plainly: what is read of bytes as a transaction, a block. No walk here. -/
import Derived.Test.YtpcombaecbjmfaaRb
import Derived.Test.YtpcombaecbjmfaaSt
namespace Go.Proofs.Ytpcombaecbjmfaa
open Go.RowKit
/-- bytes that are left, the error -/
abbrev RS := List UInt8 × Int
/-- so many bytes are passed over -/
def tk (n : Int) (s : RS) : RS := (rawL s.1 n, rawE s.1 s.2 n)
def cnt (most : Nat) (s : RS) : Nat × RS := rcountS s.1 s.2 most
/-- the next input -/
def inR (s : RS) : InT × RS :=
  (((idS (rawO s.1 32), ((numOf (rawO (tk 32 s).1 4) : Nat) : Int), ()), (textS (tk 4 (tk 32 s)).1 (tk 4 (tk 32 s)).2 100).1, ()), (textS (tk 4 (tk 32 s)).1 (tk 4 (tk 32 s)).2 100).2)
/-- the next output -/
def outR (s : RS) : OutT × RS := ((IntKind.i64.wrap ((numOf (rawO s.1 8) : Nat) : Int), idS (rawO (tk 8 s).1 32), ()), tk 32 (tk 8 s))
/-- so many of them -/
def many {α : Type} (f : RS → α × RS) : Nat → RS → List α × RS
  | 0, s => ([], s)
  | n + 1, s => ((many f n s).1 ++ [(f (many f n s).2).1], (f (many f n s).2).2)
/-- the next inputs, behind them the outputs -/
def txI (s : RS) : List InT × RS := many inR (cnt 32 s).1 (cnt 32 s).2
def txO (s : RS) : List OutT × RS := many outR (cnt 32 (txI s).2).1 (cnt 32 (txI s).2).2
/-- the next transaction -/
def txR (s : RS) : TxT × RS := (((txI s).1, (txO s).1, ()), (txO s).2)
theorem txR_2 (s : RS) : (txR s).2 = (txO s).2 := by simp only [txR]
theorem many_len {α : Type} (f : RS → α × RS) (n : Nat) (s : RS) : (many f n s).1.length = n := by
  induction n with
  | zero => rfl
  | succ n ih => simp [many, ih]
theorem cnt_le (most : Nat) (s : RS) : (cnt most s).1 ≤ most := by
  show (rcountS s.1 s.2 most).1 ≤ most
  unfold rcountS
  generalize cHead s.1 s.2 = x
  obtain ⟨n, least, l, e⟩ := x
  simp only [cEnd]
  split
  · exact Nat.zero_le _
  · split
    · exact Nat.zero_le _
    · split
      · exact Nat.zero_le _
      · simp only; omega
/-- behind an error nothing is left -/
def OkR (s : RS) : Prop := okSt s.1 s.2
theorem okR_tk {s : RS} (h : OkR s) (n : Int) : OkR (tk n s) := okSt.raw h n
theorem cHead_ok {l : List UInt8} {e : Int} (h : okSt l e) : okSt (cHead l e).2.2.1 (cHead l e).2.2.2 := by
  unfold cHead
  split
  · exact (h.raw 1).raw 2
  · split
    · exact (h.raw 1).raw 4
    · split
      · exact (h.raw 1).raw 8
      · exact h.raw 1
theorem okR_cnt {s : RS} (h : OkR s) (most : Nat) : OkR (cnt most s).2 := by
  show okSt (rcountS s.1 s.2 most).2.1 (rcountS s.1 s.2 most).2.2
  unfold rcountS
  have hc := cHead_ok h
  generalize cHead s.1 s.2 = x at hc
  obtain ⟨n, least, l, e⟩ := x
  simp only [cEnd] at hc ⊢
  split
  · exact hc
  · split
    · intro _; rfl
    · split
      · intro _; rfl
      · exact hc
theorem textS_2 (l : List UInt8) (e : Int) (n : Nat) : (textS l e (n : Int)).2 = tk (((cnt n (l, e)).1 : Nat) : Int) (cnt n (l, e)).2 := by
  unfold textS
  rw [Int.toNat_natCast]
  rfl
theorem textS_100 (l : List UInt8) (e : Int) : (textS l e 100).2 = tk (((cnt 100 (l, e)).1 : Nat) : Int) (cnt 100 (l, e)).2 := by
  rw [show (100 : Int) = ((100 : Nat) : Int) from rfl, textS_2]
theorem inR_2 (s : RS) : (inR s).2 = tk (((cnt 100 (tk 4 (tk 32 s))).1 : Nat) : Int) (cnt 100 (tk 4 (tk 32 s))).2 := by
  rw [inR]; exact textS_100 _ _
theorem okR_text {s : RS} (h : OkR s) (n : Nat) : OkR (textS s.1 s.2 (n : Int)).2 := by rw [textS_2]; exact okR_tk (okR_cnt h n) _
theorem okR_inR {s : RS} (h : OkR s) : OkR (inR s).2 := by rw [inR_2]; exact okR_tk (okR_cnt (okR_tk (okR_tk h 32) 4) 100) _
theorem okR_outR {s : RS} (h : OkR s) : OkR (outR s).2 := okR_tk (okR_tk h 8) 32
theorem okR_many {α : Type} {f : RS → α × RS} (hf : ∀ s, OkR s → OkR (f s).2) {s : RS} (h : OkR s) (n : Nat) : OkR (many f n s).2 := by
  induction n with
  | zero => exact h
  | succ n ih => exact hf _ ih
theorem okR_tx {s : RS} (h : OkR s) : OkR (txR s).2 := by
  have h1 : OkR (txI s).2 := by
    have h2 := okR_cnt h 32
    unfold txI
    generalize cnt 32 s = x at h2 ⊢
    exact okR_many (f := inR) (fun _ h => okR_inR h) h2 x.1
  rw [txR_2]
  have h2 := okR_cnt h1 32
  unfold txO
  generalize cnt 32 (txI s).2 = x at h2 ⊢
  exact okR_many (f := outR) (fun _ h => okR_outR h) h2 x.1
/-! nothing is added -/
theorem tk_len (n : Int) (s : RS) : (tk n s).1.length ≤ s.1.length := rawL_len _ _
theorem cHead_len (l : List UInt8) (e : Int) : (cHead l e).2.2.1.length ≤ l.length := by
  unfold cHead
  have h := rawL_len l 1
  split
  · exact Nat.le_trans (rawL_len _ _) h
  · split
    · exact Nat.le_trans (rawL_len _ _) h
    · split
      · exact Nat.le_trans (rawL_len _ _) h
      · exact h
theorem cnt_len (most : Nat) (s : RS) : (cnt most s).2.1.length ≤ s.1.length := by
  show (rcountS s.1 s.2 most).2.1.length ≤ _
  unfold rcountS
  have hc := cHead_len s.1 s.2
  generalize cHead s.1 s.2 = x at hc
  obtain ⟨n, least, l, e⟩ := x
  simp only [cEnd] at hc ⊢
  split
  · exact hc
  · split
    · simp
    · split
      · simp
      · exact hc
theorem text_len (s : RS) (n : Nat) : (textS s.1 s.2 (n : Int)).2.1.length ≤ s.1.length := by rw [textS_2]; exact Nat.le_trans (tk_len _ _) (cnt_len n _)
theorem inR_len (s : RS) : (inR s).2.1.length ≤ s.1.length := by rw [inR_2]; exact Nat.le_trans (tk_len _ _) (Nat.le_trans (cnt_len 100 _) (Nat.le_trans (tk_len _ _) (tk_len _ _)))
theorem outR_len (s : RS) : (outR s).2.1.length ≤ s.1.length := Nat.le_trans (tk_len _ _) (tk_len _ _)
theorem many_left {α : Type} {f : RS → α × RS} (hf : ∀ s, (f s).2.1.length ≤ s.1.length) (n : Nat) (s : RS) : (many f n s).2.1.length ≤ s.1.length := by
  induction n with
  | zero => exact Nat.le_refl _
  | succ n ih => exact Nat.le_trans (hf _) ih
theorem txR_len (s : RS) : (txR s).2.1.length ≤ s.1.length := by
  have h1 : (txI s).2.1.length ≤ s.1.length := by
    have h2 := cnt_len 32 s
    unfold txI
    generalize cnt 32 s = x at h2 ⊢
    exact Nat.le_trans (many_left inR_len x.1 x.2) h2
  have h2 : (txO s).2.1.length ≤ (txI s).2.1.length := by
    have h2 := cnt_len 32 (txI s).2
    unfold txO
    generalize cnt 32 (txI s).2 = x at h2 ⊢
    exact Nat.le_trans (many_left outR_len x.1 x.2) h2
  rw [txR_2]
  exact Nat.le_trans h2 h1
/-- the error of bytes that should be a transaction -/
def txE (l : List UInt8) : Int := endS (txR (l, 0)).2.1 (txR (l, 0)).2.2
/-- what is read of bytes as a block: behind the header -/
def blkR (s : RS) : List TxT × RS := many txR (cnt 32 (tk 80 s)).1 (cnt 32 (tk 80 s)).2
def blkE (l : List UInt8) : Int := if 8192 < l.length then 2 else endS (blkR (l, 0)).2.1 (blkR (l, 0)).2.2
end Go.Proofs.Ytpcombaecbjmfaa
