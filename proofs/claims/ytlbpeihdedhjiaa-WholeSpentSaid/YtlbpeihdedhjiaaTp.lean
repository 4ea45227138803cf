/- Transactions that are built in a drawn region: where each part lies. -/
import Derived.Test.YtlbpeihdedhjiaaFz
namespace Go.Proofs.Ytlbpeihdedhjiaa
open Go.RowKit
def KyP (B : Nat) (w : World) (k n c : Nat) (l : List UInt8) : Prop := ∃ C fr, B ≤ k ∧ IsB w (fun b => b = k) (.slice (some ⟨k, 0, none⟩) n c) l ∧ w.heap[k]? = some (Obj.cells C 5 fr)
theorem KyP.fz {B B' : Nat} {w w' : World} {k n c : Nat} {l : List UInt8} (h : KyP B w k n c l) (f : Fz B' w w') : KyP B w' k n c l := by
  obtain ⟨C, fr, h1, h2, h3⟩ := h
  obtain ⟨fr', h4⟩ := f.u8 k C fr h3
  exact ⟨C, fr', h1, f.isB h2, h4⟩
theorem KyP.only {B M : Nat} {w w' : World} {k n c : Nat} {l : List UInt8} {cs : Array Value} (h : KyP B w k n c l) (hM : Blk w M 54 cs) (o : Only (fun b => b = M) w w') : KyP B w' k n c l := by
  obtain ⟨C, fr, h1, h2, h3⟩ := h
  have hne : k ≠ M := fun e => by
    subst e
    unfold Blk at hM
    rw [hM] at h3
    injection h3 with h3
    injection h3 with _ h4 _
    exact absurd h4 (by decide)
  exact ⟨C, fr, h1, h2.only o (fun b _ hb e => hne (by rw [← e]; exact hb.symm)), o.blk h3 hne⟩
/-- one transaction: an input in block p, its key in k, an output in q -/
def TxP (B : Nat) (w : World) (p q : Nat) (id : List UInt8) (ix : Nat) (key : List UInt8) (amt : Int) (lock : List UInt8) : Prop :=
  ∃ k n c, KyP B w k n c key ∧ B ≤ p ∧ B ≤ q ∧ Blk w p 32 (inC id ix (.slice (some ⟨k, 0, none⟩) n c)).toArray ∧ Blk w q 36 (outC amt lock).toArray
theorem TxP.fz {B B' : Nat} {w w' : World} {p q : Nat} {id : List UInt8} {ix : Nat} {key : List UInt8} {amt : Int} {lock : List UInt8} (h : TxP B w p q id ix key amt lock) (f : Fz B' w w') : TxP B w' p q id ix key amt lock := by
  obtain ⟨k, n, c, h1, h2, h3, h4, h5⟩ := h
  exact ⟨k, n, c, h1.fz f, h2, h3, f.blk _ _ _ (by decide) h4, f.blk _ _ _ (by decide) h5⟩
theorem TxP.only {B M : Nat} {w w' : World} {p q : Nat} {id : List UInt8} {ix : Nat} {key : List UInt8} {amt : Int} {lock : List UInt8} {cs : Array Value} (h : TxP B w p q id ix key amt lock) (hM : Blk w M 54 cs) (o : Only (fun b => b = M) w w') : TxP B w' p q id ix key amt lock := by
  obtain ⟨k, n, c, h1, h2, h3, h4, h5⟩ := h
  exact ⟨k, n, c, h1.only hM o, h2, h3, h4.only o (fun e => Blk.ne_ h4 hM (by decide) e), h5.only o (fun e => Blk.ne_ h5 hM (by decide) e)⟩
theorem TxP.rel {B : Nat} {w : World} {p q : Nat} {id : List UInt8} {ix : Nat} {key : List UInt8} {amt : Int} {lock : List UInt8} (h : TxP B w p q id ix key amt lock) (hid : id.length = 32) (hix : ix < 4294967296) (hl : lock.length = 32) (ha : (Lit.int .i64 amt).wf = true) :
    txSh.rel w (fun b => B ≤ b ∧ b < w.heap.size) [.slice (some ⟨p, 0, none⟩) 1 1, .slice (some ⟨q, 0, none⟩) 1 1] ([((id, ((ix : Nat) : Int), ()), key, ())], [(amt, lock, ())], ()) := by
  obtain ⟨k, n, c, ⟨C, fr, k1, k2, k3⟩, h2, h3, h4, h5⟩ := h
  exact tx_rel (one_slk h4.rowAll ⟨h2, h4.lt⟩ (in_rel hid hix (k2.weak (fun b hb h => ⟨by have h9 : b = k := h; omega, hb⟩)))) (one_slk h5.rowAll ⟨h3, h5.lt⟩ (out_rel hl ha))
theorem TxP.ins {B : Nat} {w : World} {p q : Nat} {id : List UInt8} {ix : Nat} {key : List UInt8} {amt : Int} {lock : List UInt8} (h : TxP B w p q id ix key amt lock) (hid : id.length = 32) (hix : ix < 4294967296) :
    insSh.rel w (fun b => b < w.heap.size) [.slice (some ⟨p, 0, none⟩) 1 1] [((id, ((ix : Nat) : Int), ()), key, ())] := by
  obtain ⟨k, n, c, ⟨C, fr, k1, k2, k3⟩, h2, h3, h4, h5⟩ := h
  exact one_slk h4.rowAll h4.lt (in_rel hid hix (k2.weak (fun b hb h => hb)))
theorem TxP.outs {B : Nat} {w : World} {p q : Nat} {id : List UInt8} {ix : Nat} {key : List UInt8} {amt : Int} {lock : List UInt8} (h : TxP B w p q id ix key amt lock) (hl : lock.length = 32) (ha : (Lit.int .i64 amt).wf = true) :
    outsSh.rel w (fun b => b < w.heap.size) [.slice (some ⟨q, 0, none⟩) 1 1] [(amt, lock, ())] := by
  obtain ⟨k, n, c, ⟨C, fr, k1, k2, k3⟩, h2, h3, h4, h5⟩ := h
  exact one_slk h5.rowAll h5.lt (out_rel hl ha)
theorem TxP.gs {B g : Nat} {w w' : World} {p q : Nat} {id : List UInt8} {ix : Nat} {key : List UInt8} {amt : Int} {lock : List UInt8} (h : TxP B w p q id ix key amt lock) (hg : g < B) (o : Only (fun b => b = g) w w') : TxP B w' p q id ix key amt lock := by
  obtain ⟨k, n, c, ⟨C, fr, k1, k2, k3⟩, h2, h3, h4, h5⟩ := h
  exact ⟨k, n, c, ⟨C, fr, k1, k2.only o (fun b _ hb e => by have h9 : b = k := hb; omega), o.blk k3 (by omega)⟩, h2, h3, h4.only o (by omega), h5.only o (by omega)⟩
theorem TxP.of_mkr {B : Nat} {w w0 : World} {p q : Nat} {amt : Int} {key mark : List UInt8} (hB : B ≤ w0.heap.size) (h : ∃ k ck C fr, w0.heap.size ≤ p ∧ w0.heap.size ≤ q ∧ w0.heap.size ≤ k ∧ Blk w p 32 (inC zid 4294967295 (.slice (some ⟨k, 0, none⟩) mark.length ck)).toArray ∧ Blk w q 36 (outC amt (sha key)).toArray ∧ IsB w (fun b => b = k) (.slice (some ⟨k, 0, none⟩) mark.length ck) mark ∧ w.heap[k]? = some (Obj.cells C 5 fr)) :
    TxP B w p q zid 4294967295 mark amt (sha key) := by
  obtain ⟨k, ck, C, fr, h1, h2, h3, h4, h5, h6, h7⟩ := h
  exact ⟨k, _, ck, ⟨C, fr, by omega, h6, h7⟩, by omega, by omega, h4, h5⟩
end Go.Proofs.Ytlbpeihdedhjiaa
