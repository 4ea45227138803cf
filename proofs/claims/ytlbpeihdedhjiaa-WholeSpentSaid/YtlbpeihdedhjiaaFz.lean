/- What an operation of a drawn region may do: make new blocks, and mark a row of bytes of its own as a string's. -/
import Derived.Test.YtlbpeihdedhjiaaSets
import Derived.Test.YtlbpeihdedhjiaaKpn
namespace Go.Proofs.Ytlbpeihdedhjiaa
open Go.RowKit
structure Fz (B : Nat) (w w' : World) : Prop where
  os : w'.os = w.os
  tape : w'.tape = w.tape
  output : w'.output = w.output
  size : w.heap.size ≤ w'.heap.size
  block : ∀ k, k < B → w'.heap[k]? = w.heap[k]?
  cel : ∀ p v, w.cell? p = some v → w'.cell? p = some v
  blk : ∀ k t cs, t ≠ 5 → Blk w k t cs → Blk w' k t cs
  u8 : ∀ (k : Nat) (C : Array Value) (fr : Nat × Nat), w.heap[k]? = some (Obj.cells C 5 fr) → ∃ fr' : Nat × Nat, w'.heap[k]? = some (Obj.cells C 5 fr')
theorem Fz.refl (B : Nat) (w : World) : Fz B w w := ⟨rfl, rfl, rfl, Nat.le_refl _, fun _ _ => rfl, fun _ _ h => h, fun _ _ _ _ h => h, fun _ _ fr h => ⟨fr, h⟩⟩
theorem Fz.trans {B : Nat} {w w' w'' : World} (h : Fz B w w') (k : Fz B w' w'') : Fz B w w'' :=
  ⟨k.os.trans h.os, k.tape.trans h.tape, k.output.trans h.output, Nat.le_trans h.size k.size, fun b hb => (k.block b hb).trans (h.block b hb), fun p v hp => k.cel p v (h.cel p v hp), fun g t cs ht hg => k.blk g t cs ht (h.blk g t cs ht hg), fun g C fr hg => by
    obtain ⟨fr', h1⟩ := h.u8 g C fr hg
    exact k.u8 g C fr' h1⟩
theorem Fz.of_below {B : Nat} {w w' : World} (hB : B ≤ w.heap.size) (a : Below w.heap.size w w') : Fz B w w' :=
  ⟨a.os, a.tape, a.output, a.size, fun k hk => a.block k (by omega), fun p v hp => by
    have hl := World.block_lt_of_cell? w _ hp
    rw [World.cell?_of_block (a.block p.block hl)]
    exact hp, fun k t cs _ hg => hg.below a hg.lt, fun k C fr hg => ⟨fr, (a.block k (blk_lt hg)).trans hg⟩⟩
theorem Fz.below {B : Nat} {w w' : World} (h : Fz B w w') : Below B w w' := ⟨h.os, h.tape, h.output, h.size, h.block⟩
theorem Fz.row {B : Nat} {w w' : World} (h : Fz B w w') {b o : Nat} {xs : List Value} (hr : RowAt w b o xs) : RowAt w' b o xs := fun j u hj => h.cel _ _ (hr j u hj)
theorem Fz.sl {B : Nat} {w w' : World} (h : Fz B w w') {ok : Nat → Prop} {size n : Nat} {A : Option Addr} {xs : List Value} (hr : Sl w ok size A n xs) : Sl w' ok size A n xs :=
  ⟨hr.1, fun hp => by
    obtain ⟨b, o, h1, h2, h3⟩ := hr.2 hp
    exact ⟨b, o, h1, h2, h.row h3⟩⟩
theorem Fz.isB {B : Nat} {w w' : World} (h : Fz B w w') {ok : Nat → Prop} {v : Value} {l : List UInt8} (hr : IsB w ok v l) : IsB w' ok v l := by
  obtain ⟨A, n, c, h1, h2, h3, h4⟩ := hr
  exact ⟨A, n, c, h1, h2, h3, h.sl h4⟩
def Shape.Cel {α : Type} (s : Shape α) : Prop := ∀ (B : Nat) (w w' : World) (ok : Nat → Prop) (cs : List Value) (a : α), Fz B w w' → s.rel w ok cs a → s.rel w' ok cs a
theorem cel_int (k : IntKind) : (shInt k).Cel := fun _ _ _ _ _ _ _ h => h
theorem cel_arr (n : Nat) : (shArr n).Cel := fun _ _ _ _ _ _ _ h => h
theorem cel_unit : shUnit.Cel := fun _ _ _ _ _ _ _ h => h
theorem cel_bytes : shBytes.Cel := fun _ _ _ _ _ _ f h => by
  obtain ⟨v, h1, h2⟩ := h
  exact ⟨v, h1, f.isB h2⟩
theorem cel_pair {α β : Type} {s : Shape α} {t : Shape β} (h1 : s.Cel) (h2 : t.Cel) : (shPair s t).Cel := fun B w w' ok _ _ f h => by
  obtain ⟨c, d, e, k1, k2⟩ := h
  exact ⟨c, d, e, h1 B w w' ok _ _ f k1, h2 B w w' ok _ _ f k2⟩
theorem cel_slice {α : Type} {s : Shape α} {hs : 0 < s.size} (h1 : s.Cel) : (shSlice s hs).Cel := fun B w w' ok _ _ f h => by
  obtain ⟨A, c, cells, k1, k2, k3, k4, k5⟩ := h
  exact ⟨A, c, cells, k1, k2, k3, k4.mono (fun _ _ h => h1 B w w' ok _ _ f h), f.sl k5⟩
theorem cel_ins : insSh.Cel := cel_slice (cel_pair (cel_pair (cel_arr 32) (cel_pair (cel_int _) cel_unit)) (cel_pair cel_bytes cel_unit))
theorem cel_outs : outsSh.Cel := cel_slice (cel_pair (cel_int _) (cel_pair (cel_arr 32) cel_unit))
/-- a literal row of bytes is marked as a string's -/
theorem mark_any (w : World) (B N n c : Nat) (C : Array Value) (fr : Nat × Nat) (h : w.heap[N]? = some (.cells C 5 fr)) (hB : B ≤ N) :
    ∃ w', (convert 30 30 (.slice (some ⟨N, 0, none⟩) n c)).run Try.prog w = .ok (.slice (some ⟨N, 0, none⟩) n c) w' ∧ Fz B w w' := by
  have hsh : w.shape? N = some (5, C.size) := by unfold World.shape?; rw [h]
  have hl : N < w.heap.size := blk_lt h
  refine ⟨w.freeze ⟨N, C.size, none⟩ 1, ?_, ?_⟩
  · simp [convert, run_underlying Try.underlying30, run_underlying Try.underlying5, markStringish, hsh]
  · obtain ⟨fr', hh⟩ : ∃ fr', ∀ k, (w.freeze ⟨N, C.size, none⟩ 1).heap[k]? = if N = k then some (.cells C 5 fr') else w.heap[k]? := by
      obtain ⟨lo, hi⟩ := fr
      refine ⟨(if lo == hi then (C.size, C.size + 1) else (min lo C.size, max hi (C.size + 1))), ?_⟩
      intro k
      unfold World.freeze
      rw [if_neg (by decide)]
      show (w.heap.modify N _)[k]? = _
      rw [Array.getElem?_modify]
      split
      · rename_i e
        subst e
        rw [h]
        rfl
      · rfl
    refine ⟨rfl, rfl, rfl, ?_, fun k hk => by rw [hh, if_neg (by omega)], fun p v hp => ?_, fun k t cs ht hg => ?_, fun k C2 fr2 hg => ?_⟩
    · unfold World.freeze
      rw [if_neg (by decide)]
      simp
    · have hh2 := hh p.block
      by_cases hN : N = p.block
      · rw [if_pos hN] at hh2
        unfold World.cell? at hp ⊢
        rw [hh2]
        rw [← hN, h] at hp
        exact hp
      · rw [if_neg hN] at hh2
        rw [World.cell?_of_block hh2]
        exact hp
    · unfold Blk at hg ⊢
      rw [hh]
      split
      · rename_i e
        rw [← e, h] at hg
        injection hg with hg
        injection hg with h1 h2 h3
        exact absurd h2.symm ht
      · exact hg
    · rw [hh]
      split
      · rename_i e
        rw [← e, h] at hg
        injection hg with hg
        injection hg with h1 h2 h3
        subst h1
        exact ⟨fr', rfl⟩
      · exact ⟨fr2, hg⟩
theorem cel_txs : txsSh.Cel := cel_slice (cel_pair cel_ins (cel_pair cel_outs cel_unit))
theorem exec_conv {P : Program} {o : Oper} {a : Act} {w w' : World} {src dst : TypeId} {x : Operand} {v r : Value} (ho : o.op = .convert src dst x) (hx : a.eval x = v) (hr : (convert src dst v).run P w = .ok r w') : (execOp a.eval o).run P w = .ok (.value r) w' := by
  unfold execOp
  simp only [ho, hx, Sem.run_bind, hr, Result.andThen_ok]
  rfl
theorem step_val {P : Program} {o : Oper} {a : Act} {w w' : World} {v : Value} {K : Act → World → Prop} {Q : Exit → Act → World → Prop} (hr : (execOp a.eval o).run P w = .ok (.value v) w') (h : K (a.put o.dst v) w') : o.wp P a w K Q := by
  unfold Oper.wp
  rw [hr]
  exact h
theorem tx_rel {w : World} {ok : Nat → Prop} {A A' : Option Addr} {n n' c c' : Nat} {ins : List InT} {outs : List OutT} (hi : insSh.rel w ok [.slice A n c] ins) (ho : outsSh.rel w ok [.slice A' n' c'] outs) : txSh.rel w ok [.slice A n c, .slice A' n' c'] (ins, outs, ()) :=
  ⟨[.slice A n c], [.slice A' n' c'], rfl, hi, ⟨[.slice A' n' c'], [], rfl, ho, rfl⟩⟩
theorem two_slk {w : World} {ok : Nat → Prop} {b : Nat} {cs ds : List Value} {a a' : TxT} (hb : RowAt w b 0 (cs ++ ds)) (hok : ok b) (hr : txSh.rel w ok cs a) (hr' : txSh.rel w ok ds a') : txsSh.rel w ok [.slice (some ⟨b, 0, none⟩) 2 2] [a, a'] :=
  ⟨some ⟨b, 0, none⟩, 2, [cs, ds], rfl, by simp, by simp [maxLen], .cons hr (.cons hr' .nil), by simp [txSh.len hr, txSh.len hr']; omega, fun _ => ⟨b, 0, rfl, hok, by simpa using hb⟩⟩
theorem run_one_tx (a b : Value) (w : World) : (Instr.buildSlice 50 1 #[(0, .agg #[a, b])]).run Try.prog w = .ok (.slice (some ⟨w.heap.size, 0, none⟩) 1 1) (w.alloc (.cells #[a, b] 39)) := by show _ = _; kernel_rfl
theorem run_two_tx (a b c d : Value) (w : World) : (Instr.buildSlice 50 2 #[(0, .agg #[a, b]), (1, .agg #[c, d])]).run Try.prog w = .ok (.slice (some ⟨w.heap.size, 0, none⟩) 2 2) (w.alloc (.cells #[a, b, c, d] 39)) := by show _ = _; kernel_rfl
theorem run_one_u8 (z : Int) (w : World) : (Instr.buildSlice 30 1 #[(0, .int .u8 z)]).run Try.prog w = .ok (.slice (some ⟨w.heap.size, 0, none⟩) 1 1) (w.alloc (.cells #[.int .u8 z] 5)) := by show _ = _; kernel_rfl
theorem built_blkt (A : Option Addr) (n c : Nat) : Try.prog.built 54 [(1, .slice A n c)] = some (blkC 0 zid zid 0 0 0 (.slice A n c)).toArray := by show _ = _; kernel_rfl
theorem built_pt0 (id : List UInt8) (h : id.length = 32) : Try.prog.built 28 [(0, .agg (bts id).toArray)] = some (ptC id 0).toArray := by
    match id, h with
    | [_, _, _, _, _, _, _, _, _, _, _, _, _, _, _, _, _, _, _, _, _, _, _, _, _, _, _, _, _, _, _, _], _ => (show _ = _; kernel_rfl)
theorem built_inp (id : List UInt8) (ix : Nat) (A : Option Addr) (n c : Nat) (h : id.length = 32) : Try.prog.built 32 [(0, .agg (ptC id ix).toArray), (1, .slice A n c)] = some (inC id ix (.slice A n c)).toArray := by
    match id, h with
    | [_, _, _, _, _, _, _, _, _, _, _, _, _, _, _, _, _, _, _, _, _, _, _, _, _, _, _, _, _, _, _, _], _ => (show _ = _; kernel_rfl)
theorem built_outa (amt : Int) : Try.prog.built 36 [(0, .int .i64 amt)] = some (outC amt zid).toArray := by show _ = _; kernel_rfl
end Go.Proofs.Ytlbpeihdedhjiaa
