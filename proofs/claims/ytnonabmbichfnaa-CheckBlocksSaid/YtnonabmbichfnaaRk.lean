/- tx.ReadBlock: the block that bytes are. -/
import Derived.Test.YtnonabmbichfnaaHr
import Derived.Test.YtnonabmbichfnaaRe
import Derived.Test.YtnonabmbichfnaaTk
namespace Go.Proofs.Ytnonabmbichfnaa
open Go.RowKit
/-- what tx.ReadBlock hands out: the header's cells, the transactions -/
def blkH (l : List UInt8) : List Value := if blkE l = 0 then hdrR (rawO l 80) else hdrC 0 z32 z32 0 0 0
def blkT (l : List UInt8) : List TxT := if blkE l = 0 then (blkR (l, 0)).1 else []
theorem rawO_80 (l : List UInt8) : (rawO l 80).length = 80 ∧ 80 ≤ l.length ∨ rawO l 80 = [] ∧ l.length < 80 := by
  rcases Nat.lt_or_ge l.length 80 with h | h
  · exact .inr ⟨(raw_bad l 80 h 0).1, h⟩
  · refine .inl ⟨?_, h⟩
    rw [show (80 : Int) = ((80 : Nat) : Int) from rfl, (raw_parts l 80 h 0).1, List.length_take]; omega
theorem hdrR_len (l : List UInt8) : (hdrR l).length = 68 := by
  rw [hdrR]
  split
  · rename_i h
    exact hdrC_len _ _ _ _ _ _ (by simp [id32, h]) (by simp [id32, h])
  · exact hdrC_len 0 z32 z32 0 0 0 rfl rfl
theorem hdrR_one (l : List UInt8) : ∀ u ∈ hdrR l, u.oneCell' = true := by
  rw [hdrR]
  split
  · exact hdrC_one _ _ _ _ _ _
  · exact hdrC_one _ _ _ _ _ _
theorem txR_bad {s : RS} (h : s.2 ≠ 0) : (txR s).2.2 ≠ 0 := by
  intro hc
  exact h (txR_back hc).1
/-- the error's number stays -/
theorem tk_six {n : Int} {s : RS} (h : s.2 = 6) : (tk n s).2 = 6 := by
  show rawE s.1 s.2 n = 6
  unfold rawE errOf
  rw [h]
  split
  · rfl
  · rfl
theorem rawE_six {l : List UInt8} {e n : Int} (h : e = 6) : rawE l e n = 6 := tk_six (s := (l, e)) h
theorem cHead_six {l : List UInt8} {e : Int} (h : e = 6) : (cHead l e).2.2.2 = 6 := by
  unfold cHead
  split
  · exact rawE_six (rawE_six h)
  · split
    · exact rawE_six (rawE_six h)
    · split
      · exact rawE_six (rawE_six h)
      · exact rawE_six h
theorem cnt_six {n : Nat} {s : RS} (h : s.2 = 6) : (cnt n s).1 = 0 ∧ (cnt n s).2.2 = 6 := by
  show (rcountS s.1 s.2 n).1 = 0 ∧ (rcountS s.1 s.2 n).2.2 = 6
  have hc := cHead_six (l := s.1) h
  unfold rcountS
  generalize cHead s.1 s.2 = x at hc
  obtain ⟨m, least, l, e⟩ := x
  simp only [cEnd] at hc ⊢
  rw [if_pos (by rw [hc]; decide)]
  exact ⟨rfl, hc⟩
theorem blk_short {l : List UInt8} (h : l.length < 80) : (blkR (l, 0)).2.2 = 6 ∧ endS (blkR (l, 0)).2.1 (blkR (l, 0)).2.2 = 6 := by
  have h1 : (tk 80 (l, 0)).2 = 6 := (raw_bad l 80 h 0).2.2
  obtain ⟨h2, h3⟩ := cnt_six (n := 32) h1
  have h4 : (blkR (l, 0)).2.2 = 6 := by
    unfold blkR
    rw [h2]
    exact h3
  refine ⟨h4, ?_⟩
  unfold endS
  rw [h4, if_neg (fun h => absurd h.1 (by decide))]
theorem built_blk0 : Try.prog.built 42 [] = some (hdrC 0 z32 z32 0 0 0 ++ [Value.slice none 0 0]).toArray := by show _ = _; kernel_rfl
theorem built_blk1 (H : List Value) (h : H.length = 68) : Try.prog.built 42 [(0, .agg H.toArray)] = some (H ++ [Value.slice none 0 0]).toArray := by
  match H, h with
  | _ :: _ :: _ :: _ :: _ :: _ :: _ :: _ :: _ :: _ :: _ :: _ :: _ :: _ :: _ :: _ :: _ :: _ :: _ :: _ :: _ :: _ :: _ :: _ :: _ :: _ :: _ :: _ :: _ :: _ :: _ :: _ :: _ :: _ :: _ :: _ :: _ :: _ :: _ :: _ :: [_, _, _, _, _, _, _, _, _, _, _, _, _, _, _, _, _, _, _, _, _, _, _, _, _, _, _, _], _ => (show _ = _; kernel_rfl)
theorem each_own {α : Type} {s : Shape α} (hw : s.Weak) {w w' : World} {L : Nat} {v v' : Value} {cells : List (List Value)} {ls : List α} (h : Each (s.rel w (fun b => L ≤ b ∧ v.ownBlock ≠ some b)) cells ls) (ho : Only (fun b => v.ownBlock = some b) w w')
    (hat : v'.ownBlock = v.ownBlock ∨ v'.ownBlock = some w.heap.size) : Each (s.rel w' (fun b => L ≤ b ∧ v'.ownBlock ≠ some b)) cells ls :=
  h.mono (fun _ _ h => hw _ _ _ _ _ (s.only (hw _ _ (fun b => (L ≤ b ∧ v.ownBlock ≠ some b) ∧ b < w.heap.size) _ _ h (fun b hb hh => ⟨hh, hb⟩)) ho (fun b _ hb => hb.1.2)) (fun b _ hb => ⟨hb.1.1, by
    rcases hat with e | e
    · rw [e]; exact hb.1.2
    · rw [e]; intro e2; injection e2 with e2; omega⟩))
theorem own_lt {w : World} {base : Nat} {e : TypeId} {size n : Nat} {v : Value} {xs : List Value} (h : w.ownsRow base e size v n xs) {b : Nat} (hb : v.ownBlock = some b) : b < w.heap.size := by
  rcases h.2 with ⟨rfl, _⟩ | ⟨g', cap, cur, rfl, _, hh, _⟩
  · simp [Value.ownBlock] at hb
  · have : g' = b := by simpa [Value.ownBlock] using hb
    subst this
    exact blk_lt hh
theorem weak_tx3 : txSh.Weak := weak_pair (weak_slice weak_in3) (weak_pair (weak_slice weak_out3) weak_unit)
theorem infoTxz3 : (Try.prog.info? 25).map (fun i => (i.zero, i.size, i.bytes)) = some (some (.agg #[.slice none 0 0, .slice none 0 0]), 2, 48) := by kernel_rfl
theorem blk_last {w : World} {q : Nat} {T : TypeId} {H : List Value} {v : Value} (h : Blk w q T (H ++ [v]).toArray) (hl : H.length = 68) : w.cell? ⟨q, 68, none⟩ = some v := by
  rw [h.cell 68, List.getElem?_toArray, List.getElem?_append_right (by omega), hl]; rfl
theorem blk_last_set {w : World} {q : Nat} {T : TypeId} {H : List Value} {v : Value} (h : Blk w q T (H ++ [v]).toArray) (hl : H.length = 68) (u : Value) : Blk (w.setCell ⟨q, 68, none⟩ u) q T (H ++ [u]).toArray := by
  have := h.set_ 68 u
  rwa [List.setIfInBounds_toArray, List.set_append_right _ _ (by omega), hl, show (68 - 68) = 0 from rfl, List.set_cons_zero] at this
theorem one_app {H : List Value} {A : Option Addr} {n c : Nat} (h : ∀ u ∈ H, u.oneCell' = true) : ∀ u ∈ H ++ [Value.slice A n c], u.oneCell' = true := by
  intro u hu
  rcases List.mem_append.1 hu with h1 | h1
  · exact h u h1
  · rw [List.mem_singleton.1 h1]; rfl
end Go.Proofs.Ytnonabmbichfnaa
