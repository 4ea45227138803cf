/- A coin is laid at a point, whether one is there or not; what Disconnect does, plainly. -/
import Derived.Test.YtlbpeihdedhjiaaTak
namespace Go.Proofs.Ytlbpeihdedhjiaa
open Go.RowKit Go.MapKept
def putC (L : CoL) (p : PtT) (c : CoT) : CoL := if (getC L p).isSome = true then L.map (fun x => if x.1 = p then (p, c) else x) else L ++ [(p, c)]
theorem nodup_at {L : CoL} (hn : (L.map (·.1)).Nodup) {i j : Nat} {x y : PtT × CoT} (hi : L[i]? = some x) (hj : L[j]? = some y) (he : x.1 = y.1) : i = j := by
  obtain ⟨hil, hix⟩ := List.getElem?_eq_some_iff.1 hi
  obtain ⟨hjl, hjx⟩ := List.getElem?_eq_some_iff.1 hj
  have hp := List.pairwise_iff_getElem.1 hn
  rcases Nat.lt_trichotomy i j with h | h | h
  · exact (hp i j (by simpa using hil) (by simpa using hjl) h (by rw [List.getElem_map, List.getElem_map, hix, hjx]; exact he)).elim
  · exact h
  · exact (hp j i (by simpa using hjl) (by simpa using hil) h (by rw [List.getElem_map, List.getElem_map, hix, hjx]; exact he.symm)).elim
theorem cm_put2 {w : World} {b : Nat} {L : CoL} (h : IsCM w b L) (p : PtT) (c : CoT) (hp : PtOk p) (hc0 : CoOk c) :
    ∃ w', (Instr.mapUpdate 40 (.map (some b)) (pV p) (coinV c)).run Try.prog w = .ok () w' ∧ IsCM w' b (putC L p c) ∧ Only (fun k => k = b) w w' := by
  cases hg : getC L p with
  | none =>
    rw [putC, hg, if_neg (by simp)]
    exact cm_put h p c hp hc0 hg
  | some c' =>
    rw [putC, hg]
    simp only [Option.isSome_some, if_true]
    have hnd := h.nodup
    obtain ⟨es, clock, h1, h2, h3, h4⟩ := h
    obtain ⟨l, hl⟩ := pV_key hp
    have hc := pt_law.check w false hl
    have hst := pt_law.stays w hl
    have ht : (Try.prog).underlying 40 = some (.map 28 61) := Try.underlying40
    have hm : ∀ (j : Nat), es.toList[j]?.map (fun e => (e.key, e.val)) = L[j]?.map (fun x => (pV x.1, coinV x.2)) := fun j => by rw [← List.getElem?_map, ← List.getElem?_map, h2]
    rcases cm_find (w := w) h2 h4 p hp with ⟨hf, hn, _⟩ | ⟨j, c2, hf, hj, hjl⟩
    · rw [get_none hn] at hg; cases hg
    · have hmj := hm j
      rw [hj] at hmj
      obtain ⟨e0, he0, he2⟩ := Option.map_eq_some_iff.1 hmj
      have hk0 : e0.key = pV p := congrArg Prod.fst he2
      have hes : es[j]? = some e0 := by rw [← Array.getElem?_toList]; exact he0
      refine ⟨{ w with heap := w.heap.setIfInBounds b (.map (es.modify j fun e => { e with key := pV p, val := coinV c }) clock) }, ?_, ⟨_, clock, (heap_set h1).1, ?_, stamped_modify h3 j _ (fun _ _ => rfl) (fun e _ hj2 => ?_), ?_⟩, ⟨rfl, rfl, rfl, by simp, fun k _ hk => (heap_set h1).2 k hk⟩⟩
      · simp only [Instr.mapUpdate, Sem.run_bind, run_underlying ht, Result.andThen_ok, Go.MapKept.run_getObj_map h1, hc, hf, hes, Option.map_some, Option.getD_some, hk0, hst, Go.MapKept.run_setObj_map _ h1]
      · apply List.ext_getElem?
        intro i
        rw [List.getElem?_map, List.getElem?_map, List.getElem?_map, Array.getElem?_toList, Array.getElem?_modify]
        by_cases hij : j = i
        · subst hij
          rw [if_pos rfl, hes, hj]
          simp
        · rw [if_neg hij]
          have hmi := hm i
          rw [Array.getElem?_toList] at hmi
          rw [hmi]
          cases hx : L[i]? with
          | none => rfl
          | some x =>
            have : x.1 ≠ p := fun e => hij (nodup_at hnd hj hx e.symm)
            simp [this]
      · rw [hes] at hj2
        cases hj2
        exact hk0.symm
      · intro x hx
        obtain ⟨y, hy, rfl⟩ := List.mem_map.1 hx
        split
        · exact ⟨hp, hc0⟩
        · exact h4 y hy
/-- what was spent last is laid back, so many -/
def unsp (U : CoL) : Nat → Nat → CoL → CoL
  | 0, _, L => L
  | k + 1, n, L => unsp U k (n - 1) (putC L (U.getD (n - 1) (([], 0), zeroCo)).1 (U.getD (n - 1) (([], 0), zeroCo)).2)
/-- the transactions behind the first one, the last one first -/
def discR (U : CoL) : List TxT → Nat → CoL → CoL
  | [], _, L => L
  | t :: r, n, L => discR U r (n - t.1.length) (unsp U t.1.length n (takC (txX t) t.2.1.length L))
def discM (txs : List TxT) (U L : CoL) : CoL :=
  match txs with
  | [] => L
  | t :: r => discR U r.reverse U.length (takC (txX t) t.2.1.length L)
def insN (txs : List TxT) : Nat := (txs.map fun t => t.1.length).sum
end Go.Proofs.Ytlbpeihdedhjiaa
