/- A map of coins by their points: block b holds this list of them, in the order in which they came. -/
import Derived.Test.YtlbpeihdedhjiaaPt
namespace Go.Proofs.Ytlbpeihdedhjiaa
open Go.RowKit Go.MapKept
/-- a point; a coin: amount, lock, height -/
abbrev PtT := List UInt8 × Nat
abbrev CoT := Int × List UInt8 × Int
def coinC (c : CoT) : List Value := .int .i64 c.1 :: (bts c.2.1 ++ [.int .i64 c.2.2])
def coinV (c : CoT) : Value := .agg (coinC c).toArray
def pV (p : PtT) : Value := ptV p.1 p.2
def PtOk (p : PtT) : Prop := p.1.length = 32 ∧ p.2 < 4294967296
def CoOk (c : CoT) : Prop := c.2.1.length = 32 ∧ -9223372036854775808 ≤ c.1 ∧ c.1 < 9223372036854775808
abbrev CoL := List (PtT × CoT)
def getC (L : CoL) (p : PtT) : Option CoT := (L.find? (fun x => decide (x.1 = p))).map (·.2)
def delC (L : CoL) (p : PtT) : CoL := L.filter (fun x => !decide (x.1 = p))
theorem coinC_len (c : CoT) (h : c.2.1.length = 32) : (coinC c).length = 34 := by simp [coinC, h]
theorem coinC_one (c : CoT) : ∀ u ∈ coinC c, u.oneCell' = true := by
  intro u hu
  simp only [coinC, List.mem_cons, List.mem_append, List.not_mem_nil, or_false] at hu
  rcases hu with rfl | hu | rfl
  · rfl
  · exact bts_one _ u hu
  · rfl
theorem pV_inj {p q : PtT} (hp : PtOk p) (hq : PtOk q) (h : pV p = pV q) : p = q := by
  have := ptV_inj hp.1 hq.1 h
  exact Prod.ext this.1 this.2
theorem pV_key {p : PtT} (hp : PtOk p) : ∃ l, keyOf Try.prog 28 (pV p) = some l := pt_keyOf p.1 p.2 hp.1 hp.2
/-- block b is a map of these coins -/
def IsCM (w : World) (b : Nat) (L : CoL) : Prop :=
  ∃ es clock, w.heap[b]? = some (.map es clock) ∧ es.toList.map (fun e => (e.key, e.val)) = L.map (fun x => (pV x.1, coinV x.2)) ∧ Stamped es clock ∧ ∀ x ∈ L, PtOk x.1 ∧ CoOk x.2
theorem IsCM.only {w w' : World} {b : Nat} {L : CoL} {S : Nat → Prop} (h : IsCM w b L) (ho : Only S w w') (hn : ¬ S b) : IsCM w' b L := by
  obtain ⟨es, clock, h1, h2⟩ := h
  exact ⟨es, clock, ho.blk h1 hn, h2⟩
theorem IsCM.lt {w : World} {b : Nat} {L : CoL} (h : IsCM w b L) : b < w.heap.size := by
  obtain ⟨es, clock, h1, h2⟩ := h
  exact blk_lt h1
theorem IsCM.below {w w' : World} {b : Nat} {L : CoL} (h : IsCM w b L) {B : Nat} (a : Below B w w') (hb : b < B) : IsCM w' b L := h.only (Only.of_below a) (by omega)
theorem IsCM.new {w w' : World} {b : Nat} {L : CoL} (h : IsCM w b L) (a : Below w.heap.size w w') : IsCM w' b L := h.below a h.lt
theorem IsCM.made (w : World) : IsCM (w.alloc (.map #[] 0)) w.heap.size [] := ⟨#[], 0, heap_alloc_new _ _, rfl, stamped_empty 0, by simp⟩
theorem IsCM.ok {w : World} {b : Nat} {L : CoL} (h : IsCM w b L) : ∀ x ∈ L, PtOk x.1 ∧ CoOk x.2 := by
  obtain ⟨es, clock, h1, h2, h3, h4⟩ := h
  exact h4
theorem IsCM.nodup {w : World} {b : Nat} {L : CoL} (h : IsCM w b L) : (L.map (·.1)).Nodup := by
  obtain ⟨es, clock, h1, h2, h3, h4⟩ := h
  have h5 := ((stamped_iff _ _).1 h3).2.2
  have h6 : (es.toList.map (·.key)).Nodup := by rw [List.Nodup, List.pairwise_map]; exact h5
  have h7 : es.toList.map (·.key) = L.map (fun x => pV x.1) := by
    have := congrArg (List.map Prod.fst) h2
    rw [List.map_map, List.map_map] at this
    exact this
  rw [h7] at h6
  rw [List.Nodup, List.pairwise_map] at h6 ⊢
  exact h6.imp (fun hne e => hne (by rw [e]))
theorem get_at {L : CoL} (hn : (L.map (·.1)).Nodup) {j : Nat} {x : PtT × CoT} (hj : L[j]? = some x) : getC L x.1 = some x.2 := by
  induction L generalizing j with
  | nil => simp at hj
  | cons y L ih =>
    rw [List.map_cons, List.nodup_cons] at hn
    unfold getC
    rw [List.find?_cons]
    by_cases he : y.1 = x.1
    · simp only [he, decide_true, Option.map_some]
      cases j with
      | zero => simp at hj; rw [hj]
      | succ j =>
        simp at hj
        exact absurd (by rw [he]; exact List.mem_map.2 ⟨x, List.mem_of_getElem? hj, rfl⟩) hn.1
    · simp only [he, decide_false]
      cases j with
      | zero => simp at hj; exact absurd (by rw [hj]) he
      | succ j =>
        simp at hj
        exact ih hn.2 hj
theorem get_none {L : CoL} {p : PtT} (h : ∀ x ∈ L, x.1 ≠ p) : getC L p = none := by
  unfold getC
  rw [List.find?_eq_none.2 (fun x hx => by simpa using h x hx)]
  rfl
theorem get_mem {L : CoL} {p : PtT} {c : CoT} (h : getC L p = some c) : (p, c) ∈ L := by
  unfold getC at h
  rw [Option.map_eq_some_iff] at h
  obtain ⟨x, hx, rfl⟩ := h
  have := List.find?_some hx
  have hp : x.1 = p := by simpa using this
  rw [← hp]
  exact List.mem_of_find?_eq_some hx
theorem get_not {L : CoL} {p : PtT} (h : getC L p = none) : ∀ x ∈ L, x.1 ≠ p := by
  unfold getC at h
  rw [Option.map_eq_none_iff, List.find?_eq_none] at h
  intro x hx
  simpa using h x hx
theorem del_at {L : CoL} (hn : (L.map (·.1)).Nodup) {j : Nat} {x : PtT × CoT} (hj : L[j]? = some x) : delC L x.1 = L.eraseIdx j := by
  induction L generalizing j with
  | nil => simp at hj
  | cons y L ih =>
    rw [List.map_cons, List.nodup_cons] at hn
    unfold delC
    rw [List.filter_cons]
    cases j with
    | zero =>
      simp at hj
      subst hj
      simp only [decide_true, Bool.not_true, Bool.false_eq_true, if_false, List.eraseIdx_cons_zero]
      rw [List.filter_eq_self]
      intro z hz
      have : z.1 ≠ y.1 := fun e => hn.1 (by rw [← e]; exact List.mem_map.2 ⟨z, hz, rfl⟩)
      simpa using this
    | succ j =>
      simp at hj
      have : y.1 ≠ x.1 := fun e => hn.1 (by rw [e]; exact List.mem_map.2 ⟨x, List.mem_of_getElem? hj, rfl⟩)
      simp only [this, decide_false, Bool.not_false, if_true, List.eraseIdx_cons_succ]
      rw [← ih hn.2 hj]
      rfl
theorem del_none {L : CoL} {p : PtT} (h : ∀ x ∈ L, x.1 ≠ p) : delC L p = L := by
  unfold delC
  rw [List.filter_eq_self]
  intro z hz
  simpa using h z hz
def zeroCo : CoT := (0, List.replicate 32 0, 0)
def orZero : Option CoT → CoT
  | some c => c
  | none => zeroCo
/-- what stands at a point -/
theorem cm_find {w : World} {L : CoL} {es : Array MapEntry} (h2 : es.toList.map (fun e => (e.key, e.val)) = L.map (fun x => (pV x.1, coinV x.2))) (h4 : ∀ x ∈ L, PtOk x.1 ∧ CoOk x.2) (p : PtT) (hp : PtOk p) :
    ((Instr.findKey 28 (pV p) es.toList).run Try.prog w = .ok none w ∧ (∀ x ∈ L, x.1 ≠ p) ∧ ∀ e ∈ es.toList, e.key ≠ pV p) ∨
    ∃ j c, (Instr.findKey 28 (pV p) es.toList).run Try.prog w = .ok (some (j, coinV c)) w ∧ L[j]? = some (p, c) ∧ j < es.toList.length := by
  obtain ⟨l, hl⟩ := pV_key hp
  have hm : ∀ (j : Nat), es.toList[j]?.map (fun e => (e.key, e.val)) = L[j]?.map (fun x => (pV x.1, coinV x.2)) := fun j => by rw [← List.getElem?_map, ← List.getElem?_map, h2]
  have hlen : es.toList.length = L.length := by have := congrArg List.length h2; simpa using this
  have hall : ∀ e ∈ es.toList, ∃ l, keyOf Try.prog 28 e.key = some l := fun e he => by
    obtain ⟨j, hj⟩ := List.getElem?_of_mem he
    have := hm j
    rw [hj] at this
    obtain ⟨x, hx, he2⟩ := Option.map_eq_some_iff.1 this.symm
    have hk : e.key = pV x.1 := (congrArg Prod.fst he2).symm
    rw [hk]
    exact pV_key (h4 x (List.mem_of_getElem? hx)).1
  rcases pt_law.find w hl es.toList hall with ⟨hf, hn⟩ | ⟨j, en, hf, hj, he⟩
  · refine .inl ⟨hf, ?_, hn⟩
    intro x hx e
    obtain ⟨j, hj⟩ := List.getElem?_of_mem hx
    have := hm j
    rw [hj] at this
    obtain ⟨e0, he0, he2⟩ := Option.map_eq_some_iff.1 this
    exact hn e0 (List.mem_of_getElem? he0) (by rw [← e]; exact congrArg Prod.fst he2)
  · have := hm j
    rw [hj] at this
    obtain ⟨x, hx, he2⟩ := Option.map_eq_some_iff.1 this.symm
    have hk : pV x.1 = en.key := congrArg Prod.fst he2
    have hv : coinV x.2 = en.val := congrArg Prod.snd he2
    have hxp : x.1 = p := pV_inj (h4 x (List.mem_of_getElem? hx)).1 hp (by rw [hk, he])
    exact .inr ⟨j, x.2, by rw [hv]; exact hf, by rw [← hxp]; exact hx, (List.getElem?_eq_some_iff.1 hj).1⟩
theorem zero_coin (w : World) : (zeroValue 61).run Try.prog w = .ok (coinV zeroCo) w := by show _ = _; kernel_rfl
theorem cm_look {w : World} {b : Nat} {L : CoL} (h : IsCM w b L) (p : PtT) (hp : PtOk p) :
    (Instr.lookup 40 (.map (some b)) (pV p) true).run Try.prog w = .ok (.tuple #[coinV (orZero (getC L p)), .bool (getC L p).isSome]) w := by
  have hnd := h.nodup
  obtain ⟨es, clock, h1, h2, h3, h4⟩ := h
  obtain ⟨l, hl⟩ := pV_key hp
  have hc := pt_law.check w es.isEmpty hl
  have ht : (Try.prog).underlying 40 = some (.map 28 61) := Try.underlying40
  rcases cm_find (w := w) h2 h4 p hp with ⟨hf, hn, _⟩ | ⟨j, c, hf, hj, _⟩
  · rw [get_none hn]
    simp only [Instr.lookup, Sem.run_bind, run_underlying ht, Result.andThen_ok, Go.MapKept.run_getObj_map h1, Sem.run_pure, hc, hf, zero_coin]
    rfl
  · rw [get_at hnd hj]
    simp only [Instr.lookup, Sem.run_bind, run_underlying ht, Result.andThen_ok, Go.MapKept.run_getObj_map h1, Sem.run_pure, hc, hf]
    rfl
set_option linter.unusedSimpArgs false in
theorem cm_look_nil (w : World) (p : PtT) (hp : PtOk p) :
    (Instr.lookup 40 (.map none) (pV p) true).run Try.prog w = .ok (.tuple #[coinV zeroCo, .bool false]) w := by
  obtain ⟨l, hl⟩ := pV_key hp
  have hc := pt_law.check w true hl
  have ht : (Try.prog).underlying 40 = some (.map 28 61) := Try.underlying40
  have hf : (Instr.findKey 28 (pV p) []).run Try.prog w = .ok none w := by
    rcases pt_law.find w hl [] (by simp) with ⟨hf, _⟩ | ⟨j, e, _, hj, _⟩
    · exact hf
    · simp at hj
  simp only [Instr.lookup, Sem.run_bind, run_underlying ht, Result.andThen_ok, Sem.run_pure, zero_coin]
  simp only [show (#[] : Array MapEntry).isEmpty = true from rfl, show (#[] : Array MapEntry).toList = [] from rfl, hc, hf, Result.andThen_ok, Sem.run_bind, zero_coin, Sem.run_pure, if_true]
theorem cm_put {w : World} {b : Nat} {L : CoL} (h : IsCM w b L) (p : PtT) (c : CoT) (hp : PtOk p) (hc0 : CoOk c) (hn : getC L p = none) :
    ∃ w', (Instr.mapUpdate 40 (.map (some b)) (pV p) (coinV c)).run Try.prog w = .ok () w' ∧ IsCM w' b (L ++ [(p, c)]) ∧ Only (fun k => k = b) w w' := by
  obtain ⟨es, clock, h1, h2, h3, h4⟩ := h
  obtain ⟨l, hl⟩ := pV_key hp
  have hc := pt_law.check w false hl
  have ht : (Try.prog).underlying 40 = some (.map 28 61) := Try.underlying40
  rcases cm_find (w := w) h2 h4 p hp with ⟨hf, _, hk⟩ | ⟨j, c', hf, hj, _⟩
  · refine ⟨{ w with heap := w.heap.setIfInBounds b (.map (es.push ⟨pV p, coinV c, clock⟩) (clock + 1)) }, by simp only [Instr.mapUpdate, Sem.run_bind, run_underlying ht, Result.andThen_ok, Go.MapKept.run_getObj_map h1, hc, hf, Go.MapKept.run_setObj_map _ h1], ⟨es.push ⟨pV p, coinV c, clock⟩, clock + 1, (heap_set h1).1, ?_, stamped_push h3 hk, ?_⟩, ⟨rfl, rfl, rfl, by simp, fun k _ hk => (heap_set h1).2 k hk⟩⟩
    · simp [h2]
    · intro x hx
      rw [List.mem_append, List.mem_singleton] at hx
      rcases hx with hx | rfl
      · exact h4 x hx
      · exact ⟨hp, hc0⟩
  · exact absurd rfl (get_not hn _ (List.mem_of_getElem? hj))
theorem cm_del {w : World} {b : Nat} {L : CoL} (h : IsCM w b L) (p : PtT) (hp : PtOk p) :
    ∃ w', (∀ ty, (Builtin.delete_ #[40, 28] ty #[.map (some b), pV p]).run Try.prog w = .ok (.tuple #[]) w') ∧ IsCM w' b (delC L p) ∧ Only (fun k => k = b) w w' := by
  have hnd := h.nodup
  obtain ⟨es, clock, h1, h2, h3, h4⟩ := h
  obtain ⟨l, hl⟩ := pV_key hp
  have hc := pt_law.check w es.isEmpty hl
  have ht : (Try.prog).underlying 40 = some (.map 28 61) := Try.underlying40
  rcases cm_find (w := w) h2 h4 p hp with ⟨hf, hn, _⟩ | ⟨j, c, hf, hj, hjl⟩
  · rw [del_none hn]
    refine ⟨{ w with heap := w.heap.setIfInBounds b (.map es clock) }, fun ty => by simp [Builtin.delete_, run_underlying ht, Go.MapKept.run_getObj_map h1, hc, hf, Go.MapKept.run_setObj_map _ h1, Result.andThen], ⟨es, clock, (heap_set h1).1, h2, h3, h4⟩, ⟨rfl, rfl, rfl, by simp, fun k _ hk => (heap_set h1).2 k hk⟩⟩
  · rw [show p = (p, c).1 from rfl, del_at hnd hj]
    have hjs : j < es.size := by simpa using hjl
    have hsub : (es.eraseIdxIfInBounds j).toList = es.toList.eraseIdx j := by
      unfold Array.eraseIdxIfInBounds
      rw [dif_pos hjs]
      simp
    refine ⟨{ w with heap := w.heap.setIfInBounds b (.map (es.eraseIdxIfInBounds j) clock) }, fun ty => by simp [Builtin.delete_, run_underlying ht, Go.MapKept.run_getObj_map h1, hc, hf, Go.MapKept.run_setObj_map _ h1, Result.andThen], ⟨_, clock, (heap_set h1).1, ?_, stamped_erase h3 j, fun x hx => h4 x ((List.eraseIdx_sublist _ _).subset hx)⟩, ⟨rfl, rfl, rfl, by simp, fun k _ hk => (heap_set h1).2 k hk⟩⟩
    rw [hsub, Go.ChangeMaps.map_eraseIdx, h2, ← Go.ChangeMaps.map_eraseIdx]
theorem cm_len {w : World} {b : Nat} {L : CoL} (h : IsCM w b L) (ty : TypeId) :
    (Builtin.len_ #[40] ty #[.map (some b)]).run Try.prog w = .ok (.int .i64 (L.length : Int)) w := by
  obtain ⟨es, clock, h1, h2, h3, h4⟩ := h
  have hlen : es.size = L.length := by have := congrArg List.length h2; simpa using this
  have ht : (Try.prog).underlying 40 = some (.map 28 61) := Try.underlying40
  simp [Builtin.len_, run_underlying ht, Go.MapKept.run_getObj_map h1, Result.andThen, hlen]
  rfl
end Go.Proofs.Ytlbpeihdedhjiaa
