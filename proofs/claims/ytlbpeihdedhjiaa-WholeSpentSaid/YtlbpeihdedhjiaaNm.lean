/- A set of names (a map from names to bools): block b holds these names. -/
import Derived.Test.YtlbpeihdedhjiaaPt
import Derived.WideKeyEntry
namespace Go.Proofs.Ytlbpeihdedhjiaa
open Go.RowKit Go.MapKept
open Go.ChangeMaps (setBlock)
def nmV (x : List UInt8) : Value := .agg (bts x).toArray
theorem nm_law : WideMaps.KeyLaw Try.prog 25 :=
  deep_law_laid (by kernel_rfl) (m := 2) (by omega) (of_decide_eq_true (by kernel_rfl)) (by kernel_rfl) (by rw [Try.underlying25])
theorem nm_formed (id : List UInt8) (h : id.length = 32) : (nmV id).formed Try.prog 25 = true := by
  simp [Value.formed, Try.underlying25, nmV, h, show (Try.prog).cellsOf 25 = 32 from by kernel_rfl]
theorem nm_keyOf (id : List UInt8) (h : id.length = 32) : ∃ l, keyOf Try.prog 25 (nmV id) = some l := by
  unfold keyOf
  rw [Try.underlying25]
  have hk : (Try.prog).keyType 25 = true := by kernel_rfl
  obtain ⟨d, hd⟩ : ∃ d, (Try.prog).types.size + 1 = d + 2 := ⟨(Try.prog).types.size - 1, by have : 3 ≤ (Try.prog).types.size := of_decide_eq_true (by kernel_rfl); omega⟩
  have hl := keyLits_arr_d (P := Try.prog) d (t := 25) Try.underlying25 Try.underlying5 (by kernel_rfl) (by kernel_rfl) id h
  simp only [hk, nm_formed id h, Bool.and_true, if_true, hd]
  exact ⟨_, by rw [show (nmV id).cells.toList = bts id from rfl, hl]; rfl⟩
theorem nm_inj {x y : List UInt8} (h : nmV x = nmV y) : x = y := by
  unfold nmV at h
  injection h with h
  exact bts_inj (congrArg Array.toList h)
def IsNM (w : World) (b : Nat) (N : List (List UInt8)) : Prop :=
  ∃ es clock, w.heap[b]? = some (.map es clock) ∧ es.toList.map (·.key) = N.map nmV ∧ (∀ e ∈ es.toList, e.val = .bool true) ∧ Stamped es clock ∧ ∀ x ∈ N, x.length = 32
theorem IsNM.only {w w' : World} {b : Nat} {N : List (List UInt8)} {S : Nat → Prop} (h : IsNM w b N) (ho : Only S w w') (hn : ¬ S b) : IsNM w' b N := by
  obtain ⟨es, clock, h1, h2⟩ := h
  exact ⟨es, clock, ho.blk h1 hn, h2⟩
theorem IsNM.lt {w : World} {b : Nat} {N : List (List UInt8)} (h : IsNM w b N) : b < w.heap.size := by
  obtain ⟨es, clock, h1, h2⟩ := h
  exact blk_lt h1
theorem IsNM.new {w w' : World} {b : Nat} {N : List (List UInt8)} (h : IsNM w b N) (a : Below w.heap.size w w') : IsNM w' b N := h.only (Only.of_below a) (by have := h.lt; omega)
theorem IsNM.made (w : World) : IsNM (w.alloc (.map #[] 0)) w.heap.size [] := ⟨#[], 0, heap_alloc_new _ _, rfl, by simp, stamped_empty 0, by simp⟩
theorem nm_keys {N : List (List UInt8)} {es : Array MapEntry} (h2 : es.toList.map (·.key) = N.map nmV) (h5 : ∀ x ∈ N, x.length = 32) : ∀ e ∈ es.toList, ∃ x ∈ N, e.key = nmV x ∧ ∃ l, keyOf Try.prog 25 e.key = some l := fun e he => by
  have : e.key ∈ N.map nmV := by rw [← h2]; exact List.mem_map.2 ⟨e, he, rfl⟩
  obtain ⟨x, hx, e1⟩ := List.mem_map.1 this
  exact ⟨x, hx, e1.symm, by rw [← e1]; exact nm_keyOf x (h5 x hx)⟩
theorem nm_look {w : World} {b : Nat} {N : List (List UInt8)} (h : IsNM w b N) {t e : TypeId} (ht : (Try.prog).underlying t = some (.map 25 e)) (hz : (zeroValue e).run Try.prog w = .ok (.bool false) w) {x : List UInt8} (hx : x.length = 32) :
    (Instr.lookup t (.map (some b)) (nmV x) false).run Try.prog w = .ok (.bool (decide (x ∈ N))) w := by
  obtain ⟨es, clock, h1, h2, h3, h4, h5⟩ := h
  obtain ⟨l, hl⟩ := nm_keyOf x hx
  have hk := nm_keys h2 h5
  have hc := nm_law.check w es.isEmpty hl
  rcases nm_law.find w hl es.toList (fun e he => (hk e he).elim fun _ h => h.2.2) with ⟨hf, hn⟩ | ⟨j, en, hf, hj, he⟩
  · have hnm : ¬ x ∈ N := fun hxn => by
      have : nmV x ∈ es.toList.map (·.key) := by rw [h2]; exact List.mem_map.2 ⟨x, hxn, rfl⟩
      obtain ⟨en, hen, e1⟩ := List.mem_map.1 this
      exact hn en hen e1
    simp only [Instr.lookup, Sem.run_bind, run_underlying ht, Result.andThen_ok, Go.MapKept.run_getObj_map h1, Sem.run_pure, hc, hf, hz, hnm, decide_false]
    rfl
  · have hnm : x ∈ N := by
      obtain ⟨y, hy, e1, _⟩ := hk en (List.mem_of_getElem? hj)
      rw [he] at e1
      rw [nm_inj e1]; exact hy
    simp only [Instr.lookup, Sem.run_bind, run_underlying ht, Result.andThen_ok, Go.MapKept.run_getObj_map h1, Sem.run_pure, hc, hf, h3 en (List.mem_of_getElem? hj), hnm, decide_true]
    rfl
theorem nm_push {es : Array MapEntry} {clock : Nat} {x : List UInt8} (h4 : Stamped es clock) (hn : ∀ e ∈ es.toList, e.key ≠ nmV x) (v : Value) : Stamped (es.push ⟨nmV x, v, clock⟩) (clock + 1) := by
  obtain ⟨s1, s2, s3⟩ := (stamped_iff _ _).1 h4
  refine (stamped_iff _ _).2 ⟨?_, ?_, ?_⟩
  · intro e he
    simp only [Array.toList_push, List.mem_append, List.mem_singleton] at he
    rcases he with he | rfl
    · have := s1 e he; omega
    · simp
  · simp only [Array.toList_push, List.map_append, List.map_cons, List.map_nil]
    refine List.nodup_append.2 ⟨s2, by simp, fun a ha c hc e1 => ?_⟩
    simp only [List.mem_singleton] at hc
    obtain ⟨y, hy, rfl⟩ := List.mem_map.1 ha
    have := s1 y hy
    omega
  · rw [Array.toList_push, List.pairwise_append]
    refine ⟨s3, by simp, fun a ha c hc => ?_⟩
    rw [List.mem_singleton] at hc
    subst hc
    exact hn a ha
theorem nm_absent {es : Array MapEntry} {N : List (List UInt8)} {x : List UInt8} (h2 : es.toList.map (·.key) = N.map nmV) (hx : ¬ x ∈ N) : ∀ e ∈ es.toList, e.key ≠ nmV x := fun e he h => by
  have : e.key ∈ N.map nmV := by rw [← h2]; exact List.mem_map.2 ⟨e, he, rfl⟩
  obtain ⟨y, hy, e1⟩ := List.mem_map.1 this
  rw [h] at e1
  exact hx (by rw [← nm_inj e1]; exact hy)
theorem nm_put {w : World} {b : Nat} {N : List (List UInt8)} (h : IsNM w b N) {t e : TypeId} (ht : (Try.prog).underlying t = some (.map 25 e)) {x : List UInt8} (hx : x.length = 32) (hn : ¬ x ∈ N) :
    ∃ w', (Instr.mapUpdate t (.map (some b)) (nmV x) (.bool true)).run Try.prog w = .ok () w' ∧ IsNM w' b (N ++ [x]) ∧ Only (fun k => k = b) w w' := by
  obtain ⟨es, clock, h1, h2, h3, h4, h5⟩ := h
  obtain ⟨l, hl⟩ := nm_keyOf x hx
  have hk := nm_keys h2 h5
  have hc := nm_law.check w false hl
  have hab := nm_absent h2 hn
  rcases nm_law.find w hl es.toList (fun e he => (hk e he).elim fun _ h => h.2.2) with ⟨hf, _⟩ | ⟨j, en, hf, hj, he⟩
  · refine ⟨setBlock w b (.map (es.push ⟨nmV x, .bool true, clock⟩) (clock + 1)), by simp only [Instr.mapUpdate, Sem.run_bind, run_underlying ht, Result.andThen_ok, Go.MapKept.run_getObj_map h1, hc, hf, Go.MapKept.run_setObj_map _ h1]; rfl, ⟨es.push ⟨nmV x, .bool true, clock⟩, clock + 1, (Go.MapKept.heap_set h1).1, ?_, ?_, nm_push h4 hab _, ?_⟩, ⟨rfl, rfl, rfl, by simp [setBlock], fun k _ hk => (Go.MapKept.heap_set h1).2 k hk⟩⟩
    · simp [h2]
    · intro e he
      simp only [Array.toList_push, List.mem_append, List.mem_singleton] at he
      rcases he with he | rfl
      · exact h3 e he
      · rfl
    · intro y hy
      rw [List.mem_append, List.mem_singleton] at hy
      rcases hy with hy | rfl
      · exact h5 y hy
      · exact hx
  · exact absurd he (hab en (List.mem_of_getElem? hj))
/-- a place is made ready, then filled -/
theorem nm_entry {w : World} {b : Nat} {N : List (List UInt8)} (h : IsNM w b N) {t e : TypeId} (ht : (Try.prog).underlying t = some (.map 25 e)) (hz : ∀ u : World, (zeroValue e).run Try.prog u = .ok (.bool false) u) {x : List UInt8} (hx : x.length = 32) (hn : ¬ x ∈ N) :
    ∃ (st : Nat) (w1 w2 : World), (Instr.mapEntry t (.map (some b)) (nmV x)).run Try.prog w = .ok (.tuple #[.bool false, goInt st]) w1 ∧ (Instr.entryStore t (.map (some b)) (goInt st) (.bool true)).run Try.prog w1 = .ok () w2 ∧ IsNM w2 b (N ++ [x]) ∧ Only (fun k => k = b) w w1 ∧ Only (fun k => k = b) w1 w2 := by
  obtain ⟨es, clock, h1, h2, h3, h4, h5⟩ := h
  obtain ⟨l, hl⟩ := nm_keyOf x hx
  have hk := nm_keys h2 h5
  have hc := nm_law.check w false hl
  have hab := nm_absent h2 hn
  rcases nm_law.find w hl es.toList (fun e he => (hk e he).elim fun _ h => h.2.2) with ⟨hf, _⟩ | ⟨j, en, hf, hj, he⟩
  · have hb1 := Go.MapKept.heap_set (o' := .map (es.push ⟨nmV x, .bool false, clock⟩) (clock + 1)) h1
    obtain ⟨w1, hw1⟩ : ∃ w1, setBlock w b (.map (es.push ⟨nmV x, .bool false, clock⟩) (clock + 1)) = w1 := ⟨_, rfl⟩
    have hb1' : w1.heap[b]? = some (.map (es.push ⟨nmV x, .bool false, clock⟩) (clock + 1)) := by rw [← hw1]; exact hb1.1
    have hidx : (es.push ⟨nmV x, .bool false, clock⟩).findIdx? (fun e => ((e.born : Nat) : Int) == ((clock : Nat) : Int)) = some es.size := by
      rw [WideElems.findIdx_arr]
      exact WideElems.findIdx_born (l := (es.push ⟨nmV x, .bool false, clock⟩).toList) (j := es.size) (e0 := ⟨nmV x, .bool false, clock⟩) ((stamped_iff _ _).1 (nm_push h4 hab (.bool false))).2.1 (by simp)
    have hmod : (es.push ⟨nmV x, .bool false, clock⟩).modify es.size (fun e => { e with val := .bool true }) = es.push ⟨nmV x, .bool true, clock⟩ := by
      apply Array.ext'
      rw [Array.toList_modify, Array.toList_push, Array.toList_push, ← Array.length_toList, WideElems.modify_last]
    refine ⟨clock, w1, setBlock w1 b (.map (es.push ⟨nmV x, .bool true, clock⟩) (clock + 1)), ?_, ?_, ⟨es.push ⟨nmV x, .bool true, clock⟩, clock + 1, (Go.MapKept.heap_set hb1').1, ?_, ?_, nm_push h4 hab _, ?_⟩, ?_, ⟨rfl, rfl, rfl, by simp [setBlock], fun k _ hk => (Go.MapKept.heap_set hb1').2 k hk⟩⟩
    · rw [← hw1]
      simp [Instr.mapEntry, run_underlying ht, MapKept.run_getObj_map h1, hc, hf, hz, MapKept.run_setObj_map _ h1, Result.andThen, setBlock]
    · simp [Instr.entryStore, MapKept.run_getObj_map hb1', asInt, asIntOf, goInt, hidx, hmod, MapKept.run_setObj_map _ hb1', Result.andThen, setBlock]
    · simp [h2]
    · intro e he
      simp only [Array.toList_push, List.mem_append, List.mem_singleton] at he
      rcases he with he | rfl
      · exact h3 e he
      · rfl
    · intro y hy
      rw [List.mem_append, List.mem_singleton] at hy
      rcases hy with hy | rfl
      · exact h5 y hy
      · exact hx
    · rw [← hw1]
      exact ⟨rfl, rfl, rfl, by simp [setBlock], fun k _ hk => (Go.MapKept.heap_set h1).2 k hk⟩
  · exact absurd he (hab en (List.mem_of_getElem? hj))
end Go.Proofs.Ytlbpeihdedhjiaa
