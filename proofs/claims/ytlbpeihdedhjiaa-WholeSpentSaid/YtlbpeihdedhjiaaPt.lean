/- Points: compared; as keys of a map. -/
import Derived.Test.YtlbpeihdedhjiaaSt
import Derived.Test.YtlbpeihdedhjiaaEq
import Derived.DeepKeys4
import Derived.Maps.Keyed
import Derived.Carry
namespace Go.Proofs.Ytlbpeihdedhjiaa
open Go.RowKit Go.MapKept
theorem keyLits_arr_d {P : Program} (d : Nat) {t e : TypeId} {n : Nat} (ht : P.underlying t = some (.array n e)) (he : P.underlying e = some (.int .u8)) (hc : P.cellsOf e = 1) (hct : P.cellsOf t = n) (x : List UInt8) (hx : x.length = n) :
    P.keyLits (d + 2) t (bts x) = some (x.map fun b => Lit.int .u8 (b.toNat : Int)) := by
  unfold Program.keyLits
  rw [ht]
  simp only [bts_length, hx, hct, if_true]
  have one : ∀ (i : Nat) (hi : i < n), P.keyLits (d + 1) e (((bts x).drop (i * P.cellsOf e)).take (P.cellsOf e)) = some [Lit.int .u8 ((x[i]'(by omega)).toNat : Int)] := by
    intro i hi
    have h1 : ((bts x).drop (i * P.cellsOf e)).take (P.cellsOf e) = [Bt (x[i]'(by omega))] := by
      rw [hc, Nat.mul_one, List.drop_eq_getElem_cons (by simpa using by omega)]
      simp [bts]
    rw [h1]
    unfold Program.keyLits
    rw [he]
    have := UInt8.toNat_lt (x[i]'(by omega))
    simp only [Bt, Lit.wf, true_and]
    rw [if_pos]
    simp [IntKind.min, IntKind.max, IntKind.signed, IntKind.bits]
    omega
  rw [mapM_some_of_get (List.range n) (x.map fun b => [Lit.int .u8 (b.toNat : Int)]) (by simp [hx])]
  · simp only [Option.map_some, Option.some.injEq]
    clear one hx
    induction x with
    | nil => rfl
    | cons a x ih => simp [ih]
  · intro i j hj
    rw [List.getElem?_eq_some_iff] at hj
    obtain ⟨hi, hj⟩ := hj
    simp at hi hj
    subst hj
    rw [one i hi, List.getElem?_map, List.getElem?_eq_getElem (by omega)]
    rfl
/-- a point's cells -/
def ptC (id : List UInt8) (ix : Nat) : List Value := bts id ++ [.int .u32 ((ix : Nat) : Int)]
theorem ptC_len (id : List UInt8) (ix : Nat) (h : id.length = 32) : (ptC id ix).length = 33 := by simp [ptC, h]
def ptV (id : List UInt8) (ix : Nat) : Value := .agg (ptC id ix).toArray
theorem bts_inj {a b : List UInt8} (h : bts a = bts b) : a = b := by
  induction a generalizing b with
  | nil => cases b with | nil => rfl | cons _ _ => simp [bts] at h
  | cons u a ih =>
    cases b with
    | nil => simp [bts] at h
    | cons v b =>
      simp only [bts, List.map_cons, List.cons.injEq, Bt, Value.int.injEq, true_and] at h
      rw [ih h.2, UInt8.toNat_inj.1 (by omega : u.toNat = v.toNat)]
theorem ptV_inj {id id' : List UInt8} {ix ix' : Nat} (h1 : id.length = 32) (h2 : id'.length = 32) (h : ptV id ix = ptV id' ix') : id = id' ∧ ix = ix' := by
  simp only [ptV, ptC, Value.agg.injEq] at h
  have h' : bts id ++ [Value.int .u32 ((ix : Nat) : Int)] = bts id' ++ [Value.int .u32 ((ix' : Nat) : Int)] := congrArg Array.toList h
  have := List.append_inj h' (by simp [h1, h2])
  refine ⟨bts_inj this.1, ?_⟩
  have := this.2
  simp at this
  omega
theorem keyLits_pt (d : Nat) (id : List UInt8) (ix : Nat) (hid : id.length = 32) (hix : ix < 4294967296) :
    (Try.prog).keyLits (d + 3) 28 (ptC id ix) = some ((id.map fun b => Lit.int .u8 (b.toNat : Int)) ++ [Lit.int .u32 ((ix : Nat) : Int)]) := by
  unfold Program.keyLits
  rw [Try.underlying28]
  have hl : (ptC id ix).length = (Try.prog).cellsOf 28 := by rw [ptC_len id ix hid]; kernel_rfl
  have e1 : ((ptC id ix).drop 0).take ((Try.prog).cellsOf 25) = bts id := by
    rw [show (Try.prog).cellsOf 25 = 32 from by kernel_rfl, List.drop_zero, ptC, List.take_append_of_le_length (by simp [hid]), List.take_of_length_le (by simp [hid])]
  have e2 : ((ptC id ix).drop 32).take ((Try.prog).cellsOf 26) = [.int .u32 ((ix : Nat) : Int)] := by
    rw [show (Try.prog).cellsOf 26 = 1 from by kernel_rfl, ptC, List.drop_append_of_le_length (by simp [hid]), List.drop_of_length_le (by simp [hid])]; rfl
  have k1 := keyLits_arr_d (P := Try.prog) d (t := 25) Try.underlying25 Try.underlying5 (by kernel_rfl) (by kernel_rfl) id hid
  have k2 : (Try.prog).keyLits (d + 2) 26 [.int .u32 ((ix : Nat) : Int)] = some [Lit.int .u32 ((ix : Nat) : Int)] := by
    unfold Program.keyLits
    rw [Try.underlying26]
    simp only [Lit.wf, true_and]
    rw [if_pos]
    simp [IntKind.min, IntKind.max, IntKind.signed, IntKind.bits]
    omega
  simp only [hl, true_and]
  rw [if_pos (by kernel_rfl)]
  simp only [List.mapM_cons, List.mapM_nil, e1, e2, k1, k2]
  simp
theorem pt_keyT : (Try.prog).keyTypeAt 3 28 = true := by kernel_rfl
theorem pt_formed (id : List UInt8) (ix : Nat) (h : id.length = 32) : (ptV id ix).formed Try.prog 28 = true := by
  simp [Value.formed, Try.underlying28, ptV, ptC_len id ix h, show (Try.prog).cellsOf 28 = 33 from by kernel_rfl]
set_option maxRecDepth 20000 in
theorem run_eq_pt (id id' : List UInt8) (ix ix' : Nat) (h : id.length = 32) (h' : id'.length = 32) (hx : ix < 4294967296) (hx' : ix' < 4294967296) (w : World) (d : Nat) :
    (Op.equalIn (d + 3) 28 (ptV id ix) (ptV id' ix')).run Try.prog w = .ok (decide (id = id' ∧ ix = ix')) w := by
  obtain ⟨r, h1, h2⟩ := run_equalIn_deep d 3 28 pt_keyT w 3 3 (ptV id ix) (ptV id' ix') _ _ (pt_formed id ix h) (pt_formed id' ix' h')
    (show (Try.prog).keyLits 3 28 (ptV id ix).cells.toList = some _ from keyLits_pt 0 id ix h hx) (show (Try.prog).keyLits 3 28 (ptV id' ix').cells.toList = some _ from keyLits_pt 0 id' ix' h' hx')
  rw [h1]
  congr 1
  rw [Bool.eq_iff_iff, h2, decide_eq_true_iff]
  constructor
  · intro e
    have e := List.append_inj e (by simp [h, h'])
    have hinj : ∀ (a b : List UInt8), (a.map fun b => Lit.int .u8 (b.toNat : Int)) = (b.map fun b => Lit.int .u8 (b.toNat : Int)) → a = b := by
      intro a
      induction a with
      | nil => intro b h; cases b with | nil => rfl | cons _ _ => simp at h
      | cons u a ih =>
        intro b h
        cases b with
        | nil => simp at h
        | cons v b =>
          simp only [List.map_cons, List.cons.injEq, Lit.int.injEq, true_and] at h
          rw [ih b h.2, UInt8.toNat_inj.1 (by omega : u.toNat = v.toNat)]
    refine ⟨hinj _ _ e.1, ?_⟩
    have := e.2
    simp at this
    omega
  · rintro ⟨rfl, rfl⟩; rfl
theorem pt_keyOf (id : List UInt8) (ix : Nat) (h : id.length = 32) (hx : ix < 4294967296) : ∃ l, keyOf Try.prog 28 (ptV id ix) = some l := by
  unfold keyOf
  rw [Try.underlying28]
  have hk : (Try.prog).keyType 28 = true := by kernel_rfl
  obtain ⟨d, hd⟩ : ∃ d, (Try.prog).types.size + 1 = d + 3 := ⟨(Try.prog).types.size - 2, by have : 3 ≤ (Try.prog).types.size := of_decide_eq_true (by kernel_rfl); omega⟩
  have hl := keyLits_pt d id ix h hx
  simp only [hk, pt_formed id ix h, Bool.and_true, if_true, hd]
  exact ⟨_, by rw [show (ptV id ix).cells.toList = ptC id ix from rfl, hl]; rfl⟩
theorem pt_law : WideMaps.KeyLaw Try.prog 28 :=
  deep_law_laid (by kernel_rfl) (m := 3) (by omega) (of_decide_eq_true (by kernel_rfl)) (by kernel_rfl) (by rw [Try.underlying28])
/-- block b is a set of these points -/
def IsPM (w : World) (b : Nat) (ks : List Value) : Prop :=
  ∃ es clock, w.heap[b]? = some (.map es clock) ∧ es.toList.map (·.key) = ks ∧ (∀ e ∈ es.toList, e.val = .bool true) ∧ ∀ k ∈ ks, ∃ l, keyOf Try.prog 28 k = some l
theorem IsPM.only {w w' : World} {b : Nat} {ks : List Value} {S : Nat → Prop} (h : IsPM w b ks) (ho : Only S w w') (hn : ¬ S b) : IsPM w' b ks := by
  obtain ⟨es, clock, h1, h2⟩ := h
  exact ⟨es, clock, ho.blk h1 hn, h2⟩
theorem IsPM.lt {w : World} {b : Nat} {ks : List Value} (h : IsPM w b ks) : b < w.heap.size := by
  obtain ⟨es, clock, h1, h2⟩ := h
  exact blk_lt h1
theorem IsPM.made (w : World) : IsPM (w.alloc (.map #[] 0)) w.heap.size [] := ⟨#[], 0, heap_alloc_new _ _, rfl, by simp, by simp⟩
theorem pm_look {w : World} {b : Nat} {ks : List Value} (h : IsPM w b ks) {t e : TypeId} (ht : (Try.prog).underlying t = some (.map 28 e)) (hz : (zeroValue e).run Try.prog w = .ok (.bool false) w) {x : Value} {l : Lit} (hx : keyOf Try.prog 28 x = some l) :
    ∃ r, (Instr.lookup t (.map (some b)) x false).run Try.prog w = .ok (.bool r) w ∧ (r = true ↔ x ∈ ks) := by
  obtain ⟨es, clock, h1, h2, h3, h4⟩ := h
  have hall : ∀ e ∈ es.toList, ∃ l, keyOf Try.prog 28 e.key = some l := fun e he => h4 _ (by rw [← h2]; exact List.mem_map.2 ⟨e, he, rfl⟩)
  have hc := pt_law.check w es.isEmpty hx
  rcases pt_law.find w hx es.toList hall with ⟨hf, hn⟩ | ⟨j, en, hf, hj, he⟩
  · refine ⟨false, ?_, ?_⟩
    · simp only [Instr.lookup, Sem.run_bind, run_underlying ht, Result.andThen_ok, Go.MapKept.run_getObj_map h1, Sem.run_pure, hc, hf, hz]
      rfl
    · simp only [Bool.false_eq_true, false_iff, ← h2, List.mem_map, not_exists, not_and]
      exact fun e he hk => hn e he hk
  · refine ⟨true, ?_, ?_⟩
    · simp only [Instr.lookup, Sem.run_bind, run_underlying ht, Result.andThen_ok, Go.MapKept.run_getObj_map h1, Sem.run_pure, hc, hf, h3 en (List.mem_of_getElem? hj)]
      rfl
    · simp only [true_iff, ← h2, List.mem_map]
      exact ⟨en, List.mem_of_getElem? hj, he⟩
theorem pm_put {w : World} {b : Nat} {ks : List Value} (h : IsPM w b ks) {t e : TypeId} (ht : (Try.prog).underlying t = some (.map 28 e)) {x : Value} {l : Lit} (hx : keyOf Try.prog 28 x = some l) (hn : ¬ x ∈ ks) :
    ∃ w', (Instr.mapUpdate t (.map (some b)) x (.bool true)).run Try.prog w = .ok () w' ∧ IsPM w' b (ks ++ [x]) ∧ Only (fun k => k = b) w w' := by
  obtain ⟨es, clock, h1, h2, h3, h4⟩ := h
  have hall : ∀ e ∈ es.toList, ∃ l, keyOf Try.prog 28 e.key = some l := fun e he => h4 _ (by rw [← h2]; exact List.mem_map.2 ⟨e, he, rfl⟩)
  have hc := pt_law.check w false hx
  rcases pt_law.find w hx es.toList hall with ⟨hf, _⟩ | ⟨j, en, hf, hj, he⟩
  · refine ⟨{ w with heap := w.heap.setIfInBounds b (.map (es.push ⟨x, .bool true, clock⟩) (clock + 1)) }, by simp only [Instr.mapUpdate, Sem.run_bind, run_underlying ht, Result.andThen_ok, Go.MapKept.run_getObj_map h1, hc, hf, Go.MapKept.run_setObj_map _ h1], ⟨es.push ⟨x, .bool true, clock⟩, clock + 1, (Go.MapKept.heap_set h1).1, ?_, ?_, ?_⟩, ⟨rfl, rfl, rfl, by simp, fun k _ hk => (Go.MapKept.heap_set h1).2 k hk⟩⟩
    · simp [h2]
    · intro e he
      simp only [Array.toList_push, List.mem_append, List.mem_singleton] at he
      rcases he with he | rfl
      · exact h3 e he
      · rfl
    · intro k hk
      rw [List.mem_append, List.mem_singleton] at hk
      rcases hk with hk | rfl
      · exact h4 k hk
      · exact ⟨l, hx⟩
  · exact absurd (by rw [← h2, List.mem_map]; exact ⟨en, List.mem_of_getElem? hj, he⟩) hn
end Go.Proofs.Ytlbpeihdedhjiaa
