/- The set of coins, and what was spent, in memory. -/
import Derived.Test.YtlbpeihdedhjiaaCm
import Derived.Test.YtlbpeihdedhjiaaCs
import Derived.Test.YtlbpeihdedhjiaaCt
import Derived.Test.YtlbpeihdedhjiaaRt
import Derived.Test.YtlbpeihdedhjiaaHd
namespace Go.Proofs.Ytlbpeihdedhjiaa
open Go.RowKit
theorem exec_bslc {P : Program} {o : Oper} {a : Act} {w w' : World} {t : TypeId} {n : Nat} {parts : Array (Nat × Operand)} {l : Array (Nat × Value)} {v : Value} (ho : o.op = .buildSlice t n parts) (hr : (Instr.buildSlice t n l).run P w = .ok v w') (hl : (parts.map fun p => (p.1, a.eval p.2)) = l) :
    (execOp a.eval o).run P w = .ok (.value v) w' := by
  have hr' : (Instr.buildSlice t n (parts.map fun p => (p.1, a.eval p.2))).run P w = .ok v w' := by rw [hl]; exact hr
  unfold execOp
  simp only [ho, Sem.run_bind, hr', Result.andThen_ok]
  rfl
theorem exec_buildc {P : Program} {o : Oper} {a : Act} {w : World} {t : TypeId} {parts : Array (Nat × Operand)} {l : List (Nat × Value)} {cells : Array Value} (ho : o.op = .build t parts)
    (hl : (parts.map fun p => (p.1, a.eval p.2)).toList = l) (hb : P.built t l = some cells) : (execOp a.eval o).run P w = .ok (.value (.agg cells)) w := by
  unfold execOp
  simp only [ho, Sem.run_bind, run_build w t _ cells (by rw [← hb, ← hl]), Result.andThen_ok]
  rfl
theorem step_newc {P : Program} {ops : Array Oper} {o : Oper} {ac : Act} {w : World} {Q : Exit → Act → World → Prop} {K : Act → World → Prop} {E : Prop} (hw : Region.wanted o (yielded ops ac.tmps) = true) (ob : Obj) (v : Nat → Value) (hr : (execOp ac.eval o).run P w = .ok (.value (v w.heap.size)) (w.alloc ob))
    (h : ∀ N w', N = w.heap.size → w' = w.alloc ob → Below w.heap.size w w' → K (ac.put o.dst (v N)) w') : if Region.wanted o (yielded ops ac.tmps) = true then Oper.wp P o ac w K Q else E := by
  rw [if_pos hw]
  unfold Oper.wp
  rw [hr]
  exact h _ _ rfl rfl ((Below.refl _ _).alloc (Nat.le_refl _) _)
section
variable {P : Program} {ops : Array Oper} {o : Oper} {ac : Act} {w : World} {Q : Exit → Act → World → Prop} {K : Act → World → Prop}
theorem step_stbc {E : Prop} (hgd : o.guard = none) (ty : TypeId) (x y : Operand) (ho : o.op = .store ty x y) (g oo : Nat) (cells : Array Value) (hx : ac.eval x = .pointer (some ⟨g, oo, none⟩)) (hy : ac.eval y = .agg cells)
    (t : TypeId) (L : List Value) (hb : Blk w g t L.toArray) (hl : oo + cells.size ≤ L.length) (hi : (P.info? ty).map (·.size) = some cells.size) (h1 : ∀ v ∈ cells.toList, v.oneCell' = true)
    (h : ∀ w', Blk w' g t (over L oo cells.toList).toArray → Only (fun b => b = g) w w' → K (ac.put o.dst undef) w') : if Region.wanted o (yielded ops ac.tmps) = true then Oper.wp P o ac w K Q else E := by
  have hw : Region.wanted o (yielded ops ac.tmps) = true := by simp [Region.wanted, hgd]
  rw [if_pos hw]
  refine wp_store_mid ty x y ho g oo cells hx hy (hb.there hl) hi (Array.all_eq_true_iff_forall_mem.2 (fun v hv => h1 v (by simpa using hv))) ?_
  obtain ⟨h2, h3⟩ := hb.setCells (cs := cells.toList) (o := oo) (by simpa using hl)
  exact h _ h2 h3
theorem step_appc {E : Prop} (hgd : o.guard = none) (s x : Operand) (t : TypeId)
    (ho : o.op = .call { callee := .builtin .append, args := #[s, x], argTypes := #[t, t] })
    (base : Nat) (e : TypeId) (z : Value) (size bytes : Nat) (ht : P.underlying t = some (.slice e))
    (hinfo : (P.info? e).map (fun i => (i.zero, i.size, i.bytes)) = some (some z, size, bytes)) (hzs : z.cells.size = size) (hsz : 0 < size)
    (A0 : Option Addr) (n c0 : Nat) (hs : ac.eval s = .slice A0 n c0) (A : Option Addr) (m c : Nat) (hx : ac.eval x = .slice A m c)
    (xs : List Value) (hown : w.ownsRow base e size (.slice A0 n c0) n xs)
    (ok : Nat → Prop) (news : List Value) (hr : Sl w ok size A m news) (h1 : ∀ u ∈ news, u.oneCell' = true)
    (h63 : n + m ≤ maxLen) (hbytes : (n + m) * bytes ≤ 140737488355328) (hbase : base ≤ w.heap.size)
    (h : ∀ A' c' w', w'.ownsRow base e size (.slice A' (n + m) c') (n + m) (xs ++ news) → Only (fun b => (Value.slice A0 n c0).ownBlock = some b) w w' →
      ((Value.slice A' (n + m) c').ownBlock = (Value.slice A0 n c0).ownBlock ∨ (Value.slice A' (n + m) c').ownBlock = some w.heap.size) → K (ac.put o.dst (.slice A' (n + m) c')) w') : if Region.wanted o (yielded ops ac.tmps) = true then Oper.wp P o ac w K Q else E := by
  have hw : Region.wanted o (yielded ops ac.tmps) = true := by simp [Region.wanted, hgd]
  rw [if_pos hw]
  exact wp_app w s x t ho base e z size bytes ht hinfo hzs hsz A0 n c0 hs A m c hx xs hown ok news hr h1 h63 hbytes hbase h
end
theorem run_one_pt (id : List UInt8) (ix : Nat) (h : id.length = 32) (w : World) : (Instr.buildSlice 43 1 #[(0, .agg (ptC id ix).toArray)]).run Try.prog w = .ok (.slice (some ⟨w.heap.size, 0, none⟩) 1 1) (w.alloc (.cells (ptC id ix).toArray 28)) := by
  match id, h with
  | [_, _, _, _, _, _, _, _, _, _, _, _, _, _, _, _, _, _, _, _, _, _, _, _, _, _, _, _, _, _, _, _], _ => (show _ = _; kernel_rfl)
theorem run_one_co (a h : Int) (k : List UInt8) (hk : k.length = 32) (w : World) : (Instr.buildSlice 44 1 #[(0, .agg (coinC (a, k, h)).toArray)]).run Try.prog w = .ok (.slice (some ⟨w.heap.size, 0, none⟩) 1 1) (w.alloc (.cells (coinC (a, k, h)).toArray 61)) := by
  match k, hk with
  | [_, _, _, _, _, _, _, _, _, _, _, _, _, _, _, _, _, _, _, _, _, _, _, _, _, _, _, _, _, _, _, _], _ => (show _ = _; kernel_rfl)
theorem run_one_bs (A : Option Addr) (n c : Nat) (w : World) : (Instr.buildSlice 22 1 #[(0, .slice A n c)]).run Try.prog w = .ok (.slice (some ⟨w.heap.size, 0, none⟩) 1 1) (w.alloc (.cells #[.slice A n c] 30)) := by show _ = _; kernel_rfl
theorem infoPtz : (Try.prog.info? 28).map (fun i => (i.zero, i.size, i.bytes)) = some (some (.agg (ptC (List.replicate 32 0) 0).toArray), 33, 36) := by kernel_rfl
theorem infoCoz : (Try.prog.info? 61).map (fun i => (i.zero, i.size, i.bytes)) = some (some (coinV zeroCo), 34, 48) := by kernel_rfl
theorem infoCo : (Try.prog.info? 61).map (·.size) = some 34 := by kernel_rfl
theorem infoUndo : (Try.prog.info? 46).map (·.size) = some 2 := by kernel_rfl
theorem infoSet : (Try.prog.info? 42).map (·.size) = some 1 := by kernel_rfl
/-- the map's place may be none -/
def MapAt (w : World) (B : Nat) : Option Nat → CoL → Prop
  | none, L => L = []
  | some b, L => B ≤ b ∧ IsCM w b L
theorem MapAt.new {w w' : World} {B : Nat} {p : Option Nat} {L : CoL} (h : MapAt w B p L) (a : Below w.heap.size w w') : MapAt w' B p L := by
  cases p with
  | none => exact h
  | some b => exact ⟨h.1, h.2.new a⟩
theorem MapAt.only {w w' : World} {B : Nat} {p : Option Nat} {L : CoL} {S : Nat → Prop} (h : MapAt w B p L) (ho : Only S w w') (hn : ∀ b, p = some b → ¬ S b) : MapAt w' B p L := by
  cases p with
  | none => exact h
  | some b => exact ⟨h.1, h.2.only ho (hn b rfl)⟩
theorem MapAt.ok {w : World} {B : Nat} {p : Option Nat} {L : CoL} (h : MapAt w B p L) : ∀ x ∈ L, PtOk x.1 ∧ CoOk x.2 := by
  cases p with
  | none => have h : L = [] := h; rw [h]; simp
  | some b => exact h.2.ok
theorem MapAt.nodup {w : World} {B : Nat} {p : Option Nat} {L : CoL} (h : MapAt w B p L) : (L.map (·.1)).Nodup := by
  cases p with
  | none => have h : L = [] := h; rw [h]; simp
  | some b => exact h.2.nodup
theorem ma_look {w : World} {B : Nat} {p : Option Nat} {L : CoL} (h : MapAt w B p L) (id : List UInt8) (ix : Nat) (hp : PtOk (id, ix)) :
    (Instr.lookup 40 (.map p) (.agg (ptC id ix).toArray) true).run Try.prog w = .ok (.tuple #[.agg (coinC (orZero (getC L (id, ix)))).toArray, .bool (getC L (id, ix)).isSome]) w := by
  cases p with
  | none =>
    have h : L = [] := h
    have := cm_look_nil w (id, ix) hp
    unfold pV ptV coinV at this
    rw [h, get_none (by simp)]
    simp only [orZero, Option.isSome_none]
    exact this
  | some b =>
    have := cm_look h.2 (id, ix) hp
    unfold pV ptV coinV at this
    exact this
theorem cm_blk_ne {w : World} {b g : Nat} {L : CoL} {t : TypeId} {cs : Array Value} (h : IsCM w b L) (hg : Blk w g t cs) : b ≠ g := by
  rintro rfl
  obtain ⟨es, clock, h1, _⟩ := h
  unfold Blk at hg
  rw [hg] at h1
  cases h1
theorem own_cm_ne {w : World} {base : Nat} {e : TypeId} {size n b : Nat} {v : Value} {xs : List Value} {L : CoL} (h : w.ownsRow base e size v n xs) (hc : IsCM w b L) : v.ownBlock ≠ some b := by
  obtain ⟨es, clock, h1, _⟩ := hc
  rcases h.2 with ⟨rfl, _⟩ | ⟨g', cap, cur, rfl, _, hh, _⟩
  · simp [Value.ownBlock]
  · intro he
    have : g' = b := by simpa [Value.ownBlock] using he
    subst this
    rw [hh] at h1
    cases h1
theorem own_own_ne {w : World} {base base' : Nat} {e e' : TypeId} {size n size' n' k : Nat} {v v' : Value} {xs xs' : List Value} (h : w.ownsRow base e size v n xs) (h' : w.ownsRow base' e' size' v' n' xs') (hne : e ≠ e') (hk : v.ownBlock = some k) : v'.ownBlock ≠ some k := by
  rcases h.2 with ⟨rfl, _⟩ | ⟨g, cap, cur, rfl, _, hh, _⟩
  · simp [Value.ownBlock] at hk
  · have : g = k := by simpa [Value.ownBlock] using hk
    subst this
    exact own_blk_ne h' hh (fun e => hne e.symm)
def ptsC (U : CoL) : List Value := U.flatMap fun x => ptC x.1.1 x.1.2
def cosC (U : CoL) : List Value := U.flatMap fun x => coinC x.2
/-- the set, and what was spent -/
structure SpI (B gs : Nat) (p : Option Nat) (L : CoL) (gu : Nat) (U : CoL) (A1 : Option Addr) (c1 : Nat) (A2 : Option Addr) (c2 : Nat) (w : World) : Prop where
  hs : B ≤ gs
  hu : B ≤ gu
  hB : B ≤ w.heap.size
  set : Blk w gs 42 [Value.map p].toArray
  map : MapAt w B p L
  undo : Blk w gu 46 [Value.slice A1 U.length c1, Value.slice A2 U.length c2].toArray
  r1 : w.ownsRow B 28 33 (.slice A1 U.length c1) U.length (ptsC U)
  r2 : w.ownsRow B 61 34 (.slice A2 U.length c2) U.length (cosC U)
theorem SpI.new {B gs : Nat} {p : Option Nat} {L : CoL} {gu : Nat} {U : CoL} {A1 : Option Addr} {c1 : Nat} {A2 : Option Addr} {c2 : Nat} {w w' : World} (h : SpI B gs p L gu U A1 c1 A2 c2 w) (a : Below w.heap.size w w') : SpI B gs p L gu U A1 c1 A2 c2 w' :=
  ⟨h.hs, h.hu, Nat.le_trans h.hB a.size, h.set.below a h.set.lt, h.map.new a, h.undo.below a h.undo.lt, own_only h.r1 (Only.of_new a (fun _ => False)) (fun _ _ h => h), own_only h.r2 (Only.of_new a (fun _ => False)) (fun _ _ h => h)⟩
theorem SpI.drew {B gs : Nat} {p : Option Nat} {L : CoL} {gu : Nat} {U : CoL} {A1 : Option Addr} {c1 : Nat} {A2 : Option Addr} {c2 : Nat} {w : World} (h : SpI B gs p L gu U A1 c1 A2 c2 w) : SpI B gs p L gu U A1 c1 A2 c2 w.drew :=
  ⟨h.hs, h.hu, h.hB, h.set.drew, h.map, h.undo.drew, h.r1, h.r2⟩
/-- the map alone turned -/
theorem SpI.mapped {B gs b : Nat} {L L' : CoL} {gu : Nat} {U : CoL} {A1 : Option Addr} {c1 : Nat} {A2 : Option Addr} {c2 : Nat} {w w' : World} (h : SpI B gs (some b) L gu U A1 c1 A2 c2 w) (hm : IsCM w' b L') (ho : Only (fun k => k = b) w w') : SpI B gs (some b) L' gu U A1 c1 A2 c2 w' :=
  ⟨h.hs, h.hu, Nat.le_trans h.hB ho.size, h.set.only ho (fun e => cm_blk_ne h.map.2 h.set e.symm), ⟨h.map.1, hm⟩, h.undo.only ho (fun e => cm_blk_ne h.map.2 h.undo e.symm), own_only h.r1 ho (fun k hk e => own_cm_ne h.r1 h.map.2 (by rw [hk, e])), own_only h.r2 ho (fun k hk e => own_cm_ne h.r2 h.map.2 (by rw [hk, e]))⟩
theorem SpI.below {B gs : Nat} {p : Option Nat} {L : CoL} {gu : Nat} {U : CoL} {A1 : Option Addr} {c1 : Nat} {A2 : Option Addr} {c2 : Nat} {w w' : World} {B' : Nat} (h : SpI B gs p L gu U A1 c1 A2 c2 w) (a : Below B' w w') (hB' : w.heap.size ≤ B') : SpI B gs p L gu U A1 c1 A2 c2 w' := h.new (a.mono hB')
/-- another block turned -/
theorem SpI.other {B gs : Nat} {p : Option Nat} {L : CoL} {gu : Nat} {U : CoL} {A1 : Option Addr} {c1 : Nat} {A2 : Option Addr} {c2 : Nat} {w w' : World} {x : Nat} (h : SpI B gs p L gu U A1 c1 A2 c2 w) (ho : Only (fun k => k = x) w w') (h1 : gs ≠ x) (h2 : gu ≠ x) (h3 : ∀ b, p = some b → b ≠ x)
    (h4 : (Value.slice A1 U.length c1).ownBlock ≠ some x) (h5 : (Value.slice A2 U.length c2).ownBlock ≠ some x) : SpI B gs p L gu U A1 c1 A2 c2 w' :=
  ⟨h.hs, h.hu, Nat.le_trans h.hB ho.size, h.set.only ho h1, h.map.only ho h3, h.undo.only ho h2, own_only h.r1 ho (fun k hk e => h4 (by rw [hk, e])), own_only h.r2 ho (fun k hk e => h5 (by rw [hk, e]))⟩
/-- what is apart from all of it: a new block -/
structure Apart (gs : Nat) (p : Option Nat) (gu : Nat) (v1 v2 : Value) (x : Nat) : Prop where
  s : gs ≠ x
  u : gu ≠ x
  m : ∀ b, p = some b → b ≠ x
  o1 : v1.ownBlock ≠ some x
  o2 : v2.ownBlock ≠ some x
theorem SpI.apart {B gs : Nat} {p : Option Nat} {L : CoL} {gu : Nat} {U : CoL} {A1 : Option Addr} {c1 : Nat} {A2 : Option Addr} {c2 : Nat} {w : World} (h : SpI B gs p L gu U A1 c1 A2 c2 w) {x : Nat} (hx : w.heap.size ≤ x) : Apart gs p gu (.slice A1 U.length c1) (.slice A2 U.length c2) x := by
  refine ⟨by have := h.set.lt; omega, by have := h.undo.lt; omega, ?_, fun e => by have := (h.r1.lt x e).2; omega, fun e => by have := (h.r2.lt x e).2; omega⟩
  intro b hb
  subst hb
  have := h.map.2.lt
  omega
/-- what may be written: what is the set's and what was spent -/
def SA (B gs : Nat) (p : Option Nat) (gu : Nat) (v1 v2 : Value) (k : Nat) : Prop := B ≤ k ∧ ¬ Apart gs p gu v1 v2 k
theorem onew {S : Nat → Prop} {w w' w'' : World} (h : Only S w w') (a : Below w'.heap.size w' w'') : Only S w w'' := h.trans (Only.of_new a S) (fun _ _ h => h)
theorem Only.bel {B gs : Nat} {p : Option Nat} {gu : Nat} {v1 v2 : Value} {w w' : World} (h : Only (SA B gs p gu v1 v2) w w') (hB : B ≤ w.heap.size) : Below B w w' := h.below hB (fun b hb e => by have := e.1; omega)
/-! what is spent, plainly -/
def inP (i : InT) : PtT := (i.1.1, i.1.2.1.toNat)
def spendM : List InT → CoL → CoL → Int → CoL × CoL × Int × Int
  | [], L, U, n => (L, U, n, 0)
  | i :: r, L, U, n =>
    match getC L (inP i) with
    | none => (L, U, 0, 130)
    | some c => if (sha i.2.1 == c.2.1) = true then spendM r (delC L (inP i)) (U ++ [(inP i, c)]) (wrap64 (n + c.1)) else (L, U, 0, 131)
theorem spendM_none {id : List UInt8} {ix : Nat} {key : List UInt8} {r : List InT} {L U : CoL} {n : Int} (h : getC L (id, ix) = none) : spendM (((id, ((ix : Nat) : Int), ()), key, ()) :: r) L U n = (L, U, 0, 130) := by
  rw [spendM, show inP ((id, ((ix : Nat) : Int), ()), key, ()) = (id, ix) from rfl, h]
theorem spendM_lock {id : List UInt8} {ix : Nat} {key : List UInt8} {r : List InT} {L U : CoL} {n : Int} {c : CoT} (h : getC L (id, ix) = some c) (hk : (sha key == c.2.1) = false) : spendM (((id, ((ix : Nat) : Int), ()), key, ()) :: r) L U n = (L, U, 0, 131) := by
  rw [spendM, show inP ((id, ((ix : Nat) : Int), ()), key, ()) = (id, ix) from rfl, h]
  simp only [hk, Bool.false_eq_true, if_false]
theorem spendM_some {id : List UInt8} {ix : Nat} {key : List UInt8} {r : List InT} {L U : CoL} {n : Int} {c : CoT} (h : getC L (id, ix) = some c) (hk : (sha key == c.2.1) = true) : spendM (((id, ((ix : Nat) : Int), ()), key, ()) :: r) L U n = spendM r (delC L (id, ix)) (U ++ [((id, ix), c)]) (wrap64 (n + c.1)) := by
  rw [spendM, show inP ((id, ((ix : Nat) : Int), ()), key, ()) = (id, ix) from rfl, h]
  simp only [hk, if_true]
theorem co_lock {w : World} {q : Nat} {T : TypeId} {a h : Int} {k : List UInt8} (hb : Blk w q T (coinC (a, k, h)).toArray) : RowAt w q 1 (bts k) := by
  intro j u hj
  have hjl := (List.getElem?_eq_some_iff.1 hj).1
  rw [hb.cell (1 + j), List.getElem?_toArray, coinC, show 1 + j = j + 1 by omega, List.getElem?_cons_succ, List.getElem?_append_left hjl]
  exact hj
theorem co_amt {w : World} {q : Nat} {T : TypeId} {a h : Int} {k : List UInt8} (hb : Blk w q T (coinC (a, k, h)).toArray) : w.cell? ⟨q, 0, none⟩ = some (.int .i64 a) := by
  rw [hb.cell 0, List.getElem?_toArray]; rfl
theorem sl_blk {w : World} {g : Nat} {T : TypeId} {xs : List Value} {size : Nat} (h : Blk w g T xs.toArray) (hl : xs.length = size) : Sl w (fun b => b = g) size (some ⟨g, 0, none⟩) 1 xs :=
  ⟨by rw [hl, Nat.one_mul], fun _ => ⟨_, _, rfl, rfl, h.rowAll⟩⟩
theorem SpI.grown {B gs : Nat} {p : Option Nat} {L : CoL} {gu : Nat} {U : CoL} {A1 : Option Addr} {c1 : Nat} {A2 : Option Addr} {c2 : Nat} {w : World} {id : List UInt8} {ix : Nat} {c : CoT}
    (hs : B ≤ gs) (hu : B ≤ gu) (hB : B ≤ w.heap.size) (h1 : Blk w gs 42 [Value.map p].toArray) (h2 : MapAt w B p L) (h3 : Blk w gu 46 [Value.slice A1 (U.length + 1) c1, Value.slice A2 (U.length + 1) c2].toArray)
    (h4 : w.ownsRow B 28 33 (.slice A1 (U.length + 1) c1) (U.length + 1) (ptsC U ++ ptC id ix)) (h5 : w.ownsRow B 61 34 (.slice A2 (U.length + 1) c2) (U.length + 1) (cosC U ++ coinC c)) :
    SpI B gs p L gu (U ++ [((id, ix), c)]) A1 c1 A2 c2 w := by
  have e : (U ++ [((id, ix), c)]).length = U.length + 1 := by simp
  refine ⟨hs, hu, hB, h1, h2, by rw [e]; exact h3, ?_, ?_⟩
  · rw [e, ptsC, List.flatMap_append]
    simpa [ptsC] using h4
  · rw [e, cosC, List.flatMap_append]
    simpa [cosC] using h5
end Go.Proofs.Ytlbpeihdedhjiaa
