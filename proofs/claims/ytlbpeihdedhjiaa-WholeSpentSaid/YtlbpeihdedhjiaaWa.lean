/- Words for memory: bytes, slices that read as lists, frames ("only these blocks have turned"). No program in sight. -/
import Derived.WalkKit
import Derived.WalkSpells
import Derived.WalkLawsBesides
import Derived.Deep.Draws
import Derived.Deep.AppendLies
import Derived.Maps.AppendAt
import Derived.RegionTactic
import Derived.Lib.Hide
import Derived.Deep.MidRow
import Derived.Laws.CopyOwn
import Derived.Laws.BytesArg
import Derived.Lib.SlBytesConst
namespace Go.Proofs.Ytlbpeihdedhjiaa
open Go.RowKit

/-- a byte's cell -/
def Bt (x : UInt8) : Value := .int .u8 (x.toNat : Int)
/-- bytes' cells -/
def bts (l : List UInt8) : List Value := l.map Bt
@[simp] theorem bts_length (l : List UInt8) : (bts l).length = l.length := by simp [bts]
theorem bts_append (l m : List UInt8) : bts (l ++ m) = bts l ++ bts m := by simp [bts]
theorem bts_one (l : List UInt8) : ∀ u ∈ bts l, u.oneCell' = true := by
  intro u hu
  simp only [bts, List.mem_map] at hu
  obtain ⟨x, _, rfl⟩ := hu
  rfl
theorem bts_get (l : List UInt8) (j : Nat) (h : j < l.length) : (bts l)[j]? = some (Bt l[j]) := by simp [bts, h]

theorem add_mk (b o k : Nat) : (⟨b, o, none⟩ : Addr).add k = ⟨b, o + k, none⟩ := by
  unfold Addr.add
  split <;> simp_all

/-- the cells xs lie at ⟨b, o⟩ -/
def RowAt (w : World) (b o : Nat) (xs : List Value) : Prop := ∀ j u, xs[j]? = some u → w.cell? ⟨b, o + j, none⟩ = some u

/-- the slice value (A, n) of elements of 'size' cells reads as the cells xs, in a block that is ok -/
def Sl (w : World) (ok : Nat → Prop) (size : Nat) (A : Option Addr) (n : Nat) (xs : List Value) : Prop :=
  xs.length = n * size ∧ (0 < n → ∃ b o, A = some ⟨b, o, none⟩ ∧ ok b ∧ RowAt w b o xs)

/-- w' is w, but for the blocks in S and new ones -/
structure Only (S : Nat → Prop) (w w' : World) : Prop where
  os : w'.os = w.os
  tape : w'.tape = w.tape
  output : w'.output = w.output
  size : w.heap.size ≤ w'.heap.size
  block : ∀ k, k < w.heap.size → ¬ S k → w'.heap[k]? = w.heap[k]?

section
variable {w w' w'' : World} {S S' : Nat → Prop}
theorem Only.refl (S : Nat → Prop) (w : World) : Only S w w := ⟨rfl, rfl, rfl, Nat.le_refl _, fun _ _ _ => rfl⟩
theorem Only.trans (h : Only S w w') (k : Only S' w' w'') (hs : ∀ b, b < w.heap.size → S' b → S b) : Only S w w'' :=
  ⟨k.os.trans h.os, k.tape.trans h.tape, k.output.trans h.output, Nat.le_trans h.size k.size,
    fun b hb hn => (k.block b (Nat.lt_of_lt_of_le hb h.size) (fun e => hn (hs b hb e))).trans (h.block b hb hn)⟩
theorem Only.mono (h : Only S w w') (hs : ∀ b, b < w.heap.size → S b → S' b) : Only S' w w' :=
  ⟨h.os, h.tape, h.output, h.size, fun b hb hn => h.block b hb (fun e => hn (hs b hb e))⟩
theorem Only.below (h : Only S w w') {B : Nat} (hB : B ≤ w.heap.size) (hs : ∀ b, b < B → ¬ S b) : Below B w w' :=
  ⟨h.os, h.tape, h.output, h.size, fun b hb => h.block b (Nat.lt_of_lt_of_le hb hB) (hs b hb)⟩
theorem Only.of_below {B : Nat} (h : Below B w w') : Only (fun b => B ≤ b) w w' :=
  ⟨h.os, h.tape, h.output, h.size, fun b _ hn => h.block b (Nat.lt_of_not_le hn)⟩
theorem Only.of_new (h : Below w.heap.size w w') (S : Nat → Prop) : Only S w w' :=
  ⟨h.os, h.tape, h.output, h.size, fun b hb _ => h.block b hb⟩
theorem Only.of_grown {row : Option Nat} (h : w.grownBy w' row) : Only (fun b => row = some b) w w' :=
  ⟨h.os, h.tape, h.output, h.size, fun b hb hn => h.block b hb (fun e => hn e.symm)⟩
theorem Only.alloc (h : Only S w w') (o : Obj) : Only S w (w'.alloc o) :=
  h.trans (Only.of_new (Below.alloc (Below.refl _ _) (Nat.le_refl _) o) S) (fun _ _ h => h)
theorem Only.drew (h : Only S w w') : Only S w w'.drew := ⟨h.os, h.tape, h.output, h.size, h.block⟩
theorem Only.drewN (h : Only S w w') (n : Nat) : Only S w (w'.drewN n) := ⟨h.os, h.tape, h.output, h.size, h.block⟩
theorem Only.setCell (h : Only S w w') {p : Addr} (hp : p.block < w.heap.size → S p.block) (u : Value) : Only S w (w'.setCell p u) :=
  ⟨h.os, h.tape, h.output, by simpa [World.setCell] using h.size, fun b hb hn => by
    rw [Below.heap_setCell w' p u b (fun e => hn (e ▸ hp (e ▸ hb)))]
    exact h.block b hb hn⟩
theorem Only.cell (h : Only S w w') {p : Addr} (hp : p.block < w.heap.size) (hn : ¬ S p.block) : w'.cell? p = w.cell? p :=
  World.cell?_of_block (h.block p.block hp hn)
theorem Only.then_below {B : Nat} (h : Only S w w') (k : Below B w' w'') (hB : B = w'.heap.size) : Only S w w'' :=
  h.trans (Only.of_new (hB ▸ k) S) (fun _ _ h => h)

theorem blk_lt {g : Nat} {o : Obj} (h : w.heap[g]? = some o) : g < w.heap.size := (Array.getElem?_eq_some_iff.1 h).1
theorem Only.blk (h : Only S w w') {g : Nat} {o : Obj} (hg : w.heap[g]? = some o) (hn : ¬ S g) : w'.heap[g]? = some o := (h.block g (blk_lt hg) hn).trans hg

variable {ok ok' : Nat → Prop} {size n : Nat} {A : Option Addr} {xs : List Value} {b o : Nat}
theorem RowAt.lt (h : RowAt w b o xs) (hx : 0 < xs.length) : b < w.heap.size := by
  have := h 0 _ (List.getElem?_eq_getElem hx)
  exact World.block_lt_of_cell? w _ this
theorem RowAt.only (h : RowAt w b o xs) (hw : Only S w w') (hn : ¬ S b) : RowAt w' b o xs := by
  intro j u hu
  have hc := h j u hu
  exact (hw.cell (p := ⟨b, o + j, none⟩) (World.block_lt_of_cell? w _ hc) hn).trans hc
theorem RowAt.drop (h : RowAt w b o xs) (k : Nat) : RowAt w b (o + k) (xs.drop k) := by
  intro j u hu
  rw [List.getElem?_drop] at hu
  have := h (k + j) u hu
  rwa [← Nat.add_assoc] at this
theorem RowAt.take (h : RowAt w b o xs) (k : Nat) : RowAt w b o (xs.take k) := by
  intro j u hu
  rw [List.getElem?_take] at hu
  split at hu
  · exact h j u hu
  · cases hu

theorem Sl.len (h : Sl w ok size A n xs) : xs.length = n * size := h.1
theorem Sl.nil (w : World) (ok : Nat → Prop) (size : Nat) (A : Option Addr) : Sl w ok size A 0 [] := ⟨by simp, fun h => absurd h (by omega)⟩
theorem Sl.only (h : Sl w ok size A n xs) (hw : Only S w w') (hn : ∀ b, b < w.heap.size → ok b → ¬ S b) (hs : 0 < size) : Sl w' ok size A n xs := by
  refine ⟨h.1, fun hp => ?_⟩
  obtain ⟨b, o, rfl, hb, hr⟩ := h.2 hp
  have hx : 0 < xs.length := by rw [h.1]; exact Nat.mul_pos hp hs
  exact ⟨b, o, rfl, hb, hr.only hw (hn b (hr.lt hx) hb)⟩
theorem Sl.below (h : Sl w ok size A n xs) {B : Nat} (hw : Below B w w') (hn : ∀ b, b < w.heap.size → ok b → b < B) (hs : 0 < size) : Sl w' ok size A n xs :=
  h.only (Only.of_below hw) (fun b hb ho hk => by have := hn b hb ho; omega) hs
theorem Sl.new (h : Sl w ok size A n xs) (hw : Below w.heap.size w w') (hs : 0 < size) : Sl w' ok size A n xs := h.below hw (fun _ hb _ => hb) hs
theorem Sl.weak (h : Sl w ok size A n xs) (hn : ∀ b, b < w.heap.size → ok b → ok' b) (hs : 0 < size) : Sl w ok' size A n xs := by
  refine ⟨h.1, fun hp => ?_⟩
  obtain ⟨b, o, rfl, hb, hr⟩ := h.2 hp
  have hx : 0 < xs.length := by rw [h.1]; exact Nat.mul_pos hp hs
  exact ⟨b, o, rfl, hn b (hr.lt hx) hb, hr⟩
theorem Sl.lt (h : Sl w ok size A n xs) (hs : 0 < size) : Sl w (fun b => ok b ∧ b < w.heap.size) size A n xs := h.weak (fun _ hb ho => ⟨ho, hb⟩) hs
/-- an element -/
theorem Sl.at1 (h : Sl w ok 1 A n xs) {k : Nat} (hk : k < n) : ∃ b o u, A = some ⟨b, o, none⟩ ∧ ok b ∧ xs[k]? = some u ∧ w.cell? ⟨b, o + k, none⟩ = some u := by
  obtain ⟨b, o, rfl, hb, hr⟩ := h.2 (by omega)
  have hl : k < xs.length := by rw [h.1]; omega
  exact ⟨b, o, xs[k], rfl, hb, List.getElem?_eq_getElem hl, hr k _ (List.getElem?_eq_getElem hl)⟩
/-- a cut from k on: the address as the model has it -/
theorem Sl.cut (h : Sl w ok size A n xs) {k cap : Nat} (hk : k ≤ n) (hc : n ≤ cap) :
    Sl w ok size (if cap = k then A else A.map (·.add (k * size))) (n - k) (xs.drop (k * size)) := by
  refine ⟨by rw [List.length_drop, h.1, Nat.sub_mul], fun hn => ?_⟩
  obtain ⟨b, o, rfl, hb, hr⟩ := h.2 (by omega)
  rw [if_neg (by omega)]
  exact ⟨b, o + k * size, by simp [add_mk], hb, hr.drop _⟩
theorem Sl.take (h : Sl w ok size A n xs) {k : Nat} (hk : k ≤ n) : Sl w ok size A k (xs.take (k * size)) := by
  refine ⟨by rw [List.length_take, h.1]; exact Nat.min_eq_left (Nat.mul_le_mul_right _ hk), fun hp => ?_⟩
  obtain ⟨b, o, rfl, hb, hr⟩ := h.2 (by omega)
  exact ⟨b, o, rfl, hb, hr.take _⟩
theorem Sl.of_own {base : Nat} {e : TypeId} {c : Nat} (h : w.ownsRow base e size (.slice A n c) n xs) : Sl w (fun b => base ≤ b ∧ b < w.heap.size) size A n xs := by
  refine ⟨h.1, fun hn => ?_⟩
  rcases h.2 with ⟨hv, h0⟩ | ⟨g, cap, cur, hv, hb, hh, _⟩
  · omega
  · have hA : A = some ⟨g, 0, none⟩ := by injection hv
    subst hA
    refine ⟨g, 0, rfl, ⟨hb, blk_lt hh⟩, fun j u hu => ?_⟩
    have := h.cells (g := g) rfl j u hu
    rwa [add_mk] at this
end

/-- block g is just the cells cs of element type t, none frozen -/
def Blk (w : World) (g : Nat) (t : TypeId) (cs : Array Value) : Prop := w.heap[g]? = some (.cells cs t (0, 0))
section
variable {w w' : World} {g : Nat} {t : TypeId} {cs : Array Value} {S : Nat → Prop}
theorem Blk.lt (h : Blk w g t cs) : g < w.heap.size := blk_lt h
theorem Blk.cell (h : Blk w g t cs) (i : Nat) : w.cell? ⟨g, i, none⟩ = cs[i]? := cell_of_row w g i cs t (0, 0) h
theorem Blk.frozen (h : Blk w g t cs) (i : Nat) : w.frozen? ⟨g, i, none⟩ = false := by
  unfold Blk at h
  simp [World.frozen?, h]
theorem Blk.new (w : World) (t : TypeId) (cs : Array Value) : Blk (w.alloc (.cells cs t)) w.heap.size t cs := heap_alloc_new w _
theorem Blk.drew (h : Blk w g t cs) : Blk w.drew g t cs := h
theorem Blk.drewN (h : Blk w g t cs) (n : Nat) : Blk (w.drewN n) g t cs := h
theorem Blk.alloc (h : Blk w g t cs) (o : Obj) : Blk (w.alloc o) g t cs := (Below.heap_alloc w o g h.lt).trans h
theorem Blk.set_ (h : Blk w g t cs) (i : Nat) (u : Value) : Blk (w.setCell ⟨g, i, none⟩ u) g t (cs.setIfInBounds i u) := by
  unfold Blk at h ⊢
  simp [World.setCell, Array.getElem?_modify, h]
theorem Blk.far (h : Blk w g t cs) {p : Addr} (hp : g ≠ p.block) (u : Value) : Blk (w.setCell p u) g t cs := (Below.heap_setCell w p u g hp).trans h
theorem Blk.only (h : Blk w g t cs) (hw : Only S w w') (hn : ¬ S g) : Blk w' g t cs := (hw.block g h.lt hn).trans h
theorem Blk.below {B : Nat} (h : Blk w g t cs) (hb : Below B w w') (hg : g < B) : Blk w' g t cs := (hb.block g hg).trans h
theorem Blk.ne_ {g' : Nat} {t' : TypeId} {cs' : Array Value} (h : Blk w g t cs) (h' : Blk w g' t' cs') (hne : t ≠ t') : g ≠ g' := by
  rintro rfl
  unfold Blk at h h'
  rw [h] at h'
  injection h' with h'
  injection h' with _ ht
  exact hne ht
theorem own_blk_ne {base : Nat} {e : TypeId} {size n : Nat} {v : Value} {xs : List Value} (h : w.ownsRow base e size v n xs) (hg : Blk w g t cs) (hne : e ≠ t) : v.ownBlock ≠ some g := by
  rcases h.2 with ⟨rfl, _⟩ | ⟨g', cap, cur, rfl, _, hh, _⟩
  · simp [Value.ownBlock]
  · intro he
    have : g' = g := by simpa [Value.ownBlock] using he
    subst this
    exact Blk.ne_ (t := e) hh hg hne rfl
theorem own_only {base : Nat} {e : TypeId} {size n : Nat} {v : Value} {xs : List Value} (h : w.ownsRow base e size v n xs) (hw : Only S w w') (hn : ∀ k, v.ownBlock = some k → ¬ S k) : w'.ownsRow base e size v n xs := by
  refine ⟨h.1, ?_⟩
  rcases h.2 with h0 | ⟨g', cap, cur, rfl, hb, hg, hr⟩
  · exact .inl h0
  · exact .inr ⟨g', cap, cur, rfl, hb, hw.blk hg (hn _ rfl), hr⟩
theorem own_low {base base' : Nat} {e : TypeId} {size n : Nat} {v : Value} {xs : List Value} (h : w.ownsRow base e size v n xs) (hb : base' ≤ base) : w.ownsRow base' e size v n xs := by
  refine ⟨h.1, ?_⟩
  rcases h.2 with h0 | ⟨g', cap, cur, rfl, hb', hr⟩
  · exact .inl h0
  · exact .inr ⟨g', cap, cur, rfl, by omega, hr⟩
theorem own_form {base : Nat} {e : TypeId} {size n : Nat} {v : Value} {xs : List Value} (h : w.ownsRow base e size v n xs) : ∃ A c, v = .slice A n c ∧ n ≤ c ∧ c ≤ maxLen := by
  rcases h.2 with ⟨rfl, rfl⟩ | ⟨g', cap, cur, rfl, _, _, h1, h2, _⟩
  · exact ⟨_, _, rfl, Nat.le_refl _, by simp [maxLen]⟩
  · exact ⟨_, _, rfl, h1, h2⟩
end
section
variable {P : Program} (w : World)
theorem run_app_nil (base : Nat) (t ty e : TypeId) (i : TypeInfo) (size : Nat) (ht : P.underlying t = some (.slice e)) (hi : P.info? e = some i)
    (v : Value) (n : Nat) (xs : List Value) (hown : w.ownsRow base e size v n xs) (c : Nat) : (Builtin.append_ #[t, t] ty #[v, .slice none 0 c]).run P w = .ok v w := by
  rcases hown.2 with ⟨rfl, rfl⟩ | ⟨g, cap, cur, rfl, _, _, hnc, _⟩
  · simp [Builtin.append_, run_underlying ht, sizeOf, typeInfo, hi, Builtin.lenOf, Builtin.firstCells]
  · simp [Builtin.append_, run_underlying ht, sizeOf, typeInfo, hi, Builtin.lenOf, Builtin.firstCells, hnc, storeCells]

theorem run_app (base : Nat) (t ty e : TypeId) (z : Value) (size bytes : Nat) (ht : P.underlying t = some (.slice e))
    (hinfo : (P.info? e).map (fun i => (i.zero, i.size, i.bytes)) = some (some z, size, bytes)) (hzs : z.cells.size = size) (hsz : 0 < size)
    (A0 : Option Addr) (n c0 : Nat) (xs : List Value) (hown : w.ownsRow base e size (.slice A0 n c0) n xs)
    (ok : Nat → Prop) (A : Option Addr) (m c : Nat) (news : List Value) (hr : Sl w ok size A m news) (h1 : ∀ u ∈ news, u.oneCell' = true)
    (h63 : n + m ≤ maxLen) (hbytes : (n + m) * bytes ≤ 140737488355328) (hbase : base ≤ w.heap.size) :
    ∃ A' c' w', (Builtin.append_ #[t, t] ty #[.slice A0 n c0, .slice A m c]).run P w = .ok (.slice A' (n + m) c') w' ∧ w'.ownsRow base e size (.slice A' (n + m) c') (n + m) (xs ++ news) ∧
      Only (fun b => (Value.slice A0 n c0).ownBlock = some b) w w' ∧
      ((Value.slice A' (n + m) c').ownBlock = (Value.slice A0 n c0).ownBlock ∨ (Value.slice A' (n + m) c').ownBlock = some w.heap.size) := by
  obtain ⟨i, hi, hz, hs, hb⟩ := info_parts hinfo
  rcases A with _ | ad
  · have h0 : m = 0 := by
      rcases Nat.eq_zero_or_pos m with h0 | h0
      · exact h0
      · obtain ⟨_, _, h, _⟩ := hr.2 h0
        cases h
    subst h0
    have hn : news = [] := List.eq_nil_of_length_eq_zero (by simpa using hr.1)
    subst hn
    exact ⟨A0, c0, w, run_app_nil w base t ty e i size ht hi _ _ _ hown c, by simpa using hown, Only.refl _ _, .inl rfl⟩
  · have hcells : ∀ j u, news[j]? = some u → w.cell? (ad.add j) = some u := by
      intro j u hu
      rcases Nat.eq_zero_or_pos m with h0 | h0
      · subst h0
        have hn : news = [] := List.eq_nil_of_length_eq_zero (by simpa using hr.1)
        subst hn
        simp at hu
      · obtain ⟨b, o, hA, _, hc⟩ := hr.2 h0
        injection hA with hA
        subst hA
        rw [add_mk]
        exact hc j u hu
    obtain ⟨v', w', hrun, h2, h3, _, h5⟩ := run_append_own_at (P := P) w base t ty e i z size bytes ht hi hz hs hb hzs hsz _ n xs hown ad m c news hr.1 hcells h1 h63 hbytes hbase
    obtain ⟨A', c', rfl, _, _⟩ := own_form h2
    refine ⟨A', c', w', hrun, h2, ?_, h5⟩
    exact ⟨h3.os, h3.tape, h3.output, h3.size, fun k hk hn => h3.block k hk (fun e => hn e.symm)⟩

theorem wp_app {o : Oper} {a : Act} {K : Act → World → Prop} {Q : Exit → Act → World → Prop} (s x : Operand) (t : TypeId)
    (ho : o.op = .call { callee := .builtin .append, args := #[s, x], argTypes := #[t, t] })
    (base : Nat) (e : TypeId) (z : Value) (size bytes : Nat) (ht : P.underlying t = some (.slice e))
    (hinfo : (P.info? e).map (fun i => (i.zero, i.size, i.bytes)) = some (some z, size, bytes)) (hzs : z.cells.size = size) (hsz : 0 < size)
    (A0 : Option Addr) (n c0 : Nat) (hs : a.eval s = .slice A0 n c0) (A : Option Addr) (m c : Nat) (hx : a.eval x = .slice A m c)
    (xs : List Value) (hown : w.ownsRow base e size (.slice A0 n c0) n xs)
    (ok : Nat → Prop) (news : List Value) (hr : Sl w ok size A m news) (h1 : ∀ u ∈ news, u.oneCell' = true)
    (h63 : n + m ≤ maxLen) (hbytes : (n + m) * bytes ≤ 140737488355328) (hbase : base ≤ w.heap.size)
    (h : ∀ A' c' w', w'.ownsRow base e size (.slice A' (n + m) c') (n + m) (xs ++ news) → Only (fun b => (Value.slice A0 n c0).ownBlock = some b) w w' →
      ((Value.slice A' (n + m) c').ownBlock = (Value.slice A0 n c0).ownBlock ∨ (Value.slice A' (n + m) c').ownBlock = some w.heap.size) → K (a.put o.dst (.slice A' (n + m) c')) w') : o.wp P a w K Q := by
  obtain ⟨A', c', w', hrun, h2, h3, h4⟩ := run_app (P := P) w base t o.type e z size bytes ht hinfo hzs hsz A0 n c0 xs hown ok A m c news hr h1 h63 hbytes hbase
  unfold Oper.wp execOp
  simp only [ho, resolve, invoke, builtin, Sem.run_bind, Sem.run_pure, Result.andThen_ok, List.map_toArray, List.map_cons, List.map_nil, hs, hx, hrun]
  exact h A' c' w' h2 h3 h4

/-- append onto an own row, from a slice that reads -/
theorem wpList_app {ops : Array Oper} {rest : List Oper} {o : Oper} {a : Act} {Q : Exit → Act → World → Prop} (hgd : o.guard = none) (s x : Operand) (t : TypeId)
    (ho : o.op = .call { callee := .builtin .append, args := #[s, x], argTypes := #[t, t] })
    (base : Nat) (e : TypeId) (z : Value) (size bytes : Nat) (ht : P.underlying t = some (.slice e))
    (hinfo : (P.info? e).map (fun i => (i.zero, i.size, i.bytes)) = some (some z, size, bytes)) (hzs : z.cells.size = size) (hsz : 0 < size)
    (A0 : Option Addr) (n c0 : Nat) (hs : a.eval s = .slice A0 n c0) (A : Option Addr) (m c : Nat) (hx : a.eval x = .slice A m c)
    (xs : List Value) (hown : w.ownsRow base e size (.slice A0 n c0) n xs)
    (ok : Nat → Prop) (news : List Value) (hr : Sl w ok size A m news) (h1 : ∀ u ∈ news, u.oneCell' = true)
    (h63 : n + m ≤ maxLen) (hbytes : (n + m) * bytes ≤ 140737488355328) (hbase : base ≤ w.heap.size)
    (h : ∀ A' c' w', w'.ownsRow base e size (.slice A' (n + m) c') (n + m) (xs ++ news) → Only (fun b => (Value.slice A0 n c0).ownBlock = some b) w w' →
      ((Value.slice A' (n + m) c').ownBlock = (Value.slice A0 n c0).ownBlock ∨ (Value.slice A' (n + m) c').ownBlock = some w.heap.size) → wpList P ops Q rest (a.put o.dst (.slice A' (n + m) c')) w') : wpList P ops Q (o :: rest) a w :=
  wpList_plain hgd fun _ hK => wp_app w s x t ho base e z size bytes ht hinfo hzs hsz A0 n c0 hs A m c hx xs hown ok news hr h1 h63 hbytes hbase fun A' c' w' h2 h3 h4 => hK _ _ (h A' c' w' h2 h3 h4)
end
/-- one new block of one cell, as append lays its element -/
theorem Sl.one_new (w : World) (e : TypeId) (u : Value) : Sl (w.alloc (.cells #[u] e)) (fun b => b = w.heap.size) 1 (some ⟨w.heap.size, 0, none⟩) 1 [u] :=
  ⟨rfl, fun _ => ⟨_, _, rfl, rfl, fun j x hj => by
    have hb := Blk.new w e #[u]
    match j, hj with
    | 0, hj => simp at hj; subst hj; exact hb.cell 0⟩⟩
/-- v is a slice of the bytes l, in blocks that are ok -/
def IsB (w : World) (ok : Nat → Prop) (v : Value) (l : List UInt8) : Prop := ∃ A n c, v = .slice A n c ∧ n = l.length ∧ n ≤ c ∧ Sl w ok 1 A n (bts l)
section
variable {w w' : World} {ok ok' S : Nat → Prop} {v : Value} {l : List UInt8}
theorem IsB.only (h : IsB w ok v l) (hw : Only S w w') (hn : ∀ b, b < w.heap.size → ok b → ¬ S b) : IsB w' ok v l := by
  obtain ⟨A, n, c, h1, h2, h3, h4⟩ := h
  exact ⟨A, n, c, h1, h2, h3, h4.only hw hn (by omega)⟩
theorem IsB.below (h : IsB w ok v l) {B : Nat} (hw : Below B w w') (hn : ∀ b, b < w.heap.size → ok b → b < B) : IsB w' ok v l := by
  obtain ⟨A, n, c, h1, h2, h3, h4⟩ := h
  exact ⟨A, n, c, h1, h2, h3, h4.below hw hn (by omega)⟩
theorem IsB.weak (h : IsB w ok v l) (hn : ∀ b, b < w.heap.size → ok b → ok' b) : IsB w ok' v l := by
  obtain ⟨A, n, c, h1, h2, h3, h4⟩ := h
  exact ⟨A, n, c, h1, h2, h3, h4.weak hn (by omega)⟩
theorem IsB.new (h : IsB w ok v l) (hw : Below w.heap.size w w') : IsB w' ok v l := h.below hw (fun _ hb _ => hb)
theorem IsB.of_own {base : Nat} {e : TypeId} {A : Option Addr} {n c : Nat} (h : w.ownsRow base e 1 (.slice A n c) n (bts l)) : IsB w (fun b => base ≤ b ∧ b < w.heap.size) (.slice A n c) l := by
  obtain ⟨A', c', e', h1, _⟩ := own_form h
  injection e' with e1 e2 e3
  subst e3
  exact ⟨A, n, c, rfl, by have := h.1; simpa using this.symm, h1, Sl.of_own h⟩
end
/-- element by element -/
def Each1 {α : Type} (R : α → Value → Prop) (ps : List α) (xs : List Value) : Prop := xs.length = ps.length ∧ ∀ (j : Nat) p u, ps[j]? = some p → xs[j]? = some u → R p u
section
variable {α : Type} {R R' : α → Value → Prop} {ps : List α} {xs : List Value}
theorem Each1.imp (h : Each1 R ps xs) (hR : ∀ p u, R p u → R' p u) : Each1 R' ps xs := ⟨h.1, fun j p u h1 h2 => hR p u (h.2 j p u h1 h2)⟩
theorem Each1.at_ (h : Each1 R ps xs) {j : Nat} {u : Value} (hu : xs[j]? = some u) : ∃ p, ps[j]? = some p ∧ R p u := by
  have hj : j < xs.length := (List.getElem?_eq_some_iff.1 hu).1
  have hp : ps[j]? = some (ps[j]'(by have := h.1; omega)) := List.getElem?_eq_getElem _
  exact ⟨_, hp, h.2 j _ _ hp hu⟩
theorem Each1.nil (R : α → Value → Prop) : Each1 R [] [] := ⟨rfl, fun j p u h => by simp at h⟩
theorem Each1.one {p : α} {u : Value} (h : R p u) : Each1 R [p] [u] := ⟨rfl, fun j q v h1 h2 => by
  match j with
  | 0 => simp at h1 h2; subst h1 h2; exact h
  | j + 1 => simp at h1⟩
theorem Each1.snoc {p : α} {u : Value} (h : Each1 R ps xs) (hp : R p u) : Each1 R (ps ++ [p]) (xs ++ [u]) := ⟨by simp [h.1], fun j q v h1 h2 => by
  rcases Nat.lt_or_ge j ps.length with hj | hj
  · rw [List.getElem?_append_left hj] at h1
    rw [List.getElem?_append_left (by have := h.1; omega)] at h2
    exact h.2 j q v h1 h2
  · rw [List.getElem?_append_right hj] at h1
    rw [List.getElem?_append_right (by have := h.1; omega), h.1] at h2
    match hk : j - ps.length with
    | 0 => rw [hk] at h1 h2; simp at h1 h2; subst h1 h2; exact hp
    | k + 1 => rw [hk] at h1; simp at h1⟩
theorem Each1.cons {p : α} {u : Value} (hp : R p u) (h : Each1 R ps xs) : Each1 R (p :: ps) (u :: xs) := ⟨by simp [h.1], fun j q v h1 h2 => by
  match j with
  | 0 => simp at h1 h2; subst h1 h2; exact hp
  | j + 1 => exact h.2 j q v (by simpa using h1) (by simpa using h2)⟩
theorem Each1.map (f : α → Value) (ps : List α) : Each1 (fun p u => u = f p) ps (ps.map f) := ⟨by simp, fun j p u h1 h2 => by rw [List.getElem?_map, h1] at h2; cases h2; rfl⟩
end
/-! ### whole arrays and structs in and out of blocks -/
section
variable {w : World} {g : Nat} {t : TypeId}
theorem Blk.rowAt {cs : Array Value} (h : Blk w g t cs) (o n : Nat) : RowAt w g o ((cs.toList.drop o).take n) := by
  intro j u hu
  rw [List.getElem?_take] at hu
  split at hu
  · rw [List.getElem?_drop] at hu
    rw [h.cell]
    simpa using hu
  · cases hu
theorem Blk.rowAll {cs : List Value} (h : Blk w g t cs.toArray) : RowAt w g 0 cs := by
  intro j u hu
  rw [h.cell]
  simpa using hu
/-- cells over a list from a place on -/
def over (L : List Value) (o : Nat) (cs : List Value) : List Value := L.take o ++ (cs ++ L.drop (o + cs.length))
theorem over_nil (L : List Value) (o : Nat) : over L o [] = L := by simp [over]
theorem over_cons (L : List Value) (o : Nat) (c : Value) (cs : List Value) (h : o < L.length) : over (L.set o c) (o + 1) cs = over L o (c :: cs) := by
  unfold over
  rw [List.take_set, List.take_succ_eq_append_getElem h, List.set_append, if_neg (by simp; omega)]
  have e : o - (L.take o).length = 0 := by simp; omega
  rw [e, List.set_cons_zero, List.append_assoc, List.drop_set_of_lt (by omega)]
  simp only [List.cons_append, List.nil_append, List.length_cons]
  rw [show o + 1 + cs.length = o + (cs.length + 1) from by omega]
theorem length_over (L : List Value) (o : Nat) (cs : List Value) (h : o + cs.length ≤ L.length) : (over L o cs).length = L.length := by simp [over]; omega
theorem over_all (L cs : List Value) (h : cs.length = L.length) : over L 0 cs = cs := by simp [over, h]
theorem Blk.setCells {cs : List Value} : ∀ {L : List Value} {w : World} {o : Nat}, Blk w g t L.toArray → o + cs.length ≤ L.length → Blk (w.setCells g o cs) g t (over L o cs).toArray ∧ Only (fun b => b = g) w (w.setCells g o cs) := by
  induction cs with
  | nil => intro L w o h _; rw [over_nil]; exact ⟨h, Only.refl _ _⟩
  | cons c cs ih =>
    intro L w o h hl
    rw [World.setCells]
    simp only [List.length_cons] at hl
    have h1 := h.set_ o c
    have h2 : Blk (w.setCell ⟨g, o, none⟩ c) g t (L.set o c).toArray := by simpa using h1
    obtain ⟨h3, h4⟩ := ih (o := o + 1) h2 (by simp; omega)
    rw [over_cons _ _ _ _ (by omega)] at h3
    exact ⟨h3, (Only.setCell (S := fun b => b = g) (p := ⟨g, o, none⟩) (Only.refl _ _) (fun _ => rfl) _).trans h4 (fun _ _ h => h)⟩
theorem Blk.there {L : List Value} (h : Blk w g t L.toArray) {o n : Nat} (hn : o + n ≤ L.length) : w.there g o n := by
  intro j hj
  refine ⟨?_, h.frozen _⟩
  rw [h.cell]
  simp
  omega
end
section
variable {P : Program} {ops : Array Oper} {rest : List Oper} {o : Oper} {a : Act} {w : World} {Q : Exit → Act → World → Prop} {K : Act → World → Prop}
/-- a struct or an array is read whole -/
theorem wpList_ld (hgd : o.guard = none) (ty : TypeId) (x : Operand) (ho : o.op = .load ty x) (b oo : Nat) (hx : a.eval x = .pointer (some ⟨b, oo, none⟩)) (cs : List Value) (hc : RowAt w b oo cs)
    (d : TypeDesc) (hu : P.underlying ty = some d) (hd : d.isRow = true) (n : Nat) (hi : (P.info? ty).map (·.size) = some n) (hn : n = cs.length)
    (h : wpList P ops Q rest (a.put o.dst (.agg cs.toArray)) w) : wpList P ops Q (o :: rest) a w :=
  wpList_load_mid hgd ty x ho b oo hx cs d hc hu hd (by rw [hi, hn]) h
/-- a struct or an array is stored into a block that is known whole -/
theorem wpList_stb (hgd : o.guard = none) (ty : TypeId) (x y : Operand) (ho : o.op = .store ty x y) (g oo : Nat) (cells : Array Value) (hx : a.eval x = .pointer (some ⟨g, oo, none⟩)) (hy : a.eval y = .agg cells)
    (t : TypeId) (L : List Value) (hb : Blk w g t L.toArray) (hl : oo + cells.size ≤ L.length) (hi : (P.info? ty).map (·.size) = some cells.size) (h1 : ∀ v ∈ cells.toList, v.oneCell' = true)
    (h : ∀ w', Blk w' g t (over L oo cells.toList).toArray → Only (fun b => b = g) w w' → wpList P ops Q rest (a.put o.dst undef) w') : wpList P ops Q (o :: rest) a w := by
  refine wpList_store_mid hgd ty x y ho g oo cells hx hy (hb.there hl) hi (Array.all_eq_true_iff_forall_mem.2 (fun v hv => h1 v (by simpa using hv))) ?_
  obtain ⟨h2, h3⟩ := hb.setCells (cs := cells.toList) (o := oo) (by simpa using hl)
  exact h _ h2 h3
theorem run_cp (d s : Value) (dT sT ty elem : TypeId) (hu : P.underlying dT = some (.slice elem)) (hsz : (P.info? elem).map (·.size) = some 1)
    (g off dLen dCap : Nat) (hd : d = .slice (some ⟨g, off, none⟩) dLen dCap) (A : Option Addr) (n c : Nat) (hs : s = .slice A n c) (t : TypeId) (L : List Value) (hb : Blk w g t L.toArray)
    (ok : Nat → Prop) (xs : List Value) (hr : Sl w ok 1 A n xs) (h1 : ∀ v ∈ xs, v.oneCell' = true) (hfit : off + dLen ≤ L.length) :
    ∃ w', (Builtin.copy_ #[dT, sT] ty #[d, s]).run P w = .ok (goInt ((min n dLen : Nat) : Int)) w' ∧ Blk w' g t (over L off (xs.take (min n dLen))).toArray ∧ Only (fun b => b = g) w w' := by
  subst hd hs
  have hxl : xs.length = n := by simpa using hr.1
  by_cases h0 : min n dLen = 0
  · refine ⟨w, ?_, ?_, Only.refl _ _⟩
    · have := run_copy_none (P := P) w dT sT ty elem (some ⟨g, off, none⟩) A dLen dCap n c hu hsz h0
      rw [this, h0]
      rfl
    · rw [h0, List.take_zero, over_nil]; exact hb
  · obtain ⟨b, oo, rfl, hok, hrow⟩ := hr.2 (by omega)
    have hlen : (xs.take (min n dLen)).length = min n dLen := by rw [List.length_take]; omega
    have hrun := run_copy_row (P := P) w dT sT ty elem g off dLen dCap ⟨b, oo, none⟩ n c L.toArray t (xs.take (min n dLen)) hu hsz hb hlen
      (fun j v hv => by rw [add_mk]; exact (hrow.take _) j v hv) (by simp; omega) (fun v hv => h1 v (List.mem_of_mem_take hv))
    rw [hlen] at hrun
    refine ⟨_, hrun, ?_, ⟨rfl, rfl, rfl, by simp, fun k _ hk => setRow_other w g k _ (fun e => hk (by omega))⟩⟩
    have := setRow_heap w g L.toArray (over L off (xs.take (min n dLen))).toArray t _ hb
    simpa [over, hlen, Blk] using this
/-- copy into a block that is known whole -/
theorem wpList_cp (hgd : o.guard = none) (d s : Operand) (dT sT : TypeId) (ho : o.op = .call { callee := .builtin .copy, args := #[d, s], argTypes := #[dT, sT] }) (elem : TypeId) (hu : P.underlying dT = some (.slice elem)) (hsz : (P.info? elem).map (·.size) = some 1)
    (g off dLen dCap : Nat) (hd : a.eval d = .slice (some ⟨g, off, none⟩) dLen dCap) (A : Option Addr) (n c : Nat) (hs : a.eval s = .slice A n c) (t : TypeId) (L : List Value) (hb : Blk w g t L.toArray)
    (ok : Nat → Prop) (xs : List Value) (hr : Sl w ok 1 A n xs) (h1 : ∀ v ∈ xs, v.oneCell' = true) (hfit : off + dLen ≤ L.length)
    (h : ∀ w', Blk w' g t (over L off (xs.take (min n dLen))).toArray → Only (fun b => b = g) w w' → wpList P ops Q rest (a.put o.dst (goInt ((min n dLen : Nat) : Int))) w') : wpList P ops Q (o :: rest) a w := by
  refine wpList_plain hgd fun K hK => ?_
  obtain ⟨w', hrun, h2, h3⟩ := run_cp (P := P) (a.eval d) (a.eval s) dT sT o.type elem hu hsz g off dLen dCap hd A n c hs t L hb ok xs hr h1 hfit
  unfold Oper.wp execOp
  simp only [ho, resolve, invoke, builtin, Sem.run_bind, Sem.run_pure, Result.andThen_ok, List.map_toArray, List.map_cons, List.map_nil, hrun]
  exact hK _ _ (h w' h2 h3)
theorem step_cp {E : Prop} (hgd : o.guard = none) (d s : Operand) (dT sT : TypeId) (ho : o.op = .call { callee := .builtin .copy, args := #[d, s], argTypes := #[dT, sT] }) (elem : TypeId) (hu : P.underlying dT = some (.slice elem)) (hsz : (P.info? elem).map (·.size) = some 1)
    (g off dLen dCap : Nat) (hd : a.eval d = .slice (some ⟨g, off, none⟩) dLen dCap) (A : Option Addr) (n c : Nat) (hs : a.eval s = .slice A n c) (t : TypeId) (L : List Value) (hb : Blk w g t L.toArray)
    (ok : Nat → Prop) (xs : List Value) (hr : Sl w ok 1 A n xs) (h1 : ∀ v ∈ xs, v.oneCell' = true) (hfit : off + dLen ≤ L.length)
    (h : ∀ w', Blk w' g t (over L off (xs.take (min n dLen))).toArray → Only (fun b => b = g) w w' → K (a.put o.dst (goInt ((min n dLen : Nat) : Int))) w') :
    if Region.wanted o (yielded ops a.tmps) = true then Oper.wp P o a w K Q else E := by
  have hw : Region.wanted o (yielded ops a.tmps) = true := by simp [Region.wanted, hgd]
  rw [if_pos hw]
  obtain ⟨w', hrun, h2, h3⟩ := run_cp (P := P) (a.eval d) (a.eval s) dT sT o.type elem hu hsz g off dLen dCap hd A n c hs t L hb ok xs hr h1 hfit
  unfold Oper.wp execOp
  simp only [ho, resolve, invoke, builtin, Sem.run_bind, Sem.run_pure, Result.andThen_ok, List.map_toArray, List.map_cons, List.map_nil, hrun]
  exact h w' h2 h3
end
/-! ### strings as lists of bytes -/
def bstr (l : List UInt8) : ByteArray := ⟨l.toArray⟩
theorem bstr_toList (l : List UInt8) : (bstr l).toList = l := ByteArray.toList_mk l
theorem bstr_size (l : List UInt8) : (bstr l).size = l.length := by simp [bstr, ByteArray.size]
attribute [go_sem] bstr_toList bstr_size
theorem bstr_of (s : ByteArray) : s = bstr s.data.toList := by
  cases s
  simp [bstr]
theorem bstr_append (l m : List UInt8) : bstr l ++ bstr m = bstr (l ++ m) := by
  apply ByteArray.ext
  rw [ByteArray.data_append]
  simp [bstr]
theorem bstr_inj {l m : List UInt8} (h : bstr l = bstr m) : l = m := by rw [← bstr_toList l, h, bstr_toList]
section
variable {P : Program} {w : World}
theorem strOf_nats (l : List UInt8) : strOfNums (l.map fun x => (x.toNat : Int)) = bstr l := by
  unfold strOfNums bstr
  congr 2
  rw [List.map_map]
  conv => rhs; rw [← List.map_id l]
  apply List.map_congr_left
  intro x _
  simp
/-- bytes as a string -/
theorem IsB.str {ok : Nat → Prop} {v : Value} {l : List UInt8} (h : IsB w ok v l) {src e dst : TypeId} (hs : P.underlying src = some (.slice e)) (he : P.underlying e = some (.int .u8)) (hd : P.underlying dst = some .string) :
    (convert src dst v).run P w = .ok (.string (bstr l)) w := by
  obtain ⟨A, n, c, rfl, hn, hc, hr⟩ := h
  by_cases h0 : 0 < n
  · obtain ⟨b, o, rfl, _, hrow⟩ := hr.2 h0
    have := run_convert_bytes_arg (P := P) w src e hs he b o n c (l.map fun x => (x.toNat : Int)) (by simp [hn]) (fun i hi => by
      have := hrow i (Bt (l[i]'(by omega))) (bts_get _ _ _)
      rw [this, Bt, List.getD_eq_getElem?_getD, List.getElem?_map, List.getElem?_eq_getElem (by omega)]
      rfl) dst hd
    rw [this, strOf_nats]
  · have h0 : n = 0 := by omega
    subst h0
    have hl : l = [] := List.eq_nil_of_length_eq_zero hn.symm
    subst hl
    rcases A with _ | ad
    · exact run_convert_bytes_nil w src e hs he 0 c dst hd
    · have h2 := run_convert_bytes_string (P := P) w src dst e (some ad) 0 c hs he hd
      rw [h2]
      simp [Conv.bytesToString, loadCells, loadCellsFrom]
      rfl
end
end Go.Proofs.Ytlbpeihdedhjiaa
