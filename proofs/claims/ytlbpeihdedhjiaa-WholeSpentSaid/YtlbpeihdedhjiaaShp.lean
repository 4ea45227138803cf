/- Shapes: how a value of a type lies in memory, and that an argument of the type has the shape. No program in sight. -/
import Derived.Test.YtlbpeihdedhjiaaRow
import Derived.Deep.Slices
namespace Go.Proofs.Ytlbpeihdedhjiaa
open Go.RowKit Go.WideShapes Go.ChangeShapes Go.ChangeAt Go.Deep

/-- how many cells a value has, which cells they are, and that who leaves these blocks alone leaves the reading -/
structure Shape (α : Type) where
  size : Nat
  rel : World → (Nat → Prop) → List Value → α → Prop
  len : ∀ {w ok cs a}, rel w ok cs a → cs.length = size
  only : ∀ {w w' ok cs a} {S : Nat → Prop}, rel w ok cs a → Only S w w' → (∀ b, b < w.heap.size → ok b → ¬ S b) → rel w' ok cs a

theorem Shape.below {α : Type} (s : Shape α) {w w' : World} {ok cs a} {B : Nat} (h : s.rel w ok cs a) (hw : Below B w w') (hn : ∀ b, b < w.heap.size → ok b → b < B) : s.rel w' ok cs a :=
  s.only h (Only.of_below hw) (fun b hb ho hk => by have := hn b hb ho; omega)

theorem IsB.only_ {w w' : World} {ok : Nat → Prop} {v : Value} {l : List UInt8} {S : Nat → Prop} (h : IsB w ok v l) (hw : Only S w w') (hn : ∀ b, b < w.heap.size → ok b → ¬ S b) : IsB w' ok v l := by
  obtain ⟨A, n, c, h1, h2, h3, h4⟩ := h
  exact ⟨A, n, c, h1, h2, h3, h4.only hw hn (by omega)⟩

/-- an integer -/
def shInt (k : IntKind) : Shape Int where
  size := 1
  rel := fun _ _ cs n => cs = [.int k n] ∧ (Lit.int k n).wf = true
  len := fun h => by rw [h.1]; rfl
  only := fun h _ _ => h
def shBool : Shape Bool where
  size := 1
  rel := fun _ _ cs n => cs = [.bool n]
  len := fun h => by rw [h]; rfl
  only := fun h _ _ => h
/-- a text -/
def shStr : Shape (List UInt8) where
  size := 1
  rel := fun _ _ cs l => cs = [.string (bstr l)] ∧ l.length ≤ maxLen
  len := fun h => by rw [h.1]; rfl
  only := fun h _ _ => h
/-- bytes in a slice -/
def shBytes : Shape (List UInt8) where
  size := 1
  rel := fun w ok cs l => ∃ v, cs = [v] ∧ IsB w ok v l
  len := fun ⟨_, h, _⟩ => by rw [h]; rfl
  only := fun ⟨v, h, hb⟩ hw hn => ⟨v, h, hb.only_ hw hn⟩
/-- bytes in an array -/
def shArr (n : Nat) : Shape (List UInt8) where
  size := n
  rel := fun _ _ cs l => cs = bts l ∧ l.length = n
  len := fun h => by rw [h.1]; simpa using h.2
  only := fun h _ _ => h
def shUnit : Shape Unit where
  size := 0
  rel := fun _ _ cs _ => cs = []
  len := fun h => by rw [h]; rfl
  only := fun h _ _ => h
/-- one behind the other -/
def shPair {α β : Type} (s : Shape α) (t : Shape β) : Shape (α × β) where
  size := s.size + t.size
  rel := fun w ok cs x => ∃ c d, cs = c ++ d ∧ s.rel w ok c x.1 ∧ t.rel w ok d x.2
  len := fun ⟨c, d, h, h1, h2⟩ => by rw [h, List.length_append, s.len h1, t.len h2]
  only := fun ⟨c, d, h, h1, h2⟩ hw hn => ⟨c, d, h, s.only h1 hw hn, t.only h2 hw hn⟩

variable {α : Type}
/-- each of these cells' rows has the shape -/
inductive Each (r : List Value → α → Prop) : List (List Value) → List α → Prop
  | nil : Each r [] []
  | cons {c a cs ls} : r c a → Each r cs ls → Each r (c :: cs) (a :: ls)
theorem Each.len {r : List Value → α → Prop} {cs ls} (h : Each r cs ls) : cs.length = ls.length := by induction h <;> simp_all
theorem Each.mono {r r' : List Value → α → Prop} {cs ls} (h : Each r cs ls) (hr : ∀ c a, r c a → r' c a) : Each r' cs ls := by
  induction h with
  | nil => exact .nil
  | cons h _ ih => exact .cons (hr _ _ h) ih
theorem Each.get {r : List Value → α → Prop} {cs ls} (h : Each r cs ls) : ∀ (i : Nat) (hi : i < ls.length), ∃ c, cs[i]? = some c ∧ r c ls[i] := by
  induction h with
  | nil => intro i hi; simp at hi
  | cons h _ ih =>
    intro i hi
    cases i with
    | zero => exact ⟨_, rfl, h⟩
    | succ i => exact ih i (by simpa using hi)
theorem Each.of_get {r : List Value → α → Prop} : ∀ (n : Nat) (f : Nat → List Value), (∀ i, i < n → ∃ a, r (f i) a) → ∃ ls, ls.length = n ∧ Each r ((List.range n).map f) ls := by
  intro n
  induction n with
  | zero => intro f _; exact ⟨[], rfl, .nil⟩
  | succ n ih =>
    intro f h
    obtain ⟨a, ha⟩ := h 0 (by omega)
    obtain ⟨ls, hl, hr⟩ := ih (fun i => f (i + 1)) (fun i hi => h (i + 1) (by omega))
    refine ⟨a :: ls, by simp [hl], ?_⟩
    rw [List.range_succ_eq_map, List.map_cons, List.map_map]
    exact .cons ha hr
theorem Each.size {r : List Value → α → Prop} {cs ls} {n : Nat} (h : Each r cs ls) (hl : ∀ c a, r c a → c.length = n) : cs.flatten.length = ls.length * n := by
  induction h with
  | nil => simp
  | cons h _ ih => rw [List.flatten_cons, List.length_append, ih, hl _ _ h, List.length_cons, Nat.succ_mul]; omega
theorem Each.cells {r : List Value → α → Prop} {cs ls} {n : Nat} (h : Each r cs ls) (hl : ∀ c a, r c a → c.length = n) : ∀ (i : Nat) (hi : i < ls.length), ∃ c, r c ls[i] ∧ ∀ j, j < n → cs.flatten[i * n + j]? = c[j]? := by
  induction h with
  | nil => intro i hi; simp at hi
  | @cons c a cs ls h _ ih =>
    intro i hi
    have hc := hl _ _ h
    cases i with
    | zero => exact ⟨c, h, fun j hj => by rw [List.flatten_cons, Nat.zero_mul, Nat.zero_add, List.getElem?_append_left (by omega)]⟩
    | succ i =>
      obtain ⟨c', h1, h2⟩ := ih i (by simpa using hi)
      refine ⟨c', h1, fun j hj => ?_⟩
      rw [List.flatten_cons, List.getElem?_append_right (by rw [hc, Nat.succ_mul]; omega), show (i + 1) * n + j - c.length = i * n + j by rw [hc, Nat.succ_mul]; omega]
      exact h2 j hj

/-- a slice of such -/
def shSlice {α : Type} (s : Shape α) (_hs : 0 < s.size) : Shape (List α) where
  size := 1
  rel := fun w ok cs ls => ∃ A c cells, cs = [.slice A ls.length c] ∧ ls.length ≤ c ∧ c ≤ maxLen ∧ Each (s.rel w ok) cells ls ∧ Sl w ok s.size A ls.length cells.flatten
  len := fun ⟨_, _, _, h, _⟩ => by rw [h]; rfl
  only := fun ⟨A, c, cells, h, h1, h2, h3, h4⟩ hw hn => ⟨A, c, cells, h, h1, h2, h3.mono (fun _ _ h => s.only h hw hn), h4.only hw hn _hs⟩

theorem Each.cells' {r : List Value → α → Prop} {cs ls} {n : Nat} (h : Each r cs ls) (hl : ∀ c a, r c a → c.length = n) : ∀ (i : Nat), i < ls.length → ∃ c, cs[i]? = some c ∧ ∀ j, j < n → cs.flatten[i * n + j]? = c[j]? := by
  induction h with
  | nil => intro i hi; simp at hi
  | @cons c a cs ls h _ ih =>
    intro i hi
    have hc := hl _ _ h
    cases i with
    | zero => exact ⟨c, rfl, fun j hj => by rw [List.flatten_cons, Nat.zero_mul, Nat.zero_add, List.getElem?_append_left (by omega)]⟩
    | succ i =>
      obtain ⟨c', h1, h2⟩ := ih i (by simpa using hi)
      refine ⟨c', h1, fun j hj => ?_⟩
      rw [List.flatten_cons, List.getElem?_append_right (by rw [hc, Nat.succ_mul]; omega), show (i + 1) * n + j - c.length = i * n + j by rw [hc, Nat.succ_mul]; omega]
      exact h2 j hj
theorem bytes_of : ∀ (cs : List Value), (∀ i, i < cs.length → ∃ z : UInt8, cs[i]? = some (Bt z)) → ∃ l : List UInt8, cs = bts l := by
  intro cs
  induction cs with
  | nil => intro _; exact ⟨[], rfl⟩
  | cons c cs ih =>
    intro h
    obtain ⟨z, hz⟩ := h 0 (by simp)
    obtain ⟨l, hl⟩ := ih (fun i hi => h (i + 1) (by simpa using hi))
    refine ⟨z :: l, ?_⟩
    simp at hz
    rw [hz, hl]
    rfl

/-- an element of such a slice -/
theorem shSlice_form {s : Shape α} {hs : 0 < s.size} {w : World} {ok : Nat → Prop} {v : Value} {ls : List α} (h : (shSlice s hs).rel w ok [v] ls) : ∃ A c, v = .slice A ls.length c ∧ ls.length ≤ c ∧ c ≤ maxLen := by
  obtain ⟨A, c, cells, h1, h2, h3, _⟩ := h
  simp only [List.cons.injEq, and_true] at h1
  exact ⟨A, c, h1, h2, h3⟩
theorem shSlice_at {s : Shape α} {hs : 0 < s.size} {w : World} {ok : Nat → Prop} {A : Option Addr} {n c : Nat} {ls : List α} (h : (shSlice s hs).rel w ok [.slice A n c] ls) {i : Nat} (hi : i < ls.length) :
    ∃ b o cs, A = some ⟨b, o, none⟩ ∧ ok b ∧ s.rel w ok cs ls[i] ∧ RowAt w b (o + i * s.size) cs := by
  obtain ⟨A, c, cells, h1, h2, h3, h4, h5⟩ := h
  simp only [List.cons.injEq, and_true] at h1
  injection h1 with h1 _ _
  subst h1
  obtain ⟨b, o, rfl, hb, hr⟩ := h5.2 (by omega)
  obtain ⟨cs, hc1, hc2⟩ := h4.cells (fun _ _ h => s.len h) i hi
  refine ⟨b, o, cs, rfl, hb, hc1, fun j u hj => ?_⟩
  have hjl : j < s.size := by
    have := (List.getElem?_eq_some_iff.1 hj).1
    rw [s.len hc1] at this
    exact this
  have := hr (i * s.size + j) u ((hc2 j hjl).trans hj)
  rwa [← Nat.add_assoc] at this

/-- whatever is read as an argument of the type has the shape -/
def Opens {α : Type} (P : Program) (t : TypeId) (s : Shape α) : Prop :=
  ∀ (H : Type) (enc : TypeId × Value → H) (w : World) (base : Nat) (spare : Nat → Bool) (held : Bool) (fuel : Nat) (cs : List Value) (x : DataW H × List MemPlace),
    DataW.trod enc P w base spare held fuel t cs = some x → ∃ a, s.rel w (fun b => b < w.heap.size) cs a
section
variable {P : Program} {t e : TypeId}
theorem opens_int {k : IntKind} (ht : P.underlying t = some (.int k)) : Opens P t (shInt k) := by
  intro H enc w base spare held fuel cs x h
  obtain ⟨n, h1, _, h2⟩ := DataW.trod_int ht h
  exact ⟨n, h1, h2⟩
theorem opens_bool (ht : P.underlying t = some .bool) : Opens P t shBool := by
  intro H enc w base spare held fuel cs x h
  obtain ⟨n, h1, _⟩ := DataW.trod_bool ht h
  exact ⟨n, h1⟩
theorem opens_str (ht : P.underlying t = some .string) : Opens P t shStr := by
  intro H enc w base spare held fuel cs x h
  obtain ⟨s, h1, _, h2⟩ := DataW.trod_string ht h
  refine ⟨s.data.toList, ?_, (show s.data.toList.length = s.size from Array.length_toList).symm ▸ h2⟩
  rw [h1]
  exact congrArg (fun q => [Value.string q]) (bstr_of s)
theorem opens_bytes (ht : P.underlying t = some (.slice e)) (he : P.underlying e = some (.int .u8)) (hc : P.cellsOf e = 1) : Opens P t shBytes := by
  intro H enc w base spare held fuel cs x h
  obtain ⟨v, l, h1, h2⟩ := open_bytes_cells ht he hc h
  exact ⟨l, v, h1, h2⟩
theorem opens_arr {n : Nat} (ht : P.underlying t = some (.array n e)) (he : P.underlying e = some (.int .u8)) (hc : P.cellsOf e = 1) (hn : P.cellsOf t = n) : Opens P t (shArr n) := by
  intro H enc w base spare held fuel cs x h
  obtain ⟨xs, m, _, _, hl, hxl, hi⟩ := DataW.trod_array ht h
  rw [hn] at hl
  have each : ∀ i (hi : i < n), ∃ z : UInt8, cs[i]? = some (Bt z) := by
    intro i hin
    have h1 := hi i hin
    rw [hc, Nat.mul_one, List.getElem?_eq_getElem (by omega)] at h1
    obtain ⟨z, h2, _, h3⟩ := DataW.trod_int he h1
    have hb := bounds_u8 h3
    refine ⟨UInt8.ofNat z.toNat, ?_⟩
    have h4 : (cs.drop i)[0]? = some (.int .u8 z) := by
      have := congrArg (fun q => q[0]?) h2
      rw [List.getElem?_take, if_pos (by omega)] at this
      exact this
    rw [List.getElem?_drop, Nat.add_zero] at h4
    rw [h4]
    simp only [Bt, UInt8.toNat_ofNat']
    congr 2
    omega
  clear hi
  obtain ⟨l, h1⟩ := bytes_of cs (by rw [hl]; exact each)
  refine ⟨l, h1, ?_⟩
  have := congrArg List.length h1
  simp at this
  omega
theorem opens_slice {α : Type} {s : Shape α} {hs : 0 < s.size} (ht : P.underlying t = some (.slice e)) (hsz : P.cellsOf e = s.size) (hel : Opens P e s) : Opens P t (shSlice s hs) := by
  intro H enc w base spare held fuel cs x h
  rcases open_slice ht h with ⟨h0, _⟩ | ⟨a, len, cap, m, n, D, Pl, hcs, hb, hl, hm, hmm, hx, hi⟩
  · exact ⟨[], none, 0, [], h0, Nat.le_refl _, by simp [maxLen], .nil, by simpa using Sl.nil _ _ _ _⟩
  · have hlm : len ≤ m := by rw [hmm]; split <;> omega
    have h2 : ∀ i, ∃ cs', i < len → w.cells? base (a.add (i * P.cellsOf e)) (P.cellsOf e) = some cs' ∧ DataW.trod enc P w base spare held n e cs' = some (D i, Pl i) := by
      intro i
      by_cases hil : i < len
      · obtain ⟨cs', h3⟩ := hi i (by omega)
        exact ⟨cs', fun _ => h3⟩
      · exact ⟨[], fun h => absurd h hil⟩
    obtain ⟨f, hf⟩ := Classical.axiomOfChoice h2
    obtain ⟨ls, hal, hea⟩ := Each.of_get (r := s.rel w (fun b => b < w.heap.size)) len f (fun i hil => hel H enc w base spare held n (f i) _ (hf i hil).2)
    refine ⟨ls, some a, cap, _, by rw [hal]; exact hcs, by omega, hm, hea, ?_, fun hp => ?_⟩
    · rw [hea.size (fun _ _ h => s.len h)]
    · rw [hal] at hp
      have cell : ∀ i j, i < len → j < s.size → ∃ u, (f i)[j]? = some u ∧ w.cell? (a.add (i * s.size + j)) = some u := by
        intro i j hil hj
        have hc := (hf i hil).1
        rw [hsz] at hc
        obtain ⟨_, hcl, hat⟩ := World.cells?_some hc
        have h4 := hat j hj
        have h5 : (f i)[j]? = some ((f i)[j]'(by omega)) := List.getElem?_eq_getElem (by omega)
        refine ⟨_, h5, ?_⟩
        rw [← Go.Deep.add_add, h4, h5]
      obtain ⟨u0, _, h0⟩ := cell 0 0 hp hs
      obtain ⟨b, o, sp⟩ := a
      have hsp : sp = none := by
        cases sp with
        | none => rfl
        | some k =>
          exfalso
          rw [show (⟨b, o, some k⟩ : Addr).add (0 * s.size + 0) = ⟨b, o, some k⟩ from by simp [Addr.add]] at h0
          simp only [World.cell?] at h0
          split at h0 <;> simp at h0
      subst hsp
      rw [add_mk] at h0
      refine ⟨b, o, rfl, World.block_lt_of_cell? w _ h0, fun q u hq => ?_⟩
      have hlen : ((List.range len).map f).flatten.length = len * s.size := by rw [hea.size (fun _ _ h => s.len h), hal]
      have hql : q < len * s.size := by
        have := (List.getElem?_eq_some_iff.1 hq).1
        omega
      have hqi : q / s.size < len := (Nat.div_lt_iff_lt_mul hs).2 hql
      have hqj : q % s.size < s.size := Nat.mod_lt _ hs
      have hqe : q = q / s.size * s.size + q % s.size := by rw [Nat.mul_comm]; exact (Nat.div_add_mod _ _).symm
      obtain ⟨u', hu1, hu2⟩ := cell _ _ hqi hqj
      obtain ⟨c, hc1, hc2⟩ := Each.cells' hea (fun _ _ h => s.len h) (q / s.size) (by omega)
      have h6 := hc2 _ hqj
      rw [← hqe, hq] at h6
      rw [List.getElem?_map, List.getElem?_range hqi] at hc1
      simp only [Option.map_some, Option.some.injEq] at hc1
      rw [← hc1, hu1] at h6
      rw [h6, ← hu2, ← hqe, add_mk]
/-- fields one behind the other -/
def OpensF {α : Type} (P : Program) (fs : List Field) (off : Nat) (s : Shape α) : Prop :=
  ∀ (H : Type) (enc : TypeId × Value → H) (w : World) (base : Nat) (spare : Nat → Bool) (held : Bool) (n : Nat) (cs : List Value) (xs : List (DataW H × List MemPlace)),
    cs.length = off + s.size → xs.length = fs.length → (∀ (i : Nat) (f : Field), fs[i]? = some f → DataW.trod enc P w base spare held n f.type ((cs.drop f.offset).take (P.cellsOf f.type)) = xs[i]?) →
    ∃ a, s.rel w (fun b => b < w.heap.size) (cs.drop off) a
theorem opensF_nil (off : Nat) : OpensF P [] off shUnit := by
  intro H enc w base spare held n cs xs hl _ _
  refine ⟨(), ?_⟩
  show cs.drop off = []
  rw [List.drop_eq_nil_iff]
  simp [shUnit] at hl
  omega
theorem opensF_cons {α β : Type} {f : Field} {fs : List Field} {off : Nat} {s : Shape α} {s' : Shape β} (h1 : Opens P f.type s) (ho : f.offset = off) (hsz : P.cellsOf f.type = s.size) (h2 : OpensF P fs (off + s.size) s') :
    OpensF P (f :: fs) off (shPair s s') := by
  intro H enc w base spare held n cs xs hl hxl hf
  have hl' : cs.length = off + (s.size + s'.size) := hl
  obtain ⟨x, xs', rfl⟩ : ∃ x xs', xs = x :: xs' := by
    cases xs with
    | nil => simp at hxl
    | cons x xs' => exact ⟨x, xs', rfl⟩
  have h0 := hf 0 f rfl
  rw [ho, hsz] at h0
  obtain ⟨a, ha⟩ := h1 H enc w base spare held n _ x h0
  obtain ⟨b, hb⟩ := h2 H enc w base spare held n cs xs' (by rw [hl']; omega) (by simpa using hxl) (fun i g hg => by have := hf (i + 1) g (by simpa using hg); simpa using this)
  refine ⟨(a, b), _, _, ?_, ha, hb⟩
  rw [← List.drop_drop, List.take_append_drop]
theorem opens_struct {α : Type} {fs : Array Field} {s : Shape α} (ht : P.underlying t = some (.struct fs)) (hc : P.cellsOf t = s.size) (h : OpensF P fs.toList 0 s) : Opens P t s := by
  intro H enc w base spare held fuel cs x hx
  obtain ⟨xs, n, _, _, hl, hxl, hi⟩ := DataW.trod_struct ht hx
  obtain ⟨a, ha⟩ := h H enc w base spare held n cs xs (by omega) (by simpa using hxl) (fun i f hf => hi i f (by simpa using hf))
  exact ⟨a, by simpa using ha⟩
/-- an argument -/
theorem open_shape {α : Type} {s : Shape α} (ho : Opens P t s) {H : Type} {enc : TypeId × Value → H} {w : World} {base b0 : Nat} {spare : Nat → Bool} {held : Bool} {r : Reach} {v : Value} {d : DataW H} {p : List MemPlace}
    (_hv : Value.okWide P w r b0 t v) (h : DataW.Trod enc P w base spare held t v d p) : ∃ a, s.rel w (fun b => b < w.heap.size) v.cells.toList a := by
  obtain ⟨fuel, hf⟩ := h
  exact ho H enc w base spare held fuel _ _ hf
theorem open_sl {α : Type} {s : Shape α} {hs : 0 < s.size} (ht : P.underlying t = some (.slice e)) (ho : Opens P t (shSlice s hs)) {H : Type} {enc : TypeId × Value → H} {w : World} {base b0 : Nat} {spare : Nat → Bool} {held : Bool} {r : Reach} {v : Value} {d : DataW H} {p : List MemPlace}
    (hv : Value.okWide P w r b0 t v) (h : DataW.Trod enc P w base spare held t v d p) : ∃ a, (shSlice s hs).rel w (fun b => b < w.heap.size) [v] a := by
  obtain ⟨a, ha⟩ := open_shape ho hv h
  obtain ⟨A, len, cap, rfl⟩ := okWide_slice ht hv
  exact ⟨a, by simpa [Value.cells] using ha⟩
end
end Go.Proofs.Ytlbpeihdedhjiaa
