/- A region whose order is drawn and whose operations make new blocks alone: what each of them yields is told once, not once for each order. No program in sight. -/
import Derived.Test.YtlbpeihdedhjiaaRt
import Derived.Test.YtlbpeihdedhjiaaWa
import Derived.OrdersHeld
namespace Go.Proofs.Ytlbpeihdedhjiaa
open Go.RowKit
section
variable {P : Program} {ops : Array Oper} {md : Region.Mode} {Q : Exit → Act → World → Prop}
/-- does operation o wait for number j? -/
def waits (md : Region.Mode) (o : Oper) (j : Nat) : Bool := o.after.any fun e => Region.binds md e && e.on == j
/-- each waits for earlier ones alone, and none has a guard -/
def setsOk (md : Region.Mode) (ops : Array Oper) : Bool := (List.range ops.size).all fun i => match ops[i]? with
  | some o => o.guard.isNone && o.after.all fun e => !Region.binds md e || decide (e.on < i)
  | none => true
theorem setsOk_spec {i : Nat} {o : Oper} (h : setsOk md ops = true) (ho : ops[i]? = some o) : o.guard = none ∧ ∀ e ∈ o.after, Region.binds md e = true → e.on < i := by
  have hi : i < ops.size := (Array.getElem?_eq_some_iff.1 ho).1
  have := List.all_eq_true.1 h i (List.mem_range.2 hi)
  rw [ho] at this
  simp only [Bool.and_eq_true, Option.isNone_iff_eq_none, Array.all_eq_true_iff_forall_mem, Bool.or_eq_true, Bool.not_eq_true', decide_eq_true_eq] at this
  refine ⟨this.1, fun e he hb => ?_⟩
  rcases this.2 e he with h1 | h1
  · rw [hb] at h1; cases h1
  · exact h1
theorem wpAnyH_sets (hok : setsOk md ops = true) (w0 : World) (R : World → World → Prop) (hRt : ∀ w w', R w0 w → R w w' → R w0 w') (frame : (Nat → Value) → Act) (V : Nat → Value → World → Prop)
    (hV : ∀ i v w w', V i v w → R w w' → V i v w')
    (hstep : ∀ i o, ops[i]? = some o → ∀ (x : Nat → Value) (w : World), R w0 w → (∀ j, waits md o j = true → V j (x j) w) →
      ∀ K : Act → World → Prop, (∀ v w', R w w' → V i v w' → K (frame fun k => if k = i then v else x k) w') → o.wp P (frame x) w K Q)
    (hfin : ∀ (x : Nat → Value) (w : World), R w0 w → (∀ i, i < ops.size → V i (x i) w) → Q .normal (frame x) w) :
    ∀ (fuel : Nat) (listed : Array Bool) (x : Nat → Value) (w : World), listed.size = ops.size → listed.toList.count false ≤ fuel → R w0 w → (∀ i, listed[i]? = some true → V i (x i) w) →
      wpAnyH P md ops Q (fun _ => True) fuel listed (frame x) w := by
  have hready : ∀ listed : Array Bool, listed.size = ops.size → Region.ready md ops listed = [] → ∀ i, i < ops.size → listed[i]? = some true := by
    intro listed hsz hr i
    induction i using Nat.strongRecOn with
    | ind i ih =>
      intro hi
      have hl : i < listed.size := by omega
      rw [Array.getElem?_eq_getElem hl]
      cases hb : listed[i] with
      | true => rfl
      | false =>
        exfalso
        have hmem : i ∈ Region.ready md ops listed := by
          unfold Region.ready
          rw [List.mem_filter]
          refine ⟨List.mem_range.2 hi, ?_⟩
          have ho : ops[i]? = some ops[i] := Array.getElem?_eq_getElem hi
          obtain ⟨_, h2⟩ := setsOk_spec hok ho
          rw [ho]
          simp only [Array.getD_eq_getD_getElem?, Array.getElem?_eq_getElem hl, hb, Option.getD_some, Bool.not_false, Bool.true_and, Option.map_some]
          rw [Array.all_eq_true_iff_forall_mem]
          intro e he
          cases hbe : Region.binds md e with
          | false => rfl
          | true =>
            have h3 := h2 e he hbe
            have h4 := ih e.on h3 (by omega)
            rw [h4]
            rfl
        rw [hr] at hmem
        cases hmem
  intro fuel
  induction fuel with
  | zero =>
    intro listed x w hsz hc hw hl
    have hall : ∀ i, i < ops.size → listed[i]? = some true := by
      intro i hi
      have hli : i < listed.size := by omega
      rw [Array.getElem?_eq_getElem hli]
      cases hb : listed[i] with
      | true => rfl
      | false =>
        exfalso
        have : false ∈ listed.toList := by rw [← hb]; exact Array.getElem_mem_toList hli
        have := List.count_pos_iff.2 this
        omega
    refine ⟨?_, hfin x w hw (fun i hi => hl i (hall i hi))⟩
    unfold Region.ready
    rw [List.filter_eq_nil_iff]
    intro i hi
    have := hall i (List.mem_range.1 hi)
    simp [Array.getD_eq_getD_getElem?, this]
  | succ fuel ih =>
    intro listed x w hsz hc hw hl
    refine ⟨fun hr => hfin x w hw (fun i hi => hl i (hready listed hsz hr i hi)), ?_⟩
    intro i hi
    obtain ⟨hun, o, ho, hdep⟩ := mem_ready.1 hi
    obtain ⟨hg, _⟩ := setsOk_spec hok ho
    have hio : i < ops.size := (Array.getElem?_eq_some_iff.1 ho).1
    have hil : i < listed.size := by omega
    have hbi : listed[i] = false := by simpa [Array.getD_eq_getD_getElem?, Array.getElem?_eq_getElem hil] using hun
    unfold wpOp
    simp only [ho]
    rw [if_pos (by simp [Region.wanted, hg])]
    refine .inl (hstep i o ho x w hw ?_ _ ?_)
    · intro j hj
      obtain ⟨k, hk, hbe⟩ := Array.any_eq_true.1 hj
      have he := Array.getElem_mem hk
      obtain ⟨e, hee⟩ : ∃ e, o.after[k] = e := ⟨_, rfl⟩
      rw [hee] at he hbe
      simp only [Bool.and_eq_true, beq_iff_eq] at hbe
      have := hdep e he hbe.1
      rw [hbe.2] at this
      refine hl j ?_
      rw [Array.getD_eq_getD_getElem?] at this
      cases hgj : listed[j]? with
      | none => rw [hgj] at this; simp at this
      | some b => rw [hgj] at this; simp at this; rw [this]
    · intro v w' hww hv
      refine ⟨trivial, ih _ _ w' (by simpa using hsz) ?_ (hRt _ _ hw hww) ?_⟩
      · have h1 := List.count_set (a := true) (b := false) (l := listed.toList) (i := i) (by simpa using hil)
        have h2 : (listed.setIfInBounds i true).toList = listed.toList.set i true := by simp
        have h5 : listed.toList[i]'(by simpa using hil) = false := by rw [Array.getElem_toList]; exact hbi
        rw [h2, h1, h5, if_pos (by rfl), if_neg (by decide)]
        omega
      · intro k hk
        by_cases hki : k = i
        · subst hki; simp only [if_true]; exact hv
        · simp only [if_neg hki]
          refine hV k _ _ _ (hl k ?_) hww
          rw [Array.getElem?_setIfInBounds_ne (fun e => hki e.symm)] at hk
          exact hk
/-- the frame in which the operations' temporaries hold these values -/
def frameOf : List Oper → Nat → (Nat → Value) → Act → Act
  | [], _, _, a => a
  | o :: r, k, x, a => frameOf r (k + 1) x (a.put o.dst (x k))
def dstsOk : List Oper → Bool
  | [] => true
  | o :: r => (match o.dst with | some d => r.all (fun p => p.dst != some d) | none => true) && dstsOk r
theorem put_put (a : Act) (y : Option Tmp) (u v : Value) : (a.put y u).put y v = a.put y v := by
  cases y with
  | none => rfl
  | some d => simp [Act.put]
theorem frame_comm (l : List Oper) (y : Option Tmp) (v : Value) (h : ∀ o ∈ l, ∀ d, y = some d → o.dst ≠ some d) : ∀ (k : Nat) (x : Nat → Value) (a : Act), (frameOf l k x a).put y v = frameOf l k x (a.put y v) := by
  induction l with
  | nil => intro k x a; rfl
  | cons o l ih =>
    intro k x a
    simp only [frameOf]
    rw [ih (fun p hp => h p (by simp [hp])), ← Act.put_comm a v (x k) (fun d hd => h o (by simp) d hd)]
theorem frame_same (l : List Oper) : ∀ (k : Nat) (x x' : Nat → Value) (a : Act), (∀ m, k ≤ m → x m = x' m) → frameOf l k x a = frameOf l k x' a := by
  induction l with
  | nil => intro k x x' a _; rfl
  | cons o l ih =>
    intro k x x' a h
    simp only [frameOf]
    rw [h k (Nat.le_refl _), ih (k + 1) x x' _ (fun m hm => h m (by omega))]
theorem frame_put (l : List Oper) (hd : dstsOk l = true) : ∀ (k i : Nat) (o : Oper) (x : Nat → Value) (a : Act) (v : Value), l[i]? = some o → (frameOf l k x a).put o.dst v = frameOf l k (fun m => if m = k + i then v else x m) a := by
  induction l with
  | nil => intro k i o x a v h; simp at h
  | cons o0 l ih =>
    intro k i o x a v h
    simp only [dstsOk, Bool.and_eq_true] at hd
    cases i with
    | zero =>
      simp at h
      subst h
      simp only [frameOf, Nat.add_zero]
      rw [frame_comm l o0.dst v (fun p hp d hdd => by
        have := hd.1
        rw [hdd] at this
        have := List.all_eq_true.1 this p hp
        simpa using this), put_put, if_pos True.intro]
      exact frame_same l _ _ _ _ (fun m hm => by rw [if_neg (by omega)])
    | succ i =>
      simp at h
      simp only [frameOf]
      rw [ih hd.2 (k + 1) i o x _ v h, if_neg (by omega), show k + 1 + i = k + (i + 1) by omega]
theorem frame_self (l : List Oper) : ∀ (k : Nat) (x : Nat → Value) (a : Act), (∀ i o d, l[i]? = some o → o.dst = some d → x (k + i) = a.tmps.getD d undef) → frameOf l k x a = a := by
  induction l with
  | nil => intro k x a _; rfl
  | cons o l ih =>
    intro k x a h
    simp only [frameOf]
    have h0 : a.put o.dst (x k) = a := by
      cases hdd : o.dst with
      | none => rfl
      | some d =>
        have := h 0 o d (by simp) hdd
        rw [Nat.add_zero] at this
        rw [this]
        obtain ⟨t, df⟩ := a
        simp only [Act.put, Act.mk.injEq, and_true]
        apply Array.ext_getElem?
        intro j
        rw [Array.getElem?_setIfInBounds]
        split
        · rename_i hj
          subst hj
          split
          · rename_i hlt
            simp [hlt]
          · rename_i hlt
            rw [Array.getElem?_eq_none (by omega)]
        · rfl
    rw [h0]
    exact ih (k + 1) x a (fun i o' d hi hd' => by
      have := h (i + 1) o' d (by simpa using hi) hd'
      rw [← this]
      congr 1
      omega)
/-- THE BEGINNING: the first n are walked by sets, the others are a plain list -/
theorem wp_region_sets {id : Nat} {a : Act} {w : World} {l : List Oper} (n : Nat) (hm : P.follows .mixedOrders = true) (hn : n ≤ l.length) (hB : tailOk .any l.toArray n = true) (hok : setsOk .any (l.take n).toArray = true) (hd : dstsOk (l.take n) = true)
    (R : World → World → Prop) (hRr : R w.drew w.drew) (hRt : ∀ w1 w2, R w.drew w1 → R w1 w2 → R w.drew w2) (V : Nat → Value → World → Prop) (hV : ∀ i v w w', V i v w → R w w' → V i v w')
    (hstep : ∀ i o, (l.take n)[i]? = some o → ∀ (x : Nat → Value) (w' : World), R w.drew w' → (∀ j, waits .any o j = true → V j (x j) w') →
      ∀ K : Act → World → Prop, (∀ v w'', R w' w'' → V i v w'' → K ((frameOf (l.take n) 0 x a).put o.dst v) w'') → o.wp P (frameOf (l.take n) 0 x a) w' K (TailQ P l.toArray Q (l.drop n)))
    (hfin : ∀ (x : Nat → Value) (w' : World), R w.drew w' → (∀ i, i < n → V i (x i) w') → wpList P l.toArray Q (l.drop n) (frameOf (l.take n) 0 x a) w') : (Code.region id l.toArray true).wp P Q a w := by
  refine wp_region_tail (S := fun _ => True) n hm hn hB trivial (fun _ => ?_)
  have hlen : (l.take n).length = n := by rw [List.length_take]; omega
  have h0 : frameOf (l.take n) 0 (fun k => match (l.take n)[k]? with | some o => (match o.dst with | some d => a.tmps.getD d undef | none => undef) | none => undef) a = a := by
    refine frame_self _ _ _ _ (fun i o d hi hdd => ?_)
    simp only [Nat.zero_add, hi, hdd]
  obtain ⟨x0, hx0⟩ : ∃ x0, frameOf (l.take n) 0 x0 a = a := ⟨_, h0⟩
  have key := wpAnyH_sets (P := P) (ops := (l.take n).toArray) (md := .any) (Q := TailQ P l.toArray Q (l.drop n)) hok w.drew R hRt (fun x => frameOf (l.take n) 0 x a) V hV
    (fun i o ho x w' hw hdep K hK => by
      have ho' : (l.take n)[i]? = some o := by simpa using ho
      refine hstep i o ho' x w' hw hdep K (fun v w'' hb hv => ?_)
      have := hK v w'' hb hv
      rw [frame_put _ hd 0 i o x a v ho']
      simpa using this)
    (fun x w' hw hl => hfin x w' hw (fun i hi => hl i (by rw [List.size_toArray, hlen]; exact hi)))
    n (List.replicate n false).toArray x0 w.drew (by simp [hlen]) (by simp) hRr (fun i hi => by
      rw [List.getElem?_toArray, List.getElem?_replicate] at hi
      split at hi <;> simp at hi)
  rw [hx0] at key
  exact key
end
end Go.Proofs.Ytlbpeihdedhjiaa
