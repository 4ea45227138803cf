import Derived.Test.YtlbpeihdedhjiaaRows
import Derived.Test.YtlbpeihdedhjiaaWa
import Derived.Deep.DeepMust
import Derived.Deep.LoopGhost
namespace Go.Proofs.Ytlbpeihdedhjiaa
open Go.RowKit
theorem infoU8 : (Try.prog.info? 5).map (fun i => (i.zero, i.size, i.bytes)) = some (some (.int .u8 0), 1, 1) := by kernel_rfl

/-- the writer at block g has written the bytes l; its row is block r -/
def IsWr (w : World) (B g : Nat) (r : Option Nat) (l : List UInt8) : Prop :=
  ∃ A c, Blk w g 120 #[.slice A l.length c] ∧ B ≤ g ∧ (Value.slice A l.length c).ownBlock = r ∧ w.ownsRow B 5 1 (.slice A l.length c) l.length (bts l)
/-- the frame of what is written: the writer, and its row -/
def WrS (g : Nat) (r : Option Nat) (b : Nat) : Prop := b = g ∨ r = some b
/-- the row is the same, or a new one -/
def WrR (w : World) (r r' : Option Nat) : Prop := r' = r ∨ ∃ b, r' = some b ∧ w.heap.size ≤ b
theorem WrR.refl (w : World) (r : Option Nat) : WrR w r r := .inl rfl
theorem WrR.trans {w w1 : World} {r r1 r2 : Option Nat} (h : WrR w r r1) (k : WrR w1 r1 r2) (hs : w.heap.size ≤ w1.heap.size) : WrR w r r2 := by
  rcases k with rfl | ⟨b, rfl, hb⟩
  · exact h
  · exact .inr ⟨b, rfl, by omega⟩
theorem WrS.trans {w w1 w2 : World} {g : Nat} {r r1 : Option Nat} (h : Only (WrS g r) w w1) (hr : WrR w r r1) (k : Only (WrS g r1) w1 w2) : Only (WrS g r) w w2 :=
  h.trans k (fun b hb hk => by
    rcases hk with rfl | rfl
    · exact .inl rfl
    · rcases hr with rfl | ⟨b', e, hb'⟩
      · exact .inr rfl
      · injection e with e; omega)
theorem IsWr.lt {w : World} {B g : Nat} {r : Option Nat} {l : List UInt8} (h : IsWr w B g r l) : g < w.heap.size := by
  obtain ⟨A, c, hb, _⟩ := h
  exact hb.lt
theorem IsWr.ge {w : World} {B g : Nat} {r : Option Nat} {l : List UInt8} (h : IsWr w B g r l) : B ≤ g := by
  obtain ⟨A, c, _, hb, _⟩ := h
  exact hb
theorem IsWr.row {w : World} {B g : Nat} {r : Option Nat} {l : List UInt8} (h : IsWr w B g r l) {b : Nat} (hr : r = some b) : B ≤ b ∧ b < w.heap.size ∧ b ≠ g := by
  obtain ⟨A, c, hb, _, ha, ho⟩ := h
  have h1 := ho.lt b (ha.trans hr)
  refine ⟨h1.1, h1.2, ?_⟩
  rintro rfl
  exact own_blk_ne ho hb (by decide) (ha.trans hr)
theorem IsWr.only {w w1 : World} {B g : Nat} {r : Option Nat} {l : List UInt8} {S : Nat → Prop} (h : IsWr w B g r l) (hw : Only S w w1) (hg : ¬ S g) (hr : ∀ b, r = some b → ¬ S b) : IsWr w1 B g r l := by
  obtain ⟨A, c, hb, hB, ha, ho⟩ := h
  exact ⟨A, c, hb.only hw hg, hB, ha, own_only ho hw (fun k hk => hr k (ha.symm.trans hk))⟩
theorem WrS.below {w w1 : World} {B g : Nat} {r : Option Nat} {l : List UInt8} (h : IsWr w B g r l) (hw : Only (WrS g r) w w1) : Below B w w1 :=
  hw.below (by have := h.lt; have := h.ge; omega) (fun b hb hk => by
    rcases hk with rfl | e
    · have := h.ge; omega
    · have := (h.row e).1; omega)
/-- a writer's step: its row has grown, the writer's cell is stored -/
theorem wr_store {w w1 : World} {B g : Nat} {r : Option Nat} {l new : List UInt8} {A A' : Option Addr} {c c' m : Nat} {xs : List Value}
    (hblk : Blk w g 120 #[.slice A l.length c]) (hB : B ≤ g) (hAr : (Value.slice A l.length c).ownBlock = r) (hown0 : w.ownsRow B 5 1 (.slice A l.length c) l.length (bts l)) (o : Obj)
    (hown : w1.ownsRow B 5 1 (.slice A' (l.length + m) c') (l.length + m) (bts l ++ xs)) (hw : Only (fun b => (Value.slice A l.length c).ownBlock = some b) (w.alloc o) w1)
    (hat : (Value.slice A' (l.length + m) c').ownBlock = (Value.slice A l.length c).ownBlock ∨ (Value.slice A' (l.length + m) c').ownBlock = some (w.heap.size + 1)) (hx : xs = bts new) (hm : m = new.length) :
    ∃ r', IsWr (w1.setCell ⟨g, 0, none⟩ (.slice A' (l.length + m) c')) B g r' (l ++ new) ∧ WrR w r r' ∧ Only (WrS g r) w (w1.setCell ⟨g, 0, none⟩ (.slice A' (l.length + m) c')) := by
  subst hx hm
  have hne := own_blk_ne hown0 hblk (by decide)
  have hb1 : Blk w1 g 120 #[.slice A l.length c] := (hblk.alloc o).only hw hne
  have hlen : (l ++ new).length = l.length + new.length := by simp
  refine ⟨_, ⟨A', c', ?_, hB, rfl, ?_⟩, ?_, ?_⟩
  · rw [hlen]
    have := hb1.set_ 0 (.slice A' (l.length + new.length) c')
    simpa using this
  · rw [hlen, bts_append]
    have := own_blk_ne hown hb1 (by decide)
    exact own_only hown (Only.setCell (S := fun b => b = g) (p := ⟨g, 0, none⟩) (Only.refl _ _) (fun _ => rfl) _) (fun k hk e => this (by rw [hk, e]))
  · rw [hlen]
    rcases hat with e | e
    · exact .inl (e.trans hAr)
    · exact .inr ⟨_, e, by simp⟩
  · refine Only.setCell ?_ (fun _ => .inl rfl) _
    exact ((Only.refl (WrS g r) w).alloc o).trans hw (fun b hb h => .inr (by rw [← hAr]; exact h))

theorem wr_store0 {w w1 : World} {B g : Nat} {r : Option Nat} {l new : List UInt8} {A A' : Option Addr} {c c' m : Nat} {xs : List Value}
    (hblk : Blk w g 120 #[.slice A l.length c]) (hB : B ≤ g) (hAr : (Value.slice A l.length c).ownBlock = r) (hown0 : w.ownsRow B 5 1 (.slice A l.length c) l.length (bts l))
    (hown : w1.ownsRow B 5 1 (.slice A' (l.length + m) c') (l.length + m) (bts l ++ xs)) (hw : Only (fun b => (Value.slice A l.length c).ownBlock = some b) w w1)
    (hat : (Value.slice A' (l.length + m) c').ownBlock = (Value.slice A l.length c).ownBlock ∨ (Value.slice A' (l.length + m) c').ownBlock = some w.heap.size) (hx : xs = bts new) (hm : m = new.length) :
    ∃ r', IsWr (w1.setCell ⟨g, 0, none⟩ (.slice A' (l.length + m) c')) B g r' (l ++ new) ∧ WrR w r r' ∧ Only (WrS g r) w (w1.setCell ⟨g, 0, none⟩ (.slice A' (l.length + m) c')) := by
  subst hx hm
  have hne := own_blk_ne hown0 hblk (by decide)
  have hb1 : Blk w1 g 120 #[.slice A l.length c] := hblk.only hw hne
  have hlen : (l ++ new).length = l.length + new.length := by simp
  refine ⟨_, ⟨A', c', ?_, hB, rfl, ?_⟩, ?_, ?_⟩
  · rw [hlen]
    have := hb1.set_ 0 (.slice A' (l.length + new.length) c')
    simpa using this
  · rw [hlen, bts_append]
    have := own_blk_ne hown hb1 (by decide)
    exact own_only hown (Only.setCell (S := fun b => b = g) (p := ⟨g, 0, none⟩) (Only.refl _ _) (fun _ => rfl) _) (fun k hk e => this (by rw [hk, e]))
  · rw [hlen]
    rcases hat with e | e
    · exact .inl (e.trans hAr)
    · exact .inr ⟨_, e, Nat.le_refl _⟩
  · refine Only.setCell ?_ (fun _ => .inl rfl) _
    exact hw.mono (fun b hb h => .inr (by rw [← hAr]; exact h))

/-- the lowest bytes of a number -/
def leb (n i : Nat) : UInt8 := UInt8.ofNat (n / 256 ^ i)
def les (k n : Nat) : List UInt8 := (List.range k).map (leb n)
def le (size : Int) (n : Nat) : List UInt8 := les (min size 8).toNat n
def u64v (n : Nat) : Value := .int .u64 (n : Int)
theorem les_succ (k n : Nat) : les (k + 1) n = les k n ++ [leb n k] := by simp [les, List.range_succ]
theorem pow_8 (t : Nat) : (2 : Int) ^ (8 * t) = ((256 ^ t : Nat) : Int) := by
  rw [Int.pow_mul, Int.natCast_pow]
  rfl
theorem u8_of (k : Nat) : ((UInt8.ofNat k).toNat : Int) = ((k % 256 : Nat) : Int) := by
  rw [UInt8.toNat_ofNat']
theorem leb_cell (n t : Nat) : Value.int .u8 ((n : Int) / 2 ^ (8 * t) % 256) = Bt (leb n t) := by
  unfold Bt leb
  rw [pow_8, u8_of, Int.natCast_emod, Int.natCast_ediv]
  rfl

theorem le_len (size : Int) (n : Nat) : (le size n).length ≤ 8 := by simp [le, les]; omega
theorem flat_len {α β : Type} (f : α → List β) {c : Nat} (h : ∀ a, (f a).length ≤ c) (ns : List α) (j : Nat) : ((ns.take j).flatMap f).length ≤ c * j := by
  induction ns generalizing j with
  | nil => simp
  | cons a ns ih =>
    cases j with
    | zero => simp
    | succ j =>
      simp only [List.take_succ_cons, List.flatMap_cons, List.length_append]
      have := ih j
      have := h a
      rw [Nat.mul_succ]
      omega
theorem flat_snoc {α β : Type} (f : α → List β) (ns : List α) (j : Nat) (a : α) (h : ns[j]? = some a) : (ns.take (j + 1)).flatMap f = (ns.take j).flatMap f ++ f a := by
  rw [List.take_add_one, h]
  simp
theorem put_snoc (l : List UInt8) (ns : List Nat) (size : Int) (j N : Nat) (h : ns[j]? = some N) : l ++ (ns.take j).flatMap (le size) ++ les (min size 8).toNat N = l ++ (ns.take (j + 1)).flatMap (le size) := by
  rw [flat_snoc _ _ _ _ h, List.append_assoc]
  rfl

theorem put_len (l : List UInt8) (ns : List Nat) (size : Int) (j t N : Nat) (h : l.length + 8 * j + t ≤ 1099511627776) : (l ++ (ns.take j).flatMap (le size) ++ les t N).length ≤ 1099511627776 := by
  rw [List.length_append, List.length_append]
  have := flat_len (le size) (le_len size) ns j
  have : (les t N).length = t := by simp [les]
  omega

set_option maxHeartbeats 400000 in
theorem put_any (g B : Nat) (r : Option Nat) (l : List UInt8) (w : World) (L : Option Addr) (m k : Nat) (size : Int) (ns : List Nat) (ok : Nat → Prop) (hm : m < 65536)
    (h : IsWr w B g r l) (hL : Sl w ok 1 L m (ns.map u64v)) (hok : ∀ b, ok b → ¬ WrS g r b) (hl : l.length + 8 * m ≤ 1099511627776) :
    Calls Try.prog 55 #[.pointer (some ⟨g, 0, none⟩), .int .i64 size, .slice L m k] w fun e w' => e = .returned (.tuple #[]) ∧
      ∃ r', IsWr w' B g r' (l ++ ns.flatMap (le size)) ∧ WrR w r r' ∧ Only (WrS g r) w w' := by
  go_enter Try.func55, Try.ntmps55
  go_wp2
  go_loopg [7, 8, 11] m (fun q _ _ i wr => ∃ (j : Nat) (r' : Option Nat) (cur : List UInt8), j + q = m ∧ i = .int .i64 j ∧ Hid (cur = l ++ (ns.take j).flatMap (le size)) ∧ IsWr wr B g r' cur ∧ Hid (WrR w r r') ∧ Only (WrS g r) w wr)
  case atStart => exact ⟨0, r, l, by omega, rfl, by simp [Hid], h, .inl rfl, Only.refl _ _⟩
  case round =>
    obtain ⟨j, r', cur, hj, rfl, HC, hw, hr, ho⟩ := hrel
    by_cases hlt : j < m
    · have hL' := hL.only ho (fun b _ hb => hok b hb) (by omega)
      obtain ⟨b, o, u, rfl, hb, hu, hc⟩ := hL'.at1 hlt
      obtain ⟨N, hN, rfl⟩ : ∃ N : Nat, ns[j]? = some N ∧ u = .int .u64 (N : Int) := by
        rw [List.getElem?_map] at hu
        cases e : ns[j]? with
        | none => rw [e] at hu; cases hu
        | some N => rw [e] at hu; exact ⟨N, rfl, by cases hu; rfl⟩
      clear hu
      have hwl := hw
      go_wp2
      have HU := Lib.hid hN
      clear hN hc
      obtain ⟨wo, rfl⟩ : ∃ wo : World, wo = wr := ⟨_, rfl⟩
      go_loopg [8] 8 (fun q i wr => ∃ (t : Nat) (r2 : Option Nat) (cu : List UInt8), t + q = 8 ∧ Hid ((t : Int) ≤ max 0 size) ∧ i = .int .i64 t ∧ Hid (cu = cur ++ les t N) ∧ IsWr wr B g r2 cu ∧ Hid (WrR wo r' r2) ∧ Only (WrS g r') wo wr)
      case atStart => exact ⟨0, r', cur, by omega, by unfold Hid; omega, rfl, by simp [Hid, les], hwl, .inl rfl, Only.refl _ _⟩
      case round =>
        obtain ⟨t, r2, cu, ht, hts, rfl, HC2, hw2, hr2, ho2⟩ := hrel
        have hw2' := hw2
        obtain ⟨A, c, hblk, hB, hAr, hown⟩ := hw2
        have hcell := hblk.cell 0
        have hfr := hblk.frozen 0
        simp only [List.getElem?_toArray, List.getElem?_cons_zero] at hcell
        have hcl : cu.length ≤ 1099511627776 := by rw [HC2.out, HC.out]; exact put_len l ns size j t N (by omega)
        have HA := Lib.hid hAr
        clear hAr
        by_cases htlt : (t : Int) < size ∧ t < 8
        · obtain ⟨ht1, ht2⟩ := htlt
          go_wp2_with (at_builtin; refine wpList_app _ rfl (.tmp 28) (.tmp 35) 30 rfl B 5 _ 1 1 Try.underlying30 infoU8 rfl (by decide) A cu.length c rfl _ 1 1 rfl (bts cu) (hown.alloc _) (fun b => b = wr.heap.size) _ (Sl.one_new _ _ _) ?hone (by unfold maxLen; omega) (by omega) ?hbase ?next)
          case hone => intro u hu; simp at hu; subst hu; rfl
          case hbase => simp; have := hblk.lt; omega
          case next =>
            intro A' c' w1 hown1 ho1 hat1
            obtain ⟨r3, hw3, hr3, ho3⟩ := wr_store (new := [leb N t]) hblk hB HA.out hown _ hown1 ho1 hat1 (by rw [leb_cell]; rfl) rfl
            have hb1 : Blk w1 g 120 #[.slice A cu.length c] := (hblk.alloc _).only ho1 (own_blk_ne hown hblk (by decide))
            have hcell1 := hb1.cell 0
            have hfr1 := hb1.frozen 0
            simp only [List.getElem?_toArray, List.getElem?_cons_zero] at hcell1
            have HW := Lib.hid hw3
            have HR := Lib.hid hr3
            have HO := Lib.hid ho3
            clear hw3 hr3 ho3 hown1 ho1 hat1 hown
            go_wp2
            go_roundg (7 - t)
            case measure => omega
            case rel => exact ⟨t + 1, r3, _, by omega, by unfold Hid; omega, by go_num, by rw [Hid, HC2.out, les_succ, List.append_assoc], HW.out, hr2.out.trans HR.out ho2.size, WrS.trans ho2 hr2.out HO.out⟩
        · have hte : t = (min size 8).toNat := by have := hts.out; omega
          have HE := Lib.hid hte
          have HT := Lib.hid htlt
          clear hte htlt
          by_cases ht1 : (t : Int) < size
          · have ht2 : ¬ t < 8 := fun h => HT.out ⟨ht1, h⟩
            go_wp2
            go_roundg (m - 1 - j)
            case measure => omega
            case rel => exact ⟨j + 1, r2, cu, by omega, by go_num, by rw [Hid, HC2.out, HC.out, HE.out]; exact put_snoc l ns size j N HU.out, hw2', hr.out.trans hr2.out ho.size, WrS.trans ho hr.out ho2⟩
          · go_wp2
            go_roundg (m - 1 - j)
            case measure => omega
            case rel => exact ⟨j + 1, r2, cu, by omega, by go_num, by rw [Hid, HC2.out, HC.out, HE.out]; exact put_snoc l ns size j N HU.out, hw2', hr.out.trans hr2.out ho.size, WrS.trans ho hr.out ho2⟩
    · go_wp2
      go_end0
      obtain rfl : j = m := by omega
      refine ⟨rfl, r', ?_, hr.out, ho⟩
      have := HC.out
      rw [List.take_of_length_le (by have := hL.len; simp at this; omega)] at this
      rw [← this]
      exact hw
end Go.Proofs.Ytlbpeihdedhjiaa
