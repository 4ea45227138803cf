import Derived.Test.YtpcombaecbjmfaaWd
namespace Go.Proofs.Ytpcombaecbjmfaa
open Go.RowKit

/-- v is a slice of the bytes l in a row of the call's own -/
def OwnB (w : World) (base : Nat) (v : Value) (l : List UInt8) : Prop := ∃ A n c, v = .slice A n c ∧ n = l.length ∧ w.ownsRow base 5 1 (.slice A n c) n (bts l)
theorem OwnB.isB {w : World} {base : Nat} {v : Value} {l : List UInt8} (h : OwnB w base v l) : IsB w (fun b => base ≤ b ∧ b < w.heap.size) v l := by
  obtain ⟨A, n, c, rfl, hn, ho⟩ := h
  exact IsB.of_own ho
theorem OwnB.nil (w : World) (base : Nat) : OwnB w base (.slice none 0 0) [] := ⟨none, 0, 0, rfl, rfl, World.ownsRow_nil _ _ _ _⟩
theorem OwnB.low {w : World} {base base' : Nat} {v : Value} {l : List UInt8} (h : OwnB w base v l) (hb : base' ≤ base) : OwnB w base' v l := by
  obtain ⟨A, n, c, rfl, hn, ho⟩ := h
  exact ⟨A, n, c, rfl, hn, own_low ho hb⟩
theorem OwnB.only {w w' : World} {S : Nat → Prop} {base : Nat} {v : Value} {l : List UInt8} (h : OwnB w base v l) (hw : Only S w w') (hn : ∀ b, base ≤ b → b < w.heap.size → ¬ S b) : OwnB w' base v l := by
  obtain ⟨A, n, c, rfl, hn', ho⟩ := h
  exact ⟨A, n, c, rfl, hn', own_only ho hw (fun k hk => hn k (ho.lt k hk).1 (ho.lt k hk).2)⟩

/-- the reader at block g has the bytes l to read, and the error e; all of it lies from lo on, below hi -/
def IsRd (w : World) (lo hi g : Nat) (l : List UInt8) (e : Int) : Prop :=
  ∃ A n c, Blk w g 122 #[.slice A n c, .int .i64 e] ∧ lo ≤ g ∧ g < hi ∧ n = l.length ∧ n ≤ c ∧ n ≤ 1000000000000 ∧ Sl w (fun b => lo ≤ b ∧ b < hi ∧ b ≠ g) 1 A n (bts l) ∧ hi ≤ w.heap.size
theorem IsRd.lt {w : World} {lo hi g : Nat} {l : List UInt8} {e : Int} (h : IsRd w lo hi g l e) : g < w.heap.size := by
  obtain ⟨A, n, c, hb, _⟩ := h
  exact hb.lt
theorem IsRd.mid {w : World} {lo hi g : Nat} {l : List UInt8} {e : Int} (h : IsRd w lo hi g l e) : lo ≤ g ∧ g < hi := by
  obtain ⟨A, n, c, _, h1, h2, _⟩ := h
  exact ⟨h1, h2⟩
theorem IsRd.hi_le {w : World} {lo hi g : Nat} {l : List UInt8} {e : Int} (h : IsRd w lo hi g l e) : hi ≤ w.heap.size := by
  obtain ⟨A, n, c, _, _, _, _, _, _, _, h7⟩ := h
  exact h7
theorem IsRd.only {w w' : World} {S : Nat → Prop} {lo hi g : Nat} {l : List UInt8} {e : Int} (h : IsRd w lo hi g l e) (hw : Only S w w') (hn : ∀ b, b < w.heap.size → lo ≤ b → b < hi → ¬ S b) : IsRd w' lo hi g l e := by
  obtain ⟨A, n, c, hb, h1, h2, h3, h4, h5, h6, h7⟩ := h
  exact ⟨A, n, c, hb.only hw (hn g hb.lt h1 h2), h1, h2, h3, h4, h5, h6.only hw (fun b hb ho => hn b hb ho.1 ho.2.1) (by omega), Nat.le_trans h7 hw.size⟩

theorem only_set {w w' : World} {g : Nat} (h : Only (fun b => b = g) w w') (i : Nat) (u : Value) : Only (fun b => b = g) w (w'.setCell ⟨g, i, none⟩ u) := h.setCell (p := ⟨g, i, none⟩) (fun _ => rfl) u
/-- what went wrong first -/
def errOf (e c : Int) : Int := if e = 0 then c else e

set_option maxRecDepth 20000 in
set_option maxHeartbeats 400000 in
theorem read_any (w : World) (v : Value) (l : List UInt8) (ok : Nat → Prop) (h : IsB w ok v l) (hl : l.length ≤ 1000000000000) :
    Calls Try.prog 39 #[v] w fun e w' => ∃ g, e = .returned (.pointer (some ⟨g, 0, none⟩)) ∧ IsRd w' w.heap.size w'.heap.size g l 0 ∧ Below w.heap.size w w' := by
  obtain ⟨A, n, c, rfl, hn, hnc, hs⟩ := h
  have hs' := hs.new (Below.alloc (Below.refl _ _) (Nat.le_refl _) (.cells #[] 5)) (by omega)
  have hn' : n ≤ 1000000000000 := by omega
  have HN := Lib.hid hn
  clear hn hl
  go_enter Try.func39, Try.ntmps39
  go_wp2_with (at_builtin; refine wpList_app _ rfl (.tmp 3) (.tmp 4) 28 rfl w.heap.size 5 _ 1 1 Try.underlying28 infoU8 rfl (by decide) (some ⟨w.heap.size, 0, none⟩) 0 0 rfl A n c rfl [] (World.ownsRow_lit w #[] 0 (Nat.le_refl _) (by decide) rfl) _ _ hs' (bts_one _) (by unfold maxLen; omega) (by omega) ?hbase ?next)
  case hbase => simp
  case next =>
    intro A' c' w1 hown1 ho1 hat1
    obtain ⟨_, _, e', hnc', _⟩ := own_form hown1
    injection e' with e1 _ e3
    subst e1 e3
    have HOWN := Lib.hid hown1
    have HO1 := Lib.hid ho1
    clear hown1 ho1 hat1
    go_wp2
    go_ret
    have hB : Below w.heap.size w w1 := (((Only.refl (fun b => w.heap.size ≤ b) w).alloc _).trans HO1.out (fun b hb e => by simp [Value.ownBlock] at e; omega)).below (Nat.le_refl _) (fun b hb h => by omega)
    have hown := HOWN.out
    refine ⟨_, rfl, ?_, hB.alloc hB.size _⟩
    refine ⟨A', n, c', Blk.new _ _ _, hB.size, by simp, HN.out, hnc', hn', ?_⟩
    exact ⟨((Sl.of_own hown).new (Below.alloc (Below.refl _ _) (Nat.le_refl _) _) (by omega)).weak (fun b hb ho => ⟨ho.1, by simp; omega, by omega⟩) (by omega), Nat.le_refl _⟩

set_option maxRecDepth 20000 in
set_option maxHeartbeats 400000 in
theorem fail_any (w : World) (lo hi g : Nat) (l : List UInt8) (e c : Int) (h : IsRd w lo hi g l e) :
    Calls Try.prog 68 #[.pointer (some ⟨g, 0, none⟩), .int .i64 c] w fun e' w' => e' = .returned (.tuple #[]) ∧ IsRd w' lo hi g [] (errOf e c) ∧ Only (fun b => b = g) w w' := by
  obtain ⟨A, n, cp, hblk, h1, h2, h3, h4, h5, h6, h7⟩ := h
  have hc0 := hblk.cell 0
  have hc1 := hblk.cell 1
  have hf0 := hblk.frozen 0
  have hf1 := hblk.frozen 1
  simp only [List.getElem?_toArray, List.getElem?_cons_zero, List.getElem?_cons_succ] at hc0 hc1
  clear h3 h6
  have fin : ∀ w', Blk w' g 122 #[.slice none 0 0, .int .i64 (errOf e c)] → Only (fun b => b = g) w w' → IsRd w' lo hi g [] (errOf e c) ∧ Only (fun b => b = g) w w' := fun w' hb ho => ⟨⟨none, 0, 0, hb, h1, h2, rfl, by omega, by omega, Sl.nil _ _ _ _, Nat.le_trans h7 ho.size⟩, ho⟩
  have FIN := Lib.hid fin
  have HB := Lib.hid hblk
  clear fin hblk h7
  by_cases he : e = 0
  · subst he
    go_enter Try.func68, Try.ntmps68
    go_wp2
    go_end0
    refine ⟨rfl, FIN.out _ ?_ ?_⟩
    · have := (HB.out.set_ 1 (.int .i64 c)).set_ 0 (.slice none 0 0)
      simpa [errOf] using this
    · exact only_set (only_set (Only.refl _ _) _ _) _ _
  · have hd : (e == 0) = false := by simpa using he
    have HE := Lib.hid he
    clear he
    go_enter Try.func68, Try.ntmps68
    go_wp2
    go_end0
    refine ⟨rfl, FIN.out _ ?_ ?_⟩
    · rw [errOf, if_neg HE.out]
      have := HB.out.set_ 0 (.slice none 0 0)
      simpa using this
    · exact only_set (Only.refl _ _) _ _

def rawO (l : List UInt8) (n : Int) : List UInt8 := if n < 0 ∨ (l.length : Int) < n then [] else l.take n.toNat
def rawL (l : List UInt8) (n : Int) : List UInt8 := if n < 0 ∨ (l.length : Int) < n then [] else l.drop n.toNat
def rawE (l : List UInt8) (e n : Int) : Int := if n < 0 ∨ (l.length : Int) < n then errOf e 6 else e
theorem rawO_len (l : List UInt8) (n : Int) : (rawO l n).length ≤ l.length := by unfold rawO; split <;> simp; omega

set_option maxRecDepth 20000 in
set_option maxHeartbeats 400000 in
theorem rraw_any (w : World) (lo hi g : Nat) (l : List UInt8) (e n : Int) (h : IsRd w lo hi g l e) :
    Calls Try.prog 48 #[.pointer (some ⟨g, 0, none⟩), .int .i64 n] w fun e' w' => ∃ v, e' = .returned v ∧ OwnB w' w.heap.size v (rawO l n) ∧ IsRd w' lo hi g (rawL l n) (rawE l e n) ∧ Only (fun b => b = g) w w' := by
  have H0 := Lib.hid h
  obtain ⟨A, m, cp, hblk, h1, h2, h3, h4, h5, h6, h7⟩ := h
  have hc0 := hblk.cell 0
  have hc0' := fun o => (hblk.alloc o).cell 0
  have hf0' := fun o => (hblk.alloc o).frozen 0
  simp only [List.getElem?_toArray, List.getElem?_cons_zero] at hc0 hc0'
  have HM := Lib.hid h3
  have H7 := Lib.hid h7
  clear h3 h7
  by_cases hbad : n < 0 ∨ (m : Int) < n
  · have b1 : rawO l n = [] := by rw [rawO, ← HM.out, if_pos hbad]
    have b2 : rawL l n = [] := by rw [rawL, ← HM.out, if_pos hbad]
    have b3 : rawE l e n = errOf e 6 := by rw [rawE, ← HM.out, if_pos hbad]
    have B1 := Lib.hid b1
    have B2 := Lib.hid b2
    have B3 := Lib.hid b3
    clear b1 b2 b3
    by_cases hn : n < 0
    · clear hbad
      go_enter Try.func48, Try.ntmps48
      go_wp2_with fail
      refine (fail_any w lo hi g l e 6 H0.out).mono ?_
      rintro e1 w1 ⟨rfl, a1, a2⟩
      have A1 := Lib.hid a1
      have A2 := Lib.hid a2
      clear a1 a2
      go_wp2
      go_ret
      exact ⟨_, rfl, by rw [B1.out]; exact OwnB.nil _ _, by rw [B2.out, B3.out]; exact A1.out, A2.out⟩
    · have hgt : (m : Int) < n := by omega
      have hdn : decide (n < 0) = false := by simpa using hn
      clear hbad hn
      go_enter Try.func48, Try.ntmps48
      go_wp2_with fail
      refine (fail_any w lo hi g l e 6 H0.out).mono ?_
      rintro e1 w1 ⟨rfl, a1, a2⟩
      have A1 := Lib.hid a1
      have A2 := Lib.hid a2
      clear a1 a2
      go_wp2
      go_ret
      exact ⟨_, rfl, by rw [B1.out]; exact OwnB.nil _ _, by rw [B2.out, B3.out]; exact A1.out, A2.out⟩
  · obtain ⟨k, rfl⟩ : ∃ k : Nat, n = (k : Int) := ⟨n.toNat, by omega⟩
    have hk : k ≤ m := by omega
    have b1 : rawO l k = l.take k := by rw [rawO, ← HM.out, if_neg hbad]; rfl
    have b2 : rawL l k = l.drop k := by rw [rawL, ← HM.out, if_neg hbad]; rfl
    have b3 : rawE l e k = e := by rw [rawE, ← HM.out, if_neg hbad]
    have B1 := Lib.hid b1
    have B2 := Lib.hid b2
    have B3 := Lib.hid b3
    have hb0 : decide ((m : Int) < (k : Int)) = false := by simp; omega
    have hs1 := (h6.take hk).new (Below.alloc (Below.refl _ _) (Nat.le_refl _) (.cells #[] 5)) (by omega)
    simp only [Nat.mul_one] at hs1
    clear b1 b2 b3 hbad
    have H6 := Lib.hid h6
    have HBK := Lib.hid hblk
    clear h6
    go_enter Try.func48, Try.ntmps48
    go_wp2_with (at_builtin; refine wpList_app _ rfl (.tmp 19) (.tmp 25) 28 rfl w.heap.size 5 _ 1 1 Try.underlying28 infoU8 rfl (by decide) (some ⟨w.heap.size, 0, none⟩) 0 0 rfl A k cp rfl [] (World.ownsRow_lit w #[] 0 (Nat.le_refl _) (by decide) rfl) _ _ hs1 ?hone (by unfold maxLen; omega) (by omega) ?hbase ?next)
    case hone => intro u hu; exact bts_one l u (List.mem_of_mem_take hu)
    case hbase => simp
    case next =>
      intro A' c' w1 hown1 ho1 hat1
      have hb1 : Blk w1 g 122 #[.slice A m cp, .int .i64 e] := (hblk.alloc _).only ho1 (by simp [Value.ownBlock]; have := hblk.lt; omega)
      have hcell1 := hb1.cell 0
      have hfr1 := hb1.frozen 0
      simp only [List.getElem?_toArray, List.getElem?_cons_zero] at hcell1
      have HOWN := Lib.hid hown1
      have HO1 := Lib.hid ho1
      have HB1 := Lib.hid hb1
      have hcut := H6.out.cut hk h4
      simp only [Nat.mul_one] at hcut
      have hon : Only (fun b => b = w.heap.size) w w1 := ((Only.refl _ w).alloc _).trans ho1 (fun b hb e => by simp [Value.ownBlock] at e; omega)
      have key : ∀ Ax M C, M = m - k → C = cp - k → Sl w (fun b => lo ≤ b ∧ b < hi ∧ b ≠ g) 1 Ax (m - k) ((bts l).drop k) → IsRd (w1.setCell ⟨g, 0, none⟩ (.slice Ax M C)) lo hi g (l.drop k) e ∧ Only (fun b => b = g) w (w1.setCell ⟨g, 0, none⟩ (.slice Ax M C)) ∧ OwnB (w1.setCell ⟨g, 0, none⟩ (.slice Ax M C)) w.heap.size (.slice A' k c') (l.take k) := by
        intro Ax M C hM hC hAx
        subst hM hC
        have ho2 : Only (fun b => b = g) w (w1.setCell ⟨g, 0, none⟩ (.slice Ax (m - k) (cp - k))) := only_set (hon.mono (fun b hb e => by omega)) _ _
        have hbd : (bts l).drop k = bts (l.drop k) := by simp [bts]
        refine ⟨⟨Ax, m - k, cp - k, ?_, h1, h2, ?_, by omega, by omega, ?_⟩, ho2, ?_⟩
        · have := HB1.out.set_ 0 (.slice Ax (m - k) (cp - k))
          simpa using this
        · rw [List.length_drop, HM.out]
        · rw [← hbd]
          exact ⟨hAx.only ho2 (fun b hb ho e => ho.2.2 e) (by omega), Nat.le_trans H7.out ho2.size⟩
        · refine ⟨A', k, c', rfl, by rw [List.length_take]; have := HM.out; omega, ?_⟩
          have := HOWN.out
          have hbt : bts (l.take k) = (bts l).take k := by simp [bts]
          rw [hbt]
          exact own_only this (only_set (Only.refl _ _) _ _) (fun b hb e => by have := (this.lt b hb).1; have := HBK.out.lt; omega)
      have KEY := Lib.hid key
      have HCUT := Lib.hid hcut
      clear hown1 ho1 hat1 hb1 hblk hs1 hc0 hc0' key hcut hon
      go_wp2
      · have hne : cp = k := by assumption
        go_ret
        have hc := HCUT.out
        rw [if_pos hne] at hc
        obtain ⟨k1, k2, k3⟩ := KEY.out _ (m - k) 0 rfl (by omega) hc
        exact ⟨_, rfl, by rw [B1.out]; exact k3, by rw [B2.out, B3.out]; exact k1, k2⟩
      · have hne : ¬ cp = k := by assumption
        go_ret
        have hc := HCUT.out
        rw [if_neg hne] at hc
        obtain ⟨k1, k2, k3⟩ := KEY.out _ _ _ rfl rfl hc
        exact ⟨_, rfl, by rw [B1.out]; exact k3, by rw [B2.out, B3.out]; exact k1, k2⟩
end Go.Proofs.Ytpcombaecbjmfaa
