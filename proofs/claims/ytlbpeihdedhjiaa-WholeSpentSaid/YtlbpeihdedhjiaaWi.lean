import Derived.Test.YtlbpeihdedhjiaaWh
namespace Go.Proofs.Ytlbpeihdedhjiaa
open Go.RowKit

theorem Sl.lit_new (w : World) (e : TypeId) (vs : List Value) : Sl (w.alloc (.cells vs.toArray e)) (fun b => b = w.heap.size) 1 (some ⟨w.heap.size, 0, none⟩) vs.length vs :=
  ⟨by simp, fun _ => ⟨_, _, rfl, rfl, (Blk.new w e vs.toArray).rowAll⟩⟩

/-- parts that were just laid side by side are written -/
theorem wraw_new (g B : Nat) (r : Option Nat) (l : List UInt8) (w w1 : World) (t : TypeId) (vs : List Value) (ps : List (List UInt8)) (b n k : Nat) (ok : Nat → Prop) (hw1 : w1 = w.alloc (.cells vs.toArray t)) (hb : b = w.heap.size) (hn : n = vs.length)
    (h : IsWr w B g r l) (hps : Each1 (fun p u => IsB w ok u p) ps vs) (hok : ∀ b, b < w.heap.size → ok b → ¬ WrS g r b) (hm : vs.length ≤ 1000) (hp : ∀ p ∈ ps, p.length ≤ 1000000000) (hl : l.length ≤ 100000000000) :
    Calls Try.prog 54 #[.pointer (some ⟨g, 0, none⟩), .slice (some ⟨b, 0, none⟩) n k] w1 fun e w' => e = .returned (.tuple #[]) ∧
      ∃ r', IsWr w' B g r' (l ++ ps.flatten) ∧ WrR w r r' ∧ Only (WrS g r) w w' := by
  subst hw1 hb hn
  have hS : ¬ WrS g r w.heap.size := by
    rintro (e | e)
    · have := h.lt; omega
    · have := (h.row e).2.1; omega
  have ho : Only (fun _ => False) w (w.alloc (.cells vs.toArray t)) := (Only.refl _ w).alloc _
  refine (wraw_any g B r l _ _ vs.length k vs ps (fun b => b = w.heap.size) (fun b => ok b ∧ b < w.heap.size) (h.only ho (fun h => h) (fun _ _ h => h)) (Sl.lit_new w t vs)
    (hps.imp fun p u hu => (hu.weak (ok' := fun b => ok b ∧ b < w.heap.size) fun b hb ho => ⟨ho, hb⟩).only ho (fun _ _ _ h => h)) (fun b _ hb hk => hS (hb ▸ hk)) (fun b _ hb => hok b hb.2 hb.1) hm hp hl).mono ?_
  rintro e w' ⟨rfl, r', h1, h2, h3⟩
  refine ⟨rfl, r', h1, ?_, ?_⟩
  · rcases h2 with e | ⟨b, e, hb⟩
    · exact .inl e
    · exact .inr ⟨b, e, by simp at hb; omega⟩
  · exact ((Only.refl (WrS g r) w).alloc _).trans h3 (fun _ _ h => h)

set_option maxRecDepth 20000 in
set_option maxHeartbeats 400000 in
theorem wtext_any (g B : Nat) (r : Option Nat) (l : List UInt8) (w : World) (v : Value) (p : List UInt8) (ok : Nat → Prop) (h : IsWr w B g r l) (hv : IsB w ok v p) (hok : ∀ b, b < w.heap.size → ok b → ¬ WrS g r b)
    (hp : p.length ≤ 1000000000) (hl : l.length ≤ 10000000000) :
    Calls Try.prog 56 #[.pointer (some ⟨g, 0, none⟩), v] w fun e w' => e = .returned (.tuple #[]) ∧
      ∃ r', IsWr w' B g r' (l ++ (countB p.length ++ p)) ∧ WrR w r r' ∧ Only (WrS g r) w w' := by
  have HV := Lib.hid hv
  have H := Lib.hid h
  obtain ⟨A, n, c, rfl, hn, hnc, hs⟩ := hv
  have hw : IntKind.u64.wrap (n : Int) = (n : Int) := by rw [IntKind.wrap_u64]; omega
  have HN := Lib.hid hn
  have HL := Lib.hid hl
  have HP := Lib.hid hp
  have HOK := Lib.hid hok
  clear hs h hn hl hp hok
  go_enter Try.func56, Try.ntmps56
  go_wp2_with fail
  refine (wcount_any g B r l w n H.out (by have := HL.out; omega)).mono ?_
  rintro e1 w1 ⟨rfl, r1, a1, a2, a3⟩
  have A1 := Lib.hid a1
  have A2 := Lib.hid a2
  have A3 := Lib.hid a3
  clear a1 a2 a3
  go_wp2_with fail
  refine (wraw_new g B r1 _ w1 _ 30 [.slice A n c] [p] _ _ _ (fun b => ok b ∧ b < w.heap.size) rfl rfl rfl A1.out (Each1.one ((HV.out.weak fun b hb ho => ⟨ho, hb⟩).only A3.out (fun b hb ho => HOK.out b ho.2 ho.1))) ?hok (by simp) ?hp ?hl).mono ?_
  case hok =>
    intro b hb ho hk
    rcases hk with e | e
    · exact HOK.out b ho.2 ho.1 (.inl e)
    · rcases A2.out with e2 | ⟨b', e2, hb'⟩
      · exact HOK.out b ho.2 ho.1 (.inr (e2.symm.trans e))
      · rw [e] at e2; injection e2 with e2; omega
  case hp => intro q hq; simp at hq; subst hq; exact HP.out
  case hl => rw [List.length_append]; have := HL.out; have := countB_len n; omega
  rintro e2 w2 ⟨rfl, r2, b1, b2, b3⟩
  have B1 := Lib.hid b1
  have B2 := Lib.hid b2
  have B3 := Lib.hid b3
  clear b1 b2 b3
  go_wp2_with fail
  go_end0
  refine ⟨rfl, r2, ?_, A2.out.trans B2.out A3.out.size, WrS.trans A3.out A2.out B3.out⟩
  have := B1.out
  rw [← HN.out]
  simpa using this
end Go.Proofs.Ytlbpeihdedhjiaa
