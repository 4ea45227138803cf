/- merkle.Root: what it answers; of one sum alone. -/
import Derived.Test.YtpcombaecbjmfaaHd
import Derived.Test.YtpcombaecbjmfaaSt
import Derived.Laws.ResultCell
namespace Go.Proofs.Ytpcombaecbjmfaa
open Go.RowKit
abbrev Id32 := List UInt8
/-- a level's pairs -/
def mup : List Id32 → List Id32
  | [] => []
  | [a] => [sha2 (a ++ a)]
  | a :: b :: r => sha2 (a ++ b) :: mup r
/-- two that are a pair are the same -/
def mtw : List Id32 → Bool
  | a :: b :: r => a == b || mtw r
  | _ => false
/-- level by level -/
def mrootN : Nat → List Id32 → Bool → Id32 × Bool
  | 0, row, tw => (row.getD 0 (List.replicate 32 0), tw)
  | n + 1, row, tw => if row.length ≤ 1 then (row.getD 0 (List.replicate 32 0), tw) else mrootN n (mup row) (tw || mtw row)
def mroot (ids : List Id32) : Id32 × Bool := mrootN ids.length ids false
theorem mroot_one (a : Id32) : mroot [a] = (a, false) := rfl
/-- merkle.Root answers so for so many sums -/
def MerkleOk (m : Nat) : Prop :=
  ∀ (w : World) (L : Option Addr) (k : Nat) (ids : List Id32) (ok : Nat → Prop), ids.length = m → (∀ x ∈ ids, x.length = 32) → Sl w ok 32 L m (ids.flatMap bts) →
    Calls Try.prog 52 #[.slice L m k] w fun e w' => e = .returned (.tuple #[idV (mroot ids).1, .bool (mroot ids).2]) ∧ Below w.heap.size w w'
theorem infoIDz : (Try.prog.info? 32).map (fun i => (i.zero, i.size, i.bytes)) = some (some (.agg zeros32.toArray), 32, 32) := by kernel_rfl
theorem results_row_tmp {P : Program} {fn : Func} {p u : Tmp} {ty : TypeId} (h : fn.results = #[.cell p ty, .tmp u]) (tmps : Array Value) (w : World) (g : Nat) (t : TypeId) (cs : Array Value) (fr : Nat × Nat) (d : TypeDesc)
    (hp : tmps.getD p undef = .pointer (some ⟨g, 0, none⟩)) (hg : w.heap[g]? = some (.cells cs t fr))
    (hu : P.underlying ty = some d) (hd : (match d with | .struct _ | .array _ _ => true | _ => false) = true) (hi : (P.info? ty).map (·.size) = some cs.size) :
    (results fn tmps).run P w = .ok (.tuple #[.agg cs, tmps.getD u undef]) w := by
  rw [results_cell_tmp h, hp]
  simp [asAddr, Result.andThen, run_loadVar_row w g t ty cs fr d hg hu hd hi]
set_option maxRecDepth 20000 in
set_option maxHeartbeats 4000000 in
theorem merkle1 : MerkleOk 1 := by
  intro w L k ids ok hl h32 hs
  obtain ⟨x, rfl⟩ : ∃ x, ids = [x] := by
    match ids, hl with
    | [x], _ => exact ⟨x, rfl⟩
  have hx : x.length = 32 := h32 x (by simp)
  rw [mroot_one]
  simp only [List.flatMap_cons, List.flatMap_nil, List.append_nil] at hs
  have HS := Lib.hid hs
  clear hl h32 hs
  go_enter Try.func52, Try.ntmps52
  go_upto_region 4 with fail
  generalize hW : World.alloc w _ = W
  have hb2 : Blk W w.heap.size 32 zeros32.toArray := by rw [← hW]; exact Blk.new _ _ _
  have hbl : Below w.heap.size w W := by rw [← hW]; exact (Below.refl _ _).alloc (Nat.le_refl _) _
  clear hW
  have hs2 : Sl (W.alloc (.cells #[] 32)) (fun b => ok b ∧ b < w.heap.size) 32 L 1 (bts x) := ((HS.out.lt (by omega)).below (hbl.alloc hbl.size _) (fun b _ h => h.2) (by omega))
  obtain ⟨q, hq⟩ : ∃ q, w.heap.size = q := ⟨_, rfl⟩
  rw [hq] at hb2 hs2 ⊢
  have HQ := Lib.hid hq
  have HB2 := Lib.hid hb2
  have HBL := Lib.hid hbl
  have HS2 := Lib.hid hs2
  clear hq hb2 hbl hs2
  go_wp2_with (at_builtin; refine wpList_app _ rfl (.tmp 12) (.tmp 13) 68 rfl W.heap.size 32 _ 32 32 Try.underlying68 infoIDz (by rfl) (by decide) (some ⟨W.heap.size, 0, none⟩) 0 0 rfl L 1 k rfl [] (World.ownsRow_lit W #[] 0 (Nat.le_refl _) (by decide) rfl) _ _ HS2.out (bts_one _) (by decide) (by decide) ?hbase ?next)
  case hbase => simp
  case next =>
    intro A' c' w1 hown1 ho1 hat1
    have hown1 : w1.ownsRow W.heap.size 32 32 (.slice A' 1 c') 1 (bts x) := hown1
    have hob : Only (fun b => W.heap.size ≤ b) W w1 := ((Only.refl (fun b => W.heap.size ≤ b) W).alloc _).trans ho1 (fun b hb e => by simp [Value.ownBlock] at e; omega)
    have hz1 : Blk w1 q 32 zeros32.toArray := HB2.out.only hob (by have := HB2.out.lt; omega)
    have hbl1 := HBL.out.trans (hob.below HBL.out.size (fun b hb e => by have := HBL.out.size; omega))
    have hsl := Sl.of_own hown1
    obtain ⟨b, o, rfl, hb, hrow⟩ := hsl.2 (by omega)
    have HZ1 := Lib.hid hz1
    have HBL1 := Lib.hid hbl1
    have HROW := Lib.hid hrow
    clear hown1 ho1 hat1 hob hz1 hbl1 hsl hrow hb
    go_wp2_with fail
    go_loopg [4, 5] 0 (fun _ v4 v5 wr => v4 = .bool false ∧ v5 = .slice (some ⟨b, o, none⟩) 1 c' ∧ w1 = wr)
    case atStart => exact ⟨rfl, rfl, rfl⟩
    case round =>
      obtain ⟨rfl, rfl, rfl⟩ := hrel
      go_wp2_with (first
        | (with_reducible refine wpList_ld rfl 32 (.tmp 69) rfl b o rfl (bts x) HROW.out _ Try.underlying32 rfl 32 infoID (by rw [bts_length, hx]) ?_)
        | (with_reducible refine wpList_stb rfl 32 (.tmp 2) (.tmp 70) rfl q 0 _ rfl rfl 32 zeros32 HZ1.out ?h1 ?h2 ?h3 ?_))
      case h1 => simp [zeros32, hx]
      case h2 => rw [infoID]; simp [hx]
      case h3 => exact bts_one _
      intro w3 b3 o3
      rw [over_all _ _ (by simp [zeros32, hx])] at b3
      have HB3 := Lib.hid b3
      have O3 := Lib.hid o3
      clear b3 o3
      go_wp2
      refine bodyPost_ret (results_row_tmp rfl _ _ q 32 (bts x).toArray (0, 0) _ rfl HB3.out Try.underlying32 rfl (by rw [infoID]; simp [hx])) rfl ?_
      exact ⟨rfl, HBL1.out.trans (O3.out.below HBL1.out.size (fun b hb e => by have := HQ.out; omega))⟩
end Go.Proofs.Ytpcombaecbjmfaa
