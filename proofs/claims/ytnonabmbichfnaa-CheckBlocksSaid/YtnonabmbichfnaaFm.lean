/- The document's Maker of layer 12. -/
import Derived.Test.YtnonabmbichfnaaFt
namespace Go.Proofs.Ytnonabmbichfnaa
open Go.RowKit
theorem zid_of (l : List UInt8) (hl : l.length = 32) (h : ∀ j (hj : j < 32), l[j]'(by omega) = 0) : l = zid := by
  apply List.ext_getElem
  · rw [hl]; rfl
  · intro j h1 h2
    rw [h j (by omega)]
    exact (List.getElem_replicate h2).symm
set_option maxRecDepth 20000 in
set_option maxHeartbeats 4000000 in
theorem maker12_any (w : World) (id : List UInt8) (ix : Nat) (v : Value) (hid : id.length = 32) (hix : ix < 4294967296) :
    Calls Try.prog 26 #[.agg (inC id ix v).toArray] w fun e w' => e = .returned (.bool (decide (id = zid ∧ ix = 4294967295))) ∧ Below w.heap.size w w' := by
  go_enter Try.func26, Try.ntmps26
  go_wp2_with fail
  generalize hW : World.alloc w _ = W
  have hb1 : Blk W w.heap.size 56 (inC id ix v).toArray := by rw [← hW]; exact Blk.new _ _ _
  have hbl : Below w.heap.size w W := by rw [← hW]; exact (Below.refl _ _).alloc (Nat.le_refl _) _
  clear hW
  generalize hq : w.heap.size = q at hb1 ⊢
  have HQ := Lib.hid hq
  have HB := Lib.hid hb1
  have HBL := Lib.hid hbl
  have HID := Lib.hid hid
  have HIX := Lib.hid hix
  clear hq hb1 hbl hid hix
  go_loopg [3] 32 (fun k v3 wr => ∃ (j : Nat), j + k = 32 ∧ v3 = .int .i64 j ∧ Hid (∀ i, i < j → id[i]? = some 0) ∧ W = wr)
  case atStart => exact ⟨0, by omega, rfl, fun i hi => absurd hi (by omega), rfl⟩
  case round =>
    obtain ⟨j, hj, rfl, HC, rfl⟩ := hrel
    by_cases hlt : j < 32
    · have hjl : j < id.length := by rw [HID.out]; exact hlt
      obtain ⟨x, hx⟩ : ∃ x, id[j]'hjl = x := ⟨_, rfl⟩
      have hc : W.cell? ⟨q, j, none⟩ = some (.int .u8 (x.toNat : Int)) := by
        rw [HB.out.cell j, List.getElem?_toArray, inC, List.getElem?_append_left (by simpa using hjl), bts_get _ _ hjl, hx]
        rfl
      have HX := Lib.hid (show id[j]? = some x by rw [List.getElem?_eq_getElem hjl, hx])
      have dl : decide ((j : Int) < 32) = true := by simp; omega
      have bz : (0 : Int) ≤ (j : Int) := by omega
      have bi : (j : Int) < 32 := by omega
      clear hx hjl
      by_cases hz : x = 0
      · subst hz
        have hn : ∀ i, i < j + 1 → id[i]? = some 0 := by
          intro i hi
          by_cases hij : i = j
          · subst hij; exact HX.out
          · exact HC.out i (by omega)
        have HNX := Lib.hid hn
        clear hn
        go_wp2
        go_roundg (31 - j)
        case measure => omega
        case rel => exact ⟨j + 1, by omega, rfl, HNX.out, rfl⟩
      · have hr : decide (id = zid ∧ ix = 4294967295) = false := by
          rw [decide_eq_false_iff_not]
          rintro ⟨rfl, _⟩
          have := HX.out
          rw [zid, List.getElem?_replicate, if_pos hlt] at this
          cases this
          exact hz rfl
        have HR := Lib.hid hr
        have hz2 : ¬ x.toNat = 0 := fun e => hz (UInt8.toNat_inj.1 e)
        have e1 : (x.toNat == 0) = false := by simpa using hz2
        have e2 : ((x.toNat : Int) == 0) = false := by simp; exact hz2
        have e3 : ((x.toNat : Int) != 0) = true := by simp; exact hz2
        clear hr hz hz2
        go_wp2
        go_ret
        exact ⟨by rw [HR.out]; rfl, HBL.out⟩
    · obtain rfl : j = 32 := by omega
      have hc := in_cell32 HB.out HID.out
      have hid : id = zid := zid_of id HID.out (fun i hi => by
        have := HC.out i hi
        rw [List.getElem?_eq_getElem (by rw [HID.out]; exact hi)] at this
        simpa using this)
      have hr : decide (id = zid ∧ ix = 4294967295) = ((ix : Int) == 4294967295) := by
        rw [Bool.eq_iff_iff, decide_eq_true_iff, beq_iff_eq]
        exact ⟨fun h => by omega, fun h => ⟨hid, by omega⟩⟩
      have HR := Lib.hid hr
      clear hid hr hlt hj
      go_wp2
      go_ret
      exact ⟨by rw [HR.out]; rfl, HBL.out⟩
end Go.Proofs.Ytnonabmbichfnaa
