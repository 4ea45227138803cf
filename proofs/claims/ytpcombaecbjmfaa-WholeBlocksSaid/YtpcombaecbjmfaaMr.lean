/- merkle.pair; merkle.Root of any number of sums. -/
import Derived.Test.YtpcombaecbjmfaaTr
import Derived.Test.YtpcombaecbjmfaaHe
import Derived.Test.YtpcombaecbjmfaaShw
import Derived.StillTailTactics
import Derived.Deep.RegionHeld3
import Derived.Deep.QuietTactic
import Derived.BigQuiet
namespace Go.Proofs.Ytpcombaecbjmfaa
open Go.RowKit
/-! ### what it answers, plainly -/
theorem mup_app : ∀ (n : Nat) (l r : List Id32), l.length ≤ n → l.length % 2 = 0 → mup (l ++ r) = mup l ++ mup r ∧ mtw (l ++ r) = (mtw l || mtw r) := by
  intro n
  induction n with
  | zero => intro l r h _; match l, h with | [], _ => exact ⟨rfl, rfl⟩
  | succ n ih =>
    intro l r h he
    match l, h, he with
    | [], _, _ => exact ⟨rfl, rfl⟩
    | [a], _, he => simp at he
    | a :: b :: l, h, he =>
      obtain ⟨h1, h2⟩ := ih l r (by simp at h; omega) (by simp at he; omega)
      simp only [List.cons_append, mup, mtw, h1, h2, Bool.or_assoc, and_self]
theorem take_two (row : List Id32) (j : Nat) (h : j + 1 < row.length) : row.take (j + 2) = row.take j ++ [row[j], row[j + 1]] := by
  rw [show j + 2 = (j + 1) + 1 by omega, take_snoc' row (j + 1) h, take_snoc' row j (by omega), List.append_assoc]
  rfl
theorem mup_two (row : List Id32) (j : Nat) (h : 2 * j + 1 < row.length) : mup (row.take (2 * (j + 1))) = mup (row.take (2 * j)) ++ [sha2 (row[2 * j] ++ row[2 * j + 1])] ∧ mtw (row.take (2 * (j + 1))) = (mtw (row.take (2 * j)) || row[2 * j] == row[2 * j + 1]) := by
  rw [show 2 * (j + 1) = 2 * j + 2 by omega, take_two row (2 * j) h]
  obtain ⟨h1, h2⟩ := mup_app _ (row.take (2 * j)) [row[2 * j], row[2 * j + 1]] (Nat.le_refl _) (by rw [List.length_take, Nat.min_eq_left (by omega)]; omega)
  rw [h1, h2]
  simp [mup, mtw]
theorem mup_last (row : List Id32) (j : Nat) (h : 2 * j + 1 = row.length) : mup row = mup (row.take (2 * j)) ++ [sha2 (row[2 * j] ++ row[2 * j])] ∧ mtw row = mtw (row.take (2 * j)) := by
  have e : row = row.take (2 * j) ++ [row[2 * j]] := by
    rw [← take_snoc' row (2 * j) (by omega), List.take_of_length_le (by omega)]
  obtain ⟨h1, h2⟩ := mup_app _ (row.take (2 * j)) [row[2 * j]] (Nat.le_refl _) (by rw [List.length_take, Nat.min_eq_left (by omega)]; omega)
  rw [← e] at h1 h2
  rw [h1, h2]
  simp [mup, mtw]
theorem mup_length : ∀ (n : Nat) (row : List Id32), row.length ≤ n → (mup row).length = (row.length + 1) / 2 := by
  intro n
  induction n with
  | zero => intro l h; match l, h with | [], _ => rfl
  | succ n ih =>
    intro l h
    match l, h with
    | [], _ => rfl
    | [a], _ => simp [mup]
    | a :: b :: l, h =>
      rw [mup, List.length_cons, ih l (by simp at h; omega)]
      simp only [List.length_cons]
      omega
theorem mrootN_any : ∀ (n n' : Nat) (row : List Id32) (tw : Bool), row.length ≤ n → row.length ≤ n' → mrootN n row tw = mrootN n' row tw := by
  intro n
  induction n with
  | zero =>
    intro n' row tw h h'
    cases n' with
    | zero => rfl
    | succ n' => rw [mrootN, mrootN, if_pos (by omega)]
  | succ n ih =>
    intro n' row tw h h'
    cases n' with
    | zero => rw [mrootN, mrootN, if_pos (by omega)]
    | succ n' =>
      rw [mrootN, mrootN]
      by_cases h1 : row.length ≤ 1
      · rw [if_pos h1, if_pos h1]
      · have hl := mup_length _ row (Nat.le_refl _)
        rw [if_neg h1, if_neg h1, ih n' (mup row) (tw || mtw row) (by omega) (by omega)]
/-- from a level on -/
def mrootF (row : List Id32) (tw : Bool) : Id32 × Bool := mrootN row.length row tw
theorem mrootF_one (row : List Id32) (tw : Bool) (h : row.length ≤ 1) : mrootF row tw = (row.getD 0 (List.replicate 32 0), tw) := by
  unfold mrootF
  match hn : row.length with
  | 0 => rw [mrootN]
  | n + 1 => rw [mrootN, if_pos h]
theorem mrootF_step (row : List Id32) (tw : Bool) (h : 1 < row.length) : mrootF row tw = mrootF (mup row) (tw || mtw row) := by
  unfold mrootF
  have hl := mup_length _ row (Nat.le_refl _)
  obtain ⟨n, hn⟩ : ∃ n, row.length = n + 1 := ⟨row.length - 1, by omega⟩
  rw [hn, mrootN, if_neg (by omega)]
  exact mrootN_any _ _ _ _ (by omega) (Nat.le_refl _)
theorem take_full (row : List Id32) (n : Nat) (h : n = row.length) : row.take n = row := List.take_of_length_le (by omega)
/-! ### memory -/
theorem ids_at {w : World} {ok : Nat → Prop} {A : Option Addr} {n : Nat} {row : List Id32} (h : Sl w ok 32 A n (row.flatMap bts)) (h32 : ∀ x ∈ row, x.length = 32) (hn : row.length = n) {j : Nat} (hj : j < n) :
    ∃ b o, A = some ⟨b, o, none⟩ ∧ ok b ∧ RowAt w b (o + j * 32) (bts (row[j]'(by omega))) := by
  obtain ⟨b, o, rfl, hb, hr⟩ := h.2 (by omega)
  refine ⟨b, o, rfl, hb, ?_⟩
  have hd := hr.drop (j * 32)
  have e : row.flatMap bts = (row.take j).flatMap bts ++ (bts (row[j]'(by omega)) ++ (row.drop (j + 1)).flatMap bts) := by
    conv => lhs; rw [← List.take_append_drop j row, List.drop_eq_getElem_cons (by omega : j < row.length)]
    rw [List.flatMap_append, List.flatMap_cons]
  have hl : ((row.take j).flatMap bts).length = j * 32 := by
    rw [ids_len _ (fun x hx => h32 x (List.mem_of_mem_take hx)), List.length_take, Nat.min_eq_left (by omega)]
  rw [e, List.drop_left' hl] at hd
  intro k u hu
  exact hd k u (by rw [List.getElem?_append_left (List.getElem?_eq_some_iff.1 hu).1]; exact hu)
theorem ids_snoc {w : World} {base : Nat} {A : Option Addr} {n c : Nat} {l : List Id32} {y : Id32} (h : w.ownsRow base 32 32 (.slice A (n + 1) c) (n + 1) (l.flatMap bts ++ bts y)) : w.ownsRow base 32 32 (.slice A (n + 1) c) (n + 1) ((l ++ [y]).flatMap bts) := by
  simpa using h
set_option maxRecDepth 20000 in
set_option maxHeartbeats 4000000 in
theorem pair_any (w : World) (a b : Id32) (ha : a.length = 32) (hb : b.length = 32) :
    Calls Try.prog 58 #[.agg (bts a).toArray, .agg (bts b).toArray] w fun e w' => e = .returned (.agg (bts (sha2 (a ++ b))).toArray) ∧ Below w.heap.size w w' := by
  have HA := Lib.hid ha
  have HB := Lib.hid hb
  clear ha hb
  go_enter Try.func58, Try.ntmps58
  go_upto_region 1 with fail
  generalize hW : World.alloc (World.alloc (World.alloc w _) _) _ = W
  have h0 : Blk W w.heap.size 32 (bts a).toArray := by rw [← hW]; exact ((Blk.new _ _ _).alloc _).alloc _
  have h1 : Blk W (w.heap.size + 1) 32 (bts b).toArray := by
    have := Blk.new (w.alloc (.cells (bts a).toArray 32)) 32 (bts b).toArray
    rw [show (w.alloc (.cells (bts a).toArray 32)).heap.size = w.heap.size + 1 by simp] at this
    rw [← hW]; exact this.alloc _
  have h2 : Blk W (w.heap.size + 2) 32 zeros32.toArray := by
    have := Blk.new ((w.alloc (.cells (bts a).toArray 32)).alloc (.cells (bts b).toArray 32)) 32 zeros32.toArray
    rw [show ((w.alloc (.cells (bts a).toArray 32)).alloc (.cells (bts b).toArray 32)).heap.size = w.heap.size + 2 by simp] at this
    rw [← hW]; exact this
  have hbl : Below w.heap.size w W := by rw [← hW]; exact (((Below.refl _ _).alloc (Nat.le_refl _) _).alloc (by simp) _).alloc (by simp; omega) _
  clear hW
  obtain ⟨q, hq⟩ : ∃ q, w.heap.size = q := ⟨_, rfl⟩
  rw [hq] at h0 h1 h2 ⊢
  have HQ := Lib.hid hq
  have H0 := Lib.hid h0
  have H1 := Lib.hid h1
  have H2 := Lib.hid h2
  have HBL := Lib.hid hbl
  clear hq h0 h1 h2 hbl
  go_still_tail 2, (by kernel_rfl)
  change wpList _ _ _ _ _ W.drew
  replace H0 := Lib.hid H0.out.drew
  replace H1 := Lib.hid H1.out.drew
  replace H2 := Lib.hid H2.out.drew
  replace HBL := Lib.hid (show Below w.heap.size w W.drew from HBL.out.drew)
  generalize W.drew = W at H0 H1 H2 HBL ⊢
  have TW := Lib.hid (htwice_any (W.alloc (.cells #[.slice (some ⟨q, 0, none⟩) 32 32, .slice (some ⟨q + 1, 0, none⟩) 32 32] 28)) _ 2 2 _ [a, b] _ (fun b => b = q ∨ b = q + 1) (Sl.lit_new W 28 [.slice (some ⟨q, 0, none⟩) 32 32, .slice (some ⟨q + 1, 0, none⟩) 32 32])
    ((Each1.one (R := fun p u => IsB _ (fun b => b = q ∨ b = q + 1) u p) ((IsB.of_id (H0.out.alloc _) HA.out).weak (fun _ _ h => .inl h))).snoc ((IsB.of_id (H1.out.alloc _) HB.out).weak (fun _ _ h => .inr h))) (by omega) (by simp [HA.out, HB.out]))
  rw [show [a, b].flatten = a ++ b by simp] at TW
  unfold idV at TW
  go_wp2_with fail
  refine TW.out.mono ?_
  rintro e1 w1 ⟨rfl, a1⟩
  have hz1 : Blk w1 (q + 2) 32 zeros32.toArray := (H2.out.alloc _).below a1 (H2.out.alloc _).lt
  have BL1 := Lib.hid ((HBL.out.alloc HBL.out.size (.cells #[.slice (some ⟨q, 0, none⟩) 32 32, .slice (some ⟨q + 1, 0, none⟩) 32 32] 28)).trans (a1.mono (HBL.out.alloc HBL.out.size _).size))
  have HS := Lib.hid (sha2_len (a ++ b))
  clear a1 TW H0 H1 H2 HBL
  go_wp2_with (with_reducible refine wpList_stb rfl 32 (.tmp 4) (.tmp 8) rfl (q + 2) 0 _ rfl rfl 32 zeros32 hz1 ?h1 ?h2 ?h3 ?_)
  case h1 => simp [zeros32, HS.out]
  case h2 => rw [infoID]; simp [HS.out]
  case h3 => exact bts_one _
  intro w4 b4 o4
  rw [over_all _ _ (by simp [zeros32, HS.out])] at b4
  have HB4 := Lib.hid b4
  have O4 := Lib.hid o4
  clear b4 o4 hz1
  go_wp2
  refine bodyPost_ret (results_cell_row rfl _ _ (q + 2) 32 (bts (sha2 (a ++ b))).toArray (0, 0) _ rfl HB4.out Try.underlying32 rfl (by rw [infoID]; simp [HS.out])) rfl ?_
  exact ⟨rfl, BL1.out.trans (O4.out.below BL1.out.size (fun b hb e => by have := HQ.out; omega))⟩
theorem run_eq_id (x y : Id32) (hx : x.length = 32) (hy : y.length = 32) (w : World) : (Op.equalIn 10000 32 (.agg (bts x).toArray) (.agg (bts y).toArray)).run Try.prog w = .ok (x == y) w := by
  exact run_eq_arr (P := Try.prog) (t := 32) Try.underlying32 Try.underlying5 (by kernel_rfl) (by kernel_rfl) (by kernel_rfl) x y hx hy w 9998
theorem bts_pos {x : Id32} (h : x.length = 32) : 0 < (bts x).length := by rw [bts_length, h]; omega
theorem infoIDb (x : Id32) (h : x.length = 32) : (Try.prog.info? 32).map (·.size) = some (bts x).length := by rw [infoID, bts_length, h]
set_option maxRecDepth 20000 in
set_option maxHeartbeats 4000000 in
theorem merkle_none : MerkleOk 0 := by
  intro w L k ids ok hl h32 hs
  obtain rfl : ids = [] := List.eq_nil_of_length_eq_zero hl
  clear h32 hs hl
  go_enter Try.func52, Try.ntmps52
  go_wp2_with (with_reducible refine wpList_stb rfl 32 (.tmp 2) (.tmp 11) rfl w.heap.size 0 _ rfl rfl 32 zeros32 (Blk.new w _ _) ?h1 ?h2 ?h3 ?_)
  case h1 => simp [zeros32]
  case h2 => rw [infoID]; rfl
  case h3 => rfl
  intro w4 b4 o4
  have e : over zeros32 0 zeros32 = zeros32 := over_all _ _ rfl
  have b5 : Blk w4 w.heap.size 32 zeros32.toArray := by rw [← e]; exact b4
  have HB4 := Lib.hid b5
  have O4 := Lib.hid o4
  clear b4 b5 o4 e
  go_wp2
  refine bodyPost_ret (results_row_tmp rfl _ _ w.heap.size 32 zeros32.toArray (0, 0) _ rfl HB4.out Try.underlying32 rfl (by rw [infoID]; rfl)) rfl ?_
  exact ⟨rfl, ((Only.refl (fun b => w.heap.size ≤ b) w).alloc _).trans O4.out (fun b _ e => by omega) |>.below (Nat.le_refl _) (fun b hb h => by omega)⟩
set_option maxRecDepth 20000 in
set_option maxHeartbeats 4000000 in
theorem merkle_any (m : Nat) (hm : m ≤ 1000) : MerkleOk m := by
  by_cases hm0 : m = 0
  · subst hm0; exact merkle_none
  intro w L k ids ok hl h32 hs
  have hm1 : (m == 0) = false := by simpa using hm0
  have hm2 : ((m : Int) == 0) = false := by simp; omega
  have HS := Lib.hid hs
  have HL := Lib.hid hl
  have H32 := Lib.hid h32
  have HM0 := Lib.hid hm0
  clear hl h32 hs hm0
  go_enter Try.func52, Try.ntmps52
  go_upto_region 4 with fail
  generalize hW : World.alloc w _ = W
  have hb2 : Blk W w.heap.size 32 zeros32.toArray := by rw [← hW]; exact Blk.new _ _ _
  have hbl : Below w.heap.size w W := by rw [← hW]; exact (Below.refl _ _).alloc (Nat.le_refl _) _
  clear hW
  have hs2 : Sl (W.alloc (.cells #[] 32)) (fun b => ok b ∧ b < w.heap.size) 32 L m (ids.flatMap bts) := ((HS.out.lt (by omega)).below (hbl.alloc hbl.size _) (fun b _ h => h.2) (by omega))
  obtain ⟨q, hq⟩ : ∃ q, w.heap.size = q := ⟨_, rfl⟩
  rw [hq] at hb2 hs2 ⊢
  have HQ := Lib.hid hq
  have HZ := Lib.hid hb2
  have HBL := Lib.hid hbl
  have HS2 := Lib.hid hs2
  have HQW := Lib.hid HZ.out.lt
  clear hq hb2 hbl hs2 hm1 hm2
  go_wp2_with (at_builtin; refine wpList_app _ rfl (.tmp 12) (.tmp 13) 68 rfl W.heap.size 32 _ 32 32 Try.underlying68 infoIDz (by rfl) (by decide) (some ⟨W.heap.size, 0, none⟩) 0 0 rfl L m k rfl [] (World.ownsRow_lit W #[] 0 (Nat.le_refl _) (by decide) rfl) _ _ HS2.out (flatMap_one bts bts_one ids) (by unfold maxLen; omega) (by omega) ?hbase ?next)
  case hbase => simp
  case next =>
    intro A' c' w1 hown1 ho1 hat1
    have hob : Only (fun b => W.heap.size ≤ b) W w1 := ((Only.refl (fun b => W.heap.size ≤ b) W).alloc _).trans ho1 (fun b hb e => by simp [Value.ownBlock] at e; omega)
    replace HZ := Lib.hid (HZ.out.only hob (by have := HZ.out.lt; omega))
    replace HBL := Lib.hid (HBL.out.trans (hob.below HBL.out.size (fun b hb e => by have := HBL.out.size; omega)))
    have HR := Lib.hid ((Sl.of_own hown1).weak (ok' := fun b => q < b) (fun b _ h => Nat.lt_of_lt_of_le HQW.out h.1) (by omega))
    clear hown1 ho1 hat1 hob HS2
    go_wp2_with fail
    go_loopg [4, 5] m (fun k v4 v5 wr => ∃ (n5 : Nat) (row : List Id32) (tw : Bool) (A5 : Option Addr) (c5 : Nat), n5 = k ∧ row.length = n5 ∧ v4 = .bool tw ∧ v5 = .slice A5 n5 c5 ∧ Hid (1 ≤ n5 ∧ n5 ≤ m) ∧ Hid (∀ x ∈ row, x.length = 32) ∧ Hid (mrootF row tw = mroot ids) ∧ Hid (Sl wr (fun b => q < b) 32 A5 n5 (row.flatMap bts)) ∧ Hid (Blk wr q 32 zeros32.toArray) ∧ Hid (Below w.heap.size w wr))
    case atStart => exact ⟨m, ids, false, A', c', rfl, HL.out, rfl, rfl, ⟨by have := HM0.out; omega, Nat.le_refl _⟩, H32.out, rfl, HR.out, HZ.out, HBL.out⟩
    case round =>
      clear HR HZ HBL
      obtain ⟨n5, row, tw, A5, c5, rfl, HLEN, rfl, rfl, HN5, HRW, HMR, HR, HZ, HBL⟩ := hrel
      replace HLEN := Lib.hid HLEN
      have hn5 := HN5.out
      have hn1000 : n5 ≤ 1000 := by omega
      by_cases h1 : 1 < n5
      · have d1 : decide ((1 : Int) < (n5 : Int)) = true := by simp; omega
        obtain ⟨b, o, hA5, hqb, hrow0⟩ := HR.out.2 (by omega)
        subst hA5
        have hbw : b < wr.heap.size := hrow0.lt (by rw [ids_len _ HRW.out, HLEN.out]; omega)
        have hqw : q < wr.heap.size := HZ.out.lt
        have hww : w.heap.size ≤ wr.heap.size := HBL.out.size
        obtain ⟨B, hB⟩ : ∃ B, wr.heap.size = B := ⟨_, rfl⟩
        have HR0 := Lib.hid (HR.out.weak (ok' := fun b => q < b ∧ b < B) (fun b hb h => ⟨h, by rw [← hB]; exact hb⟩) (by omega))
        have hOW0 := World.ownsRow_nil wr B 32 32
        have hBs : B ≤ wr.heap.size := by omega
        rw [hB] at hbw hqw hww
        clear hB hrow0
        have HSZ := Lib.hid (And.intro hqb (And.intro hbw (And.intro hqw hww)))
        have HOW0 := Lib.hid hOW0
        have HBS0 := Lib.hid hBs
        clear hqb hbw hqw hww hOW0 hBs
        go_wp2_with fail
        go_loopg [4, 6, 7] n5 (fun k v4 v6 v7 wi => ∃ (j i : Nat) (tj : Bool) (A6 : Option Addr) (c6 : Nat), j + k = n5 ∧ i ≤ n5 ∧ v4 = .bool tj ∧ v6 = .slice A6 j c6 ∧ v7 = .int .i64 ((i : Nat) : Int) ∧ Hid (i = 2 * j) ∧ Hid (tj = (tw || mtw (row.take i))) ∧ Hid (B ≤ wi.heap.size) ∧ Hid (wi.ownsRow B 32 32 (.slice A6 j c6) j ((mup (row.take i)).flatMap bts)) ∧ Hid (Sl wi (fun b => q < b ∧ b < B) 32 (some ⟨b, o, none⟩) n5 (row.flatMap bts)) ∧ Hid (Blk wi q 32 zeros32.toArray) ∧ Hid (Below w.heap.size w wi))
        case atStart => exact ⟨0, 0, tw, none, 0, by omega, by omega, rfl, rfl, rfl, rfl, by simp [Hid, mtw], HBS0.out, HOW0.out, HR0.out, HZ.out, HBL.out⟩
        case round =>
          clear HR HZ HBL HR0 HOW0 HBS0
          obtain ⟨j, i, tj, A6, c6, hj, hin, rfl, rfl, rfl, HIJ, HTJ, HBS, HOW, HR, HZ, HBL⟩ := hrel
          have hfr : ∀ wa wb : World, Only (fun b => B ≤ b) wa wb → Sl wa (fun b => q < b ∧ b < B) 32 (some ⟨b, o, none⟩) n5 (row.flatMap bts) ∧ Blk wa q 32 zeros32.toArray ∧ Below w.heap.size w wa ∧ B ≤ wa.heap.size →
              Sl wb (fun b => q < b ∧ b < B) 32 (some ⟨b, o, none⟩) n5 (row.flatMap bts) ∧ Blk wb q 32 zeros32.toArray ∧ Below w.heap.size w wb ∧ B ≤ wb.heap.size := by
            intro wa wb ho ⟨h1, h2, h3, h4⟩
            exact ⟨h1.only ho (fun b _ h e => by omega) (by omega), h2.only ho (by have := HSZ.out; omega), h3.trans (ho.below h3.size (fun b hb e => by have := HSZ.out; omega)), by have := ho.size; omega⟩
          have HFR := Lib.hid hfr
          clear hfr
          by_cases hlt : i < n5
          · have d2 : decide (i < n5) = true := by simpa using hlt
            obtain ⟨x, hx⟩ : ∃ x, row[i]'(by rw [HLEN.out]; exact hlt) = x := ⟨_, rfl⟩
            have hx32 : x.length = 32 := by rw [← hx]; exact HRW.out _ (List.getElem_mem _)
            obtain ⟨b', o', he, hqb', hrx⟩ := ids_at HR.out HRW.out HLEN.out hlt
            cases he
            rw [hx] at hrx
            have HRX := Lib.hid hrx
            have HX := Lib.hid hx
            have hi0 : (0 : Int) ≤ (i : Int) := by omega
            have hi1 : (i : Int) < (n5 : Int) := by omega
            have hlx := infoIDb x hx32
            have hu := (Try.underlying32 : Try.prog.underlying 32 = some _)
            have hjm : j ≤ 1000 := by omega
            clear hrx hx hqb'
            by_cases h3 : i + 1 = n5
            · have e1 : ((i : Int) + 1 == (n5 : Int)) = true := by simp; omega
              obtain ⟨hm1, hm2⟩ := mup_last row j (by rw [HLEN.out, ← HIJ.out]; exact h3)
              have HM1 : Hid (mup row = mup (row.take i) ++ [sha2 (x ++ x)]) := by
                rw [Hid, hm1]; simp only [← HIJ.out]; rw [HX.out]
              have HM2 : Hid (mtw row = mtw (row.take i)) := by rw [Hid, hm2, ← HIJ.out]
              have H3 := Lib.hid h3
              clear hm1 hm2 h3
              go_wp2
              replace HOW := Lib.hid (own_only HOW.out ((Only.refl (fun _ => False) wr).drew) (fun _ _ h => h))
              refine wp_region_held_drew (S := (fun w' => (Sl w' (fun b => q < b ∧ b < B) 32 (some ⟨b, o, none⟩) n5 (row.flatMap bts) ∧ Blk w' q 32 zeros32.toArray ∧ Below w.heap.size w w' ∧ B ≤ w'.heap.size) ∧ RowAt w' b (o + i * 32) (bts x))) (by kernel_rfl) (⟨HFR.out _ _ ((Only.refl (fun b => B ≤ b) wr).drew) ⟨HR.out, HZ.out, HBL.out, HBS.out⟩, HRX.out⟩) ?_
              intro hSw
              refine wpAnyH_take (i := 0) (oi := ⟨some 29, _, _, _, _, _⟩) (v := (.slice A6 j c6)) rfl (by kernel_rfl) (by kernel_rfl) (by kernel_rfl) (fun _ _ _ h => h) (Or.inl ⟨by rfl, ?_⟩) hSw ?_
              · intro w' hSw'
                go_simp
              simp only [Act.put, List.setIfInBounds_toArray, List.set_cons_zero, List.set_cons_succ]
              refine wpAnyH_take (i := 1) (oi := ⟨some 30, _, _, _, _, _⟩) (v := (.slice (some ⟨b, o, none⟩) n5 c5)) rfl (by kernel_rfl) (by kernel_rfl) (by kernel_rfl) (fun _ _ _ h => h) (Or.inl ⟨by rfl, ?_⟩) hSw ?_
              · intro w' hSw'
                go_simp
              simp only [Act.put, List.setIfInBounds_toArray, List.set_cons_zero, List.set_cons_succ]
              refine wpAnyH_take (i := 2) (oi := ⟨some 31, _, _, _, _, _⟩) (v := (.int .i64 (i : Int))) rfl (by kernel_rfl) (by kernel_rfl) (by kernel_rfl) (fun _ _ _ h => h) (Or.inl ⟨by rfl, ?_⟩) hSw ?_
              · intro w' hSw'
                go_simp
              simp only [Act.put, List.setIfInBounds_toArray, List.set_cons_zero, List.set_cons_succ]
              refine wpAnyH_take (i := 3) (oi := ⟨some 32, _, _, _, _, _⟩) (v := (.pointer (some ⟨b, o + i * 32, none⟩))) rfl (by kernel_rfl) (by kernel_rfl) (by kernel_rfl) (fun _ _ _ h => h) (Or.inl ⟨by rfl, ?_⟩) hSw ?_
              · intro w' hSw'
                go_simp
              simp only [Act.put, List.setIfInBounds_toArray, List.set_cons_zero, List.set_cons_succ]
              refine wpAnyH_take (i := 4) (oi := ⟨some 33, _, _, _, _, _⟩) (v := .agg (bts x).toArray) rfl (by kernel_rfl) (by kernel_rfl) (by kernel_rfl) (fun _ _ _ h => h) (yieldsIf_load_mid (by rfl) _ _ rfl b (o + i * 32) rfl (bts x) _ (fun _ h => h.2) hu rfl hlx) hSw ?_
              simp only [Act.put, List.setIfInBounds_toArray, List.set_cons_zero, List.set_cons_succ]
              refine wpAnyH_take (i := 5) (oi := ⟨some 34, _, _, _, _, _⟩) (v := (.slice (some ⟨b, o, none⟩) n5 c5)) rfl (by kernel_rfl) (by kernel_rfl) (by kernel_rfl) (fun _ _ _ h => h) (Or.inl ⟨by rfl, ?_⟩) hSw ?_
              · intro w' hSw'
                go_simp
              simp only [Act.put, List.setIfInBounds_toArray, List.set_cons_zero, List.set_cons_succ]
              refine wpAnyH_take (i := 6) (oi := ⟨some 35, _, _, _, _, _⟩) (v := (.int .i64 (i : Int))) rfl (by kernel_rfl) (by kernel_rfl) (by kernel_rfl) (fun _ _ _ h => h) (Or.inl ⟨by rfl, ?_⟩) hSw ?_
              · intro w' hSw'
                go_simp
              simp only [Act.put, List.setIfInBounds_toArray, List.set_cons_zero, List.set_cons_succ]
              refine wpAnyH_take (i := 7) (oi := ⟨some 36, _, _, _, _, _⟩) (v := (.pointer (some ⟨b, o + i * 32, none⟩))) rfl (by kernel_rfl) (by kernel_rfl) (by kernel_rfl) (fun _ _ _ h => h) (Or.inl ⟨by rfl, ?_⟩) hSw ?_
              · intro w' hSw'
                go_simp
              simp only [Act.put, List.setIfInBounds_toArray, List.set_cons_zero, List.set_cons_succ]
              refine wpAnyH_take (i := 8) (oi := ⟨some 37, _, _, _, _, _⟩) (v := .agg (bts x).toArray) rfl (by kernel_rfl) (by kernel_rfl) (by kernel_rfl) (fun _ _ _ h => h) (yieldsIf_load_mid (by rfl) _ _ rfl b (o + i * 32) rfl (bts x) _ (fun _ h => h.2) hu rfl hlx) hSw ?_
              simp only [Act.put, List.setIfInBounds_toArray, List.set_cons_zero, List.set_cons_succ]
              refine wpAnyH_ready (rs := [9]) (by kernel_rfl) (by simp) (AllReadyH.cons (o := ⟨some 38, _, _, _, _, _⟩) rfl (fun K hK => ?_) AllReadyH.nil)
              go_simp
              go_at_call 58
              refine (pair_any _ x x hx32 hx32).mono ?_
              rintro e5 w5 ⟨rfl, a5⟩
              replace HOW := Lib.hid (own_only HOW.out (Only.of_new a5 (fun _ => False)) (fun _ _ h => h))
              obtain ⟨z, hz⟩ : ∃ z, sha2 (x ++ x) = z := ⟨_, rfl⟩
              have hz32 : z.length = 32 := by rw [← hz]; exact sha2_len _
              rw [hz]
              have HZZ := Lib.hid hz
              clear hz
              have hfold := fold_id z hz32
              dsimp only
              refine hK.out _ _ (⟨HFR.out _ _ ((Only.of_below a5).mono (fun b hb e => by have := hSw.1.2.2.2; omega)) hSw.1, hSw.2.below (bts_pos hx32) a5⟩) ?_
              intro hSw
              clear hK K
              try simp only [Act.put, List.setIfInBounds_toArray, List.set_cons_zero, List.set_cons_succ]
              refine wpAnyH_ready (rs := [10]) (by kernel_rfl) (by simp) (AllReadyH.cons (o := ⟨some 39, _, _, _, _, _⟩) rfl (fun K hK => ?_) AllReadyH.nil)
              go_simp
              replace HOW := Lib.hid (HOW.out.alloc (.cells (bts z).toArray 32))
              refine hK.out _ _ (⟨HFR.out _ _ ((Only.refl (fun b => B ≤ b) _).alloc _) hSw.1, hSw.2.only ((Only.refl (fun _ => False) _).alloc _) (fun h => h)⟩) ?_
              intro hSw
              clear hK K
              try simp only [Act.put, List.setIfInBounds_toArray, List.set_cons_zero, List.set_cons_succ]
              refine wpAnyH_ready (rs := [11]) (by kernel_rfl) (by simp) (AllReadyH.cons (o := ⟨some 40, _, _, _, _, _⟩) rfl (fun K hK => ?_) AllReadyH.nil)
              refine step_app rfl (.tmp 29) (.tmp 39) 68 rfl B 32 _ 32 32 Try.underlying68 infoIDz (by rfl) (by decide) A6 j c6 rfl _ 1 1 rfl _ HOW.out _ _ (Sl.one_row w5 32 (bts z) 32 (by rw [bts_length, hz32])) (bts_one _) (by unfold maxLen; omega) (by omega) hSw.1.2.2.2 ?_
              intro A7 c7 w7 hown7 ho7 hat7
              have ho8 := ho7.mono (S' := fun b => B ≤ b) (fun b hb e => own_ge HOW.out e)
              replace HOW := Lib.hid hown7
              clear hown7 ho7 hat7
              refine hK.out _ _ (⟨HFR.out _ _ ho8 hSw.1, hSw.2.only ho8 (by have := HSZ.out; omega)⟩) ?_
              intro hSw
              clear hK K
              try simp only [Act.put, List.setIfInBounds_toArray, List.set_cons_zero, List.set_cons_succ]
              refine wpAnyH_take (i := 12) (oi := ⟨some 6, _, _, _, _, _⟩) (v := (.slice A7 (j + 1) c7)) rfl (by kernel_rfl) (by kernel_rfl) (by kernel_rfl) (fun _ _ _ h => h) (Or.inl ⟨by rfl, ?_⟩) hSw ?_
              · intro w' hSw'
                go_simp
              simp only [Act.put, List.setIfInBounds_toArray, List.set_cons_zero, List.set_cons_succ]
              refine wpAnyH_done (by kernel_rfl) ?_ _
              have HF := Lib.hid hSw.1
              clear hSw hfold HRX HR HZ HBL HBS HFR
              go_wp2
              go_roundg (j + 1)
              case measure => have := H3.out; have := HIJ.out; omega
              case rel =>
                refine ⟨j + 1, mup row, tj, A7, c7, rfl, by rw [mup_length _ row (Nat.le_refl _), HLEN.out]; have := H3.out; have := HIJ.out; omega, rfl, rfl, by rw [Hid]; have := H3.out; have := HIJ.out; omega, mup_len row _ (Nat.le_refl _), ?_, ?_, HF.out.2.1, HF.out.2.2.1⟩
                · rw [Hid, HTJ.out, ← HM2.out, ← mrootF_step row tw (by rw [HLEN.out]; exact h1), HMR.out]
                · refine (Sl.of_own (base := B) (e := 32) (c := c7) ?_).weak (fun b _ h => by have := HSZ.out; omega) (by omega)
                  have := HOW.out
                  rw [HM1.out, HZZ.out]
                  simpa using this
            · have h3' : i + 1 < n5 := by omega
              have e1 : ((i : Int) + 1 == (n5 : Int)) = false := by simp; omega
              obtain ⟨y, hy⟩ : ∃ y, row[i + 1]'(by rw [HLEN.out]; exact h3') = y := ⟨_, rfl⟩
              have hy32 : y.length = 32 := by rw [← hy]; exact HRW.out _ (List.getElem_mem _)
              obtain ⟨b', o', he, hqb', hry⟩ := ids_at HR.out HRW.out HLEN.out h3'
              cases he
              rw [hy] at hry
              have HRY := Lib.hid hry
              have hly := infoIDb y hy32
              obtain ⟨xy, hxy⟩ : ∃ xy, (x == y) = xy := ⟨_, rfl⟩
              obtain ⟨hm1, hm2⟩ := mup_two row j (by rw [HLEN.out]; have := HIJ.out; omega)
              have HM1 : Hid (mup (row.take (i + 2)) = mup (row.take i) ++ [sha2 (x ++ y)]) := by
                rw [Hid, HIJ.out, show 2 * j + 2 = 2 * (j + 1) by omega, hm1]; simp only [← HIJ.out]; rw [HX.out, hy]
              have HM2 : Hid (mtw (row.take (i + 2)) = (mtw (row.take i) || xy)) := by
                rw [Hid, ← hxy, HIJ.out, show 2 * j + 2 = 2 * (j + 1) by omega, hm2]; simp only [← HIJ.out]; rw [HX.out, hy]
              have heqA : ∀ w', (Op.equalIn 10000 32 (.agg (bts x).toArray) (.agg (bts y).toArray)).run Try.prog w' = .ok xy w' := fun w' => by rw [← hxy]; exact run_eq_id x y hx32 hy32 w'
              have hj0 : (0 : Int) ≤ (i : Int) + 1 := by omega
              have hj1 : (i : Int) + 1 < (n5 : Int) := by omega
              have hsum : IntKind.i64.wrap ((i : Int) + 1) = (i : Int) + 1 := w64 _ (by omega)
              have hsum2 : IntKind.i64.wrap ((i : Int) + 2) = ((i + 2 : Nat) : Int) := by rw [w64 _ (by omega)]; rfl
              have HSUM2 := Lib.hid hsum2
              have hnat : ((i : Int) + 1).toNat = i + 1 := by omega
              clear hry hy hqb' hm1 hm2 hxy h3 hsum2
              cases tj with
              | true =>
                go_wp2
                replace HOW := Lib.hid (own_only HOW.out ((Only.refl (fun _ => False) wr).drew) (fun _ _ h => h))
                refine wp_region_held_drew (S := (fun w' => (Sl w' (fun b => q < b ∧ b < B) 32 (some ⟨b, o, none⟩) n5 (row.flatMap bts) ∧ Blk w' q 32 zeros32.toArray ∧ Below w.heap.size w w' ∧ B ≤ w'.heap.size) ∧ RowAt w' b (o + i * 32) (bts x) ∧ RowAt w' b (o + (i + 1) * 32) (bts y))) (by kernel_rfl) (⟨HFR.out _ _ ((Only.refl (fun b => B ≤ b) wr).drew) ⟨HR.out, HZ.out, HBL.out, HBS.out⟩, HRX.out, HRY.out⟩) ?_
                intro hSw
                refine wpAnyH_take (i := 0) (oi := ⟨some 41, _, _, _, _, _⟩) (v := (.bool true)) rfl (by kernel_rfl) (by kernel_rfl) (by kernel_rfl) (fun _ _ _ h => h) (Or.inl ⟨by rfl, ?_⟩) hSw ?_
                · intro w' hSw'
                  go_simp
                simp only [Act.put, List.setIfInBounds_toArray, List.set_cons_zero, List.set_cons_succ]
                refine wpAnyH_take (i := 1) (oi := ⟨some 42, _, _, _, _, _⟩) (v := (.bool true)) rfl (by kernel_rfl) (by kernel_rfl) (by kernel_rfl) (fun _ _ _ h => h) (Or.inl ⟨by rfl, ?_⟩) hSw ?_
                · intro w' hSw'
                  go_simp
                simp only [Act.put, List.setIfInBounds_toArray, List.set_cons_zero, List.set_cons_succ]
                refine wpAnyH_take (i := 2) (oi := ⟨some 43, _, _, _, _, _⟩) (v := undef) rfl (by kernel_rfl) (by kernel_rfl) (by kernel_rfl) (fun _ _ _ h => h) (Or.inr ⟨by rfl, rfl⟩) hSw ?_
                simp only [Act.put, List.setIfInBounds_toArray, List.set_cons_zero, List.set_cons_succ]
                refine wpAnyH_take (i := 3) (oi := ⟨some 44, _, _, _, _, _⟩) (v := undef) rfl (by kernel_rfl) (by kernel_rfl) (by kernel_rfl) (fun _ _ _ h => h) (Or.inr ⟨by rfl, rfl⟩) hSw ?_
                simp only [Act.put, List.setIfInBounds_toArray, List.set_cons_zero, List.set_cons_succ]
                refine wpAnyH_take (i := 4) (oi := ⟨some 45, _, _, _, _, _⟩) (v := undef) rfl (by kernel_rfl) (by kernel_rfl) (by kernel_rfl) (fun _ _ _ h => h) (Or.inr ⟨by rfl, rfl⟩) hSw ?_
                simp only [Act.put, List.setIfInBounds_toArray, List.set_cons_zero, List.set_cons_succ]
                refine wpAnyH_take (i := 5) (oi := ⟨some 46, _, _, _, _, _⟩) (v := undef) rfl (by kernel_rfl) (by kernel_rfl) (by kernel_rfl) (fun _ _ _ h => h) (Or.inr ⟨by rfl, rfl⟩) hSw ?_
                simp only [Act.put, List.setIfInBounds_toArray, List.set_cons_zero, List.set_cons_succ]
                refine wpAnyH_take (i := 6) (oi := ⟨some 47, _, _, _, _, _⟩) (v := undef) rfl (by kernel_rfl) (by kernel_rfl) (by kernel_rfl) (fun _ _ _ h => h) (Or.inr ⟨by rfl, rfl⟩) hSw ?_
                simp only [Act.put, List.setIfInBounds_toArray, List.set_cons_zero, List.set_cons_succ]
                refine wpAnyH_take (i := 7) (oi := ⟨some 48, _, _, _, _, _⟩) (v := undef) rfl (by kernel_rfl) (by kernel_rfl) (by kernel_rfl) (fun _ _ _ h => h) (Or.inr ⟨by rfl, rfl⟩) hSw ?_
                simp only [Act.put, List.setIfInBounds_toArray, List.set_cons_zero, List.set_cons_succ]
                refine wpAnyH_take (i := 8) (oi := ⟨some 49, _, _, _, _, _⟩) (v := undef) rfl (by kernel_rfl) (by kernel_rfl) (by kernel_rfl) (fun _ _ _ h => h) (Or.inr ⟨by rfl, rfl⟩) hSw ?_
                simp only [Act.put, List.setIfInBounds_toArray, List.set_cons_zero, List.set_cons_succ]
                refine wpAnyH_take (i := 9) (oi := ⟨some 50, _, _, _, _, _⟩) (v := undef) rfl (by kernel_rfl) (by kernel_rfl) (by kernel_rfl) (fun _ _ _ h => h) (Or.inr ⟨by rfl, rfl⟩) hSw ?_
                simp only [Act.put, List.setIfInBounds_toArray, List.set_cons_zero, List.set_cons_succ]
                refine wpAnyH_take (i := 10) (oi := ⟨some 51, _, _, _, _, _⟩) (v := undef) rfl (by kernel_rfl) (by kernel_rfl) (by kernel_rfl) (fun _ _ _ h => h) (Or.inr ⟨by rfl, rfl⟩) hSw ?_
                simp only [Act.put, List.setIfInBounds_toArray, List.set_cons_zero, List.set_cons_succ]
                refine wpAnyH_take (i := 11) (oi := ⟨some 52, _, _, _, _, _⟩) (v := undef) rfl (by kernel_rfl) (by kernel_rfl) (by kernel_rfl) (fun _ _ _ h => h) (Or.inr ⟨by rfl, rfl⟩) hSw ?_
                simp only [Act.put, List.setIfInBounds_toArray, List.set_cons_zero, List.set_cons_succ]
                refine wpAnyH_take (i := 12) (oi := ⟨some 53, _, _, _, _, _⟩) (v := (.bool true)) rfl (by kernel_rfl) (by kernel_rfl) (by kernel_rfl) (fun _ _ _ h => h) (Or.inl ⟨by rfl, ?_⟩) hSw ?_
                · intro w' hSw'
                  go_simp
                simp only [Act.put, List.setIfInBounds_toArray, List.set_cons_zero, List.set_cons_succ]
                refine wpAnyH_take (i := 13) (oi := ⟨some 4, _, _, _, _, _⟩) (v := (.bool true)) rfl (by kernel_rfl) (by kernel_rfl) (by kernel_rfl) (fun _ _ _ h => h) (Or.inl ⟨by rfl, ?_⟩) hSw ?_
                · intro w' hSw'
                  go_simp
                simp only [Act.put, List.setIfInBounds_toArray, List.set_cons_zero, List.set_cons_succ]
                refine wpAnyH_done (by kernel_rfl) ?_ _
                replace HOW := Lib.hid (own_only HOW.out ((Only.refl (fun _ => False) wr.drew).drew) (fun _ _ h => h))
                go_wp2
                refine wp_region_held_drew (S := (fun w' => (Sl w' (fun b => q < b ∧ b < B) 32 (some ⟨b, o, none⟩) n5 (row.flatMap bts) ∧ Blk w' q 32 zeros32.toArray ∧ Below w.heap.size w w' ∧ B ≤ w'.heap.size) ∧ RowAt w' b (o + i * 32) (bts x) ∧ RowAt w' b (o + (i + 1) * 32) (bts y))) (by kernel_rfl) (⟨HFR.out _ _ ((Only.refl (fun b => B ≤ b) wr.drew).drew) hSw.1, hSw.2⟩) ?_
                intro hSw
                refine wpAnyH_take (i := 0) (oi := ⟨some 54, _, _, _, _, _⟩) (v := (.slice A6 j c6)) rfl (by kernel_rfl) (by kernel_rfl) (by kernel_rfl) (fun _ _ _ h => h) (Or.inl ⟨by rfl, ?_⟩) hSw ?_
                · intro w' hSw'
                  go_simp
                simp only [Act.put, List.setIfInBounds_toArray, List.set_cons_zero, List.set_cons_succ]
                refine wpAnyH_take (i := 1) (oi := ⟨some 55, _, _, _, _, _⟩) (v := (.slice (some ⟨b, o, none⟩) n5 c5)) rfl (by kernel_rfl) (by kernel_rfl) (by kernel_rfl) (fun _ _ _ h => h) (Or.inl ⟨by rfl, ?_⟩) hSw ?_
                · intro w' hSw'
                  go_simp
                simp only [Act.put, List.setIfInBounds_toArray, List.set_cons_zero, List.set_cons_succ]
                refine wpAnyH_take (i := 2) (oi := ⟨some 56, _, _, _, _, _⟩) (v := (.int .i64 (i : Int))) rfl (by kernel_rfl) (by kernel_rfl) (by kernel_rfl) (fun _ _ _ h => h) (Or.inl ⟨by rfl, ?_⟩) hSw ?_
                · intro w' hSw'
                  go_simp
                simp only [Act.put, List.setIfInBounds_toArray, List.set_cons_zero, List.set_cons_succ]
                refine wpAnyH_take (i := 3) (oi := ⟨some 57, _, _, _, _, _⟩) (v := (.pointer (some ⟨b, o + i * 32, none⟩))) rfl (by kernel_rfl) (by kernel_rfl) (by kernel_rfl) (fun _ _ _ h => h) (Or.inl ⟨by rfl, ?_⟩) hSw ?_
                · intro w' hSw'
                  go_simp
                simp only [Act.put, List.setIfInBounds_toArray, List.set_cons_zero, List.set_cons_succ]
                refine wpAnyH_take (i := 4) (oi := ⟨some 58, _, _, _, _, _⟩) (v := .agg (bts x).toArray) rfl (by kernel_rfl) (by kernel_rfl) (by kernel_rfl) (fun _ _ _ h => h) (yieldsIf_load_mid (by rfl) _ _ rfl b (o + i * 32) rfl (bts x) _ (fun _ h => h.2.1) hu rfl hlx) hSw ?_
                simp only [Act.put, List.setIfInBounds_toArray, List.set_cons_zero, List.set_cons_succ]
                refine wpAnyH_take (i := 5) (oi := ⟨some 59, _, _, _, _, _⟩) (v := (.slice (some ⟨b, o, none⟩) n5 c5)) rfl (by kernel_rfl) (by kernel_rfl) (by kernel_rfl) (fun _ _ _ h => h) (Or.inl ⟨by rfl, ?_⟩) hSw ?_
                · intro w' hSw'
                  go_simp
                simp only [Act.put, List.setIfInBounds_toArray, List.set_cons_zero, List.set_cons_succ]
                refine wpAnyH_take (i := 6) (oi := ⟨some 60, _, _, _, _, _⟩) (v := (.int .i64 (i : Int))) rfl (by kernel_rfl) (by kernel_rfl) (by kernel_rfl) (fun _ _ _ h => h) (Or.inl ⟨by rfl, ?_⟩) hSw ?_
                · intro w' hSw'
                  go_simp
                simp only [Act.put, List.setIfInBounds_toArray, List.set_cons_zero, List.set_cons_succ]
                refine wpAnyH_take (i := 7) (oi := ⟨some 61, _, _, _, _, _⟩) (v := (.int .i64 ((i : Int) + 1))) rfl (by kernel_rfl) (by kernel_rfl) (by kernel_rfl) (fun _ _ _ h => h) (Or.inl ⟨by rfl, ?_⟩) hSw ?_
                · intro w' hSw'
                  go_simp
                simp only [Act.put, List.setIfInBounds_toArray, List.set_cons_zero, List.set_cons_succ]
                refine wpAnyH_take (i := 8) (oi := ⟨some 62, _, _, _, _, _⟩) (v := (.pointer (some ⟨b, o + (i + 1) * 32, none⟩))) rfl (by kernel_rfl) (by kernel_rfl) (by kernel_rfl) (fun _ _ _ h => h) (Or.inl ⟨by rfl, ?_⟩) hSw ?_
                · intro w' hSw'
                  go_simp
                simp only [Act.put, List.setIfInBounds_toArray, List.set_cons_zero, List.set_cons_succ]
                refine wpAnyH_take (i := 9) (oi := ⟨some 63, _, _, _, _, _⟩) (v := .agg (bts y).toArray) rfl (by kernel_rfl) (by kernel_rfl) (by kernel_rfl) (fun _ _ _ h => h) (yieldsIf_load_mid (by rfl) _ _ rfl b (o + (i + 1) * 32) rfl (bts y) _ (fun _ h => h.2.2) hu rfl hly) hSw ?_
                simp only [Act.put, List.setIfInBounds_toArray, List.set_cons_zero, List.set_cons_succ]
                refine wpAnyH_ready (rs := [10]) (by kernel_rfl) (by simp) (AllReadyH.cons (o := ⟨some 64, _, _, _, _, _⟩) rfl (fun K hK => ?_) AllReadyH.nil)
                go_simp
                go_at_call 58
                refine (pair_any _ x y hx32 hy32).mono ?_
                rintro e5 w5 ⟨rfl, a5⟩
                replace HOW := Lib.hid (own_only HOW.out (Only.of_new a5 (fun _ => False)) (fun _ _ h => h))
                obtain ⟨z, hz⟩ : ∃ z, sha2 (x ++ y) = z := ⟨_, rfl⟩
                have hz32 : z.length = 32 := by rw [← hz]; exact sha2_len _
                rw [hz]
                have HZZ := Lib.hid hz
                clear hz
                have hfold := fold_id z hz32
                dsimp only
                refine hK.out _ _ (⟨HFR.out _ _ ((Only.of_below a5).mono (fun b hb e => by have := hSw.1.2.2.2; omega)) hSw.1, ⟨hSw.2.1.below (bts_pos hx32) a5, hSw.2.2.below (bts_pos hy32) a5⟩⟩) ?_
                intro hSw
                clear hK K
                try simp only [Act.put, List.setIfInBounds_toArray, List.set_cons_zero, List.set_cons_succ]
                refine wpAnyH_ready (rs := [11]) (by kernel_rfl) (by simp) (AllReadyH.cons (o := ⟨some 65, _, _, _, _, _⟩) rfl (fun K hK => ?_) AllReadyH.nil)
                go_simp
                replace HOW := Lib.hid (HOW.out.alloc (.cells (bts z).toArray 32))
                refine hK.out _ _ (⟨HFR.out _ _ ((Only.refl (fun b => B ≤ b) _).alloc _) hSw.1, ⟨hSw.2.1.only ((Only.refl (fun _ => False) _).alloc _) (fun h => h), hSw.2.2.only ((Only.refl (fun _ => False) _).alloc _) (fun h => h)⟩⟩) ?_
                intro hSw
                clear hK K
                try simp only [Act.put, List.setIfInBounds_toArray, List.set_cons_zero, List.set_cons_succ]
                refine wpAnyH_ready (rs := [12]) (by kernel_rfl) (by simp) (AllReadyH.cons (o := ⟨some 66, _, _, _, _, _⟩) rfl (fun K hK => ?_) AllReadyH.nil)
                refine step_app rfl (.tmp 54) (.tmp 65) 68 rfl B 32 _ 32 32 Try.underlying68 infoIDz (by rfl) (by decide) A6 j c6 rfl _ 1 1 rfl _ HOW.out _ _ (Sl.one_row w5 32 (bts z) 32 (by rw [bts_length, hz32])) (bts_one _) (by unfold maxLen; omega) (by omega) hSw.1.2.2.2 ?_
                intro A7 c7 w7 hown7 ho7 hat7
                have ho8 := ho7.mono (S' := fun b => B ≤ b) (fun b hb e => own_ge HOW.out e)
                replace HOW := Lib.hid hown7
                clear hown7 ho7 hat7
                refine hK.out _ _ (⟨HFR.out _ _ ho8 hSw.1, ⟨hSw.2.1.only ho8 (by have := HSZ.out; omega), hSw.2.2.only ho8 (by have := HSZ.out; omega)⟩⟩) ?_
                intro hSw
                clear hK K
                try simp only [Act.put, List.setIfInBounds_toArray, List.set_cons_zero, List.set_cons_succ]
                refine wpAnyH_take (i := 13) (oi := ⟨some 6, _, _, _, _, _⟩) (v := (.slice A7 (j + 1) c7)) rfl (by kernel_rfl) (by kernel_rfl) (by kernel_rfl) (fun _ _ _ h => h) (Or.inl ⟨by rfl, ?_⟩) hSw ?_
                · intro w' hSw'
                  go_simp
                simp only [Act.put, List.setIfInBounds_toArray, List.set_cons_zero, List.set_cons_succ]
                refine wpAnyH_done (by kernel_rfl) ?_ _
                have HF := Lib.hid hSw.1
                clear hSw hfold HRX HRY HR HZ HBL HBS HFR hnat hsum hj0 hj1
                go_wp2
                go_roundg (n5 - (j + 1))
                case measure => have := HIJ.out; omega
                case rel =>
                  refine ⟨j + 1, i + 2, true, A7, c7, by have := HIJ.out; omega, by have := HIJ.out; omega, rfl, rfl, ?_, by rw [Hid, HIJ.out]; omega, by rw [Hid, HM2.out, ← Bool.or_assoc, ← HTJ.out]; rfl, HF.out.2.2.2, ?_, HF.out.1, HF.out.2.1, HF.out.2.2.1⟩
                  · first | rfl | (rw [HSUM2.out]) | (rw [IntWalk.wrap64_in _ (by omega)]; rfl)
                  · have := HOW.out
                    rw [Hid, HM1.out, HZZ.out]
                    simpa using this
              | false =>
                go_wp2
                replace HOW := Lib.hid (own_only HOW.out ((Only.refl (fun _ => False) wr).drew) (fun _ _ h => h))
                refine wp_region_held_drew (S := (fun w' => (Sl w' (fun b => q < b ∧ b < B) 32 (some ⟨b, o, none⟩) n5 (row.flatMap bts) ∧ Blk w' q 32 zeros32.toArray ∧ Below w.heap.size w w' ∧ B ≤ w'.heap.size) ∧ RowAt w' b (o + i * 32) (bts x) ∧ RowAt w' b (o + (i + 1) * 32) (bts y))) (by kernel_rfl) (⟨HFR.out _ _ ((Only.refl (fun b => B ≤ b) wr).drew) ⟨HR.out, HZ.out, HBL.out, HBS.out⟩, HRX.out, HRY.out⟩) ?_
                intro hSw
                refine wpAnyH_take (i := 0) (oi := ⟨some 41, _, _, _, _, _⟩) (v := (.bool false)) rfl (by kernel_rfl) (by kernel_rfl) (by kernel_rfl) (fun _ _ _ h => h) (Or.inl ⟨by rfl, ?_⟩) hSw ?_
                · intro w' hSw'
                  go_simp
                simp only [Act.put, List.setIfInBounds_toArray, List.set_cons_zero, List.set_cons_succ]
                refine wpAnyH_take (i := 1) (oi := ⟨some 42, _, _, _, _, _⟩) (v := (.bool false)) rfl (by kernel_rfl) (by kernel_rfl) (by kernel_rfl) (fun _ _ _ h => h) (Or.inl ⟨by rfl, ?_⟩) hSw ?_
                · intro w' hSw'
                  go_simp
                simp only [Act.put, List.setIfInBounds_toArray, List.set_cons_zero, List.set_cons_succ]
                refine wpAnyH_take (i := 2) (oi := ⟨some 43, _, _, _, _, _⟩) (v := (.slice (some ⟨b, o, none⟩) n5 c5)) rfl (by kernel_rfl) (by kernel_rfl) (by kernel_rfl) (fun _ _ _ h => h) (Or.inl ⟨by rfl, ?_⟩) hSw ?_
                · intro w' hSw'
                  go_simp
                simp only [Act.put, List.setIfInBounds_toArray, List.set_cons_zero, List.set_cons_succ]
                refine wpAnyH_take (i := 3) (oi := ⟨some 44, _, _, _, _, _⟩) (v := (.int .i64 (i : Int))) rfl (by kernel_rfl) (by kernel_rfl) (by kernel_rfl) (fun _ _ _ h => h) (Or.inl ⟨by rfl, ?_⟩) hSw ?_
                · intro w' hSw'
                  go_simp
                simp only [Act.put, List.setIfInBounds_toArray, List.set_cons_zero, List.set_cons_succ]
                refine wpAnyH_take (i := 4) (oi := ⟨some 45, _, _, _, _, _⟩) (v := (.pointer (some ⟨b, o + i * 32, none⟩))) rfl (by kernel_rfl) (by kernel_rfl) (by kernel_rfl) (fun _ _ _ h => h) (Or.inl ⟨by rfl, ?_⟩) hSw ?_
                · intro w' hSw'
                  go_simp
                simp only [Act.put, List.setIfInBounds_toArray, List.set_cons_zero, List.set_cons_succ]
                refine wpAnyH_take (i := 5) (oi := ⟨some 46, _, _, _, _, _⟩) (v := .agg (bts x).toArray) rfl (by kernel_rfl) (by kernel_rfl) (by kernel_rfl) (fun _ _ _ h => h) (yieldsIf_load_mid (by rfl) _ _ rfl b (o + i * 32) rfl (bts x) _ (fun _ h => h.2.1) hu rfl hlx) hSw ?_
                simp only [Act.put, List.setIfInBounds_toArray, List.set_cons_zero, List.set_cons_succ]
                refine wpAnyH_take (i := 6) (oi := ⟨some 47, _, _, _, _, _⟩) (v := (.slice (some ⟨b, o, none⟩) n5 c5)) rfl (by kernel_rfl) (by kernel_rfl) (by kernel_rfl) (fun _ _ _ h => h) (Or.inl ⟨by rfl, ?_⟩) hSw ?_
                · intro w' hSw'
                  go_simp
                simp only [Act.put, List.setIfInBounds_toArray, List.set_cons_zero, List.set_cons_succ]
                refine wpAnyH_take (i := 7) (oi := ⟨some 48, _, _, _, _, _⟩) (v := (.int .i64 (i : Int))) rfl (by kernel_rfl) (by kernel_rfl) (by kernel_rfl) (fun _ _ _ h => h) (Or.inl ⟨by rfl, ?_⟩) hSw ?_
                · intro w' hSw'
                  go_simp
                simp only [Act.put, List.setIfInBounds_toArray, List.set_cons_zero, List.set_cons_succ]
                refine wpAnyH_take (i := 8) (oi := ⟨some 49, _, _, _, _, _⟩) (v := (.int .i64 ((i : Int) + 1))) rfl (by kernel_rfl) (by kernel_rfl) (by kernel_rfl) (fun _ _ _ h => h) (Or.inl ⟨by rfl, ?_⟩) hSw ?_
                · intro w' hSw'
                  go_simp
                simp only [Act.put, List.setIfInBounds_toArray, List.set_cons_zero, List.set_cons_succ]
                refine wpAnyH_take (i := 9) (oi := ⟨some 50, _, _, _, _, _⟩) (v := (.pointer (some ⟨b, o + (i + 1) * 32, none⟩))) rfl (by kernel_rfl) (by kernel_rfl) (by kernel_rfl) (fun _ _ _ h => h) (Or.inl ⟨by rfl, ?_⟩) hSw ?_
                · intro w' hSw'
                  go_simp
                simp only [Act.put, List.setIfInBounds_toArray, List.set_cons_zero, List.set_cons_succ]
                refine wpAnyH_take (i := 10) (oi := ⟨some 51, _, _, _, _, _⟩) (v := .agg (bts y).toArray) rfl (by kernel_rfl) (by kernel_rfl) (by kernel_rfl) (fun _ _ _ h => h) (yieldsIf_load_mid (by rfl) _ _ rfl b (o + (i + 1) * 32) rfl (bts y) _ (fun _ h => h.2.2) hu rfl hly) hSw ?_
                simp only [Act.put, List.setIfInBounds_toArray, List.set_cons_zero, List.set_cons_succ]
                refine wpAnyH_take (i := 11) (oi := ⟨some 52, _, _, _, _, _⟩) (v := (.bool xy)) rfl (by kernel_rfl) (by kernel_rfl) (by kernel_rfl) (fun _ _ _ h => h) (Or.inl ⟨by rfl, ?_⟩) hSw ?_
                · intro w' hSw'
                  go_simp
                simp only [Act.put, List.setIfInBounds_toArray, List.set_cons_zero, List.set_cons_succ]
                refine wpAnyH_take (i := 12) (oi := ⟨some 53, _, _, _, _, _⟩) (v := (.bool xy)) rfl (by kernel_rfl) (by kernel_rfl) (by kernel_rfl) (fun _ _ _ h => h) (Or.inl ⟨by rfl, ?_⟩) hSw ?_
                · intro w' hSw'
                  go_simp
                simp only [Act.put, List.setIfInBounds_toArray, List.set_cons_zero, List.set_cons_succ]
                refine wpAnyH_take (i := 13) (oi := ⟨some 4, _, _, _, _, _⟩) (v := (.bool xy)) rfl (by kernel_rfl) (by kernel_rfl) (by kernel_rfl) (fun _ _ _ h => h) (Or.inl ⟨by rfl, ?_⟩) hSw ?_
                · intro w' hSw'
                  go_simp
                simp only [Act.put, List.setIfInBounds_toArray, List.set_cons_zero, List.set_cons_succ]
                refine wpAnyH_done (by kernel_rfl) ?_ _
                replace HOW := Lib.hid (own_only HOW.out ((Only.refl (fun _ => False) wr.drew).drew) (fun _ _ h => h))
                go_wp2
                refine wp_region_held_drew (S := (fun w' => (Sl w' (fun b => q < b ∧ b < B) 32 (some ⟨b, o, none⟩) n5 (row.flatMap bts) ∧ Blk w' q 32 zeros32.toArray ∧ Below w.heap.size w w' ∧ B ≤ w'.heap.size) ∧ RowAt w' b (o + i * 32) (bts x) ∧ RowAt w' b (o + (i + 1) * 32) (bts y))) (by kernel_rfl) (⟨HFR.out _ _ ((Only.refl (fun b => B ≤ b) wr.drew).drew) hSw.1, hSw.2⟩) ?_
                intro hSw
                refine wpAnyH_take (i := 0) (oi := ⟨some 54, _, _, _, _, _⟩) (v := (.slice A6 j c6)) rfl (by kernel_rfl) (by kernel_rfl) (by kernel_rfl) (fun _ _ _ h => h) (Or.inl ⟨by rfl, ?_⟩) hSw ?_
                · intro w' hSw'
                  go_simp
                simp only [Act.put, List.setIfInBounds_toArray, List.set_cons_zero, List.set_cons_succ]
                refine wpAnyH_take (i := 1) (oi := ⟨some 55, _, _, _, _, _⟩) (v := (.slice (some ⟨b, o, none⟩) n5 c5)) rfl (by kernel_rfl) (by kernel_rfl) (by kernel_rfl) (fun _ _ _ h => h) (Or.inl ⟨by rfl, ?_⟩) hSw ?_
                · intro w' hSw'
                  go_simp
                simp only [Act.put, List.setIfInBounds_toArray, List.set_cons_zero, List.set_cons_succ]
                refine wpAnyH_take (i := 2) (oi := ⟨some 56, _, _, _, _, _⟩) (v := (.int .i64 (i : Int))) rfl (by kernel_rfl) (by kernel_rfl) (by kernel_rfl) (fun _ _ _ h => h) (Or.inl ⟨by rfl, ?_⟩) hSw ?_
                · intro w' hSw'
                  go_simp
                simp only [Act.put, List.setIfInBounds_toArray, List.set_cons_zero, List.set_cons_succ]
                refine wpAnyH_take (i := 3) (oi := ⟨some 57, _, _, _, _, _⟩) (v := (.pointer (some ⟨b, o + i * 32, none⟩))) rfl (by kernel_rfl) (by kernel_rfl) (by kernel_rfl) (fun _ _ _ h => h) (Or.inl ⟨by rfl, ?_⟩) hSw ?_
                · intro w' hSw'
                  go_simp
                simp only [Act.put, List.setIfInBounds_toArray, List.set_cons_zero, List.set_cons_succ]
                refine wpAnyH_take (i := 4) (oi := ⟨some 58, _, _, _, _, _⟩) (v := .agg (bts x).toArray) rfl (by kernel_rfl) (by kernel_rfl) (by kernel_rfl) (fun _ _ _ h => h) (yieldsIf_load_mid (by rfl) _ _ rfl b (o + i * 32) rfl (bts x) _ (fun _ h => h.2.1) hu rfl hlx) hSw ?_
                simp only [Act.put, List.setIfInBounds_toArray, List.set_cons_zero, List.set_cons_succ]
                refine wpAnyH_take (i := 5) (oi := ⟨some 59, _, _, _, _, _⟩) (v := (.slice (some ⟨b, o, none⟩) n5 c5)) rfl (by kernel_rfl) (by kernel_rfl) (by kernel_rfl) (fun _ _ _ h => h) (Or.inl ⟨by rfl, ?_⟩) hSw ?_
                · intro w' hSw'
                  go_simp
                simp only [Act.put, List.setIfInBounds_toArray, List.set_cons_zero, List.set_cons_succ]
                refine wpAnyH_take (i := 6) (oi := ⟨some 60, _, _, _, _, _⟩) (v := (.int .i64 (i : Int))) rfl (by kernel_rfl) (by kernel_rfl) (by kernel_rfl) (fun _ _ _ h => h) (Or.inl ⟨by rfl, ?_⟩) hSw ?_
                · intro w' hSw'
                  go_simp
                simp only [Act.put, List.setIfInBounds_toArray, List.set_cons_zero, List.set_cons_succ]
                refine wpAnyH_take (i := 7) (oi := ⟨some 61, _, _, _, _, _⟩) (v := (.int .i64 ((i : Int) + 1))) rfl (by kernel_rfl) (by kernel_rfl) (by kernel_rfl) (fun _ _ _ h => h) (Or.inl ⟨by rfl, ?_⟩) hSw ?_
                · intro w' hSw'
                  go_simp
                simp only [Act.put, List.setIfInBounds_toArray, List.set_cons_zero, List.set_cons_succ]
                refine wpAnyH_take (i := 8) (oi := ⟨some 62, _, _, _, _, _⟩) (v := (.pointer (some ⟨b, o + (i + 1) * 32, none⟩))) rfl (by kernel_rfl) (by kernel_rfl) (by kernel_rfl) (fun _ _ _ h => h) (Or.inl ⟨by rfl, ?_⟩) hSw ?_
                · intro w' hSw'
                  go_simp
                simp only [Act.put, List.setIfInBounds_toArray, List.set_cons_zero, List.set_cons_succ]
                refine wpAnyH_take (i := 9) (oi := ⟨some 63, _, _, _, _, _⟩) (v := .agg (bts y).toArray) rfl (by kernel_rfl) (by kernel_rfl) (by kernel_rfl) (fun _ _ _ h => h) (yieldsIf_load_mid (by rfl) _ _ rfl b (o + (i + 1) * 32) rfl (bts y) _ (fun _ h => h.2.2) hu rfl hly) hSw ?_
                simp only [Act.put, List.setIfInBounds_toArray, List.set_cons_zero, List.set_cons_succ]
                refine wpAnyH_ready (rs := [10]) (by kernel_rfl) (by simp) (AllReadyH.cons (o := ⟨some 64, _, _, _, _, _⟩) rfl (fun K hK => ?_) AllReadyH.nil)
                go_simp
                go_at_call 58
                refine (pair_any _ x y hx32 hy32).mono ?_
                rintro e5 w5 ⟨rfl, a5⟩
                replace HOW := Lib.hid (own_only HOW.out (Only.of_new a5 (fun _ => False)) (fun _ _ h => h))
                obtain ⟨z, hz⟩ : ∃ z, sha2 (x ++ y) = z := ⟨_, rfl⟩
                have hz32 : z.length = 32 := by rw [← hz]; exact sha2_len _
                rw [hz]
                have HZZ := Lib.hid hz
                clear hz
                have hfold := fold_id z hz32
                dsimp only
                refine hK.out _ _ (⟨HFR.out _ _ ((Only.of_below a5).mono (fun b hb e => by have := hSw.1.2.2.2; omega)) hSw.1, ⟨hSw.2.1.below (bts_pos hx32) a5, hSw.2.2.below (bts_pos hy32) a5⟩⟩) ?_
                intro hSw
                clear hK K
                try simp only [Act.put, List.setIfInBounds_toArray, List.set_cons_zero, List.set_cons_succ]
                refine wpAnyH_ready (rs := [11]) (by kernel_rfl) (by simp) (AllReadyH.cons (o := ⟨some 65, _, _, _, _, _⟩) rfl (fun K hK => ?_) AllReadyH.nil)
                go_simp
                replace HOW := Lib.hid (HOW.out.alloc (.cells (bts z).toArray 32))
                refine hK.out _ _ (⟨HFR.out _ _ ((Only.refl (fun b => B ≤ b) _).alloc _) hSw.1, ⟨hSw.2.1.only ((Only.refl (fun _ => False) _).alloc _) (fun h => h), hSw.2.2.only ((Only.refl (fun _ => False) _).alloc _) (fun h => h)⟩⟩) ?_
                intro hSw
                clear hK K
                try simp only [Act.put, List.setIfInBounds_toArray, List.set_cons_zero, List.set_cons_succ]
                refine wpAnyH_ready (rs := [12]) (by kernel_rfl) (by simp) (AllReadyH.cons (o := ⟨some 66, _, _, _, _, _⟩) rfl (fun K hK => ?_) AllReadyH.nil)
                refine step_app rfl (.tmp 54) (.tmp 65) 68 rfl B 32 _ 32 32 Try.underlying68 infoIDz (by rfl) (by decide) A6 j c6 rfl _ 1 1 rfl _ HOW.out _ _ (Sl.one_row w5 32 (bts z) 32 (by rw [bts_length, hz32])) (bts_one _) (by unfold maxLen; omega) (by omega) hSw.1.2.2.2 ?_
                intro A7 c7 w7 hown7 ho7 hat7
                have ho8 := ho7.mono (S' := fun b => B ≤ b) (fun b hb e => own_ge HOW.out e)
                replace HOW := Lib.hid hown7
                clear hown7 ho7 hat7
                refine hK.out _ _ (⟨HFR.out _ _ ho8 hSw.1, ⟨hSw.2.1.only ho8 (by have := HSZ.out; omega), hSw.2.2.only ho8 (by have := HSZ.out; omega)⟩⟩) ?_
                intro hSw
                clear hK K
                try simp only [Act.put, List.setIfInBounds_toArray, List.set_cons_zero, List.set_cons_succ]
                refine wpAnyH_take (i := 13) (oi := ⟨some 6, _, _, _, _, _⟩) (v := (.slice A7 (j + 1) c7)) rfl (by kernel_rfl) (by kernel_rfl) (by kernel_rfl) (fun _ _ _ h => h) (Or.inl ⟨by rfl, ?_⟩) hSw ?_
                · intro w' hSw'
                  go_simp
                simp only [Act.put, List.setIfInBounds_toArray, List.set_cons_zero, List.set_cons_succ]
                refine wpAnyH_done (by kernel_rfl) ?_ _
                have HF := Lib.hid hSw.1
                clear hSw hfold HRX HRY HR HZ HBL HBS HFR hnat hsum hj0 hj1
                go_wp2
                go_roundg (n5 - (j + 1))
                case measure => have := HIJ.out; omega
                case rel =>
                  refine ⟨j + 1, i + 2, xy, A7, c7, by have := HIJ.out; omega, by have := HIJ.out; omega, rfl, rfl, ?_, by rw [Hid, HIJ.out]; omega, by rw [Hid, HM2.out, ← Bool.or_assoc, ← HTJ.out]; rfl, HF.out.2.2.2, ?_, HF.out.1, HF.out.2.1, HF.out.2.2.1⟩
                  · first | rfl | (rw [HSUM2.out]) | (rw [IntWalk.wrap64_in _ (by omega)]; rfl)
                  · have := HOW.out
                    rw [Hid, HM1.out, HZZ.out]
                    simpa using this
          · have d2 : decide (i < n5) = false := by simpa using hlt
            obtain rfl : i = n5 := by omega
            have hfull : row.take i = row := take_full row i HLEN.out.symm
            have HFU := Lib.hid hfull
            clear hfull hlt HFR
            go_wp2
            go_roundg j
            case measure => have := HIJ.out; omega
            case rel =>
              refine ⟨j, mup row, tj, A6, c6, rfl, by rw [mup_length _ row (Nat.le_refl _), HLEN.out]; have := HIJ.out; omega, rfl, rfl, by rw [Hid]; have := HIJ.out; omega, mup_len row _ (Nat.le_refl _), ?_, ?_, HZ.out, HBL.out⟩
              · rw [Hid, HTJ.out, HFU.out, ← mrootF_step row tw (by rw [HLEN.out]; exact h1), HMR.out]
              · have := HOW.out
                rw [HFU.out] at this
                exact (Sl.of_own this).weak (fun b _ h => by have := HSZ.out; omega) (by omega)
      · have d1 : decide ((1 : Int) < (n5 : Int)) = false := by simp; omega
        obtain rfl : n5 = 1 := by omega
        obtain ⟨x, rfl⟩ : ∃ x, row = [x] := by
          match row, HLEN.out with
          | [x], _ => exact ⟨x, rfl⟩
        have hx : x.length = 32 := HRW.out x (by simp)
        obtain ⟨b, o, rfl, hqb, hrow0⟩ := HR.out.2 (by omega)
        have hres : mroot ids = (x, tw) := by rw [← HMR.out, mrootF_one _ _ (by simp)]; rfl
        have HRES := Lib.hid hres
        have HROW := Lib.hid (show RowAt wr b o (bts x) by simpa using hrow0)
        clear hrow0 hres h1 hn5 hqb
        go_wp2_with (first
          | (with_reducible refine wpList_ld rfl 32 (.tmp 69) rfl b o rfl (bts x) HROW.out _ Try.underlying32 rfl 32 infoID (by rw [bts_length, hx]) ?_)
          | (with_reducible refine wpList_stb rfl 32 (.tmp 2) (.tmp 70) rfl q 0 _ rfl rfl 32 zeros32 HZ.out ?h1 ?h2 ?h3 ?_))
        case h1 => simp [zeros32, hx]
        case h2 => rw [infoID]; simp [hx]
        case h3 => exact bts_one _
        intro w3 b3 o3
        rw [over_all _ _ (by simp [zeros32, hx])] at b3
        have HB3 := Lib.hid b3
        have O3 := Lib.hid o3
        clear b3 o3
        go_wp2
        refine bodyPost_ret (results_row_tmp rfl _ _ q 32 (bts x).toArray (0, 0) _ rfl HB3.out Try.underlying32 rfl (by rw [infoID]; simp [hx])) rfl ?_
        exact ⟨by rw [HRES.out]; rfl, HBL.out.trans (O3.out.below HBL.out.size (fun b hb e => by have := HQ.out; omega))⟩
end Go.Proofs.Ytpcombaecbjmfaa
