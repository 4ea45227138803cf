/- tx.Root. -/
import Derived.Test.YtpcombaecbjmfaaTb
import Derived.Test.YtpcombaecbjmfaaMk
namespace Go.Proofs.Ytpcombaecbjmfaa
open Go.RowKit
theorem flatMap_one {α : Type} (f : α → List Value) (hf : ∀ x, ∀ u ∈ f x, u.oneCell' = true) (l : List α) : ∀ u ∈ l.flatMap f, u.oneCell' = true := by
  intro u hu
  rw [List.mem_flatMap] at hu
  obtain ⟨x, _, hx⟩ := hu
  exact hf x u hx
theorem fold_set_aux : ∀ (xs : List Value) (k : Nat) (z : Array Value) (P R : List Value), z.toList = P ++ R → P.length = k → R.length = xs.length →
    (List.foldl (fun (cs : Array Value) (x : Value × Nat) => cs.setIfInBounds x.snd x.fst) z (xs.zipIdx k)).toList = P ++ xs := by
  intro xs
  induction xs with
  | nil => intro k z P R h _ hr; rw [List.length_nil, List.length_eq_zero_iff] at hr; subst hr; simpa using h
  | cons x xs ih =>
    intro k z P R h hp hr
    match R, hr with
    | r :: R, hr =>
      rw [List.zipIdx_cons, List.foldl_cons, ih (k + 1) _ (P ++ [x]) R ?_ (by simp [hp]) (by simpa using hr)]
      · simp
      · rw [Array.toList_setIfInBounds, h, List.set_append_right _ _ (by omega), hp, Nat.sub_self]; simp
/-- what a slice that is built of one array holds -/
theorem fold_set (xs : List Value) (z : Array Value) (h : z.size = xs.length) : List.foldl (fun (cs : Array Value) (x : Value × Nat) => cs.setIfInBounds x.snd x.fst) z xs.zipIdx = xs.toArray := by
  apply Array.ext'
  have := fold_set_aux xs 0 z [] z.toList rfl rfl (by simpa using h)
  simpa using this
theorem fold_id (y : List UInt8) (hy : y.length = 32) : List.foldl (fun (cs : Array Value) (x : Value × Nat) => cs.setIfInBounds x.snd x.fst) #[.int .u8 0, .int .u8 0, .int .u8 0, .int .u8 0, .int .u8 0, .int .u8 0, .int .u8 0, .int .u8 0, .int .u8 0, .int .u8 0, .int .u8 0, .int .u8 0, .int .u8 0, .int .u8 0, .int .u8 0, .int .u8 0, .int .u8 0, .int .u8 0, .int .u8 0, .int .u8 0, .int .u8 0, .int .u8 0, .int .u8 0, .int .u8 0, .int .u8 0, .int .u8 0, .int .u8 0, .int .u8 0, .int .u8 0, .int .u8 0, .int .u8 0, .int .u8 0] (bts y).zipIdx = (bts y).toArray := by
  rw [← zeros32_lit]
  exact fold_set _ _ (by simp [zeros32, hy])
theorem ids_len (l : List Id32) (h : ∀ x ∈ l, x.length = 32) : (l.flatMap bts).length = l.length * 32 := by
  induction l with
  | nil => rfl
  | cons x l ih => rw [List.flatMap_cons, List.length_append, ih (fun y hy => h y (by simp [hy])), bts_length, h x (by simp), List.length_cons]; omega
theorem sha2_len (l : List UInt8) : (sha2 l).length = 32 := sha_len _
theorem Sl.one_row (w : World) (e : TypeId) (vs : List Value) (size : Nat) (hv : vs.length = size) : Sl (w.alloc (.cells vs.toArray e)) (fun b => b = w.heap.size) size (some ⟨w.heap.size, 0, none⟩) 1 vs :=
  ⟨by simp [hv], fun _ => ⟨_, _, rfl, rfl, (Blk.new w e vs.toArray).rowAll⟩⟩
theorem mup_len (l : List Id32) : ∀ n, l.length ≤ n → ∀ x ∈ mup l, x.length = 32 := by
  intro n
  induction n generalizing l with
  | zero => intro h; match l, h with | [], _ => intro x hx; simp [mup] at hx
  | succ n ih =>
    intro h
    match l, h with
    | [], _ => intro x hx; simp [mup] at hx
    | [a], _ => intro x hx; simp only [mup, List.mem_singleton] at hx; rw [hx]; exact sha2_len _
    | a :: b :: r, h =>
      intro x hx
      simp only [mup, List.mem_cons] at hx
      rcases hx with rfl | hx
      · exact sha2_len _
      · exact ih r (by simp at h; omega) x hx
theorem mrootN_len : ∀ (n : Nat) (row : List Id32) (tw : Bool), (∀ x ∈ row, x.length = 32) → (mrootN n row tw).1.length = 32 := by
  have h0 : ∀ row : List Id32, (∀ x ∈ row, x.length = 32) → (row.getD 0 (List.replicate 32 0)).length = 32 := by
    intro row h
    match row with
    | [] => rfl
    | a :: _ => exact h a (by simp)
  intro n
  induction n with
  | zero => intro row tw h; exact h0 row h
  | succ n ih =>
    intro row tw h
    rw [mrootN]
    split
    · exact h0 row h
    · exact ih _ _ (mup_len row _ (Nat.le_refl _))
theorem mroot_len (ids : List Id32) (h : ∀ x ∈ ids, x.length = 32) : (mroot ids).1.length = 32 := mrootN_len _ _ _ h
set_option maxRecDepth 20000 in
set_option maxHeartbeats 4000000 in
theorem tx_root_any (m : Nat) (hmk : MerkleOk m) (w : World) (A : Option Addr) (c : Nat) (txs : List TxT) (ok : Nat → Prop)
    (ht : txsSh.rel w ok [.slice A m c] txs) (hm : txs.length = m) (hok : ∀ b, ok b → b < w.heap.size) (hf : ∀ t ∈ txs, TxFit t) (hm2 : m ≤ 1000) :
    Calls Try.prog 25 #[.slice A m c] w fun e w' => e = .returned (.tuple #[idV (mroot (txs.map fun t => sha2 (txB t))).1, .bool (mroot (txs.map fun t => sha2 (txB t))).2]) ∧ Below w.heap.size w w' := by
  have HMK := Lib.hid hmk
  have HT := Lib.hid ht
  have HM := Lib.hid hm
  have HOK := Lib.hid hok
  have HF := Lib.hid hf
  clear hmk ht hm hok hf
  go_enter Try.func25, Try.ntmps25
  go_wp2_with fail
  generalize hW : World.alloc w _ = W
  have hb2 : Blk W w.heap.size 32 zeros32.toArray := by rw [← hW]; exact Blk.new _ _ _
  have hbl : Below w.heap.size w W := by rw [← hW]; exact (Below.refl _ _).alloc (Nat.le_refl _) _
  clear hW
  obtain ⟨q, hq⟩ : ∃ q, w.heap.size = q := ⟨_, rfl⟩
  rw [hq] at hb2 ⊢
  have HQ := Lib.hid hq
  have HB2 := Lib.hid hb2
  have HBL := Lib.hid hbl
  have OW0 := Lib.hid (World.ownsRow_nil W (q + 1) 32 32)
  clear hq hb2 hbl
  go_loopg [4, 9] m (fun n v4 v9 wr => ∃ (j : Nat) (A : Option Addr) (c : Nat), j + n = m ∧ v9 = .int .i64 j ∧ v4 = .slice A j c ∧ Hid (wr.ownsRow (q + 1) 32 32 (.slice A j c) j (((txs.take j).map fun t => sha2 (txB t)).flatMap bts)) ∧ Hid (Blk wr q 32 zeros32.toArray) ∧ Hid (Below w.heap.size w wr))
  case atStart => exact ⟨0, none, 0, by omega, rfl, rfl, OW0, HB2, HBL⟩
  case round =>
    clear OW0 HB2 HBL
    obtain ⟨j, A2, c2, hj, rfl, rfl, HOW, HB2, HBL⟩ := hrel
    by_cases hlt : j < m
    · have ht' := txsSh.below HT.out HBL.out (fun _ h _ => h)
      obtain ⟨b', o, cs, rfl, hb, hcs, hrow⟩ := txs_at ht' (by rw [HM.out]; exact hlt)
      obtain ⟨ins, outs, A3, A4, c3, c4, het, rfl, hi, ho⟩ := tx_cells hcs
      have hfit : TxFit (ins, outs, ()) := by rw [← het]; exact HF.out _ (List.getElem_mem _)
      have HET := Lib.hid het
      have HI := Lib.hid hi
      have HO := Lib.hid ho
      have HFT := Lib.hid hfit
      have HROW := Lib.hid hrow
      clear ht' hcs het hi ho hfit hrow hb
      obtain ⟨n1, hn1⟩ : ∃ n1, ins.length = n1 := ⟨_, rfl⟩
      obtain ⟨n2, hn2⟩ : ∃ n2, outs.length = n2 := ⟨_, rfl⟩
      rw [hn1] at HI HROW
      rw [hn2] at HO HROW
      have HN1 := Lib.hid hn1
      have HN2 := Lib.hid hn2
      clear hn1 hn2
      go_wp2_with (first
        | (with_reducible refine wpList_ld rfl 25 (.tmp 11) rfl b' (o + j * 2) rfl [.slice A3 n1 c3, .slice A4 n2 c4] HROW.out _ Try.underlying25 rfl 2 infoTx rfl ?_)
        | (with_reducible refine wpList_stb rfl 25 (.tmp 6) (.tmp 12) rfl wr.heap.size 0 _ rfl rfl 25 _ (Blk.new wr _ _) ?h1 ?h2 ?h3 ?_))
      case h1 => simp
      case h2 => rw [infoTx]; rfl
      case h3 => exact ⟨rfl, rfl⟩
      intro w4 b4 o4
      rw [over_all _ _ (by simp)] at b4
      have hO4 : Below wr.heap.size wr w4 := (((Only.refl (fun b => wr.heap.size ≤ b) wr).alloc _).trans o4 (fun b _ e => by omega)).below (Nat.le_refl _) (fun b hb h => by omega)
      have HI4 := Lib.hid (insSh.below HI.out hO4 (fun _ h _ => h))
      have HO4' := Lib.hid (outsSh.below HO.out hO4 (fun _ h _ => h))
      have q0 := b4.cell 0
      have q1 := b4.cell 1
      simp only [List.getElem?_toArray, List.getElem?_cons_zero, List.getElem?_cons_succ] at q0 q1
      have HB4 := Lib.hid (HB2.out.below hO4 HB2.out.lt)
      have HBL4 := Lib.hid (HBL.out.trans (hO4.mono HBL.out.size))
      have HOW4 := Lib.hid (own_only HOW.out (Only.of_new hO4 (fun _ => False)) (fun _ _ h => h))
      clear b4 o4 hO4 HROW HI HO HOW HB2 HBL
      generalize wr.heap.size = p at q0 q1 ⊢
      have hid := (tx_id_any w4 A3 A4 n1 n2 c3 c4 ins outs _ HI4.out HO4'.out HN1.out HN2.out (fun b hb => Nat.lt_of_lt_of_le (HOK.out b hb) HBL4.out.size) HFT.out)
      unfold idV at hid
      obtain ⟨y, hy⟩ : ∃ y, sha2 (txB (ins, outs, ())) = y := ⟨_, rfl⟩
      have hy32 : y.length = 32 := by rw [← hy]; exact sha2_len _
      rw [hy] at hid
      have HY := Lib.hid hy
      have ID := Lib.hid hid
      clear hid hy
      go_wp2_with fail
      refine ID.out.mono ?_
      rintro e5 w5 ⟨rfl, a5⟩
      have HB5 := Lib.hid (HB4.out.below a5 HB4.out.lt)
      have HBL5 := Lib.hid (HBL4.out.trans (a5.mono HBL4.out.size))
      have HOW5 := Lib.hid (own_only HOW4.out (Only.of_new a5 (fun _ => False)) (fun _ _ h => h))
      clear a5 ID HB4 HBL4 HOW4 HI4 HO4' q0 q1
      have hfold := fold_id y hy32
      go_wp2_with (at_builtin; refine wpList_app _ rfl (.tmp 13) (.tmp 16) 68 rfl (q + 1) 32 _ 32 32 Try.underlying68 infoIDz (by rfl) (by decide) A2 j c2 rfl _ 1 1 rfl _ (HOW5.out.alloc _) _ _ (Sl.one_row w5 32 (bts y) 32 (by rw [bts_length, hy32])) (bts_one _) (by unfold maxLen; omega) (by omega) ?hbase ?next)
      case hbase => have := HB5.out.lt; simp; omega
      case next =>
        intro A6 c6 w6 hown6 ho6 hat6
        have hlow : ∀ b, (Value.slice A2 j c2).ownBlock = some b → q + 1 ≤ b := fun b e => own_ge HOW5.out e
        have HB6 := Lib.hid ((HB5.out.alloc (.cells (bts y).toArray 32)).only ho6 (fun e => by have := hlow _ e; omega))
        have HBL6 := Lib.hid ((HBL5.out.alloc HBL5.out.size (.cells (bts y).toArray 32)).trans (ho6.below (HBL5.out.alloc HBL5.out.size _).size (fun b hb e => by have := hlow _ e; have := HQ.out; omega)))
        have HOW6 := Lib.hid hown6
        clear hown6 ho6 hat6 hlow hfold
        go_wp2
        go_roundg (m - 1 - j)
        case measure => omega
        case rel =>
          refine ⟨j + 1, A6, c6, by omega, rfl, rfl, ?_, HB6.out, HBL6.out⟩
          have := HOW6.out
          rw [Hid, take_snoc' txs j (by rw [HM.out]; exact hlt), HET.out, List.map_append, List.flatMap_append, List.map_singleton, HY.out]
          simpa using this
    · obtain rfl : j = m := by omega
      have hall : txs.take j = txs := List.take_of_length_le (by rw [HM.out]; exact Nat.le_refl _)
      rw [hall] at HOW
      obtain ⟨ids, hids⟩ : ∃ ids, (txs.map fun t => sha2 (txB t)) = ids := ⟨_, rfl⟩
      rw [hids] at HOW
      have h32 : ∀ x ∈ ids, x.length = 32 := by
        rw [← hids]
        intro x hx
        rw [List.mem_map] at hx
        obtain ⟨t, _, rfl⟩ := hx
        exact sha2_len _
      have MK := Lib.hid (HMK.out wr A2 c2 ids _ (by rw [← hids, List.length_map, HM.out]) h32 (Sl.of_own HOW.out))
      unfold idV at MK
      have HI2 := Lib.hid hids
      clear hall hids h32 hlt hj
      go_wp2_with fail
      refine MK.out.mono ?_
      rintro e3 w3 ⟨rfl, a3⟩
      have hz3 := HB2.out.below a3 HB2.out.lt
      have HBL3 := Lib.hid (HBL.out.trans (a3.mono HBL.out.size))
      clear a3 MK
      have hm32 : (mroot ids).1.length = 32 := mroot_len ids (by
        rw [← HI2.out]
        intro x hx
        rw [List.mem_map] at hx
        obtain ⟨t, _, rfl⟩ := hx
        exact sha2_len _)
      obtain ⟨R, hR⟩ : ∃ R, mroot ids = R := ⟨_, rfl⟩
      rw [hR] at hm32 ⊢
      have HR := Lib.hid hR
      clear hR
      obtain ⟨x, tw⟩ := R
      simp only at hm32 ⊢
      go_wp2_with (with_reducible refine wpList_stb rfl 32 (.tmp 2) (.tmp 21) rfl q 0 _ rfl rfl 32 zeros32 hz3 ?h1 ?h2 ?h3 ?_)
      case h1 => simp [zeros32, hm32]
      case h2 => rw [infoID]; simp [hm32]
      case h3 => exact bts_one _
      intro w5 b5 o5
      rw [over_all _ _ (by simp [zeros32, hm32])] at b5
      have HB5 := Lib.hid b5
      have O5 := Lib.hid o5
      clear b5 o5 hz3
      go_wp2
      refine bodyPost_ret (results_row_tmp rfl _ _ q 32 (bts x).toArray (0, 0) _ rfl HB5.out Try.underlying32 rfl (by rw [infoID]; simp [hm32])) rfl ?_
      refine ⟨?_, HBL3.out.trans (O5.out.below HBL3.out.size (fun b hb e => by have := HQ.out; omega))⟩
      rw [HI2.out, HR.out]
      rfl
end Go.Proofs.Ytpcombaecbjmfaa
