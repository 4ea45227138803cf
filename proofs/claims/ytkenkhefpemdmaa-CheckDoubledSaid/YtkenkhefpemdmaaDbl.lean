/- the walk of law12.CheckDoubled. -/
import Derived.Test.YtkenkhefpemdmaaRts
import Derived.Test.YtkenkhefpemdmaaRt
namespace Go.Proofs.Ytkenkhefpemdmaa
open Go.RowKit
/-! ### plainly -/
theorem mrootN_tw : ∀ (n : Nat) (row : List Id32) (tw : Bool), (mrootN n row tw).1 = (mrootN n row false).1 ∧ (mrootN n row true).2 = true := by
  intro n
  induction n with
  | zero => intro row tw; exact ⟨rfl, rfl⟩
  | succ n ih =>
    intro row tw
    simp only [mrootN]
    split
    · exact ⟨rfl, rfl⟩
    · refine ⟨?_, ?_⟩
      · rw [(ih (mup row) (tw || mtw row)).1, (ih (mup row) (false || mtw row)).1]
      · rw [Bool.true_or]; exact (ih (mup row) false).2
theorem mroot_doubled (P : List Id32) (a : Id32) (he : P.length % 2 = 0) (h1 : 0 < P.length) : (mroot ((P ++ [a]) ++ [a])).1 = (mroot (P ++ [a])).1 ∧ (mroot ((P ++ [a]) ++ [a])).2 = true := by
  obtain ⟨u1, u2⟩ := mup_app _ P [a] (Nat.le_refl _) he
  obtain ⟨v1, v2⟩ := mup_app _ P [a, a] (Nat.le_refl _) he
  have e1 : mroot (P ++ [a]) = mrootF (mup P ++ [sha2 (a ++ a)]) (mtw (P ++ [a])) := by
    show mrootF (P ++ [a]) false = _
    rw [mrootF_step _ _ (by simp; omega), u1, Bool.false_or]
    rfl
  have e2 : mroot ((P ++ [a]) ++ [a]) = mrootF (mup P ++ [sha2 (a ++ a)]) true := by
    show mrootF ((P ++ [a]) ++ [a]) false = _
    rw [mrootF_step _ _ (by simp), List.append_assoc]
    show mrootF (mup (P ++ [a, a])) (false || mtw (P ++ [a, a])) = _
    rw [v1, v2]
    simp only [mup, mtw, BEq.rfl, Bool.true_or, Bool.or_true, Bool.false_or]
  rw [e1, e2]
  unfold mrootF
  exact ⟨by rw [(mrootN_tw _ _ (mtw (P ++ [a]))).1, (mrootN_tw _ _ true).1], (mrootN_tw _ _ false).2⟩
theorem mroot_last (T : List TxT) (n : Nat) (hn : T.length = n + 1) (he : n % 2 = 0) (h1 : 0 < n) (t : TxT) (ht : T[n]'(by omega) = t) : (mroot (txIds (T ++ [t]))).1 = (mroot (txIds T)).1 ∧ (mroot (txIds (T ++ [t]))).2 = true := by
  have e : T = T.take n ++ [t] := by
    rw [← ht, ← take_snoc' T n (by omega), List.take_of_length_le (by omega)]
  have h := mroot_doubled ((T.take n).map fun t => sha2 (txB t)) (sha2 (txB t)) (by simp; omega) (by simp; omega)
  have e2 : txIds T = (T.take n).map (fun t => sha2 (txB t)) ++ [sha2 (txB t)] := by
    conv => lhs; rw [e]
    rw [txIds, List.map_append, List.map_singleton]
  have e3 : txIds (T ++ [t]) = ((T.take n).map (fun t => sha2 (txB t)) ++ [sha2 (txB t)]) ++ [sha2 (txB t)] := by
    rw [← e2, txIds, txIds, List.map_append, List.map_singleton]
  rw [e2, e3]
  exact h
theorem croot_twins (root : List UInt8) (txs : List TxT) (h : (mroot (txIds txs)).2 = true) : croot root txs = 40 := by
  rw [croot, h]; simp
theorem weak_in2 : inSh.Weak := weak_pair (weak_pair (weak_arr 32) (weak_pair (weak_int _) weak_unit)) (weak_pair weak_bytes weak_unit)
theorem weak_out2 : outSh.Weak := weak_pair (weak_int _) (weak_pair (weak_arr 32) weak_unit)
theorem weak_tx : txSh.Weak := weak_pair (weak_slice weak_in2) (weak_pair (weak_slice weak_out2) weak_unit)
theorem infoTxz : (Try.prog.info? 25).map (fun i => (i.zero, i.size, i.bytes)) = some (some (.agg #[.slice none 0 0, .slice none 0 0]), 2, 48) := by kernel_rfl
theorem tx_one {w : World} {ok : Nat → Prop} {cs : List Value} {t : TxT} (h : txSh.rel w ok cs t) : ∀ u ∈ cs, u.oneCell' = true := by
  obtain ⟨ins, outs, A, A', c, c', _, rfl, _⟩ := tx_cells h
  intro u hu
  simp only [List.mem_cons, List.not_mem_nil, or_false] at hu
  rcases hu with rfl | rfl <;> rfl
theorem each_one {w : World} {ok : Nat → Prop} {cells : List (List Value)} {txs : List TxT} (h : Each (txSh.rel w ok) cells txs) : ∀ u ∈ cells.flatten, u.oneCell' = true := by
  induction h with
  | nil => intro u hu; simp at hu
  | cons h _ ih =>
    intro u hu
    rw [List.flatten_cons, List.mem_append] at hu
    rcases hu with hu | hu
    · exact tx_one h u hu
    · exact ih u hu
theorem blk_set68 (v t b n : Nat) (prev root : List UInt8) (sv sv' : Value) (h1 : prev.length = 32) (h2 : root.length = 32) : (blkC v prev root t b n sv).toArray.setIfInBounds 68 sv' = (blkC v prev root t b n sv').toArray := by
  rw [List.setIfInBounds_toArray, blkC, blkC, List.set_append_right _ _ (by rw [hdrC_len _ _ _ _ _ _ h1 h2]; omega), hdrC_len _ _ _ _ _ _ h1 h2]
  rfl
theorem txM1_rel {w0 w : World} {p q : Nat} (h : As w0 w 1 p q) (ok : Nat → Prop) (hp : ok p) (hq : ok q) : txSh.rel w ok [slM p, slM q] (txM 1) := ⟨[slM p], [slM q], rfl, h.ins ok hp, ⟨[slM q], [], rfl, h.outs (by decide) ok hq, rfl⟩⟩
set_option maxRecDepth 20000 in
set_option maxHeartbeats 4000000 in
theorem checkDoubled_any (w : World) (A : Option Addr) (m c : Nat) (txs : List TxT) (ok : Nat → Prop) (ht : txsSh.rel w ok [.slice A m c] txs) (hok : ∀ b, ok b → b < w.heap.size) :
    Calls Try.prog 5 #[.slice A m c] w fun e w' => e = .returned (.bool true) ∧ Below w.heap.size w w' := by
  obtain ⟨cells, hm, hmc, hcm, hE, hS, hcl, h2⟩ := shSlice_open ht
  have hS : Sl w ok 2 A m cells.flatten := hS
  have h2 : ∀ u ∈ cells, u.length = 2 := h2
  have HT := Lib.hid ht
  have HM := Lib.hid hm
  have HE := Lib.hid hE
  have HS := Lib.hid hS
  have HCL := Lib.hid (And.intro hcl h2)
  have HOK := Lib.hid hok
  clear ht hm hE hS hcl h2 hok hmc hcm
  go_enter Try.func5, Try.ntmps5
  go_wp2_with fail
  refine (asks_any w).mono ?_
  rintro e1 w1 ⟨rfl, a1⟩
  have HBL := Lib.hid a1
  clear a1
  by_cases hm8 : 8 < m
  · have d1 : decide ((8 : Int) < (m : Int)) = true := by simp; omega
    go_wp2
    go_ret
    exact ⟨rfl, HBL.out⟩
  · have d1 : decide ((8 : Int) < (m : Int)) = false := by simp; omega
    have hm8' : m ≤ 8 := by omega
    clear hm8
    go_wp2_with fail
    clear d1
    go_loopg [15] m (fun k v15 wr => ∃ (j : Nat), j + k = m ∧ v15 = .int .i64 j ∧ Hid (∀ t ∈ txs.take j, TxFit t) ∧ Hid (Below w.heap.size w wr))
    case atStart => exact ⟨0, by omega, rfl, by simp [Hid], HBL⟩
    case round =>
      clear HBL
      obtain ⟨j, hj, rfl, HC, HBL⟩ := hrel
      by_cases hlt : j < m
      · obtain ⟨b', o, cs, rfl, hb, hcs, hrow⟩ := txs_at (txsSh.below HT.out HBL.out (fun _ h _ => h)) (by rw [HM.out]; exact hlt)
        obtain ⟨ins, outs, A3, A4, c3, c4, het, rfl, hi, ho⟩ := tx_cells hcs
        have HET := Lib.hid het
        have HI := Lib.hid hi
        have HROW := Lib.hid hrow
        obtain ⟨n1, hn1⟩ : ∃ n1, ins.length = n1 := ⟨_, rfl⟩
        obtain ⟨n2, hn2⟩ : ∃ n2, outs.length = n2 := ⟨_, rfl⟩
        rw [hn1] at HI HROW
        rw [hn2] at HROW
        have HN1 := Lib.hid hn1
        have HN2 := Lib.hid hn2
        clear hcs het hi ho hrow hb hn1 hn2
        go_wp2_with (first
          | (with_reducible refine wpList_ld rfl 25 (.tmp 17) rfl b' (o + j * 2) rfl ([.slice A3 n1 c3, .slice A4 n2 c4]) HROW.out _ Try.underlying25 rfl 2 infoTx rfl ?_)
          | (with_reducible refine wpList_stb rfl 25 (.tmp 4) (.tmp 18) rfl wr.heap.size 0 _ rfl rfl 25 _ (Blk.new wr _ _) ?h1 ?h2 ?h3 ?_))
        case h1 => simp
        case h2 => rw [infoTx]; rfl
        case h3 => exact ⟨rfl, rfl⟩
        intro w4 b4 o4
        rw [over_all _ _ (by simp [])] at b4
        have hO4 : Below wr.heap.size wr w4 := (((Only.refl (fun b => wr.heap.size ≤ b) wr).alloc _).trans o4 (fun b _ e => by omega)).below (Nat.le_refl _) (fun b hb h => by omega)
        have q0 := b4.cell 0
        have q1 := b4.cell 1
        simp only [List.getElem?_toArray, List.getElem?_cons_zero, List.getElem?_cons_succ] at q0 q1
        replace HBL := Lib.hid (HBL.out.trans (hO4.mono HBL.out.size))
        replace HI := Lib.hid (insSh.below HI.out hO4 (fun _ h _ => h))
        clear b4 o4 hO4 HROW
        generalize wr.heap.size = p at q0 q1 ⊢
        by_cases k1 : 3 < n1
        · have d1 : decide ((3 : Int) < (n1 : Int)) = true := by simp; omega
          go_wp2
          go_ret
          exact ⟨rfl, HBL.out⟩
        · have d1 : decide ((3 : Int) < (n1 : Int)) = false := by simp; omega
          by_cases k2 : 3 < n2
          · have d2 : decide ((3 : Int) < (n2 : Int)) = true := by simp; omega
            go_wp2
            go_ret
            exact ⟨rfl, HBL.out⟩
          · have d2 : decide ((3 : Int) < (n2 : Int)) = false := by simp; omega
            have FT := fits_any w4 A3 A4 n1 n2 c3 c4 ins outs _ HI.out HN1.out HN2.out
            obtain ⟨fb, hfb⟩ : ∃ fb, fitsB (ins, outs, ()) = fb := ⟨_, rfl⟩
            rw [hfb] at FT
            replace FT := Lib.hid FT
            have HFB := Lib.hid hfb
            clear hfb k1 k2
            go_wp2_with fail
            refine FT.out.mono ?_
            rintro e5 w5 ⟨rfl, a5⟩
            replace HBL := Lib.hid (HBL.out.trans (a5.mono HBL.out.size))
            clear a5 FT q0 q1 d1 d2
            cases fb with
            | false =>
              go_wp2
              go_ret
              exact ⟨rfl, HBL.out⟩
            | true =>
              have hall : ∀ t ∈ txs.take (j + 1), TxFit t := by
                rw [take_snoc' txs j (by rw [HM.out]; exact hlt)]
                intro t ht
                rcases List.mem_append.1 ht with h | h
                · exact HC.out t h
                · rw [List.mem_singleton.1 h, HET.out]; exact fits_fit HFB.out
              have HA := Lib.hid hall
              clear hall
              go_wp2
              go_roundg (m - 1 - j)
              case measure => omega
              case rel => exact ⟨j + 1, by omega, by first | rfl | (rw [IntWalk.wrap64_in _ (by omega)]; rfl), HA.out, HBL.out⟩
      · obtain rfl : m = j := by omega
        have d2 : decide (m < m) = false := by simp
        have hall : ∀ t ∈ txs, TxFit t := by
          have := HC.out
          rwa [List.take_of_length_le (by rw [HM.out]; exact Nat.le_refl _)] at this
        have HF := Lib.hid hall
        clear hall hlt hj HC
        go_wp2_with fail
        clear d2
        refine (first_any wr 1).mono ?_
        rintro e3 w3 ⟨p, q, rfl, a3, g1, g2, b1, b2⟩
        have K := Lib.hid (show As wr w3 1 p q from ⟨b1, b2, a3, g1, g2⟩)
        have HPQ := Lib.hid (show p < w3.heap.size ∧ q < w3.heap.size ∧ w.heap.size ≤ w3.heap.size from ⟨b1.lt, b2.lt, Nat.le_trans HBL.out.size a3.size⟩)
        replace HBL := Lib.hid (HBL.out.trans (a3.mono HBL.out.size))
        clear a3 g1 g2 b1 b2
        go_wp2_with (at_builtin; refine wpList_app _ rfl (.tmp 36) (.tmp 37) 40 rfl w3.heap.size 25 _ 2 48 Try.underlying40 infoTxz (by rfl) (by decide) (some ⟨w3.heap.size, 0, none⟩) 1 1 rfl A m c rfl [slM p, slM q] (World.ownsRow_lit w3 #[slM p, slM q] 1 (Nat.le_refl _) (by decide) rfl) _ _ ((HS.out.lt (by omega)).below (HBL.out.alloc HBL.out.size _) (fun b _ h => h.2) (by omega)) (each_one HE.out) (by unfold maxLen; omega) (by omega) ?hbase ?next)
        case hbase => simp
        case next =>
          intro A5 c5 w5 hown5 ho5 hat5
          have hO5 : Below w3.heap.size w3 w5 := (((Only.refl (fun b => w3.heap.size ≤ b) w3).alloc _).trans ho5 (fun b hb e => by simp [Value.ownBlock] at e; omega)).below (Nat.le_refl _) (fun b hb h => by omega)
          replace K := Lib.hid (K.out.step hO5)
          have hE5 : Each (txSh.rel w5 (fun b => b < w3.heap.size)) ([slM p, slM q] :: cells) (txM 1 :: txs) := .cons (txM1_rel K.out _ HPQ.out.1 HPQ.out.2.1) (HE.out.mono (fun _ _ h => weak_tx _ _ _ _ _ (txSh.below (txSh.below h HBL.out (fun b _ hb => HOK.out b hb)) hO5 (fun _ h _ => h)) (fun b _ hb => by have := HOK.out b hb; have := HPQ.out; omega)))
          replace HBL := Lib.hid (HBL.out.trans (hO5.mono HBL.out.size))
          have hsz := hO5.size
          obtain ⟨B, hB⟩ : ∃ B, w3.heap.size = B := ⟨_, rfl⟩
          have hBw := HPQ.out.2.2
          rw [hB] at hown5 hE5 hsz hBw
          obtain ⟨n5, hn5⟩ : ∃ n5, 1 + m = n5 := ⟨_, rfl⟩
          rw [hn5] at hown5 ⊢
          have HN5 := Lib.hid hn5
          have hn9 : n5 ≤ 9 := by omega
          have hn1 : 1 ≤ n5 := by omega
          obtain ⟨T, hT⟩ : ∃ T, txM 1 :: txs = T := ⟨_, rfl⟩
          obtain ⟨CT, hCT⟩ : ∃ CT, [slM p, slM q] :: cells = CT := ⟨_, rfl⟩
          have hTl : T.length = n5 := by rw [← hT, List.length_cons, HM.out]; omega
          have hTf : ∀ t ∈ T, TxFit t := by
            rw [← hT]
            intro t ht
            rcases List.mem_cons.1 ht with rfl | h
            · exact txM_fit 1
            · exact HF.out t h
          have hown5' : w5.ownsRow B 25 2 (.slice A5 n5 c5) n5 CT.flatten := by rw [← hCT, List.flatten_cons]; exact hown5
          rw [hT, hCT] at hE5
          have HW := Lib.hid hown5'
          replace HE := Lib.hid hE5
          have HTL := Lib.hid hTl
          have HTF := Lib.hid hTf
          have HBW := Lib.hid (And.intro hBw hsz)
          clear hown5 hown5' ho5 hat5 hO5 hE5 hsz hB hBw hn5 hT hCT hTl hTf K HPQ
          have hzv : ∀ w : World, (zeroValue 42).run Try.prog w = .ok (.agg #[.int .u32 0, .int .u8 0, .int .u8 0, .int .u8 0, .int .u8 0, .int .u8 0, .int .u8 0, .int .u8 0, .int .u8 0, .int .u8 0, .int .u8 0, .int .u8 0, .int .u8 0, .int .u8 0, .int .u8 0, .int .u8 0, .int .u8 0, .int .u8 0, .int .u8 0, .int .u8 0, .int .u8 0, .int .u8 0, .int .u8 0, .int .u8 0, .int .u8 0, .int .u8 0, .int .u8 0, .int .u8 0, .int .u8 0, .int .u8 0, .int .u8 0, .int .u8 0, .int .u8 0, .int .u8 0, .int .u8 0, .int .u8 0, .int .u8 0, .int .u8 0, .int .u8 0, .int .u8 0, .int .u8 0, .int .u8 0, .int .u8 0, .int .u8 0, .int .u8 0, .int .u8 0, .int .u8 0, .int .u8 0, .int .u8 0, .int .u8 0, .int .u8 0, .int .u8 0, .int .u8 0, .int .u8 0, .int .u8 0, .int .u8 0, .int .u8 0, .int .u8 0, .int .u8 0, .int .u8 0, .int .u8 0, .int .u8 0, .int .u8 0, .int .u8 0, .int .u8 0, .int .u32 0, .int .u32 0, .int .u32 0, .slice none 0 0]) w := fun _ => by kernel_rfl
          go_wp2_with (with_reducible refine wpList_stb rfl 42 (.tmp 5) (.tmp 39) rfl w5.heap.size 0 _ rfl rfl 42 _ (Blk.new w5 _ _) ?g1 ?g2 ?g3 ?_)
          case g2 => first | (rw [infoBlk]; rfl) | simpa using infoBlk
          case g3 => first | exact blkC_one 0 zid zid 0 0 0 (.slice A5 n5 c5) rfl | simp [Value.oneCell'] | (intro v hv; exact blkC_one 0 zid zid 0 0 0 (.slice A5 n5 c5) rfl v hv)
          intro w6 b6 o6
          rw [over_all _ _ (by simp)] at b6
          clear hzv
          have hG : Blk w6 w5.heap.size 42 (blkC 0 zid zid 0 0 0 (.slice A5 n5 c5)).toArray := b6
          have hO6 : Below w5.heap.size w5 w6 := (((Only.refl (fun b => w5.heap.size ≤ b) w5).alloc _).trans o6 (fun b _ e => by omega)).below (Nat.le_refl _) (fun b hb h => by omega)
          replace HE := Lib.hid (HE.out.mono (fun _ _ h => txSh.below h hO6 (fun _ h _ => h)))
          replace HW := Lib.hid (own_only HW.out (Only.of_new hO6 (fun _ => False)) (fun _ _ h => h))
          replace HBL := Lib.hid (HBL.out.trans (hO6.mono HBL.out.size))
          have hBg : B ≤ w5.heap.size := HBW.out.2
          clear b6 o6 hO6
          obtain ⟨g, hg⟩ : ∃ g, w5.heap.size = g := ⟨_, rfl⟩
          rw [hg] at hG hBg ⊢
          have HG := Lib.hid hG
          have HBG := Lib.hid (show w.heap.size ≤ B ∧ B ≤ g from ⟨HBW.out.1, hBg⟩)
          clear hg hG hBg HBW
          have c68 := blk_cell68 HG.out zid_len zid_len
          have TR := tx_root_any n5 (merkle_any n5 (by omega)) w6 A5 c5 T (fun b => b < w6.heap.size) (own_shut HW.out (HE.out.mono (fun _ _ h => weak_tx _ _ _ _ _ h (fun b hb _ => hb))) HTL.out (fun b _ h => h)) HTL.out (fun _ h => h) HTF.out (by omega)
          have hm32 := mroot_tx_len T
          obtain ⟨R, hR⟩ : ∃ R, mroot (txIds T) = R := ⟨_, rfl⟩
          have hR' := hR
          unfold txIds at hR'
          rw [hR'] at TR
          rw [hR] at hm32
          obtain ⟨r, tw⟩ := R
          unfold idV at TR
          dsimp only at TR hm32
          replace TR := Lib.hid TR
          have HR := Lib.hid hR
          clear hR hR'
          go_wp2_with fail
          refine TR.out.mono ?_
          rintro e7 w7 ⟨rfl, a7⟩
          replace HE := Lib.hid (HE.out.mono (fun _ _ h => txSh.below h a7 (fun _ h _ => h)))
          replace HG := Lib.hid (HG.out.below a7 HG.out.lt)
          replace HW := Lib.hid (own_only HW.out (Only.of_new a7 (fun _ => False)) (fun _ _ h => h))
          replace HBL := Lib.hid (HBL.out.trans (a7.mono HBL.out.size))
          clear a7 TR c68
          go_wp2_with (with_reducible refine wpList_stb rfl 37 (.tmp 47) (.tmp 44) rfl g 33 _ rfl rfl 42 _ HG.out ?h1 ?h2 ?h3 ?_)
          case h1 => simp [blkC_len _ _ _ _ _ _ _ zid_len zid_len, hm32]
          case h2 => rw [infoID]; simp [hm32]
          case h3 => exact bts_one _
          intro w8 b8 o8
          rw [over_root 0 0 0 0 zid zid r _ zid_len zid_len hm32] at b8
          have hgo := own_blk_ne HW.out HG.out (by decide)
          replace HE := Lib.hid (HE.out.mono (fun _ _ h => txSh.only h o8 (fun b _ hb e => by have := HBG.out; omega)))
          replace HW := Lib.hid (own_only HW.out o8 (fun k e h => hgo (by rw [e, h])))
          replace HG := Lib.hid b8
          replace HBL := Lib.hid (HBL.out.trans (o8.below HBL.out.size (fun b hb e => by have := HBG.out; omega)))
          clear b8 o8 hgo
          have c68 := blk_cell68 HG.out zid_len hm32
          by_cases he : n5 % 2 = 0
          · have d3 : ((n5 : Int) % 2 == 0) = true := by simp; omega
            have d3' : ((n5 : Int).tmod 2 == 0) = true := by rw [Int.tmod_eq_emod_of_nonneg (by omega)]; exact d3
            go_wp2
            go_ret
            exact ⟨rfl, HBL.out⟩
          · have d3 : ((n5 : Int) % 2 == 0) = false := by simp; omega
            have d3' : ((n5 : Int).tmod 2 == 0) = false := by rw [Int.tmod_eq_emod_of_nonneg (by omega)]; exact d3
            by_cases h1 : n5 = 1
            · have d4 : ((n5 : Int) == 1) = true := by simp; omega
              go_wp2
              go_ret
              exact ⟨rfl, HBL.out⟩
            · have d4 : ((n5 : Int) == 1) = false := by simp; omega
              obtain ⟨kk, hkk⟩ : ∃ kk, n5 = kk + 1 := ⟨n5 - 1, by omega⟩
              obtain ⟨bA, oA, hA5, hbA, hrow⟩ := (Sl.of_own HW.out).2 (by omega)
              subst hA5
              have hCl : CT.length = n5 := by rw [HE.out.len, HTL.out]
              have hrk := row_cells hrow (size := 2) (fun u hu => by
                obtain ⟨i, hi, rfl⟩ := List.getElem_of_mem hu
                obtain ⟨u, hu1, hu2⟩ := HE.out.get i (by rw [← HE.out.len]; exact hi)
                rw [List.getElem?_eq_getElem hi] at hu1
                rw [Option.some.inj hu1]
                exact txSh.len hu2) (show kk < CT.length by omega)
              obtain ⟨U, hU1, hU2⟩ := HE.out.get kk (by rw [HTL.out]; omega)
              rw [List.getElem?_eq_getElem (by omega)] at hU1
              rw [Option.some.inj hU1] at hrk
              obtain ⟨t, htt⟩ : ∃ t, T[kk]'(by rw [HTL.out]; omega) = t := ⟨_, rfl⟩
              rw [htt] at hU2
              obtain ⟨ins, outs, A3, A4, c3, c4, het, rfl, hi, ho⟩ := tx_cells hU2
              obtain ⟨n1, hn1⟩ : ∃ n1, ins.length = n1 := ⟨_, rfl⟩
              obtain ⟨n2, hn2⟩ : ∃ n2, outs.length = n2 := ⟨_, rfl⟩
              rw [hn1, hn2] at hrk hU2
              have r0 := hrk 0 _ rfl
              have r1 := hrk 1 _ rfl
              rw [Nat.add_zero] at r0
              have hm2 := mroot_last T kk (by rw [HTL.out]; exact hkk) (by omega) (by omega) t htt
              rw [HR.out] at hm2
              dsimp only at hm2
              have HM2 := Lib.hid hm2
              have HU2 := Lib.hid hU2
              have HTF2 := Lib.hid (show ∀ x ∈ T ++ [t], TxFit x by
                intro x hx
                rcases List.mem_append.1 hx with h | h
                · exact HTF.out x h
                · rw [List.mem_singleton.1 h, ← htt]; exact HTF.out _ (List.getElem_mem _))
              have hk0 : IntKind.i64.wrap ((n5 : Int) - 1) = (kk : Int) := by rw [w64 _ (by omega)]; omega
              have hk1 : (kk : Int) < (n5 : Int) := by omega
              have hk2 : (0 : Int) ≤ (kk : Int) := by omega
              have hk3 : kk < n5 := by omega
              have HKK := Lib.hid hkk
              clear hrk hrow hbA hCl hU1 hU2 htt hi ho hm2 hkk he h1 het
              go_wp2
              clear c68 d3 d3' d4
              have HB0 := Lib.hid (show B ≤ w8.drew.heap.size by have := HBG.out; have := HG.out.lt; show B ≤ w8.heap.size; omega)
              replace HW := Lib.hid (own_only HW.out ((Only.refl (fun _ => False) w8).drew) (fun _ _ h => h))
              replace HE := Lib.hid (HE.out.mono (fun _ _ h => txSh.only h ((Only.refl (fun _ => False) w8).drew) (fun _ _ _ h => h)))
              replace HU2 := Lib.hid (txSh.only HU2.out ((Only.refl (fun _ => False) w8).drew) (fun _ _ _ h => h))
              refine wp_region_tail (S := (fun w' => Blk w' g 42 (blkC 0 zid r 0 0 0 (.slice (some ⟨bA, oA, none⟩) n5 c5)).toArray ∧ Below w.heap.size w w')) 13 (by kernel_rfl) (by decide) (by kernel_rfl) (⟨HG.out.drew, HBL.out.drew⟩) ?_
              simp only [List.take_succ_cons, List.take_zero, List.drop_succ_cons, List.drop_zero]
              intro hSw
              refine wpAnyH_take (i := 0) (oi := ⟨some 59, _, _, _, _, _⟩) (v := (.pointer (some ⟨g, 68, none⟩))) rfl (by kernel_rfl) (by kernel_rfl) (by kernel_rfl) (fun _ _ _ h => h) (Or.inl ⟨by rfl, ?_⟩) hSw ?_
              · intro w' hSw'
                have c68 := blk_cell68 hSw'.1 zid_len hm32
                go_simp
              simp only [Act.put, List.setIfInBounds_toArray, List.set_cons_zero, List.set_cons_succ]
              refine wpAnyH_take (i := 1) (oi := ⟨some 60, _, _, _, _, _⟩) (v := (.slice (some ⟨bA, oA, none⟩) n5 c5)) rfl (by kernel_rfl) (by kernel_rfl) (by kernel_rfl) (fun _ _ _ h => h) (Or.inl ⟨by rfl, ?_⟩) hSw ?_
              · intro w' hSw'
                have c68 := blk_cell68 hSw'.1 zid_len hm32
                go_simp
              simp only [Act.put, List.setIfInBounds_toArray, List.set_cons_zero, List.set_cons_succ]
              refine wpAnyH_take (i := 2) (oi := ⟨some 61, _, _, _, _, _⟩) (v := (.pointer (some ⟨g, 68, none⟩))) rfl (by kernel_rfl) (by kernel_rfl) (by kernel_rfl) (fun _ _ _ h => h) (Or.inl ⟨by rfl, ?_⟩) hSw ?_
              · intro w' hSw'
                have c68 := blk_cell68 hSw'.1 zid_len hm32
                go_simp
              simp only [Act.put, List.setIfInBounds_toArray, List.set_cons_zero, List.set_cons_succ]
              refine wpAnyH_take (i := 3) (oi := ⟨some 62, _, _, _, _, _⟩) (v := (.slice (some ⟨bA, oA, none⟩) n5 c5)) rfl (by kernel_rfl) (by kernel_rfl) (by kernel_rfl) (fun _ _ _ h => h) (Or.inl ⟨by rfl, ?_⟩) hSw ?_
              · intro w' hSw'
                have c68 := blk_cell68 hSw'.1 zid_len hm32
                go_simp
              simp only [Act.put, List.setIfInBounds_toArray, List.set_cons_zero, List.set_cons_succ]
              refine wpAnyH_take (i := 4) (oi := ⟨some 63, _, _, _, _, _⟩) (v := (.pointer (some ⟨g, 68, none⟩))) rfl (by kernel_rfl) (by kernel_rfl) (by kernel_rfl) (fun _ _ _ h => h) (Or.inl ⟨by rfl, ?_⟩) hSw ?_
              · intro w' hSw'
                have c68 := blk_cell68 hSw'.1 zid_len hm32
                go_simp
              simp only [Act.put, List.setIfInBounds_toArray, List.set_cons_zero, List.set_cons_succ]
              refine wpAnyH_take (i := 5) (oi := ⟨some 64, _, _, _, _, _⟩) (v := (.slice (some ⟨bA, oA, none⟩) n5 c5)) rfl (by kernel_rfl) (by kernel_rfl) (by kernel_rfl) (fun _ _ _ h => h) (Or.inl ⟨by rfl, ?_⟩) hSw ?_
              · intro w' hSw'
                have c68 := blk_cell68 hSw'.1 zid_len hm32
                go_simp
              simp only [Act.put, List.setIfInBounds_toArray, List.set_cons_zero, List.set_cons_succ]
              refine wpAnyH_take (i := 6) (oi := ⟨some 65, _, _, _, _, _⟩) (v := (.int .i64 (n5 : Int))) rfl (by kernel_rfl) (by kernel_rfl) (by kernel_rfl) (fun _ _ _ h => h) (Or.inl ⟨by rfl, ?_⟩) hSw ?_
              · intro w' hSw'
                have c68 := blk_cell68 hSw'.1 zid_len hm32
                go_simp
              simp only [Act.put, List.setIfInBounds_toArray, List.set_cons_zero, List.set_cons_succ]
              refine wpAnyH_take (i := 7) (oi := ⟨some 66, _, _, _, _, _⟩) (v := (.int .i64 (kk : Int))) rfl (by kernel_rfl) (by kernel_rfl) (by kernel_rfl) (fun _ _ _ h => h) (Or.inl ⟨by rfl, ?_⟩) hSw ?_
              · intro w' hSw'
                have c68 := blk_cell68 hSw'.1 zid_len hm32
                go_simp
              simp only [Act.put, List.setIfInBounds_toArray, List.set_cons_zero, List.set_cons_succ]
              refine wpAnyH_take (i := 8) (oi := ⟨some 67, _, _, _, _, _⟩) (v := (.pointer (some ⟨bA, oA + kk * 2, none⟩))) rfl (by kernel_rfl) (by kernel_rfl) (by kernel_rfl) (fun _ _ _ h => h) (Or.inl ⟨by rfl, ?_⟩) hSw ?_
              · intro w' hSw'
                have c68 := blk_cell68 hSw'.1 zid_len hm32
                go_simp
              simp only [Act.put, List.setIfInBounds_toArray, List.set_cons_zero, List.set_cons_succ]
              refine wpAnyH_ready (rs := [9]) (by kernel_rfl) (by simp) (AllReadyH.cons (o := ⟨some 68, _, _, _, _, _⟩) rfl (fun K hK => ?_) AllReadyH.nil)
              go_simp
              refine hK.out _ _ (hSw) ?_
              intro hSw
              clear hK K
              try simp only [Act.put, List.setIfInBounds_toArray, List.set_cons_zero, List.set_cons_succ]
              refine wpAnyH_ready (rs := [10]) (by kernel_rfl) (by simp) (AllReadyH.cons (o := ⟨some 69, _, _, _, _, _⟩) rfl (fun K hK => ?_) AllReadyH.nil)
              go_simp
              replace HW := Lib.hid (HW.out.alloc (.cells #[.slice A3 n1 c3, .slice A4 n2 c4] 25))
              refine hK.out _ _ (⟨hSw.1.alloc _, hSw.2.alloc hSw.2.size _⟩) ?_
              intro hSw
              clear hK K
              try simp only [Act.put, List.setIfInBounds_toArray, List.set_cons_zero, List.set_cons_succ]
              refine wpAnyH_ready (rs := [11]) (by kernel_rfl) (by simp) (AllReadyH.cons (o := ⟨some 70, _, _, _, _, _⟩) rfl (fun K hK => ?_) AllReadyH.nil)
              refine step_app rfl (.tmp 60) (.tmp 69) 40 rfl B 25 _ 2 48 Try.underlying40 infoTxz (by rfl) (by decide) (some ⟨bA, oA, none⟩) n5 c5 rfl _ 1 1 rfl _ HW.out _ _ (Sl.one_row w8.drew 25 [.slice A3 n1 c3, .slice A4 n2 c4] 2 rfl) (tx_one HU2.out) (by unfold maxLen; omega) (by omega) (Nat.le_trans HB0.out (by simp)) ?_
              intro A7 c7 w9 hown9 ho9 hat9
              have hgo := own_blk_ne HW.out hSw.1 (by decide)
              have hE9 : Each (txSh.rel w9 (fun b => b < B)) (CT ++ [[.slice A3 n1 c3, .slice A4 n2 c4]]) (T ++ [t]) :=
                (HE.out.append (.cons HU2.out .nil)).mono (fun _ _ h => txSh.only h (((Only.refl (fun b => B ≤ b) w8.drew).alloc _).trans ho9 (fun b _ e => own_ge HW.out e)) (fun b _ hb e => by omega))
              have ho9' := ho9.mono (S' := fun b => B ≤ b ∧ b ≠ g) (fun b hb e => ⟨own_ge HW.out e, fun h => hgo (by rw [e, h])⟩)
              replace HE := Lib.hid hE9
              replace HW := Lib.hid (show w9.ownsRow B 25 2 (.slice A7 (n5 + 1) c7) (n5 + 1) (CT ++ [[Value.slice A3 n1 c3, Value.slice A4 n2 c4]]).flatten by rw [List.flatten_append]; simpa using hown9)
              clear hown9 ho9 hat9 hE9 hgo
              refine hK.out _ _ (⟨hSw.1.only ho9' (fun h => h.2 rfl), hSw.2.trans (ho9'.below hSw.2.size (fun b hb e => by have := HBG.out; omega))⟩) ?_
              intro hSw
              clear hK K
              try simp only [Act.put, List.setIfInBounds_toArray, List.set_cons_zero, List.set_cons_succ]
              refine wpAnyH_take (i := 12) (oi := ⟨some 71, _, _, _, _, _⟩) (v := (.pointer (some ⟨g, 68, none⟩))) rfl (by kernel_rfl) (by kernel_rfl) (by kernel_rfl) (fun _ _ _ h => h) (Or.inl ⟨by rfl, ?_⟩) hSw ?_
              · intro w' hSw'
                have c68 := blk_cell68 hSw'.1 zid_len hm32
                go_simp
              simp only [Act.put, List.setIfInBounds_toArray, List.set_cons_zero, List.set_cons_succ]
              refine wpAnyH_done (by kernel_rfl) ?_ _
              show wpList _ _ _ _ _ _
              replace HG := Lib.hid hSw.1
              replace HBL := Lib.hid hSw.2
              have c1 := blk_cell68 HG.out zid_len hm32
              have f1 := HG.out.frozen 68
              have hob : Only (fun b => b = g) w9 (w9.setCell ⟨g, 68, none⟩ (.slice A7 (n5 + 1) c7)) := (Only.refl (fun b => b = g) _).setCell (p := ⟨g, 68, none⟩) (fun _ => rfl) _
              have hgo := own_blk_ne HW.out HG.out (by decide)
              have hG2 := HG.out.set_ 68 (.slice A7 (n5 + 1) c7)
              rw [blk_set68 _ _ _ _ _ _ _ _ zid_len hm32] at hG2
              have HG2 := Lib.hid hG2
              have HE2 := Lib.hid (HE.out.mono (fun _ _ h => txSh.only h hob (fun b _ hb e => by have := HBG.out; omega)))
              have HW2 := Lib.hid (own_only HW.out hob (fun k e h => hgo (by rw [e, h])))
              have HBL2 := Lib.hid (HBL.out.trans (hob.below HBL.out.size (fun b hb e => by have := HBG.out; omega)))
              clear hSw hob hgo hG2 r0 r1 hk0 hk1 hk2 hk3 HE HW HBL HG HU2 HB0
              have c68 := blk_cell68 HG2.out zid_len hm32
              have TR := tx_root_any (n5 + 1) (merkle_any (n5 + 1) (by omega)) (w9.setCell ⟨g, 68, none⟩ (.slice A7 (n5 + 1) c7)) A7 c7 (T ++ [t]) (fun b => b < (w9.setCell ⟨g, 68, none⟩ (.slice A7 (n5 + 1) c7)).heap.size) (own_shut HW2.out (HE2.out.mono (fun _ _ h => weak_tx _ _ _ _ _ h (fun b hb _ => hb))) (by rw [List.length_append, HTL.out]; rfl) (fun b _ h => h)) (by rw [List.length_append, HTL.out]; rfl) (fun _ h => h) HTF2.out (by omega)
              obtain ⟨R2, hR2⟩ : ∃ R2, mroot (txIds (T ++ [t])) = R2 := ⟨_, rfl⟩
              have hR' := hR2
              unfold txIds at hR'
              rw [hR'] at TR
              have hm2 := HM2.out
              rw [hR2] at hm2
              obtain ⟨r2, tw2⟩ := R2
              obtain ⟨h21, h22⟩ := hm2
              dsimp only at h21 h22
              subst h21 h22
              unfold idV at TR
              dsimp only at TR
              replace TR := Lib.hid TR
              have HR2 := Lib.hid hR2
              clear hR2 hR'
              go_wp2_with fail
              refine TR.out.mono ?_
              rintro e10 w10 ⟨rfl, a10⟩
              replace HE2 := Lib.hid (HE2.out.mono (fun _ _ h => txSh.below h a10 (fun _ h _ => h)))
              replace HG2 := Lib.hid (HG2.out.below a10 HG2.out.lt)
              replace HW2 := Lib.hid (own_only HW2.out (Only.of_new a10 (fun _ => False)) (fun _ _ h => h))
              replace HBL2 := Lib.hid (HBL2.out.trans (a10.mono HBL2.out.size))
              clear a10 TR c68 c1 f1
              go_wp2_with (with_reducible refine wpList_stb rfl 37 (.tmp 6) (.tmp 76) rfl w10.heap.size 0 _ rfl rfl 37 _ (Blk.new w10 _ _) ?h1 ?h2 ?h3 ?_)
              case h1 => simp [hm32]
              case h2 => rw [infoID]; simp [hm32]
              case h3 => exact bts_one _
              intro w11 b11 o11
              rw [over_all _ _ (by simp [hm32])] at b11
              have hO11 : Below w10.heap.size w10 w11 := (((Only.refl (fun b => w10.heap.size ≤ b) w10).alloc _).trans o11 (fun b _ e => by omega)).below (Nat.le_refl _) (fun b hb h => by omega)
              replace HE2 := Lib.hid (HE2.out.mono (fun _ _ h => txSh.below h hO11 (fun _ h _ => h)))
              replace HG2 := Lib.hid (HG2.out.below hO11 HG2.out.lt)
              replace HW2 := Lib.hid (own_only HW2.out (Only.of_new hO11 (fun _ => False)) (fun _ _ h => h))
              replace HBL2 := Lib.hid (HBL2.out.trans (hO11.mono HBL2.out.size))
              have H6 := Lib.hid b11
              clear b11 o11 hO11
              generalize w10.heap.size = p6 at H6 ⊢
              have heqA : ∀ w', (Op.equalIn 10000 37 (.agg (bts r2).toArray) (.agg (bts r2).toArray)).run Try.prog w' = .ok true w' := fun w' => by rw [run_eq_id r2 r2 hm32 hm32 w']; simp
              have hco : croot r2 (T ++ [t]) = 40 := croot_twins _ _ (by rw [HR2.out])
              have hne := cblk_ne 0 0 0 0 zid r2 (T ++ [t]) hco
              have hTl2 : (T ++ [t]).length = n5 + 1 := by rw [List.length_append, HTL.out]; rfl
              have HTL2 := Lib.hid hTl2
              have CR := check_root_any w11 0 0 0 0 zid r2 A7 (n5 + 1) c7 (T ++ [t]) (fun b => b < w11.heap.size) zid_len hm32 (merkle_any (n5 + 1) (by omega)) (own_shut HW2.out (HE2.out.mono (fun _ _ h => weak_tx _ _ _ _ _ h (fun b hb _ => hb))) hTl2 (fun b _ h => h)) hTl2 (fun _ h => h) HTF2.out (by omega)
              rw [hco] at CR
              replace CR := Lib.hid CR
              have HNE := Lib.hid hne
              have hl69 := blkC_len 0 zid r2 0 0 0 (.slice A7 (n5 + 1) c7) zid_len hm32
              clear hco hne hTl2
              go_wp2_with (first
                | (with_reducible refine wpList_ld rfl 37 (.tmp 6) rfl p6 0 rfl (bts r2) H6.out.rowAll _ Try.underlying37 rfl 32 infoID (by rw [bts_length, hm32]) ?_)
                | (with_reducible refine wpList_ld rfl 37 (.tmp 80) rfl g 33 rfl (bts r2) (blk_root HG2.out zid_len hm32) _ Try.underlying37 rfl 32 infoID (by rw [bts_length, hm32]) ?_)
                | (refine wpList_ldg2 (by rfl) 42 (.tmp 5) rfl g 0 rfl (blkC 0 zid r2 0 0 0 (.slice A7 (n5 + 1) c7)) HG2.out.rowAll _ Try.underlying42 rfl 69 infoBlk hl69.symm ?_))
              refine CR.out.mono ?_
              rintro e12 w12 ⟨rfl, a12⟩
              replace HE2 := Lib.hid (HE2.out.mono (fun _ _ h => txSh.below h a12 (fun _ h _ => h)))
              replace HG2 := Lib.hid (HG2.out.below a12 HG2.out.lt)
              replace HW2 := Lib.hid (own_only HW2.out (Only.of_new a12 (fun _ => False)) (fun _ _ h => h))
              replace HBL2 := Lib.hid (HBL2.out.trans (a12.mono HBL2.out.size))
              clear a12 CR
              have CB := check_block_any w12 0 0 0 0 zid r2 A7 (n5 + 1) c7 (T ++ [t]) (fun b => b < w12.heap.size) zid_len hm32 (merkle_any (n5 + 1) (by omega)) (own_shut HW2.out (HE2.out.mono (fun _ _ h => weak_tx _ _ _ _ _ h (fun b hb _ => hb))) HTL2.out (fun b _ h => h)) HTL2.out (fun _ h => h) HTF2.out
              obtain ⟨E, hEE⟩ : ∃ E, cblk 0 zid r2 0 0 0 (T ++ [t]) = E := ⟨_, rfl⟩
              have hne := HNE.out
              rw [hEE] at CB hne
              have ez : (E == 0) = false := by simpa using hne
              have ez2 : (E != 0) = true := by simpa using hne
              replace CB := Lib.hid CB
              clear hEE hne
              go_wp2_with (refine wpList_ldg2 (by rfl) 42 (.tmp 5) rfl g 0 rfl (blkC 0 zid r2 0 0 0 (.slice A7 (n5 + 1) c7)) HG2.out.rowAll _ Try.underlying42 rfl 69 infoBlk hl69.symm ?_)
              refine CB.out.mono ?_
              rintro e13 w13 ⟨rfl, a13⟩
              replace HBL2 := Lib.hid (HBL2.out.trans (a13.mono HBL2.out.size))
              clear a13 CB
              go_wp2
              go_ret
              exact ⟨rfl, HBL2.out⟩
end Go.Proofs.Ytkenkhefpemdmaa
