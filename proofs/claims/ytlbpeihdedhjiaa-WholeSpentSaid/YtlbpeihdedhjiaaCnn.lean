/- coins.Set.connect. -/
import Derived.Test.YtlbpeihdedhjiaaSpd
import Derived.Test.YtlbpeihdedhjiaaLay
import Derived.Test.YtlbpeihdedhjiaaMk
import Derived.Test.YtlbpeihdedhjiaaTk
import Derived.Test.YtlbpeihdedhjiaaShw
namespace Go.Proofs.Ytlbpeihdedhjiaa
open Go.RowKit
def txX (t : TxT) : List UInt8 := sha2 (txB t)
def layL (L : CoL) (t : TxT) (h : Int) : CoL := if layE L (txX t) t.2.1.length = true then L else L ++ layC (txX t) h t.2.1
def layN (L : CoL) (t : TxT) : Int := if layE L (txX t) t.2.1.length = true then 5 else 0
/-- the transactions behind the first one: the coins, what was spent, the fees, the error -/
def conM (h : Int) : List TxT → CoL → CoL → Int → CoL × CoL × Int × Int
  | [], L, U, f => (L, U, f, 0)
  | t :: r, L, U, f =>
    if (spendM t.1 L U 0).2.2.2 ≠ 0 then ((spendM t.1 L U 0).1, (spendM t.1 L U 0).2.1, f, (spendM t.1 L U 0).2.2.2)
    else if (!(csum 0 t.2.1).2 || decide ((spendM t.1 L U 0).2.2.1 < (csum 0 t.2.1).1)) = true then ((spendM t.1 L U 0).1, (spendM t.1 L U 0).2.1, f, 121)
    else if layN (spendM t.1 L U 0).1 t ≠ 0 then (layL (spendM t.1 L U 0).1 t h, (spendM t.1 L U 0).2.1, f, layN (spendM t.1 L U 0).1 t)
    else conM h r (layL (spendM t.1 L U 0).1 t h) (spendM t.1 L U 0).2.1 (wrap64 (f + wrap64 ((spendM t.1 L U 0).2.2.1 - (csum 0 t.2.1).1)))
/-- all of them: the coins, what was spent, the error -/
def connM (h sub : Int) (txs : List TxT) (L : CoL) : CoL × CoL × Int :=
  match txs with
  | [] => (L, [], 120)
  | t :: r =>
    if (conM h r L [] 0).2.2.2 ≠ 0 then ((conM h r L [] 0).1, (conM h r L [] 0).2.1, (conM h r L [] 0).2.2.2)
    else if (!(csum 0 t.2.1).2 || decide ((conM h r L [] 0).2.2.1 < wrap64 ((csum 0 t.2.1).1 - sub))) = true then ((conM h r L [] 0).1, (conM h r L [] 0).2.1, 121)
    else (layL (conM h r L [] 0).1 t h, (conM h r L [] 0).2.1, layN (conM h r L [] 0).1 t)
theorem csum_rng (n : Int) (outs : List OutT) (h0 : 0 ≤ n) (h1 : n ≤ 1125899906842624) : 0 ≤ (csum n outs).1 ∧ (csum n outs).1 ≤ 1125899906842624 := by
  induction outs generalizing n with
  | nil => exact ⟨h0, h1⟩
  | cons o r ih =>
    rw [csum]
    split
    · simp
    · split
      · simp
      · exact ih _ (by omega) (by omega)
theorem SpI.undo8 {B gs : Nat} {p : Option Nat} {L : CoL} {gu : Nat} {U : CoL} {A1 : Option Addr} {c1 : Nat} {A2 : Option Addr} {c2 : Nat} {w w' : World} {x : Nat} {cs : Array Value} (h : SpI B gs p L gu U A1 c1 A2 c2 w) (hb : Blk w x 46 cs) (hne : gu ≠ x) (ho : Only (fun k => k = x) w w') : SpI B gs p L gu U A1 c1 A2 c2 w' :=
  h.other ho (fun e => Blk.ne_ h.set hb (by decide) e) hne (fun b hp e => by
    subst hp
    exact cm_blk_ne h.map.2 hb e) (own_blk_ne h.r1 hb (by decide)) (own_blk_ne h.r2 hb (by decide))
theorem SpI.apartB {B gs : Nat} {p : Option Nat} {L : CoL} {gu : Nat} {U : CoL} {A1 : Option Addr} {c1 : Nat} {A2 : Option Addr} {c2 : Nat} {w : World} {x : Nat} {T : TypeId} {cs : Array Value} (h : SpI B gs p L gu U A1 c1 A2 c2 w) (hb : Blk w x T cs) (h1 : 42 ≠ T) (h2 : gu ≠ x) (h3 : 28 ≠ T) (h4 : 61 ≠ T) : Apart gs p gu (.slice A1 U.length c1) (.slice A2 U.length c2) x :=
  ⟨Blk.ne_ h.set hb h1, h2, fun b hp => by
    subst hp
    exact cm_blk_ne h.map.2 hb, own_blk_ne h.r1 hb h3, own_blk_ne h.r2 hb h4⟩
theorem SpI.keepB {B gs : Nat} {p : Option Nat} {L : CoL} {gu : Nat} {U : CoL} {A1 : Option Addr} {c1 : Nat} {A2 : Option Addr} {c2 : Nat} {w w' : World} {x : Nat} {T : TypeId} {cs : Array Value} (h : SpI B gs p L gu U A1 c1 A2 c2 w) (hb : Blk w x T cs) (h1 : 42 ≠ T) (h2 : gu ≠ x) (h3 : 28 ≠ T) (h4 : 61 ≠ T)
    (a : Only (SA B gs p gu (.slice A1 U.length c1) (.slice A2 U.length c2)) w w') : Blk w' x T cs := hb.only a (fun e => e.2 (h.apartB hb h1 h2 h3 h4))
theorem SpI.keepL {B gs : Nat} {p : Option Nat} {L : CoL} {gu : Nat} {U : CoL} {A1 : Option Addr} {c1 : Nat} {A2 : Option Addr} {c2 : Nat} {w w' : World} {x : Nat} {T : TypeId} {cs : Array Value} (h : SpI B gs p L gu U A1 c1 A2 c2 w) (hb : Blk w x T cs) (h1 : 42 ≠ T)
    (a : Only (fun k => B ≤ k ∧ (k = gs ∨ p = some k)) w w') : Blk w' x T cs := hb.only a (fun e => by
      rcases e.2 with e | e
      · exact Blk.ne_ h.set hb h1 e.symm
      · subst e
        exact cm_blk_ne h.map.2 hb rfl)
theorem conn_bad {h sub : Int} {t : TxT} {r : List TxT} {L : CoL} {CR : CoL × CoL × Int × Int} (hc : conM h r L [] 0 = CR) (he : CR.2.2.2 ≠ 0) : connM h sub (t :: r) L = (CR.1, CR.2.1, CR.2.2.2) := by
  subst hc
  rw [connM, if_pos he]
theorem conM_spend {h fe : Int} {ins : List InT} {outs : List OutT} {r : List TxT} {L U : CoL} {S : CoL × CoL × Int × Int} (hs : spendM ins L U 0 = S) (he : S.2.2.2 ≠ 0) : conM h ((ins, outs, ()) :: r) L U fe = (S.1, S.2.1, fe, S.2.2.2) := by
  subst hs
  rw [conM, if_pos he]
theorem conM_amount {h fe : Int} {ins : List InT} {outs : List OutT} {r : List TxT} {L U : CoL} {S : CoL × CoL × Int × Int} {o : Int × Bool} (hs : spendM ins L U 0 = S) (he : S.2.2.2 = 0) (ho : csum 0 outs = o) (hb : (!o.2 || decide (S.2.2.1 < o.1)) = true) : conM h ((ins, outs, ()) :: r) L U fe = (S.1, S.2.1, fe, 121) := by
  subst hs ho
  rw [conM, if_neg (by simpa using he), if_pos hb]
theorem conM_lay {h fe : Int} {ins : List InT} {outs : List OutT} {r : List TxT} {L U : CoL} {S : CoL × CoL × Int × Int} {o : Int × Bool} {ln : Int} {LL : CoL} (hs : spendM ins L U 0 = S) (he : S.2.2.2 = 0) (ho : csum 0 outs = o) (hb : (!o.2 || decide (S.2.2.1 < o.1)) = false) (hl : layN S.1 (ins, outs, ()) = ln) (hL : layL S.1 (ins, outs, ()) h = LL) (hn : ln ≠ 0) : conM h ((ins, outs, ()) :: r) L U fe = (LL, S.2.1, fe, ln) := by
  subst hs ho hl hL
  rw [conM, if_neg (by simpa using he), if_neg (by rw [hb]; decide), if_pos hn]
theorem conM_ok {h fe : Int} {ins : List InT} {outs : List OutT} {r : List TxT} {L U : CoL} {S : CoL × CoL × Int × Int} {o : Int × Bool} {LL : CoL} (hs : spendM ins L U 0 = S) (he : S.2.2.2 = 0) (ho : csum 0 outs = o) (hb : (!o.2 || decide (S.2.2.1 < o.1)) = false) (hl : layN S.1 (ins, outs, ()) = 0) (hL : layL S.1 (ins, outs, ()) h = LL) : conM h ((ins, outs, ()) :: r) L U fe = conM h r LL S.2.1 (wrap64 (fe + wrap64 (S.2.2.1 - o.1))) := by
  subst hs ho hL
  rw [conM, if_neg (by simpa using he), if_neg (by rw [hb]; decide), if_neg (by rw [hl]; decide)]
theorem conn_amount {h sub : Int} {ins : List InT} {outs : List OutT} {r : List TxT} {L : CoL} {CR : CoL × CoL × Int × Int} {o : Int × Bool} (hc : conM h r L [] 0 = CR) (he : CR.2.2.2 = 0) (ho : csum 0 outs = o) (hb : (!o.2 || decide (CR.2.2.1 < wrap64 (o.1 - sub))) = true) : connM h sub ((ins, outs, ()) :: r) L = (CR.1, CR.2.1, 121) := by
  subst hc ho
  rw [connM, if_neg (by simpa using he), if_pos hb]
theorem conn_ok {h sub : Int} {ins : List InT} {outs : List OutT} {r : List TxT} {L : CoL} {CR : CoL × CoL × Int × Int} {o : Int × Bool} (hc : conM h r L [] 0 = CR) (he : CR.2.2.2 = 0) (ho : csum 0 outs = o) (hb : (!o.2 || decide (CR.2.2.1 < wrap64 (o.1 - sub))) = false) : connM h sub ((ins, outs, ()) :: r) L = (layL CR.1 (ins, outs, ()) h, CR.2.1, layN CR.1 (ins, outs, ())) := by
  subst hc ho
  rw [connM, if_neg (by simpa using he), if_neg (by rw [hb]; decide)]
set_option maxRecDepth 20000 in
set_option maxHeartbeats 16000000 in
set_option linter.unusedSimpArgs false in
theorem connect_any (w : World) (B gs : Nat) (p : Option Nat) (L : CoL) (v t b n : Nat) (prev root : List UInt8) (A : Option Addr) (m c : Nat) (txs : List TxT) (h sub : Int) (h1 : prev.length = 32) (h2 : root.length = 32)
    (hB : B ≤ w.heap.size) (hgs : B ≤ gs) (hset : Blk w gs 42 [Value.map p].toArray) (hmap : MapAt w B p L)
    (ht : txsSh.rel w (fun b => b < B) [.slice A m c] txs) (hm : txs.length = m) (hf : ∀ t ∈ txs, TxFit t) (hm2 : m ≤ 100) :
    Calls Try.prog 29 #[.pointer (some ⟨gs, 0, none⟩), .agg (blkC v prev root t b n (.slice A m c)).toArray, .int .i64 h, .int .i64 sub] w fun e w' => ∃ A1 c1 A2 c2, e = .returned (.tuple #[.agg #[.slice A1 (connM h sub txs L).2.1.length c1, .slice A2 (connM h sub txs L).2.1.length c2], .int .i64 (connM h sub txs L).2.2]) ∧ Below B w w' ∧
      ∃ gu p', SpI B gs p' (connM h sub txs L).1 gu (connM h sub txs L).2.1 A1 c1 A2 c2 w' := by
  obtain ⟨R, hR⟩ : ∃ R, connM h sub txs L = R := ⟨_, rfl⟩
  rw [hR]
  have HRES := Lib.hid hR
  have HT := Lib.hid (fun W (a : Below B w W) => txsSh.below ht a (fun b _ h => h))
  have HM := Lib.hid hm
  have HF := Lib.hid hf
  have HM2 := Lib.hid hm2
  have HBW := Lib.hid hB
  have HGS := Lib.hid hgs
  have HSET := Lib.hid hset
  have HMAP := Lib.hid hmap
  clear hR ht hm hf hm2 hB hgs hset hmap
  go_enter Try.func29, Try.ntmps29
  go_upto_region 3 with fail
  obtain ⟨W1, hW1⟩ : ∃ W1, w.alloc (.cells (blkC v prev root t b n (.slice A m c)).toArray 54) = W1 := ⟨_, rfl⟩
  have z1 : W1.heap.size = w.heap.size + 1 := by rw [← hW1]; simp
  have l1 : Below w.heap.size w W1 := by rw [← hW1]; exact (Below.refl _ _).alloc (Nat.le_refl _) _
  have k1 : Blk W1 w.heap.size 54 (blkC v prev root t b n (.slice A m c)).toArray := by rw [← hW1]; exact Blk.new _ _ _
  rw [hW1]
  clear hW1
  obtain ⟨W2, hW2⟩ : ∃ W2, W1.alloc (.cells #[.slice none 0 0, .slice none 0 0] 46) = W2 := ⟨_, rfl⟩
  have z2 : W2.heap.size = w.heap.size + 2 := by rw [← hW2]; simp [z1]
  have l2 : Below W1.heap.size W1 W2 := by rw [← hW2]; exact (Below.refl _ _).alloc (Nat.le_refl _) _
  have k2 : Blk W2 W1.heap.size 46 [Value.slice none 0 0, Value.slice none 0 0].toArray := by rw [← hW2]; exact Blk.new _ _ _
  rw [hW2]
  clear hW2
  obtain ⟨W3, hW3⟩ : ∃ W3, W2.alloc (.cells #[.slice none 0 0, .slice none 0 0] 46) = W3 := ⟨_, rfl⟩
  have z3 : W3.heap.size = w.heap.size + 3 := by rw [← hW3]; simp [z2]
  have l3 : Below W2.heap.size W2 W3 := by rw [← hW3]; exact (Below.refl _ _).alloc (Nat.le_refl _) _
  have k3 : Blk W3 W2.heap.size 46 [Value.slice none 0 0, Value.slice none 0 0].toArray := by rw [← hW3]; exact Blk.new _ _ _
  rw [hW3]
  clear hW3
  have hbl : Below w.heap.size w W3 := (l1.trans (l2.mono (by omega))).trans (l3.mono (by omega))
  have hk1 : Blk W3 w.heap.size 54 (blkC v prev root t b n (.slice A m c)).toArray := (k1.below l2 (by omega)).below l3 (by omega)
  have hk2 : Blk W3 W1.heap.size 46 [Value.slice none 0 0, Value.slice none 0 0].toArray := k2.below l3 (by omega)
  obtain ⟨g8, hg8⟩ : ∃ g8, W1.heap.size = g8 := ⟨_, rfl⟩
  obtain ⟨gu, hgu⟩ : ∃ gu, W2.heap.size = gu := ⟨_, rfl⟩
  obtain ⟨q, hq⟩ : ∃ q, w.heap.size = q := ⟨_, rfl⟩
  have hap : g8 = q + 1 ∧ gu = q + 2 ∧ W3.heap.size = q + 3 := ⟨by omega, by omega, by omega⟩
  have hsp : SpI B gs p L gu [] none 0 none 0 W3 := by
    refine ⟨HGS.out, by have := HBW.out; omega, by have := HBW.out; omega, HSET.out.below hbl HSET.out.lt, HMAP.out.new hbl, ?_, World.ownsRow_nil _ _ _ _, World.ownsRow_nil _ _ _ _⟩
    rw [← hgu]
    exact k3
  rw [hg8] at hk2
  rw [hq] at hk1 ⊢
  rw [show q + 1 + 1 = gu by omega, show q + 1 = g8 by omega]
  have HBL := Lib.hid (hbl.mono HBW.out)
  have HQ := Lib.hid (show B ≤ q ∧ g8 = q + 1 ∧ gu = q + 2 by have := HBW.out; omega)
  have HSP := Lib.hid hsp
  have HB := Lib.hid hk1
  have HB8 := Lib.hid hk2
  obtain ⟨CR, hCR⟩ : ∃ CR, conM h (txs.drop 1) L [] 0 = CR := ⟨_, rfl⟩
  have HCR := Lib.hid hCR
  clear hCR z1 l1 k1 z2 l2 k2 z3 l3 k3 hbl hk1 hk2 hg8 hgu hq hap hsp HMAP
  have c68 := blk_cell68 HB.out h1 h2
  go_wp2_with fail
  clear c68
  go_loopg [11, 24] m (fun k v11 v24 wr => ∃ (j : Nat) (p' : Option Nat) (L' : CoL) (U : CoL) (fe : Int) (A1 : Option Addr) (c1 : Nat) (A2 : Option Addr) (c2 : Nat), j + k = m ∧ v11 = .int .i64 fe ∧ v24 = .int .i64 j ∧ Hid (conM h (txs.drop (max j 1)) L' U fe = CR) ∧ Hid (U.length ≤ 1000 * j) ∧ Hid (SpI B gs p' L' gu U A1 c1 A2 c2 wr) ∧ Hid (Below B w wr) ∧ Hid (Blk wr q 54 (blkC v prev root t b n (.slice A m c)).toArray) ∧ Hid (Blk wr g8 46 [Value.slice none 0 0, Value.slice none 0 0].toArray))
  case atStart => exact ⟨0, p, L, [], 0, none, 0, none, 0, by omega, rfl, rfl, HCR, by simp [Hid], HSP, HBL, HB, HB8⟩
  case round =>
    clear HSP HBL HB HB8
    obtain ⟨j, p', L', U, fe, A1, c1, A2, c2, hj, rfl, rfl, HC, HUL, HSP, HBL, HB, HB8⟩ := hrel
    by_cases hlt : j < m
    · obtain ⟨b', o, cs, rfl, hb, hcs, hrow⟩ := txs_at (HT.out _ HBL.out) (by rw [HM.out]; exact hlt)
      obtain ⟨ins, outs, A3, A4, c3, c4, het, rfl, hi, ho⟩ := tx_cells hcs
      have HET := Lib.hid het
      have HI := Lib.hid (fun W (a : Below B wr W) => insSh.below hi a (fun b _ h => h))
      have HO := Lib.hid (fun W (a : Below B wr W) => outsSh.below ho a (fun b _ h => h))
      have HROW := Lib.hid hrow
      obtain ⟨n1, hn1⟩ : ∃ n1, ins.length = n1 := ⟨_, rfl⟩
      obtain ⟨n2, hn2⟩ : ∃ n2, outs.length = n2 := ⟨_, rfl⟩
      rw [hn1] at HI HROW
      rw [hn2] at HO HROW
      have HN1 := Lib.hid hn1
      have HN2 := Lib.hid hn2
      clear hcs het hi ho hrow hb hn1 hn2
      go_wp2_with (first
        | (with_reducible refine wpList_ld rfl 39 (.tmp 27) rfl b' (o + j * 2) rfl ([.slice A3 n1 c3, .slice A4 n2 c4]) HROW.out _ Try.underlying39 rfl 2 infoTx rfl ?_)
        | (with_reducible refine wpList_stb rfl 39 (.tmp 13) (.tmp 28) rfl wr.heap.size 0 _ rfl rfl 39 _ (Blk.new wr _ _) ?e4a ?e4b ?e4c ?_))
      case e4a => simp
      case e4b => rw [infoTx]; rfl
      case e4c => exact ⟨rfl, rfl⟩
      intro w4 b4 o4
      rw [over_all _ _ (by simp [])] at b4
      have hO4 : Below wr.heap.size wr w4 := (((Only.refl (fun b => wr.heap.size ≤ b) wr).alloc _).trans o4 (fun b _ e => by omega)).below (Nat.le_refl _) (fun b hb h => by omega)
      have HSZ := Lib.hid HSP.out.hB
      have HAP4 := Lib.hid (HSP.out.apart (x := wr.heap.size) (Nat.le_refl _))
      replace HSP := Lib.hid (HSP.out.new hO4)
      replace HBL := Lib.hid (HBL.out.trans (hO4.mono HSZ.out))
      replace HB := Lib.hid (HB.out.below hO4 HB.out.lt)
      replace HB8 := Lib.hid (HB8.out.below hO4 HB8.out.lt)
      have HB4 := Lib.hid (hO4.mono HSZ.out)
      have HP := Lib.hid b4
      obtain ⟨p13, hp13⟩ : ∃ p13, wr.heap.size = p13 := ⟨_, rfl⟩
      rw [hp13] at HP HAP4 HSZ ⊢
      clear b4 o4 hO4 HROW hp13
      by_cases hj0 : j = 0
      · subst hj0
        have d0 : ((0 : Int) == 0) = true := by decide
        have hm0 := HM2.out
        go_wp2
        go_roundg (m - 1)
        case measure => omega
        case rel => exact ⟨1, p', L', U, fe, A1, c1, A2, c2, by omega, rfl, by first | rfl | (rw [IntWalk.wrap64_in _ (by omega)]; rfl), HC.out, Nat.le_trans HUL.out (by omega), HSP.out, HBL.out, HB.out, HB8.out⟩
      · have d0 : ((j : Int) == 0) = false := by simpa using hj0
        have d0' : (j == 0) = false := by simpa using hj0
        have hdr : txs.drop (max j 1) = (ins, outs, ()) :: txs.drop (max (j + 1) 1) := by
          rw [show max j 1 = j by omega, show max (j + 1) 1 = j + 1 by omega, List.drop_eq_getElem_cons (by rw [HM.out]; exact hlt), HET.out]
        have hcd := HC.out
        rw [hdr] at hcd
        have HCD := Lib.hid hcd
        obtain ⟨t0, r0, htr⟩ : ∃ t0 r0, txs = t0 :: r0 := by
          cases txs with
          | nil => have := HM.out; simp at this; omega
          | cons t0 r0 => exact ⟨t0, r0, rfl⟩
        have HCR1 := Lib.hid (show conM h r0 L [] 0 = CR by have := HCR.out; rw [htr] at this; simpa using this)
        have HTR := Lib.hid htr
        have HFT := Lib.hid (show TxFit (ins, outs, ()) by
          have := HF.out _ (List.getElem_mem (by rw [HM.out]; exact hlt : j < txs.length))
          rwa [HET.out] at this)
        have c0 := HP.out.cell 0
        have c1' := HP.out.cell 1
        simp only [List.getElem?_toArray, List.getElem?_cons_zero, List.getElem?_cons_succ] at c0 c1'
        obtain ⟨SS, hSS⟩ : ∃ SS, spendM ins L' U 0 = SS := ⟨_, rfl⟩
        have SPC := spend_any w4 B gs p' L' gu U A1 c1 A2 c2 A3 n1 c3 ins HSP.out (HI.out _ HB4.out) HN1.out (fun i hi => HFT.out.2.2 i hi) (by have := HFT.out.1; have := HN1.out; simp only at *; omega) (by have := HUL.out; have := HM2.out; omega)
        rw [hSS] at SPC
        have HSS := Lib.hid hSS
        clear hdr hcd htr hSS
        go_wp2_with fail
        clear c0 c1'
        refine SPC.mono ?_
        have HSPO := Lib.hid HSP.out
        clear SPC HSP
        rintro e5 w5 ⟨rfl, a5, hul5, A1, c1, A2, c2, hsp5⟩
        have HUL5 := Lib.hid hul5
        have HP5 := Lib.hid (HSPO.out.keepB HP.out (by decide) (by have := HAP4.out.u; exact this) (by decide) (by decide) a5)
        have HB5 := Lib.hid (HSPO.out.keepB HB.out (by decide) (by have := HQ.out; omega) (by decide) (by decide) a5)
        have HB85 := Lib.hid (HSPO.out.keepB HB8.out (by decide) (by have := HQ.out; omega) (by decide) (by decide) a5)
        have HBL5 := Lib.hid (HBL.out.trans (a5.bel HSPO.out.hB))
        have HB45 := Lib.hid (HB4.out.trans (a5.bel HSPO.out.hB))
        have HSP := Lib.hid hsp5
        clear hul5 hsp5 a5 HSPO HP HB HB8 HBL HB4
        by_cases hE : SS.2.2.2 = 0
        · have g2 : (SS.2.2.2 != 0) = false := by simpa using hE
          have HE := Lib.hid hE
          clear hE
          have c1' := HP5.out.cell 1
          simp only [List.getElem?_toArray, List.getElem?_cons_zero, List.getElem?_cons_succ] at c1'
          obtain ⟨oo, hoo⟩ : ∃ oo, csum 0 outs = oo := ⟨_, rfl⟩
          have CS := csum_any w5 A4 n2 c4 outs (fun b => b < B) (HO.out _ HB45.out) HN2.out
          rw [hoo] at CS
          have HOO2 := Lib.hid hoo
          clear hoo
          go_wp2_with fail
          clear c1' g2
          refine CS.mono ?_
          clear CS
          rintro e6 w6 ⟨rfl, a6⟩
          have HSP6 := Lib.hid (HSP.out.new a6)
          have HP6 := Lib.hid (HP5.out.below a6 HP5.out.lt)
          have HB6 := Lib.hid (HB5.out.below a6 HB5.out.lt)
          have HB86 := Lib.hid (HB85.out.below a6 HB85.out.lt)
          have HBL6 := Lib.hid (HBL5.out.trans (a6.mono HSP.out.hB))
          have HB46 := Lib.hid (HB45.out.trans (a6.mono HSP.out.hB))
          clear a6 HSP HP5 HB5 HB85 HBL5 HB45
          by_cases hbad : (!oo.2 || decide (SS.2.2.1 < oo.1)) = true
          · have HC2 := Lib.hid (show CR = (SS.1, SS.2.1, fe, 121) by rw [← HCD.out, conM_amount HSS.out HE.out HOO2.out hbad])
            have HR2 := Lib.hid (show connM h sub txs L = (SS.1, SS.2.1, 121) by rw [HTR.out, conn_bad HCR1.out (by rw [HC2.out]; show (121 : Int) ≠ 0; decide), HC2.out])
            obtain ⟨o1, o2⟩ := oo
            cases o2 with
            | false =>
              clear hbad
              go_wp2_with (first
                | (with_reducible refine wpList_ld rfl 46 (.tmp 10) rfl gu 0 rfl [Value.slice A1 _ c1, Value.slice A2 _ c2] HSP6.out.undo.rowAll _ Try.underlying46 rfl 2 infoUndo rfl ?_)
                | (with_reducible refine wpList_stb rfl 46 (.tmp 8) (.tmp 55) rfl g8 0 _ rfl rfl 46 _ HB86.out ?e55_1 ?e55_2 ?e55_3 ?_))
              case e55_1 => simp
              case e55_2 => rw [infoUndo]; rfl
              case e55_3 => simp [Value.oneCell']
              intro wz bz oz
              rw [over_all _ _ (by simp)] at bz
              have hsz := HSP6.out.undo8 HB86.out (by have := HQ.out; omega) oz
              have hbz := HBL6.out.trans (oz.below HSP6.out.hB (fun b hb e => by have := HQ.out; omega))
              have hRR := HRES.out
              rw [HR2.out] at hRR
              subst hRR
              go_wp2
              refine bodyPost_ret (results_row_tmp rfl _ _ g8 46 #[Value.slice A1 _ c1, Value.slice A2 _ c2] (0, 0) _ rfl bz Try.underlying46 rfl (by rw [infoUndo]; rfl)) rfl ?_
              exact ⟨A1, c1, A2, c2, rfl, hbz, gu, _, hsz⟩
            | true =>
              have d2 : decide (SS.2.2.1 < o1) = true := by simpa using hbad
              clear hbad
              go_wp2_with (first
                | (with_reducible refine wpList_ld rfl 46 (.tmp 10) rfl gu 0 rfl [Value.slice A1 _ c1, Value.slice A2 _ c2] HSP6.out.undo.rowAll _ Try.underlying46 rfl 2 infoUndo rfl ?_)
                | (with_reducible refine wpList_stb rfl 46 (.tmp 8) (.tmp 55) rfl g8 0 _ rfl rfl 46 _ HB86.out ?e55_1 ?e55_2 ?e55_3 ?_))
              case e55_1 => simp
              case e55_2 => rw [infoUndo]; rfl
              case e55_3 => simp [Value.oneCell']
              intro wz bz oz
              rw [over_all _ _ (by simp)] at bz
              have hsz := HSP6.out.undo8 HB86.out (by have := HQ.out; omega) oz
              have hbz := HBL6.out.trans (oz.below HSP6.out.hB (fun b hb e => by have := HQ.out; omega))
              have hRR := HRES.out
              rw [HR2.out] at hRR
              subst hRR
              go_wp2
              refine bodyPost_ret (results_row_tmp rfl _ _ g8 46 #[Value.slice A1 _ c1, Value.slice A2 _ c2] (0, 0) _ rfl bz Try.underlying46 rfl (by rw [infoUndo]; rfl)) rfl ?_
              exact ⟨A1, c1, A2, c2, rfl, hbz, gu, _, hsz⟩
          · have HGD := Lib.hid (show (!oo.2 || decide (SS.2.2.1 < oo.1)) = false by simpa using hbad)
            obtain ⟨o1, o2⟩ := oo
            have ho2 : o2 = true := by
              have h9 := HGD.out
              cases o2 with
              | false => exact absurd h9 (by simp only [Bool.not_false, Bool.true_or]; decide)
              | true => rfl
            subst ho2
            have d2 : decide (SS.2.2.1 < o1) = false := by have := HGD.out; simpa using this
            clear hbad
            obtain ⟨ln, hln⟩ : ∃ ln, layN SS.1 (ins, outs, ()) = ln := ⟨_, rfl⟩
            obtain ⟨LL, hLL⟩ : ∃ LL, layL SS.1 (ins, outs, ()) h = LL := ⟨_, rfl⟩
            have LY := lay_any w6 B gs p' SS.1 gu SS.2.1 A1 c1 A2 c2 A3 A4 n1 c3 n2 c4 ins outs h HSP6.out (HI.out _ HB46.out) (HO.out _ HB46.out) HN1.out HN2.out HFT.out
            rw [show (if layE SS.1 (sha2 (txB (ins, outs, ()))) n2 = true then (5 : Int) else 0) = ln by rw [← hln, layN, ← HN2.out]; rfl, show (if layE SS.1 (sha2 (txB (ins, outs, ()))) n2 = true then SS.1 else SS.1 ++ layC (sha2 (txB (ins, outs, ()))) h outs) = LL by rw [← hLL, layL, ← HN2.out]; rfl] at LY
            have HLN := Lib.hid hln
            have HLL := Lib.hid hLL
            clear hln hLL
            go_wp2_with (with_reducible refine wpList_ld rfl 39 (.tmp 13) rfl p13 0 rfl [.slice A3 n1 c3, .slice A4 n2 c4] HP6.out.rowAll _ Try.underlying39 rfl 2 infoTx rfl ?_)
            refine LY.mono ?_
            clear LY d2
            rintro e7 w7 ⟨rfl, a7, b7, hsp7⟩
            have HB7 := Lib.hid (HSP6.out.keepL HB6.out (by decide) a7)
            have HB87 := Lib.hid (HSP6.out.keepL HB86.out (by decide) a7)
            have HBL7 := Lib.hid (HBL6.out.trans (a7.below HSP6.out.hB (fun b hb e => by have := e.1; omega)))
            have HSP7 := Lib.hid hsp7
            clear a7 hsp7 HSP6 HP6 HB6 HB86 HBL6 HB46
            by_cases hl0 : ln = 0
            · have g2 : (ln != 0) = false := by simpa using hl0
              have HC2 := Lib.hid (show conM h (txs.drop (max (j + 1) 1)) LL SS.2.1 (wrap64 (fe + wrap64 (SS.2.2.1 - o1))) = CR by rw [← HCD.out, conM_ok HSS.out HE.out HOO2.out HGD.out (by rw [HLN.out, hl0]) HLL.out])
              have hm2 := HM2.out
              have HUF := Lib.hid (show SS.2.1.length ≤ 1000 * (j + 1) by have h3 := HUL5.out; have h4 := HUL.out; have h5 := HFT.out.1; have h6 := HN1.out; simp only at h5; omega)
              clear hl0
              go_wp2
              go_roundg (m - 1 - j)
              case measure => omega
              case rel => exact ⟨j + 1, _, LL, SS.2.1, wrap64 (fe + wrap64 (SS.2.2.1 - o1)), A1, c1, A2, c2, by omega, rfl, by first | rfl | (rw [IntWalk.wrap64_in _ (by omega)]; rfl), HC2.out, HUF.out, HSP7.out, HBL7.out, HB7.out, HB87.out⟩
            · have g2 : (ln != 0) = true := by simpa using hl0
              have HC2 := Lib.hid (show CR = (LL, SS.2.1, fe, ln) by rw [← HCD.out, conM_lay HSS.out HE.out HOO2.out HGD.out HLN.out HLL.out hl0])
              have HR2 := Lib.hid (show connM h sub txs L = (LL, SS.2.1, ln) by rw [HTR.out, conn_bad HCR1.out (by rw [HC2.out]; exact hl0), HC2.out])
              clear hl0
              go_wp2_with (first
                | (with_reducible refine wpList_ld rfl 46 (.tmp 10) rfl gu 0 rfl [Value.slice A1 _ c1, Value.slice A2 _ c2] HSP7.out.undo.rowAll _ Try.underlying46 rfl 2 infoUndo rfl ?_)
                | (with_reducible refine wpList_stb rfl 46 (.tmp 8) (.tmp 62) rfl g8 0 _ rfl rfl 46 _ HB87.out ?e62_1 ?e62_2 ?e62_3 ?_))
              case e62_1 => simp
              case e62_2 => rw [infoUndo]; rfl
              case e62_3 => simp [Value.oneCell']
              intro wz bz oz
              rw [over_all _ _ (by simp)] at bz
              have hsz := HSP7.out.undo8 HB87.out (by have := HQ.out; omega) oz
              have hbz := HBL7.out.trans (oz.below HSP7.out.hB (fun b hb e => by have := HQ.out; omega))
              have hRR := HRES.out
              rw [HR2.out] at hRR
              subst hRR
              go_wp2
              refine bodyPost_ret (results_row_tmp rfl _ _ g8 46 #[Value.slice A1 _ c1, Value.slice A2 _ c2] (0, 0) _ rfl bz Try.underlying46 rfl (by rw [infoUndo]; rfl)) rfl ?_
              exact ⟨A1, c1, A2, c2, rfl, hbz, gu, _, hsz⟩
        · have g2 : (SS.2.2.2 != 0) = true := by simpa using hE
          have HC2 := Lib.hid (show CR = (SS.1, SS.2.1, fe, SS.2.2.2) by rw [← HCD.out, conM_spend HSS.out hE])
          have HR2 := Lib.hid (show connM h sub txs L = (SS.1, SS.2.1, SS.2.2.2) by rw [HTR.out, conn_bad HCR1.out (by rw [HC2.out]; exact hE), HC2.out])
          clear hE
          go_wp2_with (first
            | (with_reducible refine wpList_ld rfl 46 (.tmp 10) rfl gu 0 rfl [Value.slice A1 _ c1, Value.slice A2 _ c2] HSP.out.undo.rowAll _ Try.underlying46 rfl 2 infoUndo rfl ?_)
            | (with_reducible refine wpList_stb rfl 46 (.tmp 8) (.tmp 40) rfl g8 0 _ rfl rfl 46 _ HB85.out ?e40_1 ?e40_2 ?e40_3 ?_))
          case e40_1 => simp
          case e40_2 => rw [infoUndo]; rfl
          case e40_3 => simp [Value.oneCell']
          intro wz bz oz
          rw [over_all _ _ (by simp)] at bz
          have hsz := HSP.out.undo8 HB85.out (by have := HQ.out; omega) oz
          have hbz := HBL5.out.trans (oz.below HSP.out.hB (fun b hb e => by have := HQ.out; omega))
          have hRR := HRES.out
          rw [HR2.out] at hRR
          subst hRR
          go_wp2
          refine bodyPost_ret (results_row_tmp rfl _ _ g8 46 #[Value.slice A1 _ c1, Value.slice A2 _ c2] (0, 0) _ rfl bz Try.underlying46 rfl (by rw [infoUndo]; rfl)) rfl ?_
          exact ⟨A1, c1, A2, c2, rfl, hbz, gu, _, hsz⟩
    · obtain rfl : j = m := by omega
      have c68 := blk_cell68 HB.out h1 h2
      by_cases hm0 : j = 0
      · have htr : txs = [] := by
          cases txs with
          | nil => rfl
          | cons t0 r0 => have := HM.out; simp at this; omega
        have hcc := HC.out
        have hcr := HCR.out
        rw [htr] at hcc hcr
        simp only [List.drop_nil, conM] at hcc hcr
        rw [← hcr] at hcc
        have e1 : L' = L := congrArg (·.1) hcc
        have e2 : U = [] := congrArg (·.2.1) hcc
        have HR2 := Lib.hid (show connM h sub txs L = (L', U, 120) by rw [htr, connM, e1, e2])
        have d0 : ((j : Int) == 0) = true := by rw [hm0]; rfl
        clear htr hcc hcr e1 e2 hm0
        go_wp2_with (first
          | (with_reducible refine wpList_ld rfl 46 (.tmp 10) rfl gu 0 rfl [Value.slice A1 _ c1, Value.slice A2 _ c2] HSP.out.undo.rowAll _ Try.underlying46 rfl 2 infoUndo rfl ?_)
          | (with_reducible refine wpList_stb rfl 46 (.tmp 8) (.tmp 74) rfl g8 0 _ rfl rfl 46 _ HB8.out ?e74_1 ?e74_2 ?e74_3 ?_))
        case e74_1 => simp
        case e74_2 => rw [infoUndo]; rfl
        case e74_3 => simp [Value.oneCell']
        intro wz bz oz
        rw [over_all _ _ (by simp)] at bz
        have hsz := HSP.out.undo8 HB8.out (by have := HQ.out; omega) oz
        have hbz := HBL.out.trans (oz.below HSP.out.hB (fun b hb e => by have := HQ.out; omega))
        have hRR := HRES.out
        rw [HR2.out] at hRR
        subst hRR
        go_wp2
        refine bodyPost_ret (results_row_tmp rfl _ _ g8 46 #[Value.slice A1 _ c1, Value.slice A2 _ c2] (0, 0) _ rfl bz Try.underlying46 rfl (by rw [infoUndo]; rfl)) rfl ?_
        exact ⟨A1, c1, A2, c2, rfl, hbz, gu, _, hsz⟩
      · have d0 : ((j : Int) == 0) = false := by simpa using hm0
        have d0' : (j == 0) = false := by simpa using hm0
        have hC0 : conM h (txs.drop (max j 1)) L' U fe = (L', U, fe, 0) := by rw [show max j 1 = j by omega, List.drop_of_length_le (by rw [HM.out]; exact Nat.le_refl _), conM]
        have hCe : CR = (L', U, fe, 0) := by rw [← HC.out, hC0]
        obtain ⟨b', o, cs, rfl, hb, hcs, hrow⟩ := txs_at (HT.out _ HBL.out) (show 0 < txs.length by rw [HM.out]; omega)
        obtain ⟨ins, outs, A3, A4, c3, c4, het, rfl, hi, ho⟩ := tx_cells hcs
        have htr : txs = (ins, outs, ()) :: txs.drop 1 := by
          have := List.drop_eq_getElem_cons (show 0 < txs.length by rw [HM.out]; omega)
          rw [List.drop_zero, het] at this
          exact this
        obtain ⟨r0, hr0⟩ : ∃ r0, txs.drop 1 = r0 := ⟨_, rfl⟩
        have hcr := HCR.out
        rw [hr0, hCe] at hcr
        rw [hr0] at htr
        have HTR := Lib.hid htr
        have HCR1 := Lib.hid hcr
        have HFT := Lib.hid (show TxFit (ins, outs, ()) by rw [htr] at HF; exact HF.out _ (by simp))
        have HI := Lib.hid (fun W (a : Below B wr W) => insSh.below hi a (fun b _ h => h))
        have HO := Lib.hid (fun W (a : Below B wr W) => outsSh.below ho a (fun b _ h => h))
        obtain ⟨n1, hn1⟩ : ∃ n1, ins.length = n1 := ⟨_, rfl⟩
        obtain ⟨n2, hn2⟩ : ∃ n2, outs.length = n2 := ⟨_, rfl⟩
        have HOKB := Lib.hid hb
        have HROW := Lib.hid hrow
        rw [hn1] at HI HROW
        rw [hn2] at HO HROW
        have HN1 := Lib.hid hn1
        have HN2 := Lib.hid hn2
        have q1 : wr.cell? ⟨b', o + 1, none⟩ = some (Value.slice A4 n2 c4) := by
          have := HROW.out 1 _ rfl
          simpa using this
        have q1' : wr.cell? ⟨b', o + 0 * 2 + 1, none⟩ = some (Value.slice A4 n2 c4) := by simpa using q1
        have i1 : (0 : Int) < (j : Int) := by omega
        have i2 : 0 < j := by omega
        clear hC0 hCe hcs het hi ho hrow hb hn1 hn2 hcr htr hr0 hm0
        go_wp2_with fail
        clear c68 d0 d0' q1 q1' i1
        obtain ⟨oo, hoo⟩ : ∃ oo, csum 0 outs = oo := ⟨_, rfl⟩
        have CS := csum_any wr A4 n2 c4 outs (fun b => b < B) (HO.out _ (Below.refl _ _)) HN2.out
        rw [hoo] at CS
        have HOO2 := Lib.hid hoo
        have HLI := Lib.hid (show 0 < j from i2)
        clear i2
        clear hoo
        refine CS.mono ?_
        clear CS
        rintro e6 w6 ⟨rfl, a6⟩
        have HSP6 := Lib.hid (HSP.out.new a6)
        have HB6 := Lib.hid (HB.out.below a6 HB.out.lt)
        have HB86 := Lib.hid (HB8.out.below a6 HB8.out.lt)
        have HBL6 := Lib.hid (HBL.out.trans (a6.mono HSP.out.hB))
        have HB46 := Lib.hid (a6.mono HSP.out.hB)
        have HRW6 := Lib.hid (fun W (a : Below B w6 W) => RowAt.only HROW.out (Only.of_below (HB46.out.trans a)) (by have := HOKB.out; omega))
        clear a6 HSP HB HB8 HBL
        by_cases hbad : (!oo.2 || decide (fe < wrap64 (oo.1 - sub))) = true
        · have HR2 := Lib.hid (show connM h sub txs L = (L', U, 121) by rw [HTR.out, conn_amount HCR1.out rfl HOO2.out hbad])
          obtain ⟨o1, o2⟩ := oo
          cases o2 with
          | false =>
            clear hbad
            go_wp2_with (first
              | (with_reducible refine wpList_ld rfl 46 (.tmp 10) rfl gu 0 rfl [Value.slice A1 _ c1, Value.slice A2 _ c2] HSP6.out.undo.rowAll _ Try.underlying46 rfl 2 infoUndo rfl ?_)
              | (with_reducible refine wpList_stb rfl 46 (.tmp 8) (.tmp 93) rfl g8 0 _ rfl rfl 46 _ HB86.out ?e93_1 ?e93_2 ?e93_3 ?_))
            case e93_1 => simp
            case e93_2 => rw [infoUndo]; rfl
            case e93_3 => simp [Value.oneCell']
            intro wz bz oz
            rw [over_all _ _ (by simp)] at bz
            have hsz := HSP6.out.undo8 HB86.out (by have := HQ.out; omega) oz
            have hbz := HBL6.out.trans (oz.below HSP6.out.hB (fun b hb e => by have := HQ.out; omega))
            have hRR := HRES.out
            rw [HR2.out] at hRR
            subst hRR
            go_wp2
            refine bodyPost_ret (results_row_tmp rfl _ _ g8 46 #[Value.slice A1 _ c1, Value.slice A2 _ c2] (0, 0) _ rfl bz Try.underlying46 rfl (by rw [infoUndo]; rfl)) rfl ?_
            exact ⟨A1, c1, A2, c2, rfl, hbz, gu, _, hsz⟩
          | true =>
            have d2 : decide (fe < wrap64 (o1 - sub)) = true := by simpa using hbad
            clear hbad
            go_wp2_with (first
              | (with_reducible refine wpList_ld rfl 46 (.tmp 10) rfl gu 0 rfl [Value.slice A1 _ c1, Value.slice A2 _ c2] HSP6.out.undo.rowAll _ Try.underlying46 rfl 2 infoUndo rfl ?_)
              | (with_reducible refine wpList_stb rfl 46 (.tmp 8) (.tmp 93) rfl g8 0 _ rfl rfl 46 _ HB86.out ?e93_1 ?e93_2 ?e93_3 ?_))
            case e93_1 => simp
            case e93_2 => rw [infoUndo]; rfl
            case e93_3 => simp [Value.oneCell']
            intro wz bz oz
            rw [over_all _ _ (by simp)] at bz
            have hsz := HSP6.out.undo8 HB86.out (by have := HQ.out; omega) oz
            have hbz := HBL6.out.trans (oz.below HSP6.out.hB (fun b hb e => by have := HQ.out; omega))
            have hRR := HRES.out
            rw [HR2.out] at hRR
            subst hRR
            go_wp2
            refine bodyPost_ret (results_row_tmp rfl _ _ g8 46 #[Value.slice A1 _ c1, Value.slice A2 _ c2] (0, 0) _ rfl bz Try.underlying46 rfl (by rw [infoUndo]; rfl)) rfl ?_
            exact ⟨A1, c1, A2, c2, rfl, hbz, gu, _, hsz⟩
        · have HGD := Lib.hid (show (!oo.2 || decide (fe < wrap64 (oo.1 - sub))) = false by simpa using hbad)
          obtain ⟨o1, o2⟩ := oo
          have ho2 : o2 = true := by
            have h9 := HGD.out
            cases o2 with
            | false => exact absurd h9 (by simp only [Bool.not_false, Bool.true_or]; decide)
            | true => rfl
          subst ho2
          have d2 : decide (fe < wrap64 (o1 - sub)) = false := by have := HGD.out; simpa using this
          clear hbad
          obtain ⟨ln, hln⟩ : ∃ ln, layN L' (ins, outs, ()) = ln := ⟨_, rfl⟩
          obtain ⟨LL, hLL⟩ : ∃ LL, layL L' (ins, outs, ()) h = LL := ⟨_, rfl⟩
          have HR2 := Lib.hid (show connM h sub txs L = (LL, U, ln) by rw [HTR.out, conn_ok HCR1.out rfl HOO2.out HGD.out, hln, hLL])
          have LY := Lib.hid (show Calls _ _ _ w6.drew _ from by
            have LY := lay_any w6.drew B gs p' L' gu U A1 c1 A2 c2 A3 A4 n1 c3 n2 c4 ins outs h HSP6.out.drew (HI.out _ HB46.out.drew) (HO.out _ HB46.out.drew) HN1.out HN2.out HFT.out
            rw [show (if layE L' (sha2 (txB (ins, outs, ()))) n2 = true then (5 : Int) else 0) = ln by rw [← hln, layN, ← HN2.out]; rfl, show (if layE L' (sha2 (txB (ins, outs, ()))) n2 = true then L' else L' ++ layC (sha2 (txB (ins, outs, ()))) h outs) = LL by rw [← hLL, layL, ← HN2.out]; rfl] at LY
            exact LY)
          have i2 : 0 < j := HLI.out
          have i1 : (0 : Int) < (j : Int) := by omega
          clear hln hLL
          go_wp2_with fail
          clear d2
          have HSD := Lib.hid HSP6.out.drew
          have HBD := Lib.hid HB6.out.drew
          have HB8D := Lib.hid HB86.out.drew
          have HBLD := Lib.hid HBL6.out.drew
          refine wp_region_held_drew (S := (fun w' => Blk w' gu 46 [Value.slice A1 U.length c1, Value.slice A2 U.length c2].toArray ∧ Blk w' q 54 (blkC v prev root t b n (.slice (some ⟨b', o, none⟩) j c)).toArray ∧ RowAt w' b' o [Value.slice A3 n1 c3, Value.slice A4 n2 c4])) (by kernel_rfl) (⟨HSP6.out.drew.undo, HB6.out.drew, HRW6.out _ (Below.refl B w6).drew⟩) ?_
          intro hSw
          refine wpAnyH_take (i := 0) (oi := ⟨some 94, _, _, _, _, _⟩) (v := .agg ([Value.slice A1 U.length c1, Value.slice A2 U.length c2]).toArray) rfl (by kernel_rfl) (by kernel_rfl) (by kernel_rfl) (fun _ _ _ h => h) (yieldsIf_load_mid (by rfl) _ _ rfl gu (0) rfl ([Value.slice A1 U.length c1, Value.slice A2 U.length c2]) _ (fun _ h => h.1.rowAll) Try.underlying46 rfl infoUndo) hSw ?_
          simp only [Act.put, List.setIfInBounds_toArray, List.set_cons_zero, List.set_cons_succ]
          refine wpAnyH_take (i := 1) (oi := ⟨some 95, _, _, _, _, _⟩) (v := (.pointer (some ⟨gs, 0, none⟩))) rfl (by kernel_rfl) (by kernel_rfl) (by kernel_rfl) (fun _ _ _ h => h) (Or.inl ⟨by rfl, ?_⟩) hSw ?_
          · intro w' hSw'
            have c68 := blk_cell68 hSw'.2.1 h1 h2
            go_simp
          simp only [Act.put, List.setIfInBounds_toArray, List.set_cons_zero, List.set_cons_succ]
          refine wpAnyH_take (i := 2) (oi := ⟨some 96, _, _, _, _, _⟩) (v := (.pointer (some ⟨q, 68, none⟩))) rfl (by kernel_rfl) (by kernel_rfl) (by kernel_rfl) (fun _ _ _ h => h) (Or.inl ⟨by rfl, ?_⟩) hSw ?_
          · intro w' hSw'
            have c68 := blk_cell68 hSw'.2.1 h1 h2
            go_simp
          simp only [Act.put, List.setIfInBounds_toArray, List.set_cons_zero, List.set_cons_succ]
          refine wpAnyH_take (i := 3) (oi := ⟨some 97, _, _, _, _, _⟩) (v := (.slice (some ⟨b', o, none⟩) j c)) rfl (by kernel_rfl) (by kernel_rfl) (by kernel_rfl) (fun _ _ _ h => h) (Or.inl ⟨by rfl, ?_⟩) hSw ?_
          · intro w' hSw'
            have c68 := blk_cell68 hSw'.2.1 h1 h2
            go_simp
          simp only [Act.put, List.setIfInBounds_toArray, List.set_cons_zero, List.set_cons_succ]
          refine wpAnyH_take (i := 4) (oi := ⟨some 98, _, _, _, _, _⟩) (v := (.pointer (some ⟨b', o, none⟩))) rfl (by kernel_rfl) (by kernel_rfl) (by kernel_rfl) (fun _ _ _ h => h) (Or.inl ⟨by rfl, ?_⟩) hSw ?_
          · intro w' hSw'
            have c68 := blk_cell68 hSw'.2.1 h1 h2
            go_simp
          simp only [Act.put, List.setIfInBounds_toArray, List.set_cons_zero, List.set_cons_succ]
          refine wpAnyH_take (i := 5) (oi := ⟨some 99, _, _, _, _, _⟩) (v := .agg ([Value.slice A3 n1 c3, Value.slice A4 n2 c4]).toArray) rfl (by kernel_rfl) (by kernel_rfl) (by kernel_rfl) (fun _ _ _ h => h) (yieldsIf_load_mid (by rfl) _ _ rfl b' (o) rfl ([Value.slice A3 n1 c3, Value.slice A4 n2 c4]) _ (fun _ h => h.2.2) Try.underlying39 rfl infoTx) hSw ?_
          simp only [Act.put, List.setIfInBounds_toArray, List.set_cons_zero, List.set_cons_succ]
          refine wpAnyH_take (i := 6) (oi := ⟨some 100, _, _, _, _, _⟩) (v := (.int .i64 h)) rfl (by kernel_rfl) (by kernel_rfl) (by kernel_rfl) (fun _ _ _ h => h) (Or.inl ⟨by rfl, ?_⟩) hSw ?_
          · intro w' hSw'
            have c68 := blk_cell68 hSw'.2.1 h1 h2
            go_simp
          simp only [Act.put, List.setIfInBounds_toArray, List.set_cons_zero, List.set_cons_succ]
          refine wpAnyH_ready (rs := [7]) (by kernel_rfl) (by simp) (AllReadyH.cons (o := ⟨some 101, _, _, _, _, _⟩) rfl (fun K hK => ?_) AllReadyH.nil)
          go_simp
          go_at_call 45
          refine LY.out.mono ?_
          rintro e7 w7 ⟨rfl, a7, b7, hsp7⟩
          have HSP7 := Lib.hid hsp7
          have HB87 := Lib.hid (HSD.out.keepL HB8D.out (by decide) a7)
          have HBL7 := Lib.hid (HBLD.out.trans (a7.below HSP6.out.hB (fun b hb e => by have := e.1; omega)))
          have t2 := HSD.out.keepL hSw.2.1 (by decide) a7
          have t3 := RowAt.only hSw.2.2 a7 (fun e => by have := e.1; have := HOKB.out; omega)
          clear LY a7 hsp7
          dsimp only
          refine hK.out _ _ (⟨HSP7.out.undo, t2, t3⟩) ?_
          intro hSw
          clear hK K
          try simp only [Act.put, List.setIfInBounds_toArray, List.set_cons_zero, List.set_cons_succ]
          refine wpAnyH_ready (rs := [8]) (by kernel_rfl) (by simp) (AllReadyH.cons (o := ⟨none, _, _, _, _, _⟩) rfl (fun K hK => ?_) AllReadyH.nil)
          refine step_stbc rfl 46 (.tmp 8) (.tmp 94) rfl g8 0 _ rfl rfl 46 [Value.slice none 0 0, Value.slice none 0 0] HB87.out (by simp) (by rw [infoUndo]; rfl) (by simp [Value.oneCell']) ?_
          intro wz bz oz
          rw [over_all _ _ (by simp)] at bz
          have HSZ := Lib.hid (HSP7.out.undo8 HB87.out (by have := HQ.out; omega) oz)
          have HBZ := Lib.hid (HBL7.out.trans (oz.below HSP7.out.hB (fun b hb e => by have := HQ.out; omega)))
          have HB8Z := Lib.hid bz
          have hq := HQ.out
          have t2 := hSw.2.1.only oz (by omega)
          have t3 := RowAt.only hSw.2.2 oz (fun e => by have := HOKB.out; omega)
          clear bz oz hq
          refine hK.out _ _ (⟨HSZ.out.undo, t2, t3⟩) ?_
          intro hSw
          clear hK K
          try simp only [Act.put, List.setIfInBounds_toArray, List.set_cons_zero, List.set_cons_succ]
          refine wpAnyH_take (i := 9) (oi := ⟨some 9, _, _, _, _, _⟩) (v := (.int .i64 ln)) rfl (by kernel_rfl) (by kernel_rfl) (by kernel_rfl) (fun _ _ _ h => h) (Or.inl ⟨by rfl, ?_⟩) hSw ?_
          · intro w' hSw'
            have c68 := blk_cell68 hSw'.2.1 h1 h2
            go_simp
          simp only [Act.put, List.setIfInBounds_toArray, List.set_cons_zero, List.set_cons_succ]
          refine wpAnyH_done (by kernel_rfl) ?_ _
          have hRR := HRES.out
          rw [HR2.out] at hRR
          subst hRR
          clear i1 i2
          go_wp2
          refine bodyPost_ret (results_row_tmp rfl _ _ g8 46 #[Value.slice A1 U.length c1, Value.slice A2 U.length c2] (0, 0) _ rfl HB8Z.out Try.underlying46 rfl (by rw [infoUndo]; rfl)) rfl ?_
          exact ⟨A1, c1, A2, c2, rfl, HBZ.out, gu, _, HSZ.out⟩
end Go.Proofs.Ytlbpeihdedhjiaa
