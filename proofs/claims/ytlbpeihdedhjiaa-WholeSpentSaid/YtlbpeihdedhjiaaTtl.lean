/- the sum of a map of coins. -/
import Derived.Test.YtlbpeihdedhjiaaTot
namespace Go.Proofs.Ytlbpeihdedhjiaa
open Go.RowKit Go.MapKept
open Go.ChangeMaps (setBlock)
def amtI : Option Value → Int
  | some (Value.int _ z) => z
  | _ => 0
def amtV : Value → Int
  | Value.agg a => amtI a[0]?
  | _ => 0
def amtS (l : List MapEntry) : Int := (l.map fun e => amtV e.val).sum
def totC (L : CoL) : Int := (L.map fun x => x.2.1).sum
theorem amtV_coin (c : CoT) : amtV (coinV c) = c.1 := by
  show amtI ((coinC c).toArray)[0]? = c.1
  rw [List.getElem?_toArray]
  rfl
theorem amtS_tot {es : Array MapEntry} {L : CoL} (h : es.toList.map (fun e => (e.key, e.val)) = L.map (fun x => (pV x.1, coinV x.2))) : amtS es.toList = totC L := by
  have h2 := congrArg (List.map fun x => amtV x.2) h
  rw [List.map_map, List.map_map] at h2
  unfold amtS totC
  have h3 : (es.toList.map fun e => amtV e.val) = L.map fun x => x.2.1 := h2.trans (List.map_congr_left fun x _ => amtV_coin x.2)
  rw [h3]
theorem amtS_split (f : MapEntry → Bool) (l : List MapEntry) : amtS l = amtS (l.filter f) + amtS (l.filter fun e => !f e) := by
  induction l with
  | nil => rfl
  | cons x l ih =>
    unfold amtS at ih ⊢
    rw [List.filter_cons, List.filter_cons]
    cases f x <;> simp [ih] <;> omega
theorem amtS_one {l : List MapEntry} (hn : (l.map (·.born)).Nodup) {e : MapEntry} (he : e ∈ l) : amtS l = amtV e.val + amtS (l.filter fun x => !(x.born == e.born)) := by
  induction l with
  | nil => cases he
  | cons x l ih =>
    rw [List.map_cons, List.nodup_cons] at hn
    rcases List.mem_cons.1 he with rfl | he
    · have h1 : (l.filter fun x => !(x.born == e.born)) = l := by
        rw [List.filter_eq_self]
        intro y hy
        have : y.born ≠ e.born := fun h => hn.1 (by rw [← h]; exact List.mem_map.2 ⟨y, hy, rfl⟩)
        simpa using this
      rw [List.filter_cons, if_neg (by simp), h1]
      rfl
    · have : x.born ≠ e.born := fun h => hn.1 (by rw [h]; exact List.mem_map.2 ⟨e, he, rfl⟩)
      rw [List.filter_cons, if_pos (by simpa using this)]
      have := ih hn.2 he
      unfold amtS at this ⊢
      rw [List.map_cons, List.map_cons, List.sum_cons, List.sum_cons, this]
      omega
/-- what is left, one more seen -/
theorem left_step {es : Array MapEntry} {clock : Nat} (hs : Stamped es clock) {seen : Array Nat} {e : MapEntry} (he : e ∈ (leftOf es seen).toList) :
    amtS (leftOf es seen).toList = amtV e.val + amtS (leftOf es (seen.push e.born)).toList := by
  have hn := ((stamped_iff _ _).1 hs).2.1
  have hnl : ((leftOf es seen).toList.map (·.born)).Nodup := by
    unfold leftOf
    rw [Array.toList_filter]
    exact hn.sublist ((List.filter_sublist).map _)
  rw [amtS_one hnl he]
  congr 2
  unfold leftOf
  rw [Array.toList_filter, Array.toList_filter, List.filter_filter]
  congr 1
  funext x
  rw [contains_push, Bool.not_or, Bool.and_comm]
theorem amt_nn {L : CoL} {es : Array MapEntry} (h : es.toList.map (fun e => (e.key, e.val)) = L.map (fun x => (pV x.1, coinV x.2))) (hnn : ∀ x ∈ L, 0 ≤ x.2.1) : ∀ e ∈ es.toList, 0 ≤ amtV e.val := by
  intro e he
  have : (e.key, e.val) ∈ L.map (fun x => (pV x.1, coinV x.2)) := by rw [← h]; exact List.mem_map.2 ⟨e, he, rfl⟩
  obtain ⟨x, hx, e2⟩ := List.mem_map.1 this
  have hv : e.val = coinV x.2 := (congrArg Prod.snd e2).symm
  rw [hv, amtV_coin]
  exact hnn x hx
theorem amtS_nn {l : List MapEntry} (h : ∀ e ∈ l, 0 ≤ amtV e.val) : 0 ≤ amtS l := by
  induction l with
  | nil => exact Int.le_refl _
  | cons x l ih =>
    have h1 := h x (by simp)
    have h2 := ih (fun e he => h e (by simp [he]))
    unfold amtS at h2 ⊢
    rw [List.map_cons, List.sum_cons]
    omega
set_option maxRecDepth 20000 in
set_option maxHeartbeats 8000000 in
set_option linter.unusedSimpArgs false in
theorem total_any (w : World) (B : Nat) (p : Option Nat) (L : CoL) (hm : MapAt w B p L) (hnn : ∀ x ∈ L, 0 ≤ x.2.1) (htot : totC L ≤ 4611686018427387904) :
    Calls Try.prog 25 #[.map p] w fun e w' => e = .returned (.int .i64 (totC L)) ∧ Below w.heap.size w w' := by
  obtain ⟨T, hT⟩ : ∃ T, totC L = T := ⟨_, rfl⟩
  rw [hT]
  cases p with
  | none =>
    have h0 : L = [] := hm
    have hT0 : T = 0 := by rw [← hT, h0]; rfl
    subst hT0
    have ht : (Try.prog).underlying 40 = some (.map 28 61) := Try.underlying40
    have hr := run_range_nilMap (P := Try.prog) w 40 _ _ ht
    have hx := fun ty => run_next_nilMap (P := Try.prog) w ty 0 0 #[]
    go_enter Try.func25, Try.ntmps25
    go_wp2_with fail
    refine wp_loop_rounds 1 ?_
    rw [rounds_succ]
    go_wp2_with fail
    go_ret
    exact ⟨rfl, (Below.refl _ _).alloc (Nat.le_refl _) _⟩
  | some b =>
    obtain ⟨es, clock, e1, e2, e3, e4⟩ := hm.2
    have ht : (Try.prog).underlying 40 = some (.map 28 61) := Try.underlying40
    have hr := run_range_map (P := Try.prog) w 40 _ _ b es clock ht e1
    have HT := Lib.hid (show amtS es.toList = T by rw [amtS_tot e2, hT])
    have HE := Lib.hid e1
    have HST := Lib.hid e3
    have HN := Lib.hid (amt_nn e2 hnn)
    have HTT := Lib.hid (show T ≤ 4611686018427387904 by omega)
    have HVAL := Lib.hid (show ∀ e ∈ es.toList, ∃ c : CoT, e.val = coinV c ∧ c.2.1.length = 32 from fun e he => by
      have : (e.key, e.val) ∈ L.map (fun x => (pV x.1, coinV x.2)) := by rw [← e2]; exact List.mem_map.2 ⟨e, he, rfl⟩
      obtain ⟨x, hx, e2⟩ := List.mem_map.1 this
      exact ⟨x.2, (congrArg Prod.snd e2).symm, (e4 x hx).2.1⟩)
    clear e1 e2 e3 e4 hT hnn htot hm
    go_enter Try.func25, Try.ntmps25
    go_wp2_with fail
    have hal : Below w.heap.size w (w.alloc (.mapIter (some b) clock #[] clock)) := (Below.refl _ _).alloc (Nat.le_refl _) _
    have hit : (w.alloc (.mapIter (some b) clock #[] clock)).heap[w.heap.size]? = some (.mapIter (some b) clock #[] clock) := heap_alloc_new _ _
    have hmb : (w.alloc (.mapIter (some b) clock #[] clock)).heap[b]? = some (.map es clock) := (hal.block b (blk_lt HE.out)).trans HE.out
    have hl0 : leftOf es #[] = es := by unfold leftOf; simp
    have hs0 : (0 : Int) + amtS (leftOf es #[]).toList = T := by rw [hl0, HT.out]; omega
    generalize World.alloc w (.mapIter (some b) clock #[] clock) = W0 at hal hit hmb ⊢
    obtain ⟨r, hrr⟩ : ∃ r, w.heap.size = r := ⟨_, rfl⟩
    have HRW := Lib.hid hrr
    have HBLT := Lib.hid (blk_lt HE.out)
    rw [hrr] at hit ⊢
    have HIT := Lib.hid hit
    have HMB := Lib.hid hmb
    have HAL := Lib.hid hal
    have HS0 := Lib.hid hs0
    clear hal hit hmb hl0 hs0 hrr hr
    go_loopg [3] (leftOf es #[]).size (fun k v3 wr => ∃ (seen : Array Nat) (acc : Int) (c0 : Nat), k = (leftOf es seen).size ∧ v3 = .int .i64 acc ∧ 0 ≤ acc ∧ Hid (acc + amtS (leftOf es seen).toList = T) ∧ Hid (wr.heap[b]? = some (.map es clock)) ∧ Hid (wr.heap[r]? = some (.mapIter (some b) clock seen c0)) ∧ clock ≤ c0 ∧ Hid (Below w.heap.size w wr))
    case atStart => exact ⟨#[], 0, clock, rfl, rfl, by omega, HS0, HMB, HIT, Nat.le_refl _, HAL⟩
    case round =>
      clear HMB HIT HAL HS0
      obtain ⟨seen, acc, c0, hk, rfl, hacc, HS, HMB, HIT, hc0, HAL⟩ := hrel
      have hst := (stamped_iff _ _).1 HST.out
      rcases run_next_at (P := Try.prog) wr 0 r b clock c0 seen es clock HIT.out HMB.out hst.1 hc0 with ⟨h0, hnx⟩ | ⟨e, he, w1, hw1, hnx⟩
      · have hfin : acc = T := by
          have h2 : (leftOf es seen).toList = [] := List.eq_nil_of_length_eq_zero (by simpa using h0)
          have := HS.out
          rw [h2] at this
          simpa [amtS] using this
        subst hfin
        clear hst h0
        go_wp2
        go_ret
        exact ⟨rfl, HAL.out⟩
      · obtain ⟨hem, hes⟩ := mem_left he
        obtain ⟨cc, hcv, hc32⟩ := HVAL.out e hem
        have hsp := left_step HST.out he
        have hsh := left_shrinks es seen e he
        have hr1 : w1.heap[r]? = some (.mapIter (some b) clock seen c0) := by rcases hw1 with rfl | rfl <;> exact HIT.out
        have hb1 : w1.heap[b]? = some (.map es clock) := by rcases hw1 with rfl | rfl <;> exact HMB.out
        have hz1 : w1.heap.size = wr.heap.size := by rcases hw1 with rfl | rfl <;> rfl
        have hset : (setBlock w1 r (.mapIter (some b) clock (seen.push e.born) clock)).heap[r]? = some (.mapIter (some b) clock (seen.push e.born) clock) ∧ ∀ i, i ≠ r → (setBlock w1 r (.mapIter (some b) clock (seen.push e.born) clock)).heap[i]? = w1.heap[i]? := heap_set (o' := .mapIter (some b) clock (seen.push e.born) clock) hr1
        have hbr : b ≠ r := by have := HBLT.out; have := HRW.out; omega
        have hb2 : (setBlock w1 r (.mapIter (some b) clock (seen.push e.born) clock)).heap[b]? = some (.map es clock) := (hset.2 b hbr).trans hb1
        have hent := run_entry_at (P := Try.prog) _ r b clock seen es clock e hset.1 hb2 hem hst.2.1
        have hon : Only (fun k => k = r) wr (setBlock w1 r (.mapIter (some b) clock (seen.push e.born) clock)) := by
          rcases hw1 with rfl | rfl <;> exact ⟨rfl, rfl, rfl, by simp [setBlock], fun k _ hk => hset.2 k hk⟩
        rw [hcv] at hnx hent hsp
        rw [amtV_coin] at hsp
        obtain ⟨amt, lock, hgt⟩ := cc
        have hnne : 0 ≤ amt := by have := HN.out e hem; rw [hcv, amtV_coin] at this; exact this
        have hlf : 0 ≤ amtS (leftOf es (seen.push e.born)).toList := amtS_nn fun x hx => HN.out x (mem_left hx).1
        obtain ⟨w2, hw2⟩ : ∃ w2, setBlock w1 r (.mapIter (some b) clock (seen.push e.born) clock) = w2 := ⟨_, rfl⟩
        rw [hw2] at hset hb2 hent hon hnx
        have HB2 := Lib.hid hb2
        have HR2 := Lib.hid hset.1
        have HA2 := Lib.hid (HAL.out.trans (hon.below HAL.out.size (fun k hk e => by have := HRW.out; omega)))
        have HSH := Lib.hid hsh
        have HNS := Lib.hid (show acc + amt + amtS (leftOf es (seen.push e.born)).toList = T by have := HS.out; omega)
        have hTT := HTT.out
        have hw64 : wrap64 (acc + amt) = acc + amt := IntWalk.wrap64_in _ (by have := HNS.out; omega)
        have HL32 := Lib.hid hc32
        unfold coinV at hnx hent
        clear hset hb2 hon hw2 hr1 hb1 hz1 hw1 hbr hst hcv hem hes he hsp hsh HMB HIT HAL HS
        go_wp2_with (with_reducible refine wpList_stb rfl 61 (.tmp 5) (.tmp 11) rfl w2.heap.size 0 _ rfl rfl 61 (coinC zeroCo) (Blk.new w2 _ _) ?s1 ?s2 ?s3 ?_)
        case s1 => simp [coinC_len (amt, lock, hgt) HL32.out]; decide
        case s2 =>
          first
            | (rw [infoCo]; simp [coinC_len (amt, lock, hgt) HL32.out])
            | (have h7 := infoCo; rw [Option.map_eq_some_iff] at h7; rw [coinC_len (amt, lock, hgt) HL32.out]; exact h7)
        case s3 => exact coinC_one _
        intro w3 b3 o3
        rw [over_all _ _ (by simp [coinC_len (amt, lock, hgt) HL32.out]; decide)] at b3
        have hO3 : Below w2.heap.size w2 w3 := (((Only.refl (fun b => w2.heap.size ≤ b) w2).alloc _).trans o3 (fun b _ e => by omega)).below (Nat.le_refl _) (fun b hb h => by omega)
        have HB3 := Lib.hid ((hO3.block b (blk_lt HB2.out)).trans HB2.out)
        have HR3 := Lib.hid ((hO3.block r (blk_lt HR2.out)).trans HR2.out)
        have HA3 := Lib.hid (HA2.out.trans (hO3.mono HA2.out.size))
        have ca := co_amt b3
        obtain ⟨p5, hp5⟩ : ∃ p5, w2.heap.size = p5 := ⟨_, rfl⟩
        rw [hp5] at ca ⊢
        clear b3 o3 hO3 hnx hent hp5
        go_wp2
        go_roundg (leftOf es (seen.push e.born)).size
        case measure => have := HSH.out; omega
        case rel => exact ⟨seen.push e.born, acc + amt, clock, rfl, by rw [hw64], by omega, HNS.out, HB3.out, HR3.out, Nat.le_refl _, HA3.out⟩
end Go.Proofs.Ytlbpeihdedhjiaa
