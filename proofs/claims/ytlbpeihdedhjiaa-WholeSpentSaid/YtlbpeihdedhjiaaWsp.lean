/- WholeSpent, plainly: an amount goes from lock to lock. -/
import Derived.Test.YtlbpeihdedhjiaaKpn
import Derived.Test.YtlbpeihdedhjiaaTtl
namespace Go.Proofs.Ytlbpeihdedhjiaa
open Go.RowKit
def wsT : TxT := ([mkIn []], [(1000, sha [107], ())], ())
def wsU (x key : List UInt8) (amt : Int) (k : List UInt8) : TxT := ([((x, ((0 : Nat) : Int), ()), key, ())], [(amt, sha k, ())], ())
def wsM (mark : List UInt8) (amt : Int) : TxT := ([mkIn mark], [(amt, sha [109], ())], ())
/-- what stands at each round: the coin x is there, of the amount left, under the lock of key; in all there is made; N holds the names of all -/
structure WsI (L : CoL) (x key : List UInt8) (left made : Int) (N : List (List UInt8)) : Prop where
  nodup : (L.map (·.1)).Nodup
  last : ∃ h, getC L (x, 0) = some (left, sha key, h)
  total : totC L = made
  pos : ∀ y ∈ L, 0 ≤ y.2.1
  names : ∀ y ∈ L, y.1.1 ∈ N
theorem totC_app (L M : CoL) : totC (L ++ M) = totC L + totC M := by simp [totC]
theorem del_absent {L : CoL} {p : PtT} (h : ∀ y ∈ L, y.1 ≠ p) : delC L p = L := by
  unfold delC
  rw [List.filter_eq_self]
  intro y hy
  simpa using h y hy
theorem totC_del {L : CoL} {p : PtT} {c : CoT} (hn : (L.map (·.1)).Nodup) (h : getC L p = some c) : totC (delC L p) = totC L - c.1 := by
  induction L with
  | nil => simp [getC] at h
  | cons y L ih =>
    rw [List.map_cons, List.nodup_cons] at hn
    by_cases hy : y.1 = p
    · have h2 : y.2 = c := by simpa [getC, hy] using h
      have h3 : delC (y :: L) p = L := by
        have : delC (y :: L) p = delC L p := by simp [delC, hy]
        rw [this]
        refine del_absent (fun z hz e => hn.1 ?_)
        rw [hy, ← e]
        exact List.mem_map.2 ⟨z, hz, rfl⟩
      rw [h3, ← h2]
      simp only [totC, List.map_cons, List.sum_cons]
      omega
    · have h2 : getC L p = some c := by simpa [getC, hy] using h
      have h3 : delC (y :: L) p = y :: delC L p := by simp [delC, hy]
      rw [h3]
      have := ih hn.2 h2
      simp only [totC, List.map_cons, List.sum_cons] at this ⊢
      omega
theorem del_mem {L : CoL} {p : PtT} {y : PtT × CoT} (h : y ∈ delC L p) : y ∈ L := (List.mem_filter.1 h).1
theorem del_nodup {L : CoL} {p : PtT} (h : (L.map (·.1)).Nodup) : ((delC L p).map (·.1)).Nodup := h.sublist (List.filter_sublist.map _)
theorem get_names {L : CoL} {N : List (List UInt8)} {x : List UInt8} (h : ∀ y ∈ L, y.1.1 ∈ N) (hx : ¬ x ∈ N) (i : Nat) : getC L (x, i) = none :=
  get_none (fun y hy e => hx (by have := h y hy; rw [e] at this; exact this))
theorem ws_first : connM 0 1000 [wsT] [] = ([((txX wsT, 0), (1000, sha [107], 0))], [], 0) := by
  have hl := lay_fresh [] 1000 0 [mkIn []] (sha [107]) rfl
  have hc : conM 0 [] [] [] 0 = ([], [], 0, 0) := rfl
  have hw : wrap64 (1000 - 1000) = 0 := by rw [Int.sub_self]; exact IntWalk.wrap64_in _ (by omega)
  rw [wsT, conn_ok hc rfl (csum_one 1000 (sha [107]) (by omega) (by omega)) (by simp only [hw]; decide)]
  simp only [hl.1, hl.2, List.nil_append]
theorem ws_start : WsI [((txX wsT, 0), (1000, sha [107], 0))] (txX wsT) [107] 1000 1000 [txX wsT] :=
  ⟨by simp, ⟨0, get_one _ _⟩, rfl, by simp, by simp⟩
theorem ws_spend {L : CoL} {x key : List UInt8} {left made fee h : Int} {N : List (List UInt8)} {k : List UInt8} (H : WsI L x key left made N) (f0 : 0 ≤ fee) (f1 : fee ≤ left) (f2 : left ≤ 1000)
    (hu : ¬ txX (wsU x key (left - fee) k) ∈ N) : ∃ hh, conM h [wsU x key (left - fee) k] L [] 0 = (delC L (x, 0) ++ [((txX (wsU x key (left - fee) k), 0), (left - fee, sha k, h))], [((x, 0), (left, sha key, hh))], fee, 0) := by
  obtain ⟨hh, hl⟩ := H.last
  refine ⟨hh, ?_⟩
  have hs : spendM [((x, ((0 : Nat) : Int), ()), key, ())] L [] 0 = (delC L (x, 0), [((x, 0), (left, sha key, hh))], left, 0) := by
    rw [spendM_some hl (by simp), spendM]
    have w1 : wrap64 (0 + left) = left := by rw [Int.zero_add]; exact IntWalk.wrap64_in _ (by omega)
    exact congrArg (fun z => (delC L (x, 0), [((x, 0), (left, sha key, hh))], z, (0 : Int))) w1
  have hl3 := lay_fresh (delC L (x, 0)) (left - fee) h [((x, ((0 : Nat) : Int), ()), key, ())] (sha k) (get_names (fun y hy => H.names y (del_mem hy)) hu 0)
  rw [wsU, conM_ok hs rfl (csum_one (left - fee) (sha k) (by omega) (by omega)) (by simp only [Bool.not_true, Bool.false_or, decide_eq_false_iff_not]; omega) hl3.1 hl3.2, conM]
  have w2 : wrap64 (0 + wrap64 (left - (left - fee))) = fee := by
    rw [show left - (left - fee) = fee by omega, IntWalk.wrap64_in fee (by omega), Int.zero_add]; exact IntWalk.wrap64_in _ (by omega)
  exact congrArg (fun z => (delC L (x, 0) ++ [((txX (wsU x key (left - fee) k), 0), (left - fee, sha k, h))], [((x, 0), (left, sha key, hh))], z, (0 : Int))) w2
theorem ws_good {L : CoL} {x key : List UInt8} {left made fee h : Int} {N : List (List UInt8)} {k mark : List UInt8} (H : WsI L x key left made N) (f0 : 0 ≤ fee) (f1 : fee ≤ left) (f2 : left ≤ 1000)
    (hu : ¬ txX (wsU x key (left - fee) k) ∈ N) (hm : ¬ txX (wsM mark (10 + fee)) ∈ N) (hne : txX (wsU x key (left - fee) k) ≠ txX (wsM mark (10 + fee))) :
    (connM h 10 [wsM mark (10 + fee), wsU x key (left - fee) k] L).2.2 = 0 ∧ WsI (connM h 10 [wsM mark (10 + fee), wsU x key (left - fee) k] L).1 (txX (wsU x key (left - fee) k)) k (left - fee) (made + 10) (N ++ [txX (wsU x key (left - fee) k)] ++ [txX (wsM mark (10 + fee))]) := by
  obtain ⟨hh, hc⟩ := ws_spend (h := h) (k := k) H f0 f1 f2 hu
  obtain ⟨xu, hxu⟩ : ∃ xu, txX (wsU x key (left - fee) k) = xu := ⟨_, rfl⟩
  rw [hxu] at hc hu hne ⊢
  have hnm : ∀ y ∈ delC L (x, 0) ++ [((xu, 0), (left - fee, sha k, h))], y.1.1 ∈ N ++ [xu] := by
    intro y hy
    rw [List.mem_append, List.mem_singleton] at hy
    rcases hy with hy | rfl
    · exact List.mem_append_left _ (H.names y (del_mem hy))
    · exact List.mem_append_right _ (by simp)
  have hm2 : ¬ txX (wsM mark (10 + fee)) ∈ N ++ [xu] := by
    rw [List.mem_append, List.mem_singleton]
    rintro (h1 | h1)
    · exact hm h1
    · exact hne h1.symm
  have hl2 := lay_fresh (delC L (x, 0) ++ [((xu, 0), (left - fee, sha k, h))]) (10 + fee) h [mkIn mark] (sha [109]) (get_names hnm hm2 0)
  have hw : wrap64 (10 + fee - 10) = fee := by rw [show 10 + fee - 10 = fee by omega]; exact IntWalk.wrap64_in _ (by omega)
  have hR : connM h 10 [wsM mark (10 + fee), wsU x key (left - fee) k] L = (delC L (x, 0) ++ [((xu, 0), (left - fee, sha k, h))] ++ [((txX (wsM mark (10 + fee)), 0), (10 + fee, sha [109], h))], [((x, 0), (left, sha key, hh))], 0) := by
    rw [show wsM mark (10 + fee) = ([mkIn mark], [(10 + fee, sha [109], ())], ()) from rfl, conn_ok hc rfl (csum_one (10 + fee) (sha [109]) (by omega) (by omega)) (by simp only [hw, Bool.not_true, Bool.false_or, decide_eq_false_iff_not]; omega)]
    simp only [hl2.1, hl2.2]
  obtain ⟨xm, hxm⟩ : ∃ xm, txX (wsM mark (10 + fee)) = xm := ⟨_, rfl⟩
  rw [hxm] at hR hm2 ⊢
  rw [hR]
  obtain ⟨h0, hl⟩ := H.last
  refine ⟨rfl, ⟨?_, ⟨h, ?_⟩, ?_, ?_, ?_⟩⟩
  · have hd := del_nodup (p := (x, 0)) H.nodup
    have e1 : ∀ y ∈ delC L (x, 0), y.1.1 ∈ N := fun y hy => H.names y (del_mem hy)
    have hne' : xu ≠ xm := by rw [← hxm]; exact hne
    simp only [List.map_append, List.map_cons, List.map_nil]
    refine List.nodup_append.2 ⟨List.nodup_append.2 ⟨hd, by simp, ?_⟩, by simp, ?_⟩
    · intro a ha b hb
      rw [List.mem_singleton] at hb
      subst hb
      obtain ⟨y, hy, rfl⟩ := List.mem_map.1 ha
      intro e
      exact hu (by have := e1 y hy; rw [e] at this; exact this)
    · intro a ha b hb
      rw [List.mem_singleton] at hb
      subst hb
      intro e
      subst e
      refine hm2 ?_
      rw [List.mem_append, List.mem_singleton] at ha ⊢
      rcases ha with ha | ha
      · obtain ⟨y, hy, e⟩ := List.mem_map.1 ha
        exact .inl (by have := e1 y hy; rw [e] at this; exact this)
      · injection ha with h1 h2
        exact .inr h1
  · rw [List.append_assoc]
    have hnone : getC (delC L (x, 0)) (xu, 0) = none := get_names (fun y hy => H.names y (del_mem hy)) hu 0
    unfold getC at hnone ⊢
    rw [List.find?_append]
    rw [Option.map_eq_none_iff] at hnone
    rw [hnone]
    simp
  · rw [totC_app, totC_app, totC_del H.nodup hl, H.total]
    simp only [totC, List.map_cons, List.map_nil, List.sum_cons, List.sum_nil]
    omega
  · intro y hy
    simp only [List.mem_append, List.mem_singleton] at hy
    rcases hy with (hy | rfl) | rfl
    · exact H.pos y (del_mem hy)
    · show 0 ≤ left - fee; omega
    · show 0 ≤ 10 + fee; omega
  · intro y hy
    rw [List.mem_append, List.mem_singleton] at hy ⊢
    rcases hy with hy | rfl
    · exact .inl (hnm y hy)
    · exact .inr (by simp)
/-- whoever shows other bytes spends just if their sum is the key's -/
theorem ws_bad {L : CoL} {x key bad : List UInt8} {left made h amt sub : Int} {N : List (List UInt8)} {t : TxT} {k : List UInt8} (H : WsI L x key left made N) (he : (connM h sub [t, wsU x bad amt k] L).2.2 = 0) : (sha bad == sha key) = true := by
  obtain ⟨hh, hl⟩ := H.last
  cases hb : (sha bad == sha key) with
  | true => rfl
  | false =>
    exfalso
    have hs := spendM_lock (r := []) (U := []) (n := 0) (key := bad) hl hb
    have h131 : (131 : Int) ≠ 0 := by decide
    have hc := conM_spend (h := h) (fe := 0) (outs := [(amt, sha k, ())]) (r := []) hs h131
    have h2 := conn_bad (t := t) (sub := sub) hc h131
    have h3 : ((L, [], 131) : CoL × CoL × Int).2.2 = 0 := by rw [← he]; exact congrArg (fun z => z.2.2) h2.symm
    exact h131 h3
theorem wsfitT : TxFit wsT := ⟨by simp [wsT], by simp [wsT], by intro i hi; simp only [wsT, List.mem_singleton] at hi; subst hi; simp [mkIn]⟩
theorem wsfitU (x key : List UInt8) (amt : Int) (k : List UInt8) (hk : key.length ≤ 1000) : TxFit (wsU x key amt k) := ⟨by simp [wsU], by simp [wsU], by intro i hi; simp only [wsU, List.mem_singleton] at hi; subst hi; simp; omega⟩
theorem wsfitM (a b : UInt8) (amt : Int) : TxFit (wsM [a, b] amt) := ⟨by simp [wsM], by simp [wsM], by intro i hi; simp only [wsM, List.mem_singleton] at hi; subst hi; simp [mkIn]⟩
end Go.Proofs.Ytlbpeihdedhjiaa
