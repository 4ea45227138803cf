/- hash.Sum and hash.Twice. -/
import Derived.Test.YtlbpeihdedhjiaaHb
import Derived.Test.YtlbpeihdedhjiaaWh
import Derived.Test.YtlbpeihdedhjiaaEq
namespace Go.Proofs.Ytlbpeihdedhjiaa
open Go.RowKit
/-- how many noughts stand ahead of the length -/
def padZ (n : Nat) : Nat := (119 - n % 64) % 64
def be8 (n : Nat) : List UInt8 := [UInt8.ofNat (8 * n / 2 ^ 56), UInt8.ofNat (8 * n / 2 ^ 48), UInt8.ofNat (8 * n / 2 ^ 40), UInt8.ofNat (8 * n / 2 ^ 32), UInt8.ofNat (8 * n / 2 ^ 24), UInt8.ofNat (8 * n / 2 ^ 16), UInt8.ofNat (8 * n / 2 ^ 8), UInt8.ofNat (8 * n)]
def padded (l : List UInt8) : List UInt8 := l ++ [128] ++ List.replicate (padZ l.length) 0 ++ be8 l.length
theorem padded_len (l : List UInt8) : (padded l).length = l.length + 9 + padZ l.length := by simp [padded, be8]; omega
theorem padded_mod (l : List UInt8) : (padded l).length % 64 = 0 := by rw [padded_len]; unfold padZ; omega
def hash0 : List Nat := [1779033703, 3144134277, 1013904242, 2773480762, 1359893119, 2600822924, 528734635, 1541459225]
/-- the eight numbers behind n blocks -/
def shaN (s : List UInt8) : Nat → List Nat
  | 0 => hash0
  | n + 1 => blk (shaN s n) ((s.drop (64 * n)).take 64)
theorem shaN_len (s : List UInt8) (n : Nat) : (shaN s n).length = 8 := by cases n <;> simp [shaN, hash0, blk_len]
theorem shaN_lt (s : List UInt8) (n : Nat) : ∀ x ∈ shaN s n, x < 4294967296 := by
  cases n with
  | zero => intro x hx; simp only [shaN, hash0, List.mem_cons, List.not_mem_nil, or_false] at hx; rcases hx with rfl | rfl | rfl | rfl | rfl | rfl | rfl | rfl <;> decide
  | succ n => exact blk_all_lt _ _
def be4 (x : Nat) : List UInt8 := [UInt8.ofNat (x / 16777216), UInt8.ofNat (x / 65536), UInt8.ofNat (x / 256), UInt8.ofNat x]
/-- the SHA-256 of bytes -/
def sha (l : List UInt8) : List UInt8 := (shaN (padded l) ((padded l).length / 64)).flatMap be4
theorem flat4_len (h : List Nat) : (h.flatMap be4).length = 4 * h.length := by
  induction h with
  | nil => rfl
  | cons x h ih => rw [List.flatMap_cons, List.length_append, ih]; simp [be4]; omega
theorem sha_len (l : List UInt8) : (sha l).length = 32 := by rw [sha, flat4_len, shaN_len]
def sha2 (l : List UInt8) : List UInt8 := sha (sha l)
theorem own_ge {w : World} {base : Nat} {e : TypeId} {size n k : Nat} {v : Value} {xs : List Value} (h : w.ownsRow base e size v n xs) (hk : v.ownBlock = some k) : base ≤ k := by
  rcases h.2 with ⟨rfl, rfl⟩ | ⟨g', cap, cur, rfl, hb, _⟩
  · simp [Value.ownBlock] at hk
  · simp [Value.ownBlock] at hk; omega
/-- a row of bytes that grows, and a block -/
structure Acc (w0 w : World) (q : Nat) (A : Option Addr) (c : Nat) (cur : List UInt8) : Prop where
  own : w.ownsRow (q + 1) 5 1 (.slice A cur.length c) cur.length (bts cur)
  blk : Blk w q 25 zeros32.toArray
  below : Below w0.heap.size w0 w
  hq : w0.heap.size ≤ q
theorem Acc.app {w0 w w1 : World} {q : Nat} {A A' : Option Addr} {c c' m : Nat} {cur : List UInt8} (h : Acc w0 w q A c cur) (news : List UInt8) (hm : m = news.length)
    (hown : w1.ownsRow (q + 1) 5 1 (.slice A' (cur.length + m) c') (cur.length + m) (bts cur ++ bts news)) (ho : Only (fun b => (Value.slice A cur.length c).ownBlock = some b) w w1) :
    Acc w0 w1 q A' c' (cur ++ news) := by
  subst hm
  refine ⟨by rw [bts_append, List.length_append]; exact hown, h.blk.only ho (own_blk_ne h.own h.blk (by decide)), h.below.trans (ho.below h.below.size (fun b hb e => ?_)), h.hq⟩
  have := own_ge h.own e
  have := h.hq
  omega
theorem Acc.alloc {w0 w : World} {q : Nat} {A : Option Addr} {c : Nat} {cur : List UInt8} (h : Acc w0 w q A c cur) (o : Obj) : Acc w0 (w.alloc o) q A c cur :=
  ⟨h.own.alloc o, h.blk.alloc o, h.below.alloc h.below.size o, h.hq⟩
theorem hstr_take (l : List UInt8) (k : Nat) : (bstr l).extract 0 k = bstr (l.take k) := by
  apply ByteArray.ext
  rw [ByteArray.data_extract]
  apply Array.ext'
  simp [bstr]
theorem hstr_drop (l : List UInt8) (k : Nat) : (bstr l).extract k l.length = bstr (l.drop k) := by
  apply ByteArray.ext
  rw [ByteArray.data_extract]
  apply Array.ext'
  simp only [bstr, List.extract_toArray, List.extract_eq_take_drop]
  rw [List.take_of_length_le (by simp)]
theorem str_ne_empty (l : List UInt8) (h : ¬ l = []) : (bstr l != ⟨#[]⟩) = true := by
  show (!(bstr l == bstr [])) = true
  rw [str_ne (fun e => h (bstr_inj e))]
  rfl
theorem Blk.set8 {w : World} {g : Nat} {t : TypeId} {a0 a1 a2 a3 a4 a5 a6 a7 : Value} (h : Blk w g t #[a0, a1, a2, a3, a4, a5, a6, a7]) (b0 b1 b2 b3 b4 b5 b6 b7 : Value) :
    Blk ((((((((w.setCell ⟨g, 0, none⟩ b0).setCell ⟨g, 1, none⟩ b1).setCell ⟨g, 2, none⟩ b2).setCell ⟨g, 3, none⟩ b3).setCell ⟨g, 4, none⟩ b4).setCell ⟨g, 5, none⟩ b5).setCell ⟨g, 6, none⟩ b6).setCell ⟨g, 7, none⟩ b7) g t #[b0, b1, b2, b3, b4, b5, b6, b7] ∧
    Only (fun b => b = g) w ((((((((w.setCell ⟨g, 0, none⟩ b0).setCell ⟨g, 1, none⟩ b1).setCell ⟨g, 2, none⟩ b2).setCell ⟨g, 3, none⟩ b3).setCell ⟨g, 4, none⟩ b4).setCell ⟨g, 5, none⟩ b5).setCell ⟨g, 6, none⟩ b6).setCell ⟨g, 7, none⟩ b7) := by
  have k0 : Blk (w.setCell ⟨g, 0, none⟩ b0) g t #[b0, a1, a2, a3, a4, a5, a6, a7] := h.set_ 0 b0
  have k1 : Blk ((w.setCell ⟨g, 0, none⟩ b0).setCell ⟨g, 1, none⟩ b1) g t #[b0, b1, a2, a3, a4, a5, a6, a7] := k0.set_ 1 b1
  have k2 : Blk (((w.setCell ⟨g, 0, none⟩ b0).setCell ⟨g, 1, none⟩ b1).setCell ⟨g, 2, none⟩ b2) g t #[b0, b1, b2, a3, a4, a5, a6, a7] := k1.set_ 2 b2
  have k3 : Blk ((((w.setCell ⟨g, 0, none⟩ b0).setCell ⟨g, 1, none⟩ b1).setCell ⟨g, 2, none⟩ b2).setCell ⟨g, 3, none⟩ b3) g t #[b0, b1, b2, b3, a4, a5, a6, a7] := k2.set_ 3 b3
  have k4 : Blk (((((w.setCell ⟨g, 0, none⟩ b0).setCell ⟨g, 1, none⟩ b1).setCell ⟨g, 2, none⟩ b2).setCell ⟨g, 3, none⟩ b3).setCell ⟨g, 4, none⟩ b4) g t #[b0, b1, b2, b3, b4, a5, a6, a7] := k3.set_ 4 b4
  have k5 : Blk ((((((w.setCell ⟨g, 0, none⟩ b0).setCell ⟨g, 1, none⟩ b1).setCell ⟨g, 2, none⟩ b2).setCell ⟨g, 3, none⟩ b3).setCell ⟨g, 4, none⟩ b4).setCell ⟨g, 5, none⟩ b5) g t #[b0, b1, b2, b3, b4, b5, a6, a7] := k4.set_ 5 b5
  have k6 : Blk (((((((w.setCell ⟨g, 0, none⟩ b0).setCell ⟨g, 1, none⟩ b1).setCell ⟨g, 2, none⟩ b2).setCell ⟨g, 3, none⟩ b3).setCell ⟨g, 4, none⟩ b4).setCell ⟨g, 5, none⟩ b5).setCell ⟨g, 6, none⟩ b6) g t #[b0, b1, b2, b3, b4, b5, b6, a7] := k5.set_ 6 b6
  have k7 : Blk ((((((((w.setCell ⟨g, 0, none⟩ b0).setCell ⟨g, 1, none⟩ b1).setCell ⟨g, 2, none⟩ b2).setCell ⟨g, 3, none⟩ b3).setCell ⟨g, 4, none⟩ b4).setCell ⟨g, 5, none⟩ b5).setCell ⟨g, 6, none⟩ b6).setCell ⟨g, 7, none⟩ b7) g t #[b0, b1, b2, b3, b4, b5, b6, b7] := k6.set_ 7 b7
  exact ⟨k7,
   ((((((((Only.refl (fun b => b = g) w).setCell (p := ⟨g, 0, none⟩) (fun _ => rfl) b0).setCell (p := ⟨g, 1, none⟩) (fun _ => rfl) b1).setCell (p := ⟨g, 2, none⟩) (fun _ => rfl) b2).setCell (p := ⟨g, 3, none⟩) (fun _ => rfl) b3).setCell (p := ⟨g, 4, none⟩) (fun _ => rfl) b4).setCell (p := ⟨g, 5, none⟩) (fun _ => rfl) b5).setCell (p := ⟨g, 6, none⟩) (fun _ => rfl) b6).setCell (p := ⟨g, 7, none⟩) (fun _ => rfl) b7⟩
/-- the first numbers' bytes, noughts behind them -/
def idp (H : List Nat) (i : Nat) : List UInt8 := (H.flatMap be4).take (4 * i) ++ List.replicate (32 - 4 * i) 0
theorem idp_all (H : List Nat) (h : H.length = 8) : idp H 8 = H.flatMap be4 := by
  rw [idp, List.take_of_length_le (by rw [flat4_len, h]; exact Nat.le_refl _)]; simp
theorem take4 (H : List Nat) : ∀ i, i < H.length → (H.flatMap be4).take (4 * (i + 1)) = (H.flatMap be4).take (4 * i) ++ be4 (H.getD i 0) := by
  induction H with
  | nil => intro i h; simp at h
  | cons x H ih =>
    intro i h
    have h4 : (be4 x).length = 4 := rfl
    rcases i with _ | i
    · rw [List.flatMap_cons, List.take_append_of_le_length (by rw [h4]; omega), List.take_of_length_le (by rw [h4]; omega)]; simp
    · rw [List.flatMap_cons, show 4 * (i + 1 + 1) = (be4 x).length + 4 * (i + 1) by rw [h4]; omega, List.take_length_add_append, ih i (by simpa using h), show 4 * (i + 1) = (be4 x).length + 4 * i by rw [h4]; omega, List.take_length_add_append, List.append_assoc]
      simp
theorem Blk.set4 {w : World} {g : Nat} {t : TypeId} {H : List Nat} {i x : Nat} (h : Blk w g t (bts (idp H i)).toArray) (hH : H.length = 8) (hi : i < 8) (hx : H.getD i 0 = x) (v0 v1 v2 v3 : Value)
    (e0 : v0 = Bt (UInt8.ofNat (x / 16777216))) (e1 : v1 = Bt (UInt8.ofNat (x / 65536))) (e2 : v2 = Bt (UInt8.ofNat (x / 256))) (e3 : v3 = Bt (UInt8.ofNat x)) {j0 j1 j2 j3 : Nat} (k0 : j0 = 4 * i) (k1 : j1 = 4 * i + 1) (k2 : j2 = 4 * i + 2) (k3 : j3 = 4 * i + 3) :
    Blk ((((w.setCell ⟨g, j0, none⟩ v0).setCell ⟨g, j1, none⟩ v1).setCell ⟨g, j2, none⟩ v2).setCell ⟨g, j3, none⟩ v3) g t (bts (idp H (i + 1))).toArray ∧
    Only (fun b => b = g) w ((((w.setCell ⟨g, j0, none⟩ v0).setCell ⟨g, j1, none⟩ v1).setCell ⟨g, j2, none⟩ v2).setCell ⟨g, j3, none⟩ v3) := by
  subst k0 k1 k2 k3
  refine ⟨?_, ((((Only.refl (fun b => b = g) w).setCell (p := ⟨g, 4 * i, none⟩) (fun _ => rfl) v0).setCell (p := ⟨g, 4 * i + 1, none⟩) (fun _ => rfl) v1).setCell (p := ⟨g, 4 * i + 2, none⟩) (fun _ => rfl) v2).setCell (p := ⟨g, 4 * i + 3, none⟩) (fun _ => rfl) v3⟩
  have hb := (((h.set_ (4 * i) v0).set_ (4 * i + 1) v1).set_ (4 * i + 2) v2).set_ (4 * i + 3) v3
  simp only [List.setIfInBounds_toArray] at hb
  have hlen : ((H.flatMap be4).take (4 * i)).length = 4 * i := by rw [List.length_take, flat4_len, hH]; omega
  have hp : (bts ((H.flatMap be4).take (4 * i))).length = 4 * i := by rw [bts_length, hlen]
  have hr : List.replicate (32 - 4 * i) (0 : UInt8) = 0 :: 0 :: 0 :: 0 :: List.replicate (32 - 4 * (i + 1)) 0 := by rw [show 32 - 4 * i = (32 - 4 * (i + 1)) + 1 + 1 + 1 + 1 by omega]; rfl
  have hcells : ((((bts (idp H i)).set (4 * i) v0).set (4 * i + 1) v1).set (4 * i + 2) v2).set (4 * i + 3) v3 = bts (idp H (i + 1)) := by
    rw [idp, idp, hr, bts_append, take4 H i (by omega), hx, bts_append, bts_append]
    rw [List.set_append_right _ _ (by omega), hp, List.set_append_right _ _ (by omega), hp, List.set_append_right _ _ (by omega), hp, List.set_append_right _ _ (by omega), hp]
    rw [show 4 * i - 4 * i = 0 by omega, show 4 * i + 1 - 4 * i = 1 by omega, show 4 * i + 2 - 4 * i = 2 by omega, show 4 * i + 3 - 4 * i = 3 by omega, e0, e1, e2, e3]
    simp [bts, be4]
  rw [hcells] at hb
  exact hb
theorem zeros32_lit : zeros32.toArray = #[.int .u8 0, .int .u8 0, .int .u8 0, .int .u8 0, .int .u8 0, .int .u8 0, .int .u8 0, .int .u8 0, .int .u8 0, .int .u8 0, .int .u8 0, .int .u8 0, .int .u8 0, .int .u8 0, .int .u8 0, .int .u8 0, .int .u8 0, .int .u8 0, .int .u8 0, .int .u8 0, .int .u8 0, .int .u8 0, .int .u8 0, .int .u8 0, .int .u8 0, .int .u8 0, .int .u8 0, .int .u8 0, .int .u8 0, .int .u8 0, .int .u8 0, .int .u8 0] := rfl
theorem fin4 {w0 w : World} {g q : Nat} {H : List Nat} {i x : Nat} (h : Blk w g 25 (bts (idp H i)).toArray) (hb : Below w0.heap.size w0 w) (hq : Blk w q 25 zeros32.toArray) (hg : w0.heap.size ≤ g ∧ q < g)
    (hH : H.length = 8) (hi : i < 8) (hx : H.getD i 0 = x) {v0 v1 v2 v3 : Value}
    (e0 : v0 = Bt (UInt8.ofNat (x / 16777216))) (e1 : v1 = Bt (UInt8.ofNat (x / 65536))) (e2 : v2 = Bt (UInt8.ofNat (x / 256))) (e3 : v3 = Bt (UInt8.ofNat x)) {j0 j1 j2 j3 : Nat} (k0 : j0 = 4 * i) (k1 : j1 = 4 * i + 1) (k2 : j2 = 4 * i + 2) (k3 : j3 = 4 * i + 3) :
    Hid (Blk ((((w.setCell ⟨g, j0, none⟩ v0).setCell ⟨g, j1, none⟩ v1).setCell ⟨g, j2, none⟩ v2).setCell ⟨g, j3, none⟩ v3) g 25 (bts (idp H (i + 1))).toArray) ∧
    Hid (Below w0.heap.size w0 ((((w.setCell ⟨g, j0, none⟩ v0).setCell ⟨g, j1, none⟩ v1).setCell ⟨g, j2, none⟩ v2).setCell ⟨g, j3, none⟩ v3)) ∧
    Hid (Blk ((((w.setCell ⟨g, j0, none⟩ v0).setCell ⟨g, j1, none⟩ v1).setCell ⟨g, j2, none⟩ v2).setCell ⟨g, j3, none⟩ v3) q 25 zeros32.toArray) := by
  obtain ⟨m1, m2⟩ := h.set4 hH hi hx v0 v1 v2 v3 e0 e1 e2 e3 k0 k1 k2 k3
  exact ⟨m1, hb.trans (m2.below hb.size (fun b hb' e => by have := hg.1; omega)), hq.only m2 (by have := hg.2; omega)⟩
theorem bt_of (X : Nat) (z : Int) (h : z = ((X % 256 : Nat) : Int)) : Value.int .u8 z = Bt (UInt8.ofNat X) := by
  subst h
  rw [Bt, UInt8.toNat_ofNat']
set_option maxRecDepth 20000 in
set_option maxHeartbeats 4000000 in
theorem hsum_any (w : World) (L : Option Addr) (m k : Nat) (xs : List Value) (ps : List (List UInt8)) (ok ok' : Nat → Prop)
    (hL : Sl w ok 1 L m xs) (hps : Each1 (fun p u => IsB w ok' u p) ps xs) (hm : m ≤ 1000) (hp : ∀ p ∈ ps, p.length ≤ 1000000000) :
    Calls Try.prog 11 #[.slice L m k] w fun e w' => e = .returned (idV (sha ps.flatten)) ∧ Below w.heap.size w w' := by
  have HP := Lib.hid hp
  have HMM := Lib.hid hm
  have hmp : m = ps.length := by have := hL.len; have := hps.1; omega
  have HM := Lib.hid hmp
  have HL := Lib.hid hL
  have HPS := Lib.hid hps
  clear hp hmp hL hps
  go_enter Try.func11, Try.ntmps11
  go_wp2_with fail
  generalize hW : World.alloc w _ = W
  have K0 : Acc w W w.heap.size none 0 [] := by
    rw [← hW]
    exact ⟨World.ownsRow_nil _ _ _ _, Blk.new _ _ _, (Below.refl _ _).alloc (Nat.le_refl _) _, Nat.le_refl _⟩
  clear hW
  have hsz0 : w.heap.size < W.heap.size := K0.blk.lt
  generalize hq : w.heap.size = q at K0 hsz0 ⊢
  have HQ := Lib.hid hq
  have HK := Lib.hid K0
  clear K0 hq hsz0
  go_loopg [3, 15] m (fun n v3 v15 wr => ∃ (j : Nat) (A : Option Addr) (c : Nat) (cur : List UInt8), j + n = m ∧ v15 = .int .i64 j ∧ v3 = .slice A cur.length c ∧ Hid (cur = (ps.take j).flatten) ∧ Hid (cur.length ≤ 1000000000 * j) ∧ Hid (Acc w wr q A c cur))
  case atStart => exact ⟨0, none, 0, [], by omega, rfl, rfl, by simp [Hid], by simp [Hid], HK⟩
  case round =>
    clear HK
    obtain ⟨j, A, c, cur, hj, rfl, rfl, HC, HCL, HK⟩ := hrel
    by_cases hlt : j < m
    · have hL' := HL.out.below HK.out.below (fun _ h _ => h) (by omega)
      obtain ⟨b, o, u, rfl, hb, hu, hc⟩ := hL'.at1 hlt
      obtain ⟨p, hp, hpu⟩ := HPS.out.at_ hu
      have hpu' := hpu.below HK.out.below (fun _ h _ => h)
      obtain ⟨A1, n1, c1, rfl, hn1, hnc1, hs1⟩ := hpu'
      have hplen : n1 ≤ 1000000000 := by rw [hn1]; exact HP.out p (List.mem_of_getElem? hp)
      have hcl : cur.length ≤ 1000000000000 := by have := HCL.out; have := HMM.out; omega
      have HU := Lib.hid hu
      have HPJ := Lib.hid hp
      have HN := Lib.hid hn1
      clear hu hp hn1 hL' hpu
      go_wp2_with (at_builtin; refine wpList_app _ rfl (.tmp 19) (.tmp 20) 30 rfl (q + 1) 5 _ 1 1 Try.underlying30 infoU8 rfl (by decide) A cur.length c rfl A1 n1 c1 rfl (bts cur) HK.out.own ok' _ hs1 ?hone (by unfold maxLen; omega) (by omega) ?hbase ?next)
      case hone => exact bts_one _
      case hbase => have := HK.out.blk.lt; omega
      case next =>
        intro A' c' w1 hown1 ho1 hat1
        have hk1 := Lib.hid (HK.out.app p HN.out hown1 ho1)
        clear hown1 ho1 hat1 hs1
        go_wp2
        go_roundg (m - 1 - j)
        case measure => omega
        case rel =>
          refine ⟨j + 1, A', c', cur ++ p, by omega, rfl, by rw [List.length_append, ← HN.out], ?_, ?_, hk1.out⟩
          · rw [Hid, HC.out, List.take_add_one, HPJ.out]; simp
          · rw [Hid, List.length_append]; have := HCL.out; have := HN.out; omega
    · obtain rfl : j = m := by omega
      have hcur : cur = ps.flatten := by
        have := HC.out
        rw [List.take_of_length_le (by have := HM.out; omega)] at this
        exact this
      have hcl : cur.length ≤ 1000000000000 := by have := HCL.out; have := HMM.out; omega
      have HFL := Lib.hid hcur
      clear hcur HC HCL HPS HP hlt hj
      go_wp2_with (at_builtin; refine wpList_app _ rfl (.tmp 25) (.tmp 26) 30 rfl (q + 1) 5 _ 1 1 Try.underlying30 infoU8 rfl (by decide) A cur.length c rfl _ 1 1 rfl (bts cur) (HK.out.own.alloc _) (fun b => b = wr.heap.size) _ (Sl.one_new _ _ _) ?hone (by unfold maxLen; omega) (by omega) ?hbase ?next)
      case hone => intro u hu; simp at hu; subst hu; rfl
      case hbase => simp; have := HK.out.blk.lt; omega
      case next =>
        intro A' c' w1 hown1 ho1 hat1
        have hk1 := (HK.out.alloc _).app [128] rfl hown1 ho1
        obtain ⟨nn, hnn⟩ : ∃ nn, cur.length = nn := ⟨_, rfl⟩
        obtain ⟨l1, hl1⟩ : ∃ l1, cur ++ [128] = l1 := ⟨_, rfl⟩
        have hll : l1.length = nn + 1 := by rw [← hl1, List.length_append, hnn]; rfl
        rw [hl1] at hk1
        have hsl : Value.slice A' (cur.length + 1) c' = .slice A' l1.length c' := by rw [hll, hnn]
        rw [hnn] at hcl
        rw [hsl, hnn]
        have HK1 := Lib.hid hk1
        have HNN := Lib.hid hnn
        have HL1 := Lib.hid hl1
        have HLL := Lib.hid hll
        clear hown1 ho1 hat1 hk1 hnn hl1 hll hsl
        go_wp2_with fail
        go_loopg [3] (padZ nn) (fun n v3 wr => ∃ (i : Nat) (A : Option Addr) (c cl : Nat) (cu : List UInt8), i + n = padZ nn ∧ cu.length = cl ∧ cl = nn + 1 + i ∧ v3 = .slice A cl c ∧ Hid (cu = l1 ++ List.replicate i 0) ∧ Hid (Acc w wr q A c cu))
        case atStart => exact ⟨0, A', c', l1.length, l1, by omega, rfl, by have := HLL.out; omega, rfl, by simp [Hid], HK1⟩
        case round =>
          clear HK1 HK
          obtain ⟨i, A, c, cl, cu, hi, hcl2, hcl3, rfl, HC, HK⟩ := hrel
          have HI := Lib.hid hi
          have HCL2 := Lib.hid hcl2
          have HCL3 := Lib.hid hcl3
          by_cases hlt : i < padZ nn
          · have hz : cl % 64 ≠ 56 := by unfold padZ at hlt hi; omega
            have hcb : cl ≤ 2000000000000 := by unfold padZ at hlt; omega
            clear hi hcl2 hcl3
            have t1 : ((cl : Int) % 64 != 56) = true := by simp; omega
            have t2 : (((cl % 64 : Nat) : Int) != 56) = true := by simp; omega
            have t3 : (cl % 64 == 56) = false := by simp; omega
            go_wp2_with (at_builtin; refine wpList_app _ rfl (.tmp 32) (.tmp 33) 30 rfl (q + 1) 5 _ 1 1 Try.underlying30 infoU8 rfl (by decide) A cl c rfl _ 1 1 rfl (bts cu) (HCL2.out ▸ HK.out.own.alloc _) (fun b => b = wr.heap.size) _ (Sl.one_new _ _ _) ?hone (by unfold maxLen; omega) (by omega) ?hbase ?next)
            case hone => intro u hu; simp at hu; subst hu; rfl
            case hbase => simp; have := HK.out.blk.lt; omega
            case next =>
              intro A2 c2 w2 hown2 ho2 hat2
              have hcl4 := HCL2.out
              subst hcl4
              have hk2 := Lib.hid ((HK.out.alloc _).app [0] rfl hown2 ho2)
              clear hown2 ho2 hat2
              go_wp2
              go_roundg (padZ nn - 1 - i)
              case measure => have := HI.out; omega
              case rel => exact ⟨i + 1, A2, c2, _, cu ++ [0], by omega, rfl, by rw [List.length_append, HCL3.out]; rfl, by rw [List.length_append]; rfl, by rw [Hid, HC.out, List.append_assoc, ← List.replicate_succ'], hk2.out⟩
          · obtain rfl : i = padZ nn := by omega
            have hz : cl % 64 = 56 := by unfold padZ at hcl3; omega
            have hcb : cl ≤ 2000000000000 := by unfold padZ at hcl3; omega
            clear hi hcl2 hcl3 hlt
            have t1 : ((cl : Int) % 64 != 56) = false := by simp; omega
            have t2 : (((cl % 64 : Nat) : Int) != 56) = false := by simp; omega
            have t3 : (cl % 64 == 56) = true := by simp; omega
            go_wp2_with fail
            clear t1 t2 t3
            go_loopg [3, 7] 8 (fun n v3 v7 wr => ∃ (i : Nat) (A : Option Addr) (c cl2 : Nat) (cur2 : List UInt8) (z : Int), i + n = 8 ∧ cur2.length = cl2 ∧ cl2 = cl + i ∧ v3 = .slice A cl2 c ∧ v7 = .int .i64 z ∧ z = 56 - 8 * (i : Int) ∧ Hid (cur2 = cu ++ (be8 nn).take i) ∧ Hid (Acc w wr q A c cur2))
            case atStart => exact ⟨0, A, c, cl, cu, 56, by omega, HCL2.out, by omega, rfl, rfl, by omega, by simp [Hid], HK⟩
            case round =>
              clear HK
              obtain ⟨i, A, c, cl2, cur2, z, hi, hcl2, hcl3, rfl, rfl, hz2, HC2, HK⟩ := hrel
              have HCL4 := Lib.hid hcl2
              have hcb2 : cl2 ≤ 2000000000100 := by omega
              have HCL5 := Lib.hid hcl3
              have HI2 := Lib.hid hi
              have HZ2 := Lib.hid hz2
              have hi9 : i = 0 ∨ i = 1 ∨ i = 2 ∨ i = 3 ∨ i = 4 ∨ i = 5 ∨ i = 6 ∨ i = 7 ∨ 8 ≤ i := by omega
              by_cases h8 : 8 ≤ i
              · obtain rfl : i = 8 := by omega
                obtain rfl : z = -8 := by omega
                have HPD := Lib.hid (show cur2 = padded cur by rw [HC2.out, HC.out, ← HL1.out, padded, HNN.out]; rfl)
                have hst := (IsB.of_own (HCL4.out ▸ HK.out.own.alloc (.cells (us hash0).toArray 92))).str (P := Try.prog) (src := 30) (dst := 9) Try.underlying30 Try.underlying5 Try.underlying9
                rw [show (us hash0).toArray = #[.int .u32 1779033703, .int .u32 3144134277, .int .u32 1013904242, .int .u32 2773480762, .int .u32 1359893119, .int .u32 2600822924, .int .u32 528734635, .int .u32 1541459225] from rfl] at hst
                have hb8 := Blk.new wr 92 (us hash0).toArray
                have hbl := HK.out.below.alloc HK.out.below.size (.cells (us hash0).toArray 92)
                have hq8 : w.heap.size ≤ wr.heap.size ∧ q < wr.heap.size := ⟨HK.out.below.size, HK.out.blk.lt⟩
                have hbq := HK.out.blk.alloc (.cells (us hash0).toArray 92)
                clear hi9 h8 hi hz2 hcl2 hcl3 HK
                go_wp2_with fail
                generalize hW8 : World.alloc wr _ = W8
                have hb8' : Blk W8 wr.heap.size 92 (us hash0).toArray := hW8 ▸ hb8
                have hbl' : Below w.heap.size w W8 := hW8 ▸ hbl
                have hbq' : Blk W8 q 25 zeros32.toArray := hW8 ▸ hbq
                clear hW8 hst hb8 hbl hbq
                generalize wr.heap.size = p8 at hb8' hq8 ⊢
                obtain ⟨N, hN⟩ : ∃ N, cur2.length = 64 * N := ⟨cur2.length / 64, by rw [HPD.out]; have := padded_mod cur; omega⟩
                have HB8 := Lib.hid hb8'
                have HBL := Lib.hid hbl'
                have HBQ := Lib.hid hbq'
                have HN := Lib.hid hN
                have HLL2 := Lib.hid (show cur2.length ≤ 2000000000100 by have := HCL4.out; omega)
                have HQ8 := Lib.hid hq8
                clear hb8' hbl' hbq' hN hq8 hcb hcb2 hz hcl
                go_loopg [9] N (fun n v9 wr => ∃ (i : Nat) (l : List UInt8), i + n = N ∧ v9 = .string (bstr l) ∧ Hid (l = cur2.drop (64 * i)) ∧ Hid (Blk wr p8 92 (us (shaN cur2 i)).toArray) ∧ Hid (Below w.heap.size w wr) ∧ Hid (Blk wr q 25 zeros32.toArray))
                case atStart => exact ⟨0, cur2, by omega, rfl, by simp [Hid], HB8, HBL, HBQ⟩
                case round =>
                  clear HB8 HBL HBQ
                  obtain ⟨i, l, hi, rfl, HL2, HB8, HBL, HBQ⟩ := hrel
                  by_cases hlt : i < N
                  · have h64 : 64 ≤ l.length := by rw [HL2.out, List.length_drop, HN.out]; omega
                    have hlm : l.length ≤ 2000000000100 := by rw [HL2.out, List.length_drop]; have := HLL2.out; omega
                    have hsz := bstr_size l
                    have hne : ¬ l = [] := by intro e; rw [e] at h64; simp at h64
                    have hne2 : (l == []) = false := by simpa using hne
                    have hne3 : l.isEmpty = false := by cases l with | nil => exact absurd rfl hne | cons => rfl
                    have hne4 : (bstr l != ⟨#[]⟩) = true := str_ne_empty l hne
                    have hne5 : (bstr l == ⟨#[]⟩) = false := by simpa [bne] using hne4
                    have e1 := hstr_take l 64
                    have e2 := hstr_drop l 64
                    obtain ⟨va, vb, vc, vd, ve, vf, vg, vh, hv⟩ := len8 (shaN cur2 i) (shaN_len _ _)
                    have BA := Lib.hid (fun w' => block_any (shaN cur2 i) (l.take 64) (shaN_len _ _) (shaN_lt _ _) (by rw [List.length_take]; omega) w')
                    have hsn : shaN cur2 (i + 1) = blk (shaN cur2 i) (l.take 64) := by rw [shaN, HL2.out]
                    obtain ⟨na, nb, nc, nd, ne, nf, ng, nh, hnv⟩ := len8 (blk (shaN cur2 i) (l.take 64)) (blk_len _ _)
                    rw [hnv] at hsn BA
                    rw [hv] at BA HB8
                    have HV := Lib.hid hv
                    have HNV := Lib.hid hnv
                    have HSN := Lib.hid hsn
                    clear hv hnv hsn
                    have hb := HB8.out.drew
                    have p0 := hb.cell 0
                    have p1 := hb.cell 1
                    have p2 := hb.cell 2
                    have p3 := hb.cell 3
                    have p4 := hb.cell 4
                    have p5 := hb.cell 5
                    have p6 := hb.cell 6
                    have p7 := hb.cell 7
                    simp only [us, List.map_cons, List.map_nil, List.getElem?_toArray, List.getElem?_cons_zero, List.getElem?_cons_succ] at p0 p1 p2 p3 p4 p5 p6 p7
                    simp only [us, List.map_cons, List.map_nil] at BA
                    clear hb
                    have HI3 := Lib.hid hi
                    have HNE := Lib.hid hne
                    clear hi
                    go_wp2
                    go_region_with (first
                      | (go_at_call 28; refine (BA.out _).mono ?_; rintro e5 w5 ⟨rfl, a5⟩; have hb5 := (HB8.out.drew).below a5 HB8.out.lt; have q0 := hb5.cell 0; have q1 := hb5.cell 1; have q2 := hb5.cell 2; have q3 := hb5.cell 3; have q4 := hb5.cell 4; have q5 := hb5.cell 5; have q6 := hb5.cell 6; have q7 := hb5.cell 7; have f0 := hb5.frozen 0; have f1 := hb5.frozen 1; have f2 := hb5.frozen 2; have f3 := hb5.frozen 3; have f4 := hb5.frozen 4; have f5 := hb5.frozen 5; have f6 := hb5.frozen 6; have f7 := hb5.frozen 7; simp only [us, List.map_cons, List.map_nil, List.getElem?_toArray, List.getElem?_cons_zero, List.getElem?_cons_succ] at q0 q1 q2 q3 q4 q5 q6 q7; have HB5 := Lib.hid hb5; have A5 := Lib.hid a5; clear a5 hb5; dsimp only))
                    all_goals
                      obtain ⟨k1, k2⟩ := Blk.set8 HB5.out (.int .u32 (na : Int)) (.int .u32 (nb : Int)) (.int .u32 (nc : Int)) (.int .u32 (nd : Int)) (.int .u32 (ne : Int)) (.int .u32 (nf : Int)) (.int .u32 (ng : Int)) (.int .u32 (nh : Int))
                      have hbl6 := (((HBL.out.drew).trans (A5.out.mono HBL.out.size)).trans (k2.below ((HBL.out.drew).trans (A5.out.mono HBL.out.size)).size (fun b hb e => by have := HQ8.out.1; omega)))
                      have KB := Lib.hid k1
                      have HBQ6 := Lib.hid ((HBQ.out.drew.below A5.out HBQ.out.drew.lt).only k2 (by have := HQ8.out.2; omega))
                      have HBL6 := Lib.hid hbl6
                      clear k1 k2 hbl6 p0 p1 p2 p3 p4 p5 p6 p7
                      clear q0 q1 q2 q3 q4 q5 q6 q7 f0 f1 f2 f3 f4 f5 f6 f7
                      go_wp2_with fail
                      go_roundg (N - 1 - i)
                      case measure => have := HI3.out; omega
                      case rel => exact ⟨i + 1, l.drop 64, by have := HI3.out; omega, rfl, by rw [Hid, HL2.out, List.drop_drop]; congr 1, by rw [HSN.out]; exact KB.out, HBL6.out, HBQ6.out⟩
                  · obtain rfl : i = N := by omega
                    obtain rfl : l = [] := by rw [HL2.out, List.drop_of_length_le (by rw [HN.out]; omega)]
                    have hemp : (bstr ([] : List UInt8) != ⟨#[]⟩) = false := by decide
                    obtain ⟨va, vb, vc, vd, ve, vf, vg, vh, hv⟩ := len8 (shaN cur2 i) (shaN_len _ _)
                    rw [hv] at HB8
                    have HV := Lib.hid hv
                    clear hv hlt hi
                    have p0 := (HB8.out.alloc (.cells zeros32.toArray 25)).cell 0
                    have p1 := (HB8.out.alloc (.cells zeros32.toArray 25)).cell 1
                    have p2 := (HB8.out.alloc (.cells zeros32.toArray 25)).cell 2
                    have p3 := (HB8.out.alloc (.cells zeros32.toArray 25)).cell 3
                    have p4 := (HB8.out.alloc (.cells zeros32.toArray 25)).cell 4
                    have p5 := (HB8.out.alloc (.cells zeros32.toArray 25)).cell 5
                    have p6 := (HB8.out.alloc (.cells zeros32.toArray 25)).cell 6
                    have p7 := (HB8.out.alloc (.cells zeros32.toArray 25)).cell 7
                    simp only [us, List.map_cons, List.map_nil, List.getElem?_toArray, List.getElem?_cons_zero, List.getElem?_cons_succ] at p0 p1 p2 p3 p4 p5 p6 p7
                    rw [zeros32_lit] at p0 p1 p2 p3 p4 p5 p6 p7
                    go_wp2_with fail
                    generalize hW9 : World.alloc wr _ = W9
                    have hb10 : Blk W9 wr.heap.size 25 (bts (idp [va, vb, vc, vd, ve, vf, vg, vh] 0)).toArray := by rw [← hW9]; exact Blk.new wr 25 zeros32.toArray
                    have hbl2 : Below w.heap.size w W9 := by rw [← hW9]; exact HBL.out.alloc HBL.out.size _
                    have hq10 : w.heap.size ≤ wr.heap.size ∧ q < wr.heap.size := ⟨HBL.out.size, HBQ.out.lt⟩
                    have hbq2 : Blk W9 q 25 zeros32.toArray := by rw [← hW9]; exact HBQ.out.alloc _
                    clear hW9 p0 p1 p2 p3 p4 p5 p6 p7 HB8 hemp
                    generalize wr.heap.size = p10 at hb10 hq10 ⊢
                    have HB10 := Lib.hid hb10
                    have HBL2 := Lib.hid hbl2
                    have HQ10 := Lib.hid hq10
                    have HBQ2 := Lib.hid hbq2
                    clear hb10 hbl2 hq10 hbq2 HBQ
                    go_loopg [60] 8 (fun n v60 wr => ∃ (i : Nat), i + n = 8 ∧ v60 = .int .i64 i ∧ Hid (Blk wr p10 25 (bts (idp [va, vb, vc, vd, ve, vf, vg, vh] i)).toArray) ∧ Hid (Below w.heap.size w wr) ∧ Hid (Blk wr q 25 zeros32.toArray))
                    case atStart => exact ⟨0, by omega, rfl, HB10, HBL2, HBQ2⟩
                    case round =>
                      clear HB10 HBL2 HBQ2
                      obtain ⟨i2, hi, rfl, HBI, HBL2, HBQ2⟩ := hrel
                      have HI4 := Lib.hid hi
                      have hi9 : i2 = 0 ∨ i2 = 1 ∨ i2 = 2 ∨ i2 = 3 ∨ i2 = 4 ∨ i2 = 5 ∨ i2 = 6 ∨ i2 = 7 ∨ 8 ≤ i2 := by omega
                      by_cases h8 : 8 ≤ i2
                      · obtain rfl : i2 = 8 := by omega
                        clear hi9 h8 hi
                        have hall : idp [va, vb, vc, vd, ve, vf, vg, vh] 8 = sha ps.flatten := by
                          rw [idp_all _ rfl, ← HV.out, sha, ← HFL.out, ← HPD.out, show cur2.length / 64 = i by have := HN.out; omega]
                        rw [hall] at HBI
                        clear hall
                        have r2 := HBI.out.rowAll
                        go_wp2_with (first
                          | (with_reducible refine wpList_ld rfl 25 (.tmp 10) rfl p10 0 rfl (bts (sha ps.flatten)) r2 _ Try.underlying25 rfl 32 infoID (by rw [bts_length, sha_len]) ?_)
                          | (with_reducible refine wpList_stb rfl 25 (.tmp 2) (.tmp 91) rfl q 0 _ rfl rfl 25 zeros32 HBQ2.out ?h1 ?h2 ?h3 ?_))
                        case h1 => simp [zeros32, sha_len]
                        case h2 => rw [infoID]; simp [sha_len]
                        case h3 => exact bts_one _
                        intro w3 b2 o3
                        rw [over_all _ _ (by simp [zeros32, sha_len])] at b2
                        have HB := Lib.hid b2
                        have O3 := Lib.hid o3
                        clear b2 o3
                        go_wp2
                        refine bodyPost_ret (results_cell_row rfl _ _ q 25 (bts (sha ps.flatten)).toArray (0, 0) _ rfl HB.out Try.underlying25 rfl (by rw [infoID]; simp [sha_len])) rfl ?_
                        exact ⟨rfl, HBL2.out.trans (O3.out.below HBL2.out.size (fun b hb e => by have := HQ.out; omega))⟩
                      · clear hi
                        rcases hi9 with rfl | rfl | rfl | rfl | rfl | rfl | rfl | rfl | h9
                        · have ix : ∀ w : World, (Instr.index 92 (.agg #[.int .u32 (va : Int), .int .u32 (vb : Int), .int .u32 (vc : Int), .int .u32 (vd : Int), .int .u32 (ve : Int), .int .u32 (vf : Int), .int .u32 (vg : Int), .int .u32 (vh : Int)]) (.int .i64 0)).run Try.prog w = .ok (.int .u32 (va : Int)) w := fun _ => by kernel_rfl
                          have c0 := HBI.out.cell 0
                          have c1 := HBI.out.cell 1
                          have c2 := HBI.out.cell 2
                          have c3 := HBI.out.cell 3
                          rw [show (bts (idp [va, vb, vc, vd, ve, vf, vg, vh] 0)).toArray[0]? = some (.int .u8 0) from rfl] at c0
                          rw [show (bts (idp [va, vb, vc, vd, ve, vf, vg, vh] 0)).toArray[1]? = some (.int .u8 0) from rfl] at c1
                          rw [show (bts (idp [va, vb, vc, vd, ve, vf, vg, vh] 0)).toArray[2]? = some (.int .u8 0) from rfl] at c2
                          rw [show (bts (idp [va, vb, vc, vd, ve, vf, vg, vh] 0)).toArray[3]? = some (.int .u8 0) from rfl] at c3
                          have f0 := HBI.out.frozen 0
                          have f1 := HBI.out.frozen 1
                          have f2 := HBI.out.frozen 2
                          have f3 := HBI.out.frozen 3
                          clear h8
                          go_wp2_with fail
                          go_roundg 7
                          case measure => have := HI4.out; omega
                          case rel =>
                            exact ⟨1, by have := HI4.out; omega, rfl, fin4 (H := [va, vb, vc, vd, ve, vf, vg, vh]) (x := va) HBI.out HBL2.out HBQ2.out HQ10.out rfl (by decide) rfl (bt_of _ _ (by omega)) (bt_of _ _ (by omega)) (bt_of _ _ (by omega)) (bt_of _ _ (by omega)) rfl rfl rfl rfl⟩
                        · have ix : ∀ w : World, (Instr.index 92 (.agg #[.int .u32 (va : Int), .int .u32 (vb : Int), .int .u32 (vc : Int), .int .u32 (vd : Int), .int .u32 (ve : Int), .int .u32 (vf : Int), .int .u32 (vg : Int), .int .u32 (vh : Int)]) (.int .i64 1)).run Try.prog w = .ok (.int .u32 (vb : Int)) w := fun _ => by kernel_rfl
                          have c0 := HBI.out.cell 4
                          have c1 := HBI.out.cell 5
                          have c2 := HBI.out.cell 6
                          have c3 := HBI.out.cell 7
                          rw [show (bts (idp [va, vb, vc, vd, ve, vf, vg, vh] 1)).toArray[4]? = some (.int .u8 0) from rfl] at c0
                          rw [show (bts (idp [va, vb, vc, vd, ve, vf, vg, vh] 1)).toArray[5]? = some (.int .u8 0) from rfl] at c1
                          rw [show (bts (idp [va, vb, vc, vd, ve, vf, vg, vh] 1)).toArray[6]? = some (.int .u8 0) from rfl] at c2
                          rw [show (bts (idp [va, vb, vc, vd, ve, vf, vg, vh] 1)).toArray[7]? = some (.int .u8 0) from rfl] at c3
                          have f0 := HBI.out.frozen 4
                          have f1 := HBI.out.frozen 5
                          have f2 := HBI.out.frozen 6
                          have f3 := HBI.out.frozen 7
                          clear h8
                          go_wp2_with fail
                          go_roundg 6
                          case measure => have := HI4.out; omega
                          case rel =>
                            exact ⟨2, by have := HI4.out; omega, rfl, fin4 (H := [va, vb, vc, vd, ve, vf, vg, vh]) (x := vb) HBI.out HBL2.out HBQ2.out HQ10.out rfl (by decide) rfl (bt_of _ _ (by omega)) (bt_of _ _ (by omega)) (bt_of _ _ (by omega)) (bt_of _ _ (by omega)) rfl rfl rfl rfl⟩
                        · have ix : ∀ w : World, (Instr.index 92 (.agg #[.int .u32 (va : Int), .int .u32 (vb : Int), .int .u32 (vc : Int), .int .u32 (vd : Int), .int .u32 (ve : Int), .int .u32 (vf : Int), .int .u32 (vg : Int), .int .u32 (vh : Int)]) (.int .i64 2)).run Try.prog w = .ok (.int .u32 (vc : Int)) w := fun _ => by kernel_rfl
                          have c0 := HBI.out.cell 8
                          have c1 := HBI.out.cell 9
                          have c2 := HBI.out.cell 10
                          have c3 := HBI.out.cell 11
                          rw [show (bts (idp [va, vb, vc, vd, ve, vf, vg, vh] 2)).toArray[8]? = some (.int .u8 0) from rfl] at c0
                          rw [show (bts (idp [va, vb, vc, vd, ve, vf, vg, vh] 2)).toArray[9]? = some (.int .u8 0) from rfl] at c1
                          rw [show (bts (idp [va, vb, vc, vd, ve, vf, vg, vh] 2)).toArray[10]? = some (.int .u8 0) from rfl] at c2
                          rw [show (bts (idp [va, vb, vc, vd, ve, vf, vg, vh] 2)).toArray[11]? = some (.int .u8 0) from rfl] at c3
                          have f0 := HBI.out.frozen 8
                          have f1 := HBI.out.frozen 9
                          have f2 := HBI.out.frozen 10
                          have f3 := HBI.out.frozen 11
                          clear h8
                          go_wp2_with fail
                          go_roundg 5
                          case measure => have := HI4.out; omega
                          case rel =>
                            exact ⟨3, by have := HI4.out; omega, rfl, fin4 (H := [va, vb, vc, vd, ve, vf, vg, vh]) (x := vc) HBI.out HBL2.out HBQ2.out HQ10.out rfl (by decide) rfl (bt_of _ _ (by omega)) (bt_of _ _ (by omega)) (bt_of _ _ (by omega)) (bt_of _ _ (by omega)) rfl rfl rfl rfl⟩
                        · have ix : ∀ w : World, (Instr.index 92 (.agg #[.int .u32 (va : Int), .int .u32 (vb : Int), .int .u32 (vc : Int), .int .u32 (vd : Int), .int .u32 (ve : Int), .int .u32 (vf : Int), .int .u32 (vg : Int), .int .u32 (vh : Int)]) (.int .i64 3)).run Try.prog w = .ok (.int .u32 (vd : Int)) w := fun _ => by kernel_rfl
                          have c0 := HBI.out.cell 12
                          have c1 := HBI.out.cell 13
                          have c2 := HBI.out.cell 14
                          have c3 := HBI.out.cell 15
                          rw [show (bts (idp [va, vb, vc, vd, ve, vf, vg, vh] 3)).toArray[12]? = some (.int .u8 0) from rfl] at c0
                          rw [show (bts (idp [va, vb, vc, vd, ve, vf, vg, vh] 3)).toArray[13]? = some (.int .u8 0) from rfl] at c1
                          rw [show (bts (idp [va, vb, vc, vd, ve, vf, vg, vh] 3)).toArray[14]? = some (.int .u8 0) from rfl] at c2
                          rw [show (bts (idp [va, vb, vc, vd, ve, vf, vg, vh] 3)).toArray[15]? = some (.int .u8 0) from rfl] at c3
                          have f0 := HBI.out.frozen 12
                          have f1 := HBI.out.frozen 13
                          have f2 := HBI.out.frozen 14
                          have f3 := HBI.out.frozen 15
                          clear h8
                          go_wp2_with fail
                          go_roundg 4
                          case measure => have := HI4.out; omega
                          case rel =>
                            exact ⟨4, by have := HI4.out; omega, rfl, fin4 (H := [va, vb, vc, vd, ve, vf, vg, vh]) (x := vd) HBI.out HBL2.out HBQ2.out HQ10.out rfl (by decide) rfl (bt_of _ _ (by omega)) (bt_of _ _ (by omega)) (bt_of _ _ (by omega)) (bt_of _ _ (by omega)) rfl rfl rfl rfl⟩
                        · have ix : ∀ w : World, (Instr.index 92 (.agg #[.int .u32 (va : Int), .int .u32 (vb : Int), .int .u32 (vc : Int), .int .u32 (vd : Int), .int .u32 (ve : Int), .int .u32 (vf : Int), .int .u32 (vg : Int), .int .u32 (vh : Int)]) (.int .i64 4)).run Try.prog w = .ok (.int .u32 (ve : Int)) w := fun _ => by kernel_rfl
                          have c0 := HBI.out.cell 16
                          have c1 := HBI.out.cell 17
                          have c2 := HBI.out.cell 18
                          have c3 := HBI.out.cell 19
                          rw [show (bts (idp [va, vb, vc, vd, ve, vf, vg, vh] 4)).toArray[16]? = some (.int .u8 0) from rfl] at c0
                          rw [show (bts (idp [va, vb, vc, vd, ve, vf, vg, vh] 4)).toArray[17]? = some (.int .u8 0) from rfl] at c1
                          rw [show (bts (idp [va, vb, vc, vd, ve, vf, vg, vh] 4)).toArray[18]? = some (.int .u8 0) from rfl] at c2
                          rw [show (bts (idp [va, vb, vc, vd, ve, vf, vg, vh] 4)).toArray[19]? = some (.int .u8 0) from rfl] at c3
                          have f0 := HBI.out.frozen 16
                          have f1 := HBI.out.frozen 17
                          have f2 := HBI.out.frozen 18
                          have f3 := HBI.out.frozen 19
                          clear h8
                          go_wp2_with fail
                          go_roundg 3
                          case measure => have := HI4.out; omega
                          case rel =>
                            exact ⟨5, by have := HI4.out; omega, rfl, fin4 (H := [va, vb, vc, vd, ve, vf, vg, vh]) (x := ve) HBI.out HBL2.out HBQ2.out HQ10.out rfl (by decide) rfl (bt_of _ _ (by omega)) (bt_of _ _ (by omega)) (bt_of _ _ (by omega)) (bt_of _ _ (by omega)) rfl rfl rfl rfl⟩
                        · have ix : ∀ w : World, (Instr.index 92 (.agg #[.int .u32 (va : Int), .int .u32 (vb : Int), .int .u32 (vc : Int), .int .u32 (vd : Int), .int .u32 (ve : Int), .int .u32 (vf : Int), .int .u32 (vg : Int), .int .u32 (vh : Int)]) (.int .i64 5)).run Try.prog w = .ok (.int .u32 (vf : Int)) w := fun _ => by kernel_rfl
                          have c0 := HBI.out.cell 20
                          have c1 := HBI.out.cell 21
                          have c2 := HBI.out.cell 22
                          have c3 := HBI.out.cell 23
                          rw [show (bts (idp [va, vb, vc, vd, ve, vf, vg, vh] 5)).toArray[20]? = some (.int .u8 0) from rfl] at c0
                          rw [show (bts (idp [va, vb, vc, vd, ve, vf, vg, vh] 5)).toArray[21]? = some (.int .u8 0) from rfl] at c1
                          rw [show (bts (idp [va, vb, vc, vd, ve, vf, vg, vh] 5)).toArray[22]? = some (.int .u8 0) from rfl] at c2
                          rw [show (bts (idp [va, vb, vc, vd, ve, vf, vg, vh] 5)).toArray[23]? = some (.int .u8 0) from rfl] at c3
                          have f0 := HBI.out.frozen 20
                          have f1 := HBI.out.frozen 21
                          have f2 := HBI.out.frozen 22
                          have f3 := HBI.out.frozen 23
                          clear h8
                          go_wp2_with fail
                          go_roundg 2
                          case measure => have := HI4.out; omega
                          case rel =>
                            exact ⟨6, by have := HI4.out; omega, rfl, fin4 (H := [va, vb, vc, vd, ve, vf, vg, vh]) (x := vf) HBI.out HBL2.out HBQ2.out HQ10.out rfl (by decide) rfl (bt_of _ _ (by omega)) (bt_of _ _ (by omega)) (bt_of _ _ (by omega)) (bt_of _ _ (by omega)) rfl rfl rfl rfl⟩
                        · have ix : ∀ w : World, (Instr.index 92 (.agg #[.int .u32 (va : Int), .int .u32 (vb : Int), .int .u32 (vc : Int), .int .u32 (vd : Int), .int .u32 (ve : Int), .int .u32 (vf : Int), .int .u32 (vg : Int), .int .u32 (vh : Int)]) (.int .i64 6)).run Try.prog w = .ok (.int .u32 (vg : Int)) w := fun _ => by kernel_rfl
                          have c0 := HBI.out.cell 24
                          have c1 := HBI.out.cell 25
                          have c2 := HBI.out.cell 26
                          have c3 := HBI.out.cell 27
                          rw [show (bts (idp [va, vb, vc, vd, ve, vf, vg, vh] 6)).toArray[24]? = some (.int .u8 0) from rfl] at c0
                          rw [show (bts (idp [va, vb, vc, vd, ve, vf, vg, vh] 6)).toArray[25]? = some (.int .u8 0) from rfl] at c1
                          rw [show (bts (idp [va, vb, vc, vd, ve, vf, vg, vh] 6)).toArray[26]? = some (.int .u8 0) from rfl] at c2
                          rw [show (bts (idp [va, vb, vc, vd, ve, vf, vg, vh] 6)).toArray[27]? = some (.int .u8 0) from rfl] at c3
                          have f0 := HBI.out.frozen 24
                          have f1 := HBI.out.frozen 25
                          have f2 := HBI.out.frozen 26
                          have f3 := HBI.out.frozen 27
                          clear h8
                          go_wp2_with fail
                          go_roundg 1
                          case measure => have := HI4.out; omega
                          case rel =>
                            exact ⟨7, by have := HI4.out; omega, rfl, fin4 (H := [va, vb, vc, vd, ve, vf, vg, vh]) (x := vg) HBI.out HBL2.out HBQ2.out HQ10.out rfl (by decide) rfl (bt_of _ _ (by omega)) (bt_of _ _ (by omega)) (bt_of _ _ (by omega)) (bt_of _ _ (by omega)) rfl rfl rfl rfl⟩
                        · have ix : ∀ w : World, (Instr.index 92 (.agg #[.int .u32 (va : Int), .int .u32 (vb : Int), .int .u32 (vc : Int), .int .u32 (vd : Int), .int .u32 (ve : Int), .int .u32 (vf : Int), .int .u32 (vg : Int), .int .u32 (vh : Int)]) (.int .i64 7)).run Try.prog w = .ok (.int .u32 (vh : Int)) w := fun _ => by kernel_rfl
                          have c0 := HBI.out.cell 28
                          have c1 := HBI.out.cell 29
                          have c2 := HBI.out.cell 30
                          have c3 := HBI.out.cell 31
                          rw [show (bts (idp [va, vb, vc, vd, ve, vf, vg, vh] 7)).toArray[28]? = some (.int .u8 0) from rfl] at c0
                          rw [show (bts (idp [va, vb, vc, vd, ve, vf, vg, vh] 7)).toArray[29]? = some (.int .u8 0) from rfl] at c1
                          rw [show (bts (idp [va, vb, vc, vd, ve, vf, vg, vh] 7)).toArray[30]? = some (.int .u8 0) from rfl] at c2
                          rw [show (bts (idp [va, vb, vc, vd, ve, vf, vg, vh] 7)).toArray[31]? = some (.int .u8 0) from rfl] at c3
                          have f0 := HBI.out.frozen 28
                          have f1 := HBI.out.frozen 29
                          have f2 := HBI.out.frozen 30
                          have f3 := HBI.out.frozen 31
                          clear h8
                          go_wp2_with fail
                          go_roundg 0
                          case measure => have := HI4.out; omega
                          case rel =>
                            exact ⟨8, by have := HI4.out; omega, rfl, fin4 (H := [va, vb, vc, vd, ve, vf, vg, vh]) (x := vh) HBI.out HBL2.out HBQ2.out HQ10.out rfl (by decide) rfl (bt_of _ _ (by omega)) (bt_of _ _ (by omega)) (bt_of _ _ (by omega)) (bt_of _ _ (by omega)) rfl rfl rfl rfl⟩
                        · exact absurd h9 h8
              · clear hcl2 hcl3 hi hz2
                rcases hi9 with rfl | rfl | rfl | rfl | rfl | rfl | rfl | rfl | h9
                · obtain rfl : z = 56 := by have := HZ2.out; omega
                  clear h8
                  go_wp2_with (at_builtin; refine wpList_app _ rfl (.tmp 39) (.tmp 46) 30 rfl (q + 1) 5 _ 1 1 Try.underlying30 infoU8 rfl (by decide) A cl2 c rfl _ 1 1 rfl (bts cur2) (HCL4.out ▸ HK.out.own.alloc _) (fun b => b = wr.heap.size) _ (Sl.one_new _ _ _) ?hone (by unfold maxLen; omega) (by omega) ?hbase ?next)
                  case hone => intro u hu; simp at hu; subst hu; rfl
                  case hbase => simp; have := HK.out.blk.lt; omega
                  case next =>
                    intro A2 c2 w2 hown2 ho2 hat2
                    rw [bt_of (8 * nn / 2 ^ 56) ((nn : Int) * 8 / 72057594037927936) (by omega)] at hown2
                    have hcl6 := HCL4.out
                    subst hcl6
                    have hk2 := Lib.hid ((HK.out.alloc _).app [UInt8.ofNat (8 * nn / 2 ^ 56)] rfl hown2 ho2)
                    clear hown2 ho2 hat2 HK
                    go_wp2
                    go_roundg (7)
                    case measure => have := HI2.out; omega
                    case rel => exact ⟨1, A2, c2, _, cur2 ++ [UInt8.ofNat (8 * nn / 2 ^ 56)], _, by omega, by rw [List.length_append]; rfl, by have := HCL5.out; omega, rfl, rfl, by omega, by rw [Hid, HC2.out, List.append_assoc]; rfl, hk2.out⟩
                · obtain rfl : z = 48 := by have := HZ2.out; omega
                  clear h8
                  go_wp2_with (at_builtin; refine wpList_app _ rfl (.tmp 39) (.tmp 46) 30 rfl (q + 1) 5 _ 1 1 Try.underlying30 infoU8 rfl (by decide) A cl2 c rfl _ 1 1 rfl (bts cur2) (HCL4.out ▸ HK.out.own.alloc _) (fun b => b = wr.heap.size) _ (Sl.one_new _ _ _) ?hone (by unfold maxLen; omega) (by omega) ?hbase ?next)
                  case hone => intro u hu; simp at hu; subst hu; rfl
                  case hbase => simp; have := HK.out.blk.lt; omega
                  case next =>
                    intro A2 c2 w2 hown2 ho2 hat2
                    rw [bt_of (8 * nn / 2 ^ 48) ((nn : Int) * 8 / 281474976710656) (by omega)] at hown2
                    have hcl6 := HCL4.out
                    subst hcl6
                    have hk2 := Lib.hid ((HK.out.alloc _).app [UInt8.ofNat (8 * nn / 2 ^ 48)] rfl hown2 ho2)
                    clear hown2 ho2 hat2 HK
                    go_wp2
                    go_roundg (6)
                    case measure => have := HI2.out; omega
                    case rel => exact ⟨2, A2, c2, _, cur2 ++ [UInt8.ofNat (8 * nn / 2 ^ 48)], _, by omega, by rw [List.length_append]; rfl, by have := HCL5.out; omega, rfl, rfl, by omega, by rw [Hid, HC2.out, List.append_assoc]; rfl, hk2.out⟩
                · obtain rfl : z = 40 := by have := HZ2.out; omega
                  clear h8
                  go_wp2_with (at_builtin; refine wpList_app _ rfl (.tmp 39) (.tmp 46) 30 rfl (q + 1) 5 _ 1 1 Try.underlying30 infoU8 rfl (by decide) A cl2 c rfl _ 1 1 rfl (bts cur2) (HCL4.out ▸ HK.out.own.alloc _) (fun b => b = wr.heap.size) _ (Sl.one_new _ _ _) ?hone (by unfold maxLen; omega) (by omega) ?hbase ?next)
                  case hone => intro u hu; simp at hu; subst hu; rfl
                  case hbase => simp; have := HK.out.blk.lt; omega
                  case next =>
                    intro A2 c2 w2 hown2 ho2 hat2
                    rw [bt_of (8 * nn / 2 ^ 40) ((nn : Int) * 8 / 1099511627776) (by omega)] at hown2
                    have hcl6 := HCL4.out
                    subst hcl6
                    have hk2 := Lib.hid ((HK.out.alloc _).app [UInt8.ofNat (8 * nn / 2 ^ 40)] rfl hown2 ho2)
                    clear hown2 ho2 hat2 HK
                    go_wp2
                    go_roundg (5)
                    case measure => have := HI2.out; omega
                    case rel => exact ⟨3, A2, c2, _, cur2 ++ [UInt8.ofNat (8 * nn / 2 ^ 40)], _, by omega, by rw [List.length_append]; rfl, by have := HCL5.out; omega, rfl, rfl, by omega, by rw [Hid, HC2.out, List.append_assoc]; rfl, hk2.out⟩
                · obtain rfl : z = 32 := by have := HZ2.out; omega
                  clear h8
                  go_wp2_with (at_builtin; refine wpList_app _ rfl (.tmp 39) (.tmp 46) 30 rfl (q + 1) 5 _ 1 1 Try.underlying30 infoU8 rfl (by decide) A cl2 c rfl _ 1 1 rfl (bts cur2) (HCL4.out ▸ HK.out.own.alloc _) (fun b => b = wr.heap.size) _ (Sl.one_new _ _ _) ?hone (by unfold maxLen; omega) (by omega) ?hbase ?next)
                  case hone => intro u hu; simp at hu; subst hu; rfl
                  case hbase => simp; have := HK.out.blk.lt; omega
                  case next =>
                    intro A2 c2 w2 hown2 ho2 hat2
                    rw [bt_of (8 * nn / 2 ^ 32) ((nn : Int) * 8 / 4294967296 % 256) (by omega)] at hown2
                    have hcl6 := HCL4.out
                    subst hcl6
                    have hk2 := Lib.hid ((HK.out.alloc _).app [UInt8.ofNat (8 * nn / 2 ^ 32)] rfl hown2 ho2)
                    clear hown2 ho2 hat2 HK
                    go_wp2
                    go_roundg (4)
                    case measure => have := HI2.out; omega
                    case rel => exact ⟨4, A2, c2, _, cur2 ++ [UInt8.ofNat (8 * nn / 2 ^ 32)], _, by omega, by rw [List.length_append]; rfl, by have := HCL5.out; omega, rfl, rfl, by omega, by rw [Hid, HC2.out, List.append_assoc]; rfl, hk2.out⟩
                · obtain rfl : z = 24 := by have := HZ2.out; omega
                  clear h8
                  go_wp2_with (at_builtin; refine wpList_app _ rfl (.tmp 39) (.tmp 46) 30 rfl (q + 1) 5 _ 1 1 Try.underlying30 infoU8 rfl (by decide) A cl2 c rfl _ 1 1 rfl (bts cur2) (HCL4.out ▸ HK.out.own.alloc _) (fun b => b = wr.heap.size) _ (Sl.one_new _ _ _) ?hone (by unfold maxLen; omega) (by omega) ?hbase ?next)
                  case hone => intro u hu; simp at hu; subst hu; rfl
                  case hbase => simp; have := HK.out.blk.lt; omega
                  case next =>
                    intro A2 c2 w2 hown2 ho2 hat2
                    rw [bt_of (8 * nn / 2 ^ 24) ((nn : Int) * 8 / 16777216 % 256) (by omega)] at hown2
                    have hcl6 := HCL4.out
                    subst hcl6
                    have hk2 := Lib.hid ((HK.out.alloc _).app [UInt8.ofNat (8 * nn / 2 ^ 24)] rfl hown2 ho2)
                    clear hown2 ho2 hat2 HK
                    go_wp2
                    go_roundg (3)
                    case measure => have := HI2.out; omega
                    case rel => exact ⟨5, A2, c2, _, cur2 ++ [UInt8.ofNat (8 * nn / 2 ^ 24)], _, by omega, by rw [List.length_append]; rfl, by have := HCL5.out; omega, rfl, rfl, by omega, by rw [Hid, HC2.out, List.append_assoc]; rfl, hk2.out⟩
                · obtain rfl : z = 16 := by have := HZ2.out; omega
                  clear h8
                  go_wp2_with (at_builtin; refine wpList_app _ rfl (.tmp 39) (.tmp 46) 30 rfl (q + 1) 5 _ 1 1 Try.underlying30 infoU8 rfl (by decide) A cl2 c rfl _ 1 1 rfl (bts cur2) (HCL4.out ▸ HK.out.own.alloc _) (fun b => b = wr.heap.size) _ (Sl.one_new _ _ _) ?hone (by unfold maxLen; omega) (by omega) ?hbase ?next)
                  case hone => intro u hu; simp at hu; subst hu; rfl
                  case hbase => simp; have := HK.out.blk.lt; omega
                  case next =>
                    intro A2 c2 w2 hown2 ho2 hat2
                    rw [bt_of (8 * nn / 2 ^ 16) ((nn : Int) * 8 / 65536 % 256) (by omega)] at hown2
                    have hcl6 := HCL4.out
                    subst hcl6
                    have hk2 := Lib.hid ((HK.out.alloc _).app [UInt8.ofNat (8 * nn / 2 ^ 16)] rfl hown2 ho2)
                    clear hown2 ho2 hat2 HK
                    go_wp2
                    go_roundg (2)
                    case measure => have := HI2.out; omega
                    case rel => exact ⟨6, A2, c2, _, cur2 ++ [UInt8.ofNat (8 * nn / 2 ^ 16)], _, by omega, by rw [List.length_append]; rfl, by have := HCL5.out; omega, rfl, rfl, by omega, by rw [Hid, HC2.out, List.append_assoc]; rfl, hk2.out⟩
                · obtain rfl : z = 8 := by have := HZ2.out; omega
                  clear h8
                  go_wp2_with (at_builtin; refine wpList_app _ rfl (.tmp 39) (.tmp 46) 30 rfl (q + 1) 5 _ 1 1 Try.underlying30 infoU8 rfl (by decide) A cl2 c rfl _ 1 1 rfl (bts cur2) (HCL4.out ▸ HK.out.own.alloc _) (fun b => b = wr.heap.size) _ (Sl.one_new _ _ _) ?hone (by unfold maxLen; omega) (by omega) ?hbase ?next)
                  case hone => intro u hu; simp at hu; subst hu; rfl
                  case hbase => simp; have := HK.out.blk.lt; omega
                  case next =>
                    intro A2 c2 w2 hown2 ho2 hat2
                    rw [bt_of (8 * nn / 2 ^ 8) ((nn : Int) * 8 / 256 % 256) (by omega)] at hown2
                    have hcl6 := HCL4.out
                    subst hcl6
                    have hk2 := Lib.hid ((HK.out.alloc _).app [UInt8.ofNat (8 * nn / 2 ^ 8)] rfl hown2 ho2)
                    clear hown2 ho2 hat2 HK
                    go_wp2
                    go_roundg (1)
                    case measure => have := HI2.out; omega
                    case rel => exact ⟨7, A2, c2, _, cur2 ++ [UInt8.ofNat (8 * nn / 2 ^ 8)], _, by omega, by rw [List.length_append]; rfl, by have := HCL5.out; omega, rfl, rfl, by omega, by rw [Hid, HC2.out, List.append_assoc]; rfl, hk2.out⟩
                · obtain rfl : z = 0 := by have := HZ2.out; omega
                  clear h8
                  go_wp2_with (at_builtin; refine wpList_app _ rfl (.tmp 39) (.tmp 46) 30 rfl (q + 1) 5 _ 1 1 Try.underlying30 infoU8 rfl (by decide) A cl2 c rfl _ 1 1 rfl (bts cur2) (HCL4.out ▸ HK.out.own.alloc _) (fun b => b = wr.heap.size) _ (Sl.one_new _ _ _) ?hone (by unfold maxLen; omega) (by omega) ?hbase ?next)
                  case hone => intro u hu; simp at hu; subst hu; rfl
                  case hbase => simp; have := HK.out.blk.lt; omega
                  case next =>
                    intro A2 c2 w2 hown2 ho2 hat2
                    rw [bt_of (8 * nn) ((nn : Int) * 8 % 256) (by omega)] at hown2
                    have hcl6 := HCL4.out
                    subst hcl6
                    have hk2 := Lib.hid ((HK.out.alloc _).app [UInt8.ofNat (8 * nn)] rfl hown2 ho2)
                    clear hown2 ho2 hat2 HK
                    go_wp2
                    go_roundg (0)
                    case measure => have := HI2.out; omega
                    case rel => exact ⟨8, A2, c2, _, cur2 ++ [UInt8.ofNat (8 * nn)], _, by omega, by rw [List.length_append]; rfl, by have := HCL5.out; omega, rfl, rfl, by omega, by rw [Hid, HC2.out, List.append_assoc]; rfl, hk2.out⟩
                · exact absurd h9 h8
end Go.Proofs.Ytlbpeihdedhjiaa
