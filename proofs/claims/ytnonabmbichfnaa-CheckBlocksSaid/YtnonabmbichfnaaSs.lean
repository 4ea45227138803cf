/- The document's hash: Sum is sha. -/
import Derived.Test.YtnonabmbichfnaaSq
import Derived.Test.YtnonabmbichfnaaRa
import Derived.Test.YtnonabmbichfnaaRt
import Derived.Test.YtnonabmbichfnaaTr
namespace Go.Proofs.Ytnonabmbichfnaa
open Go.RowKit
theorem infoA32 : (Try.prog.info? 36).map (·.size) = some 32 := by kernel_rfl
/-- the blocks of Sum -/
structure Rs (w0 w : World) (p2 pk ph : Nat) (H : List Nat) : Prop where
  b2 : Blk w p2 36 zeros32.toArray
  bk : Blk w pk 35 (us kL).toArray
  bh : Blk w ph 35 (us H).toArray
  below : Below w0.heap.size w0 w
  h0 : w0.heap.size = p2
  h1 : p2 < pk
  h2 : pk < ph
theorem Rs.only {w0 w w' : World} {p2 pk ph : Nat} {H : List Nat} {S : Nat → Prop} (h : Rs w0 w p2 pk ph H) (ho : Only S w w') (hn : ∀ b, b ≤ ph → ¬ S b) : Rs w0 w' p2 pk ph H :=
  ⟨h.b2.only ho (hn _ (by have := h.h1; have := h.h2; omega)), h.bk.only ho (hn _ (by have := h.h2; omega)), h.bh.only ho (hn _ (Nat.le_refl _)), h.below.trans (ho.below h.below.size (fun b hb => hn b (by have := h.h0; have := h.h1; have := h.h2; omega))), h.h0, h.h1, h.h2⟩
theorem Rs.new {w0 w w' : World} {p2 pk ph : Nat} {H : List Nat} (h : Rs w0 w p2 pk ph H) (ho : Below w.heap.size w w') : Rs w0 w' p2 pk ph H :=
  h.only (S := fun b => w.heap.size ≤ b) (Only.of_below ho) (fun b hb e => by have := h.bh.lt; omega)
theorem Rs.drew {w0 w : World} {p2 pk ph : Nat} {H : List Nat} (h : Rs w0 w p2 pk ph H) : Rs w0 w.drew p2 pk ph H := h.only ((Only.refl (fun _ => False) w).drew) (fun _ _ h => h)
theorem Rs.seth {w0 w : World} {p2 pk ph : Nat} {H H' : List Nat} (h : Rs w0 w p2 pk ph H) (i : Nat) (u : Value) (e : (us H).set i u = us H') : Rs w0 (w.setCell ⟨ph, i, none⟩ u) p2 pk ph H' := by
  have ho : Only (fun b => b = ph) w (w.setCell ⟨ph, i, none⟩ u) := (Only.refl (fun b => b = ph) w).setCell (p := ⟨ph, i, none⟩) (fun _ => rfl) _
  refine ⟨h.b2.only ho (by have := h.h1; have := h.h2; omega), h.bk.only ho (by have := h.h2; omega), ?_, h.below.trans (ho.below h.below.size (fun b hb e => by have := h.h0; have := h.h1; have := h.h2; omega)), h.h0, h.h1, h.h2⟩
  have := h.bh.set_ i u
  rwa [List.setIfInBounds_toArray, e] at this
set_option maxRecDepth 20000 in
set_option maxHeartbeats 40000000 in
set_option linter.unusedSimpArgs false in
theorem rsum_any (w : World) (l : List UInt8) (hl : l.length ≤ 1000000000000) :
    Calls Try.prog 55 #[.string (bstr l)] w fun e w' => e = .returned (.agg (bts (sha l)).toArray) ∧ Below w.heap.size w w' := by
  obtain ⟨nn, hnn⟩ : ∃ nn, l.length = nn := ⟨_, rfl⟩
  rw [hnn] at hl
  have HNN := Lib.hid hnn
  have HL := Lib.hid hl
  have s0 : (bstr l).size = nn := by rw [bstr_size, hnn]
  clear hnn
  go_enter Try.func55, Try.ntmps55
  go_wp2_with fail
  generalize hW : World.alloc w _ = W
  have hb : Blk W w.heap.size 36 zeros32.toArray := by rw [← hW]; exact Blk.new _ _ _
  have hbl : Below w.heap.size w W := by rw [← hW]; exact (Below.refl _ _).alloc (Nat.le_refl _) _
  clear hW
  obtain ⟨p2, hp2⟩ : ∃ p2, w.heap.size = p2 := ⟨_, rfl⟩
  rw [hp2] at hb ⊢
  have HP2 := Lib.hid hp2
  have HB := Lib.hid hb
  have HBL := Lib.hid hbl
  clear hp2 hb hbl
  refine (klist_any W).mono ?_
  rintro e1 w1 ⟨rfl, b1, a1⟩
  have hplt := HB.out.lt
  replace HB := Lib.hid (HB.out.below a1 HB.out.lt)
  replace HBL := Lib.hid (HBL.out.trans (a1.mono HBL.out.size))
  obtain ⟨pk, hpk⟩ : ∃ pk, W.heap.size = pk := ⟨_, rfl⟩
  rw [hpk] at b1 ⊢
  have HKB := Lib.hid b1
  have HPK := Lib.hid (show p2 < pk by rw [← hpk]; exact hplt)
  clear hplt
  clear a1 b1 hpk
  have u1 : IntKind.u64.wrap ((nn : Nat) : Int) = ((nn : Nat) : Int) := by rw [IntKind.wrap_u64]; omega
  have u2 : IntKind.u64.wrap ((nn : Int) * 8) = ((8 * nn : Nat) : Int) := by rw [IntKind.wrap_u64]; omega
  have e80 : bstr l ++ ⟨#[128]⟩ = bstr (l ++ [128]) := bstr_append l [128]
  go_wp2_with fail
  clear u1 u2 e80
  go_loopg [0] (padZ nn) (fun k v0 wr => ∃ (i cl : Nat) (cu : List UInt8), i + k = padZ nn ∧ cl = nn + 1 + i ∧ v0 = .string (bstr cu) ∧ Hid (cu.length = cl) ∧ Hid (cu = l ++ [128] ++ List.replicate i 0) ∧ Hid (Below w1.heap.size w1 wr))
  case atStart => exact ⟨0, nn + 1, l ++ [128], by omega, by omega, rfl, by rw [Hid, List.length_append, HNN.out]; rfl, by simp [Hid], Below.refl _ _⟩
  case round =>
    obtain ⟨i, cl, cu, hi, hcl, rfl, HCL, HC, HB1⟩ := hrel
    have HI := Lib.hid hi
    have HCL2 := Lib.hid hcl
    have c1 : (bstr cu).size = cl := by rw [bstr_size, HCL.out]
    have c2 : cu.length = cl := HCL.out
    have hcb : cl ≤ 2000000000000 := by have := HL.out; unfold padZ at hi; omega
    by_cases hlt : i < padZ nn
    · have hz : cl % 64 ≠ 56 := by unfold padZ at hlt hi; omega
      clear hi hcl
      have t1 : ((cl : Int) % 64 != 56) = true := by simp; omega
      have t2 : (((cl % 64 : Nat) : Int) != 56) = true := by simp; omega
      have t3 : (cl % 64 == 56) = false := by simp; omega
      have e0 : bstr cu ++ ⟨#[0]⟩ = bstr (cu ++ [0]) := bstr_append cu [0]
      go_wp2
      go_roundg (padZ nn - 1 - i)
      case measure => have := HI.out; omega
      case rel => exact ⟨i + 1, cl + 1, cu ++ [0], by omega, by have := HCL2.out; omega, rfl, by rw [Hid, List.length_append, HCL.out]; rfl, by rw [Hid, HC.out, List.append_assoc, ← List.replicate_succ'], HB1⟩
    · obtain rfl : i = padZ nn := by omega
      have hz : cl % 64 = 56 := by unfold padZ at hcl; omega
      clear hi hcl hlt
      have t1 : ((cl : Int) % 64 != 56) = false := by simp; omega
      have t2 : (((cl % 64 : Nat) : Int) != 56) = false := by simp; omega
      have t3 : (cl % 64 == 56) = true := by simp; omega
      go_wp2_with fail
      clear t1 t2 t3 c1 c2
      go_loopg [4, 5, 6] 8 (fun k v4 v5 v6 wr => ∃ (i y : Nat) (tl : List UInt8), i + k = 8 ∧ v4 = .int .u64 (y : Int) ∧ v5 = .string (bstr tl) ∧ v6 = .int .i64 i ∧ Hid (y = 8 * nn / 256 ^ i) ∧ Hid (tl = tl8 nn i) ∧ Hid (Below w1.heap.size w1 wr))
      case atStart => exact ⟨0, 8 * nn, [], by omega, by simp, rfl, rfl, by simp [Hid], rfl, HB1⟩
      case round =>
        clear HB1
        obtain ⟨i, y, tl, hi, rfl, rfl, rfl, HY, HT, HB1⟩ := hrel
        by_cases hlt : i < 8
        · have hyl : y ≤ 18446744073709551615 := by have := HL.out; rw [HY.out]; exact Nat.le_trans (Nat.div_le_self _ _) (by omega)
          have dl : decide ((i : Int) < 8) = true := by simp; omega
          have hb := run_byte Try.underlying54 Try.underlying5 Try.underlying9 wr ((y : Int) % 256) (UInt8.ofNat y) (byte_mod y _ (by omega)) 5
          have hss : (bstr tl).size = i := by rw [HT.out, bstr_size, tl8_len _ _ (by omega)]
          have hss2 : tl.length = i := by rw [HT.out, tl8_len _ _ (by omega)]
          have e0 : bstr [UInt8.ofNat y] ++ bstr tl = bstr (UInt8.ofNat y :: tl) := bstr_append [UInt8.ofNat y] tl
          have w8 : IntKind.u64.wrap ((y : Int) / 256) = ((y / 256 : Nat) : Int) := by rw [IntKind.wrap_u64]; omega
          have HI := Lib.hid hi
          clear hi hyl
          go_wp2
          go_roundg (8 - 1 - i)
          case measure => have := HI.out; omega
          case rel =>
            refine ⟨i + 1, y / 256, UInt8.ofNat y :: tl, by omega, by go_num, by first | rfl | (rw [e0]), by go_num, ?_, ?_, HB1.out.trans (Below.alloc (Below.refl _ _) (Nat.le_refl _) _ |>.mono HB1.out.size)⟩
            · rw [Hid, HY.out, Nat.pow_succ, Nat.div_div_eq_div_mul]
            · rw [Hid, HT.out, tl8_succ _ _ hlt, HY.out]
        · have dl : decide ((i : Int) < 8) = false := by simp; omega
          obtain rfl : i = 8 := by omega
          clear hlt hi
          have HPD := Lib.hid (show cu ++ tl = padded l by rw [HT.out, HC.out, tl8_all, padded, HNN.out])
          obtain ⟨P, hP⟩ : ∃ P, cu ++ tl = P := ⟨_, rfl⟩
          obtain ⟨pl, hpl⟩ : ∃ pl, P.length = pl := ⟨_, rfl⟩
          have c1 : (bstr cu).size = cl := by rw [bstr_size, HCL.out]
          have c3 : (bstr tl).size = 8 := by rw [HT.out, bstr_size, tl8_len _ _ (by omega)]
          have c4 : tl.length = 8 := by rw [HT.out, tl8_len _ _ (by omega)]
          have c5 : (bstr P).size = pl := by rw [bstr_size, hpl]
          have e0 : bstr cu ++ bstr tl = bstr P := by rw [← hP]; exact bstr_append cu tl
          have hpb : pl = cl + 8 := by rw [← hpl, ← hP, List.length_append, HCL.out, c4]
          have HPL := Lib.hid hpl
          have HP := Lib.hid hP
          have HPB := Lib.hid hpb
          rw [hP] at HPD
          clear hP hpl hpb
          obtain ⟨W8, hW8⟩ : ∃ W8, wr.alloc (.cells #[.int .u32 1779033703, .int .u32 3144134277, .int .u32 1013904242, .int .u32 2773480762, .int .u32 1359893119, .int .u32 2600822924, .int .u32 528734635, .int .u32 1541459225] 35) = W8 := ⟨_, rfl⟩
          have hb8 : Blk W8 wr.heap.size 35 (us hash0).toArray := by rw [← hW8]; exact Blk.new wr _ _
          have hbl8 : Below wr.heap.size wr W8 := by rw [← hW8]; exact (Below.refl _ _).alloc (Nat.le_refl _) _
          have HR := Lib.hid (show Rs w W8 p2 pk wr.heap.size hash0 from ⟨(HB.out.below HB1.out HB.out.lt).below hbl8 (HB.out.below HB1.out HB.out.lt).lt, (HKB.out.below HB1.out HKB.out.lt).below hbl8 (HKB.out.below HB1.out HKB.out.lt).lt, hb8, (HBL.out.trans (HB1.out.mono HBL.out.size)).trans (hbl8.mono (HBL.out.trans (HB1.out.mono HBL.out.size)).size), HP2.out, HPK.out, (HKB.out.below HB1.out HKB.out.lt).lt⟩)
          clear hb8 hbl8
          obtain ⟨ph, hph⟩ : ∃ ph, wr.heap.size = ph := ⟨_, rfl⟩
          go_wp2_with fail
          try rw [hW8]
          try rw [hph]
          rw [hph] at HR
          clear hW8 hph e0 c1 c3 c4 HB HBL HB1 HC HT HY HKB HPK hz
          obtain ⟨N, hN⟩ : ∃ N, pl = 64 * N := ⟨pl / 64, by have := padded_mod l; rw [← HPD.out, HPL.out] at this; omega⟩
          have HN := Lib.hid hN
          clear hN
          go_loopg [8] N (fun k v8 wr => ∃ (i z : Nat), i + k = N ∧ v8 = .int .i64 (z : Int) ∧ Hid (z = 64 * i) ∧ Hid (Rs w wr p2 pk ph (shaN P i)))
          case atStart => exact ⟨0, 0, by omega, rfl, by simp [Hid], HR⟩
          case round =>
            clear HR
            obtain ⟨i, z, hi, rfl, HZ, HR⟩ := hrel
            by_cases hlt : i < N
            · have dl : decide (z < pl) = true := by have := HZ.out; have := HN.out; simp; omega
              have dl2 : decide ((z : Int) < (pl : Int)) = true := by have := HZ.out; have := HN.out; simp; omega
              have HI := Lib.hid hi
              obtain ⟨Bk, hBk⟩ : ∃ Bk, (P.drop (64 * i)).take 64 = Bk := ⟨_, rfl⟩
              have HBK := Lib.hid hBk
              clear hi hBk
              go_wp2_with fail
              clear dl dl2
              go_loopg [9, 10] 16 (fun k v9 v10 wr => ∃ (j c : Nat) (A : Option Addr), j + k = 16 ∧ v9 = .slice A j c ∧ v10 = .int .i64 j ∧ Hid (OwnU wr (ph + 1) A j c (sched Bk j)) ∧ Hid (Rs w wr p2 pk ph (shaN P i)))
              case atStart => exact ⟨0, 0, none, by omega, rfl, rfl, OwnU.nil _ _, HR⟩
              case round =>
                clear HR
                obtain ⟨j, c, A, hj, rfl, rfl, HO, HR⟩ := hrel
                by_cases hlt16 : j < 16
                · have dl : decide ((j : Int) < 16) = true := by simp; omega
                  go_wp2_with fail
                  clear dl
                  have HJ := Lib.hid hj
                  clear hj
                  go_loopg [11, 12] 4 (fun k v11 v12 wr2 => ∃ (m x : Nat), m + k = 4 ∧ v11 = .int .u32 (x : Int) ∧ v12 = .int .i64 m ∧ Hid (x = wpart P (64 * i + 4 * j) m) ∧ wr2 = wr)
                  case atStart => exact ⟨0, 0, by omega, rfl, rfl, rfl, rfl⟩
                  case round =>
                    obtain ⟨m, x, hm, rfl, rfl, HX, rfl⟩ := hrel
                    by_cases hlt4 : m < 4
                    · as_aux_lemma =>
                      have dl : decide ((m : Int) < 4) = true := by simp; omega
                      have hx3 : x < 16777216 := by rw [HX.out]; exact wpart_lt3 _ _ _ hlt4
                      have zb : z + 64 ≤ pl := by have := HZ.out; have := HN.out; omega
                      have plb : pl ≤ 3000000000000 := by have := HPB.out; omega
                      obtain ⟨a1, ha1⟩ : ∃ a, 4 * j = a := ⟨_, rfl⟩
                      obtain ⟨a2, ha2⟩ : ∃ a, z + a1 = a := ⟨_, rfl⟩
                      obtain ⟨a3, ha3⟩ : ∃ a, a2 + m = a := ⟨_, rfl⟩
                      have e76 : IntKind.i64.wrap (4 * (j : Int)) = (a1 : Int) := by rw [w64 _ (by omega)]; omega
                      have e77 : IntKind.i64.wrap ((z : Int) + (a1 : Int)) = (a2 : Int) := by rw [w64 _ (by omega)]; omega
                      have e79 : IntKind.i64.wrap ((a2 : Int) + (m : Int)) = (a3 : Int) := by rw [w64 _ (by omega)]; omega
                      obtain ⟨y72, hy72⟩ : ∃ a, x * 256 = a := ⟨_, rfl⟩
                      have e72 : IntKind.u32.wrap ((x : Int) * 256) = (y72 : Int) := by rw [wrap32]; omega
                      have b1 : (a3 : Int) < (pl : Int) := by omega
                      have b2 : a3 < pl := by omega
                      have b0 : (0 : Int) ≤ (a3 : Int) := by omega
                      obtain ⟨cB, hcB⟩ : ∃ cB, P.getD a3 0 = cB := ⟨_, rfl⟩
                      obtain ⟨d, hd⟩ : ∃ d, cB.toNat = d := ⟨_, rfl⟩
                      have hd2 : d < 256 := by rw [← hd]; exact cB.toNat_lt
                      have hidx : ∀ h : a3 < (bstr P).size, (bstr P)[a3]'h = cB := fun h => by rw [bstr_getD, hcB]
                      have e81 : IntKind.u32.wrap (d : Int) = (d : Int) := by rw [wrap32]; omega
                      obtain ⟨x2, hx2⟩ : ∃ a, y72 + d = a := ⟨_, rfl⟩
                      have e82 : IntKind.u32.wrap ((y72 : Int) + (d : Int)) = (x2 : Int) := by rw [wrap32]; omega
                      have HX2 := Lib.hid (show x2 = wpart P (64 * i + 4 * j) (m + 1) by
                        rw [wpart, ← HX.out, show 64 * i + 4 * j + m = a3 by have := HZ.out; omega, hcB, hd, hy72, hx2])
                      clear hx3 zb plb ha1 ha2 ha3 hy72 hcB hd2 hx2
                      have HM := Lib.hid hm
                      clear hm
                      go_wp2
                      go_roundg (4 - 1 - m)
                      case measure => have := HM.out; omega
                      case rel => exact ⟨m + 1, x2, by omega, rfl, rfl, HX2, rfl⟩
                    · as_aux_lemma =>
                      obtain rfl : m = 4 := by omega
                      have HXW := Lib.hid (show x = wnext Bk (sched Bk j) by
                        have hj16 := hlt16
                        rw [HX.out, wnext, sched_len, if_pos hlt16, word_block P i (4 * j) (by omega), HBK.out])
                      clear hlt4 hm
                      go_wp2_with (at_builtin; refine wpList_app _ rfl (.tmp 83) (.tmp 85) 115 rfl (ph + 1) 35 _ 1 4 Try.underlying115 infoU32 rfl (by decide) A j c rfl _ 1 1 rfl (us (sched Bk j)) (HO.out.1.alloc _) (fun b => b = wr.heap.size) _ (Sl.one_new _ _ _) ?hone (by unfold maxLen; omega) (by omega) ?hbase ?next)
                      case hone => intro u hu; simp at hu; subst hu; rfl
                      case hbase => have := HR.out.bh.lt; rw [World.size_alloc]; omega
                      case next =>
                        intro A1 c1 w1 hown1 ho1 hat1
                        have hal : Below wr.heap.size wr (wr.alloc (.cells #[.int .u32 (x : Int)] 35)) := (Below.refl _ _).alloc (Nat.le_refl _) _
                        have HR1 := Lib.hid ((HR.out.new hal).only ho1 (fun b hb e => by have := own_ge (HO.out.1.alloc (.cells #[.int .u32 (x : Int)] 35)) e; omega))
                        have HO1 := Lib.hid (show OwnU w1 (ph + 1) A1 (j + 1) c1 (sched Bk (j + 1)) from ⟨by rw [sched, ← HXW.out, us_append]; exact hown1, sched_len _ _⟩)
                        clear hown1 ho1 hat1 hal
                        go_wp2
                        go_roundg (16 - 1 - j)
                        case measure => have := HJ.out; omega
                        case rel => exact ⟨j + 1, c1, A1, by have := HJ.out; omega, rfl, by go_num, HO1, HR1⟩
                · obtain rfl : j = 16 := by omega
                  clear hj hlt16
                  go_wp2_with fail
                  go_loopg [9, 13] 48 (fun k v9 v13 wr => ∃ (j c : Nat) (A : Option Addr), j + k = 64 ∧ 16 ≤ j ∧ v9 = .slice A j c ∧ v13 = .int .i64 j ∧ Hid (OwnU wr (ph + 1) A j c (sched Bk j)) ∧ Hid (Rs w wr p2 pk ph (shaN P i)))
                  case atStart => exact ⟨16, c, A, by omega, by omega, rfl, rfl, HO, HR⟩
                  case round =>
                    clear HO HR
                    obtain ⟨j, c, A, hj, hj16, rfl, rfl, HO, HR⟩ := hrel
                    by_cases hlt64 : j < 64
                    · as_aux_lemma =>
                      have dl : decide ((j : Int) < 64) = true := by simp; omega
                      obtain ⟨gw, rfl, hgw1, hgw2, hrow⟩ := HO.out.addr (by omega)
                      have s15 : IntKind.i64.wrap ((j : Int) - 15) = ((j - 15 : Nat) : Int) := by rw [w64 _ (by omega)]; omega
                      have s2 : IntKind.i64.wrap ((j : Int) - 2) = ((j - 2 : Nat) : Int) := by rw [w64 _ (by omega)]; omega
                      have s16 : IntKind.i64.wrap ((j : Int) - 16) = ((j - 16 : Nat) : Int) := by rw [w64 _ (by omega)]; omega
                      have s7 : IntKind.i64.wrap ((j : Int) - 7) = ((j - 7 : Nat) : Int) := by rw [w64 _ (by omega)]; omega
                      obtain ⟨j15, hj15⟩ : ∃ a, j - 15 = a := ⟨_, rfl⟩
                      obtain ⟨j2, hj2⟩ : ∃ a, j - 2 = a := ⟨_, rfl⟩
                      obtain ⟨j16, hj16'⟩ : ∃ a, j - 16 = a := ⟨_, rfl⟩
                      obtain ⟨j7, hj7⟩ : ∃ a, j - 7 = a := ⟨_, rfl⟩
                      rw [hj15] at s15; rw [hj2] at s2; rw [hj16'] at s16; rw [hj7] at s7
                      have l15 : j15 < j := by omega
                      have l2 : j2 < j := by omega
                      have l16 : j16 < j := by omega
                      have l7 : j7 < j := by omega
                      have m15 : (j15 : Int) < (j : Int) := by omega
                      have m2 : (j2 : Int) < (j : Int) := by omega
                      have m16 : (j16 : Int) < (j : Int) := by omega
                      have m7 : (j7 : Int) < (j : Int) := by omega
                      have n15 : (0 : Int) ≤ (j15 : Int) := by omega
                      have n2 : (0 : Int) ≤ (j2 : Int) := by omega
                      have n16 : (0 : Int) ≤ (j16 : Int) := by omega
                      have n7 : (0 : Int) ≤ (j7 : Int) := by omega
                      have q15 := row_us0 hrow (i := j15) (by rw [sched_len]; exact l15)
                      have q2 := row_us0 hrow (i := j2) (by rw [sched_len]; exact l2)
                      have q16 := row_us0 hrow (i := j16) (by rw [sched_len]; exact l16)
                      have q7 := row_us0 hrow (i := j7) (by rw [sched_len]; exact l7)
                      have hnx : wnext Bk (sched Bk j) = ((sched Bk j).getD j16 0 + sg0 ((sched Bk j).getD j15 0) + (sched Bk j).getD j7 0 + sg1 ((sched Bk j).getD j2 0)) % 4294967296 := by
                        rw [wnext, sched_len, if_neg (by omega), hj15, hj2, hj16', hj7]
                      have lx15 := sched_getD_lt Bk j j15
                      have lx2 := sched_getD_lt Bk j j2
                      obtain ⟨x15, hx15⟩ : ∃ x, (sched Bk j).getD j15 0 = x := ⟨_, rfl⟩
                      obtain ⟨x2, hx2⟩ : ∃ x, (sched Bk j).getD j2 0 = x := ⟨_, rfl⟩
                      obtain ⟨x16, hx16⟩ : ∃ x, (sched Bk j).getD j16 0 = x := ⟨_, rfl⟩
                      obtain ⟨x7, hx7⟩ : ∃ x, (sched Bk j).getD j7 0 = x := ⟨_, rfl⟩
                      rw [hx15] at q15 hnx lx15; rw [hx2] at q2 hnx lx2; rw [hx16] at q16 hnx; rw [hx7] at q7 hnx
                      have h3 : x15 / 2 ^ 3 = x15 / 8 := rfl
                      have h10 : x2 / 2 ^ 10 = x2 / 1024 := rfl
                      have T1 := Lib.hid (fun W => turn_any x15 7 W lx15 (by omega))
                      have T2 := Lib.hid (fun W => turn_any x15 18 W lx15 (by omega))
                      have T3 := Lib.hid (fun W => low_any x15 3 W lx15 (by omega))
                      have T4 := Lib.hid (fun W => turn_any x2 17 W lx2 (by omega))
                      have T5 := Lib.hid (fun W => turn_any x2 19 W lx2 (by omega))
                      have T6 := Lib.hid (fun W => low_any x2 10 W lx2 (by omega))
                      obtain ⟨X1, S0, hS0, e1, e2⟩ := xor3_steps (rot x15 7) (rot x15 18) (x15 / 2 ^ 3) (rot_lt _ _ lx15 (by omega)) (rot_lt _ _ lx15 (by omega)) (Nat.lt_of_le_of_lt (Nat.div_le_self _ _) lx15)
                      obtain ⟨X2, S1, hS1, e3, e4⟩ := xor3_steps (rot x2 17) (rot x2 19) (x2 / 2 ^ 10) (rot_lt _ _ lx2 (by omega)) (rot_lt _ _ lx2 (by omega)) (Nat.lt_of_le_of_lt (Nat.div_le_self _ _) lx2)
                      obtain ⟨A1, A2, A3, hA3, f1, f2, f3⟩ := wn_steps x16 S0 x7 S1
                      have HNX := Lib.hid (show A3 = wnext Bk (sched Bk j) by rw [hnx, hA3.out, hS0.out, hS1.out, h3, h10]; rfl)
                      obtain ⟨r1, hr1⟩ : ∃ r, rot x15 7 = r := ⟨_, rfl⟩
                      obtain ⟨r2, hr2⟩ : ∃ r, rot x15 18 = r := ⟨_, rfl⟩
                      obtain ⟨r3, hr3⟩ : ∃ r, x15 / 2 ^ 3 = r := ⟨_, rfl⟩
                      obtain ⟨r4, hr4⟩ : ∃ r, rot x2 17 = r := ⟨_, rfl⟩
                      obtain ⟨r5, hr5⟩ : ∃ r, rot x2 19 = r := ⟨_, rfl⟩
                      obtain ⟨r6, hr6⟩ : ∃ r, x2 / 2 ^ 10 = r := ⟨_, rfl⟩
                      rw [hr1] at T1 e1; rw [hr2] at T2 e1; rw [hr3] at T3 e2; rw [hr4] at T4 e3; rw [hr5] at T5 e3; rw [hr6] at T6 e4
                      have HX16 := Lib.hid hx16
                      have HX7 := Lib.hid hx7
                      have HC := Lib.hid (And.intro q15 (And.intro q2 (And.intro q16 q7)))
                      have HJ := Lib.hid hj
                      have HLT := Lib.hid hlt64
                      clear hnx hS0 hS1 hA3 hr1 hr2 hr3 hr4 hr5 hr6 hx15 hx2 hx16 hx7 hj15 hj2 hj16' hj7 h3 h10 lx15 lx2 q15 q2 q16 q7 hrow hj hgw1 hgw2 hlt64
                      go_upto_region 30 with fail
                      refine wp_region_held_drew (S := (fun w' => w'.cell? ⟨gw, j15, none⟩ = some (.int .u32 (x15 : Int)))) (by kernel_rfl) (HC.out.1) ?_
                      intro hSw
                      refine wpAnyH_take (i := 0) (oi := ⟨some 91, _, _, _, _, _⟩) (v := (.slice (some ⟨gw, 0, none⟩) j c)) rfl (by kernel_rfl) (by kernel_rfl) (by kernel_rfl) (fun _ _ _ h => h) (Or.inl ⟨by rfl, ?_⟩) hSw ?_
                      · intro w' hSw'
                        have q15 := hSw'
                        go_simp
                      simp only [Act.put, List.setIfInBounds_toArray, List.set_cons_zero, List.set_cons_succ]
                      refine wpAnyH_take (i := 1) (oi := ⟨some 92, _, _, _, _, _⟩) (v := (.int .i64 (j : Int))) rfl (by kernel_rfl) (by kernel_rfl) (by kernel_rfl) (fun _ _ _ h => h) (Or.inl ⟨by rfl, ?_⟩) hSw ?_
                      · intro w' hSw'
                        have q15 := hSw'
                        go_simp
                      simp only [Act.put, List.setIfInBounds_toArray, List.set_cons_zero, List.set_cons_succ]
                      refine wpAnyH_take (i := 2) (oi := ⟨some 93, _, _, _, _, _⟩) (v := (.int .i64 (j15 : Int))) rfl (by kernel_rfl) (by kernel_rfl) (by kernel_rfl) (fun _ _ _ h => h) (Or.inl ⟨by rfl, ?_⟩) hSw ?_
                      · intro w' hSw'
                        have q15 := hSw'
                        go_simp
                      simp only [Act.put, List.setIfInBounds_toArray, List.set_cons_zero, List.set_cons_succ]
                      refine wpAnyH_take (i := 3) (oi := ⟨some 94, _, _, _, _, _⟩) (v := (.pointer (some ⟨gw, j15, none⟩))) rfl (by kernel_rfl) (by kernel_rfl) (by kernel_rfl) (fun _ _ _ h => h) (Or.inl ⟨by rfl, ?_⟩) hSw ?_
                      · intro w' hSw'
                        have q15 := hSw'
                        go_simp
                      simp only [Act.put, List.setIfInBounds_toArray, List.set_cons_zero, List.set_cons_succ]
                      refine wpAnyH_take (i := 4) (oi := ⟨some 95, _, _, _, _, _⟩) (v := (.int .u32 (x15 : Int))) rfl (by kernel_rfl) (by kernel_rfl) (by kernel_rfl) (fun _ _ _ h => h) (Or.inl ⟨by rfl, ?_⟩) hSw ?_
                      · intro w' hSw'
                        have q15 := hSw'
                        go_simp
                      simp only [Act.put, List.setIfInBounds_toArray, List.set_cons_zero, List.set_cons_succ]
                      refine wpAnyH_take (i := 6) (oi := ⟨some 97, _, _, _, _, _⟩) (v := (.slice (some ⟨gw, 0, none⟩) j c)) rfl (by kernel_rfl) (by kernel_rfl) (by kernel_rfl) (fun _ _ _ h => h) (Or.inl ⟨by rfl, ?_⟩) hSw ?_
                      · intro w' hSw'
                        have q15 := hSw'
                        go_simp
                      simp only [Act.put, List.setIfInBounds_toArray, List.set_cons_zero, List.set_cons_succ]
                      refine wpAnyH_take (i := 7) (oi := ⟨some 98, _, _, _, _, _⟩) (v := (.int .i64 (j : Int))) rfl (by kernel_rfl) (by kernel_rfl) (by kernel_rfl) (fun _ _ _ h => h) (Or.inl ⟨by rfl, ?_⟩) hSw ?_
                      · intro w' hSw'
                        have q15 := hSw'
                        go_simp
                      simp only [Act.put, List.setIfInBounds_toArray, List.set_cons_zero, List.set_cons_succ]
                      refine wpAnyH_take (i := 8) (oi := ⟨some 99, _, _, _, _, _⟩) (v := (.int .i64 (j15 : Int))) rfl (by kernel_rfl) (by kernel_rfl) (by kernel_rfl) (fun _ _ _ h => h) (Or.inl ⟨by rfl, ?_⟩) hSw ?_
                      · intro w' hSw'
                        have q15 := hSw'
                        go_simp
                      simp only [Act.put, List.setIfInBounds_toArray, List.set_cons_zero, List.set_cons_succ]
                      refine wpAnyH_take (i := 9) (oi := ⟨some 100, _, _, _, _, _⟩) (v := (.pointer (some ⟨gw, j15, none⟩))) rfl (by kernel_rfl) (by kernel_rfl) (by kernel_rfl) (fun _ _ _ h => h) (Or.inl ⟨by rfl, ?_⟩) hSw ?_
                      · intro w' hSw'
                        have q15 := hSw'
                        go_simp
                      simp only [Act.put, List.setIfInBounds_toArray, List.set_cons_zero, List.set_cons_succ]
                      refine wpAnyH_take (i := 10) (oi := ⟨some 101, _, _, _, _, _⟩) (v := (.int .u32 (x15 : Int))) rfl (by kernel_rfl) (by kernel_rfl) (by kernel_rfl) (fun _ _ _ h => h) (Or.inl ⟨by rfl, ?_⟩) hSw ?_
                      · intro w' hSw'
                        have q15 := hSw'
                        go_simp
                      simp only [Act.put, List.setIfInBounds_toArray, List.set_cons_zero, List.set_cons_succ]
                      refine wpAnyH_take (i := 13) (oi := ⟨some 104, _, _, _, _, _⟩) (v := (.slice (some ⟨gw, 0, none⟩) j c)) rfl (by kernel_rfl) (by kernel_rfl) (by kernel_rfl) (fun _ _ _ h => h) (Or.inl ⟨by rfl, ?_⟩) hSw ?_
                      · intro w' hSw'
                        have q15 := hSw'
                        go_simp
                      simp only [Act.put, List.setIfInBounds_toArray, List.set_cons_zero, List.set_cons_succ]
                      refine wpAnyH_take (i := 14) (oi := ⟨some 105, _, _, _, _, _⟩) (v := (.int .i64 (j : Int))) rfl (by kernel_rfl) (by kernel_rfl) (by kernel_rfl) (fun _ _ _ h => h) (Or.inl ⟨by rfl, ?_⟩) hSw ?_
                      · intro w' hSw'
                        have q15 := hSw'
                        go_simp
                      simp only [Act.put, List.setIfInBounds_toArray, List.set_cons_zero, List.set_cons_succ]
                      refine wpAnyH_take (i := 15) (oi := ⟨some 106, _, _, _, _, _⟩) (v := (.int .i64 (j15 : Int))) rfl (by kernel_rfl) (by kernel_rfl) (by kernel_rfl) (fun _ _ _ h => h) (Or.inl ⟨by rfl, ?_⟩) hSw ?_
                      · intro w' hSw'
                        have q15 := hSw'
                        go_simp
                      simp only [Act.put, List.setIfInBounds_toArray, List.set_cons_zero, List.set_cons_succ]
                      refine wpAnyH_take (i := 16) (oi := ⟨some 107, _, _, _, _, _⟩) (v := (.pointer (some ⟨gw, j15, none⟩))) rfl (by kernel_rfl) (by kernel_rfl) (by kernel_rfl) (fun _ _ _ h => h) (Or.inl ⟨by rfl, ?_⟩) hSw ?_
                      · intro w' hSw'
                        have q15 := hSw'
                        go_simp
                      simp only [Act.put, List.setIfInBounds_toArray, List.set_cons_zero, List.set_cons_succ]
                      refine wpAnyH_take (i := 17) (oi := ⟨some 108, _, _, _, _, _⟩) (v := (.int .u32 (x15 : Int))) rfl (by kernel_rfl) (by kernel_rfl) (by kernel_rfl) (fun _ _ _ h => h) (Or.inl ⟨by rfl, ?_⟩) hSw ?_
                      · intro w' hSw'
                        have q15 := hSw'
                        go_simp
                      simp only [Act.put, List.setIfInBounds_toArray, List.set_cons_zero, List.set_cons_succ]
                      refine wpAnyH_ready (rs := [5]) (by kernel_rfl) (by simp) (AllReadyH.cons (o := ⟨some 96, _, _, _, _, _⟩) rfl (fun K hK => ?_) AllReadyH.nil)
                      go_simp
                      go_at_call 65
                      refine (T1.out _).mono ?_
                      rintro e5 w5 ⟨rfl, rfl⟩
                      dsimp only
                      refine hK.out _ _ (hSw) ?_
                      intro hSw
                      clear hK K
                      try simp only [Act.put, List.setIfInBounds_toArray, List.set_cons_zero, List.set_cons_succ]
                      refine wpAnyH_ready (rs := [11]) (by kernel_rfl) (by simp) (AllReadyH.cons (o := ⟨some 102, _, _, _, _, _⟩) rfl (fun K hK => ?_) AllReadyH.nil)
                      go_simp
                      go_at_call 65
                      refine (T2.out _).mono ?_
                      rintro e5 w5 ⟨rfl, rfl⟩
                      dsimp only
                      refine hK.out _ _ (hSw) ?_
                      intro hSw
                      clear hK K
                      try simp only [Act.put, List.setIfInBounds_toArray, List.set_cons_zero, List.set_cons_succ]
                      refine wpAnyH_take (i := 12) (oi := ⟨some 103, _, _, _, _, _⟩) (v := (.int .u32 (X1 : Int))) rfl (by kernel_rfl) (by kernel_rfl) (by kernel_rfl) (fun _ _ _ h => h) (Or.inl ⟨by rfl, ?_⟩) hSw ?_
                      · intro w' hSw'
                        have q15 := hSw'
                        go_simp
                      simp only [Act.put, List.setIfInBounds_toArray, List.set_cons_zero, List.set_cons_succ]
                      refine wpAnyH_ready (rs := [18]) (by kernel_rfl) (by simp) (AllReadyH.cons (o := ⟨some 109, _, _, _, _, _⟩) rfl (fun K hK => ?_) AllReadyH.nil)
                      go_simp
                      go_at_call 66
                      refine (T3.out _).mono ?_
                      rintro e5 w5 ⟨rfl, rfl⟩
                      dsimp only
                      refine hK.out _ _ (hSw) ?_
                      intro hSw
                      clear hK K
                      try simp only [Act.put, List.setIfInBounds_toArray, List.set_cons_zero, List.set_cons_succ]
                      refine wpAnyH_take (i := 19) (oi := ⟨some 110, _, _, _, _, _⟩) (v := (.int .u32 (S0 : Int))) rfl (by kernel_rfl) (by kernel_rfl) (by kernel_rfl) (fun _ _ _ h => h) (Or.inl ⟨by rfl, ?_⟩) hSw ?_
                      · intro w' hSw'
                        have q15 := hSw'
                        go_simp
                      simp only [Act.put, List.setIfInBounds_toArray, List.set_cons_zero, List.set_cons_succ]
                      refine wpAnyH_take (i := 20) (oi := ⟨some 14, _, _, _, _, _⟩) (v := (.int .u32 (S0 : Int))) rfl (by kernel_rfl) (by kernel_rfl) (by kernel_rfl) (fun _ _ _ h => h) (Or.inl ⟨by rfl, ?_⟩) hSw ?_
                      · intro w' hSw'
                        have q15 := hSw'
                        go_simp
                      simp only [Act.put, List.setIfInBounds_toArray, List.set_cons_zero, List.set_cons_succ]
                      refine wpAnyH_done (by kernel_rfl) ?_ _
                      as_aux_lemma =>
                        clear hSw
                        go_upto_region 31 with fail
                        refine wp_region_held_drew (S := (fun w' => w'.cell? ⟨gw, j2, none⟩ = some (.int .u32 (x2 : Int)))) (by kernel_rfl) (HC.out.2.1) ?_
                        intro hSw
                        refine wpAnyH_take (i := 0) (oi := ⟨some 111, _, _, _, _, _⟩) (v := (.slice (some ⟨gw, 0, none⟩) j c)) rfl (by kernel_rfl) (by kernel_rfl) (by kernel_rfl) (fun _ _ _ h => h) (Or.inl ⟨by rfl, ?_⟩) hSw ?_
                        · intro w' hSw'
                          have q2 := hSw'
                          go_simp
                        simp only [Act.put, List.setIfInBounds_toArray, List.set_cons_zero, List.set_cons_succ]
                        refine wpAnyH_take (i := 1) (oi := ⟨some 112, _, _, _, _, _⟩) (v := (.int .i64 (j : Int))) rfl (by kernel_rfl) (by kernel_rfl) (by kernel_rfl) (fun _ _ _ h => h) (Or.inl ⟨by rfl, ?_⟩) hSw ?_
                        · intro w' hSw'
                          have q2 := hSw'
                          go_simp
                        simp only [Act.put, List.setIfInBounds_toArray, List.set_cons_zero, List.set_cons_succ]
                        refine wpAnyH_take (i := 2) (oi := ⟨some 113, _, _, _, _, _⟩) (v := (.int .i64 (j2 : Int))) rfl (by kernel_rfl) (by kernel_rfl) (by kernel_rfl) (fun _ _ _ h => h) (Or.inl ⟨by rfl, ?_⟩) hSw ?_
                        · intro w' hSw'
                          have q2 := hSw'
                          go_simp
                        simp only [Act.put, List.setIfInBounds_toArray, List.set_cons_zero, List.set_cons_succ]
                        refine wpAnyH_take (i := 3) (oi := ⟨some 114, _, _, _, _, _⟩) (v := (.pointer (some ⟨gw, j2, none⟩))) rfl (by kernel_rfl) (by kernel_rfl) (by kernel_rfl) (fun _ _ _ h => h) (Or.inl ⟨by rfl, ?_⟩) hSw ?_
                        · intro w' hSw'
                          have q2 := hSw'
                          go_simp
                        simp only [Act.put, List.setIfInBounds_toArray, List.set_cons_zero, List.set_cons_succ]
                        refine wpAnyH_take (i := 4) (oi := ⟨some 115, _, _, _, _, _⟩) (v := (.int .u32 (x2 : Int))) rfl (by kernel_rfl) (by kernel_rfl) (by kernel_rfl) (fun _ _ _ h => h) (Or.inl ⟨by rfl, ?_⟩) hSw ?_
                        · intro w' hSw'
                          have q2 := hSw'
                          go_simp
                        simp only [Act.put, List.setIfInBounds_toArray, List.set_cons_zero, List.set_cons_succ]
                        refine wpAnyH_take (i := 6) (oi := ⟨some 117, _, _, _, _, _⟩) (v := (.slice (some ⟨gw, 0, none⟩) j c)) rfl (by kernel_rfl) (by kernel_rfl) (by kernel_rfl) (fun _ _ _ h => h) (Or.inl ⟨by rfl, ?_⟩) hSw ?_
                        · intro w' hSw'
                          have q2 := hSw'
                          go_simp
                        simp only [Act.put, List.setIfInBounds_toArray, List.set_cons_zero, List.set_cons_succ]
                        refine wpAnyH_take (i := 7) (oi := ⟨some 118, _, _, _, _, _⟩) (v := (.int .i64 (j : Int))) rfl (by kernel_rfl) (by kernel_rfl) (by kernel_rfl) (fun _ _ _ h => h) (Or.inl ⟨by rfl, ?_⟩) hSw ?_
                        · intro w' hSw'
                          have q2 := hSw'
                          go_simp
                        simp only [Act.put, List.setIfInBounds_toArray, List.set_cons_zero, List.set_cons_succ]
                        refine wpAnyH_take (i := 8) (oi := ⟨some 119, _, _, _, _, _⟩) (v := (.int .i64 (j2 : Int))) rfl (by kernel_rfl) (by kernel_rfl) (by kernel_rfl) (fun _ _ _ h => h) (Or.inl ⟨by rfl, ?_⟩) hSw ?_
                        · intro w' hSw'
                          have q2 := hSw'
                          go_simp
                        simp only [Act.put, List.setIfInBounds_toArray, List.set_cons_zero, List.set_cons_succ]
                        refine wpAnyH_take (i := 9) (oi := ⟨some 120, _, _, _, _, _⟩) (v := (.pointer (some ⟨gw, j2, none⟩))) rfl (by kernel_rfl) (by kernel_rfl) (by kernel_rfl) (fun _ _ _ h => h) (Or.inl ⟨by rfl, ?_⟩) hSw ?_
                        · intro w' hSw'
                          have q2 := hSw'
                          go_simp
                        simp only [Act.put, List.setIfInBounds_toArray, List.set_cons_zero, List.set_cons_succ]
                        refine wpAnyH_take (i := 10) (oi := ⟨some 121, _, _, _, _, _⟩) (v := (.int .u32 (x2 : Int))) rfl (by kernel_rfl) (by kernel_rfl) (by kernel_rfl) (fun _ _ _ h => h) (Or.inl ⟨by rfl, ?_⟩) hSw ?_
                        · intro w' hSw'
                          have q2 := hSw'
                          go_simp
                        simp only [Act.put, List.setIfInBounds_toArray, List.set_cons_zero, List.set_cons_succ]
                        refine wpAnyH_take (i := 13) (oi := ⟨some 124, _, _, _, _, _⟩) (v := (.slice (some ⟨gw, 0, none⟩) j c)) rfl (by kernel_rfl) (by kernel_rfl) (by kernel_rfl) (fun _ _ _ h => h) (Or.inl ⟨by rfl, ?_⟩) hSw ?_
                        · intro w' hSw'
                          have q2 := hSw'
                          go_simp
                        simp only [Act.put, List.setIfInBounds_toArray, List.set_cons_zero, List.set_cons_succ]
                        refine wpAnyH_take (i := 14) (oi := ⟨some 125, _, _, _, _, _⟩) (v := (.int .i64 (j : Int))) rfl (by kernel_rfl) (by kernel_rfl) (by kernel_rfl) (fun _ _ _ h => h) (Or.inl ⟨by rfl, ?_⟩) hSw ?_
                        · intro w' hSw'
                          have q2 := hSw'
                          go_simp
                        simp only [Act.put, List.setIfInBounds_toArray, List.set_cons_zero, List.set_cons_succ]
                        refine wpAnyH_take (i := 15) (oi := ⟨some 126, _, _, _, _, _⟩) (v := (.int .i64 (j2 : Int))) rfl (by kernel_rfl) (by kernel_rfl) (by kernel_rfl) (fun _ _ _ h => h) (Or.inl ⟨by rfl, ?_⟩) hSw ?_
                        · intro w' hSw'
                          have q2 := hSw'
                          go_simp
                        simp only [Act.put, List.setIfInBounds_toArray, List.set_cons_zero, List.set_cons_succ]
                        refine wpAnyH_take (i := 16) (oi := ⟨some 127, _, _, _, _, _⟩) (v := (.pointer (some ⟨gw, j2, none⟩))) rfl (by kernel_rfl) (by kernel_rfl) (by kernel_rfl) (fun _ _ _ h => h) (Or.inl ⟨by rfl, ?_⟩) hSw ?_
                        · intro w' hSw'
                          have q2 := hSw'
                          go_simp
                        simp only [Act.put, List.setIfInBounds_toArray, List.set_cons_zero, List.set_cons_succ]
                        refine wpAnyH_take (i := 17) (oi := ⟨some 128, _, _, _, _, _⟩) (v := (.int .u32 (x2 : Int))) rfl (by kernel_rfl) (by kernel_rfl) (by kernel_rfl) (fun _ _ _ h => h) (Or.inl ⟨by rfl, ?_⟩) hSw ?_
                        · intro w' hSw'
                          have q2 := hSw'
                          go_simp
                        simp only [Act.put, List.setIfInBounds_toArray, List.set_cons_zero, List.set_cons_succ]
                        refine wpAnyH_ready (rs := [5]) (by kernel_rfl) (by simp) (AllReadyH.cons (o := ⟨some 116, _, _, _, _, _⟩) rfl (fun K hK => ?_) AllReadyH.nil)
                        go_simp
                        go_at_call 65
                        refine (T4.out _).mono ?_
                        rintro e5 w5 ⟨rfl, rfl⟩
                        dsimp only
                        refine hK.out _ _ (hSw) ?_
                        intro hSw
                        clear hK K
                        try simp only [Act.put, List.setIfInBounds_toArray, List.set_cons_zero, List.set_cons_succ]
                        refine wpAnyH_ready (rs := [11]) (by kernel_rfl) (by simp) (AllReadyH.cons (o := ⟨some 122, _, _, _, _, _⟩) rfl (fun K hK => ?_) AllReadyH.nil)
                        go_simp
                        go_at_call 65
                        refine (T5.out _).mono ?_
                        rintro e5 w5 ⟨rfl, rfl⟩
                        dsimp only
                        refine hK.out _ _ (hSw) ?_
                        intro hSw
                        clear hK K
                        try simp only [Act.put, List.setIfInBounds_toArray, List.set_cons_zero, List.set_cons_succ]
                        refine wpAnyH_take (i := 12) (oi := ⟨some 123, _, _, _, _, _⟩) (v := (.int .u32 (X2 : Int))) rfl (by kernel_rfl) (by kernel_rfl) (by kernel_rfl) (fun _ _ _ h => h) (Or.inl ⟨by rfl, ?_⟩) hSw ?_
                        · intro w' hSw'
                          have q2 := hSw'
                          go_simp
                        simp only [Act.put, List.setIfInBounds_toArray, List.set_cons_zero, List.set_cons_succ]
                        refine wpAnyH_ready (rs := [18]) (by kernel_rfl) (by simp) (AllReadyH.cons (o := ⟨some 129, _, _, _, _, _⟩) rfl (fun K hK => ?_) AllReadyH.nil)
                        go_simp
                        go_at_call 66
                        refine (T6.out _).mono ?_
                        rintro e5 w5 ⟨rfl, rfl⟩
                        dsimp only
                        refine hK.out _ _ (hSw) ?_
                        intro hSw
                        clear hK K
                        try simp only [Act.put, List.setIfInBounds_toArray, List.set_cons_zero, List.set_cons_succ]
                        refine wpAnyH_take (i := 19) (oi := ⟨some 130, _, _, _, _, _⟩) (v := (.int .u32 (S1 : Int))) rfl (by kernel_rfl) (by kernel_rfl) (by kernel_rfl) (fun _ _ _ h => h) (Or.inl ⟨by rfl, ?_⟩) hSw ?_
                        · intro w' hSw'
                          have q2 := hSw'
                          go_simp
                        simp only [Act.put, List.setIfInBounds_toArray, List.set_cons_zero, List.set_cons_succ]
                        refine wpAnyH_take (i := 20) (oi := ⟨some 15, _, _, _, _, _⟩) (v := (.int .u32 (S1 : Int))) rfl (by kernel_rfl) (by kernel_rfl) (by kernel_rfl) (fun _ _ _ h => h) (Or.inl ⟨by rfl, ?_⟩) hSw ?_
                        · intro w' hSw'
                          have q2 := hSw'
                          go_simp
                        simp only [Act.put, List.setIfInBounds_toArray, List.set_cons_zero, List.set_cons_succ]
                        refine wpAnyH_done (by kernel_rfl) ?_ _
                        as_aux_lemma =>
                          clear e1 e2 e3 e4 hSw
                          go_upto_region 32 with fail
                          have hO2 : OwnU (World.drew (World.drew wr)) (ph + 1) (some ⟨gw, 0, none⟩) j c (sched Bk j) := HO.out.only ((Only.refl (fun _ => False) wr).drew.drew) (fun _ _ _ h => h)
                          have hR2 : Rs w (World.drew (World.drew wr)) p2 pk ph (shaN P i) := HR.out.drew.drew
                          generalize World.drew (World.drew wr) = W2 at hO2 hR2 ⊢
                          have HO3 := Lib.hid (hO2.only ((Only.refl (fun _ => False) W2).drew) (fun _ _ _ h => h))
                          obtain ⟨_, _, hrow⟩ := HO3.out.row (by have := HJ.out; omega)
                          have q16 := row_us0 hrow (i := j16) (by rw [sched_len]; exact l16)
                          have q7 := row_us0 hrow (i := j7) (by rw [sched_len]; exact l7)
                          rw [HX16.out] at q16
                          rw [HX7.out] at q7
                          clear hrow hO2
                          refine wp_region_held_drew (S := (fun w' => Rs w w' p2 pk ph (shaN P i))) (by kernel_rfl) (hR2.drew) ?_
                          intro hSw
                          refine wpAnyH_take (i := 0) (oi := ⟨some 131, _, _, _, _, _⟩) (v := (.slice (some ⟨gw, 0, none⟩) j c)) rfl (by kernel_rfl) (by kernel_rfl) (by kernel_rfl) (fun _ _ _ h => h) (Or.inl ⟨by rfl, ?_⟩) hSw ?_
                          · intro w' hSw'
                            go_simp
                          simp only [Act.put, List.setIfInBounds_toArray, List.set_cons_zero, List.set_cons_succ]
                          refine wpAnyH_take (i := 1) (oi := ⟨some 132, _, _, _, _, _⟩) (v := (.slice (some ⟨gw, 0, none⟩) j c)) rfl (by kernel_rfl) (by kernel_rfl) (by kernel_rfl) (fun _ _ _ h => h) (Or.inl ⟨by rfl, ?_⟩) hSw ?_
                          · intro w' hSw'
                            go_simp
                          simp only [Act.put, List.setIfInBounds_toArray, List.set_cons_zero, List.set_cons_succ]
                          refine wpAnyH_take (i := 2) (oi := ⟨some 133, _, _, _, _, _⟩) (v := (.int .i64 (j : Int))) rfl (by kernel_rfl) (by kernel_rfl) (by kernel_rfl) (fun _ _ _ h => h) (Or.inl ⟨by rfl, ?_⟩) hSw ?_
                          · intro w' hSw'
                            go_simp
                          simp only [Act.put, List.setIfInBounds_toArray, List.set_cons_zero, List.set_cons_succ]
                          refine wpAnyH_take (i := 3) (oi := ⟨some 134, _, _, _, _, _⟩) (v := (.int .i64 (j16 : Int))) rfl (by kernel_rfl) (by kernel_rfl) (by kernel_rfl) (fun _ _ _ h => h) (Or.inl ⟨by rfl, ?_⟩) hSw ?_
                          · intro w' hSw'
                            go_simp
                          simp only [Act.put, List.setIfInBounds_toArray, List.set_cons_zero, List.set_cons_succ]
                          refine wpAnyH_take (i := 4) (oi := ⟨some 135, _, _, _, _, _⟩) (v := (.pointer (some ⟨gw, j16, none⟩))) rfl (by kernel_rfl) (by kernel_rfl) (by kernel_rfl) (fun _ _ _ h => h) (Or.inl ⟨by rfl, ?_⟩) hSw ?_
                          · intro w' hSw'
                            go_simp
                          simp only [Act.put, List.setIfInBounds_toArray, List.set_cons_zero, List.set_cons_succ]
                          refine wpAnyH_take (i := 6) (oi := ⟨some 137, _, _, _, _, _⟩) (v := (.int .u32 (S0 : Int))) rfl (by kernel_rfl) (by kernel_rfl) (by kernel_rfl) (fun _ _ _ h => h) (Or.inl ⟨by rfl, ?_⟩) hSw ?_
                          · intro w' hSw'
                            go_simp
                          simp only [Act.put, List.setIfInBounds_toArray, List.set_cons_zero, List.set_cons_succ]
                          refine wpAnyH_take (i := 8) (oi := ⟨some 139, _, _, _, _, _⟩) (v := (.slice (some ⟨gw, 0, none⟩) j c)) rfl (by kernel_rfl) (by kernel_rfl) (by kernel_rfl) (fun _ _ _ h => h) (Or.inl ⟨by rfl, ?_⟩) hSw ?_
                          · intro w' hSw'
                            go_simp
                          simp only [Act.put, List.setIfInBounds_toArray, List.set_cons_zero, List.set_cons_succ]
                          refine wpAnyH_take (i := 9) (oi := ⟨some 140, _, _, _, _, _⟩) (v := (.int .i64 (j : Int))) rfl (by kernel_rfl) (by kernel_rfl) (by kernel_rfl) (fun _ _ _ h => h) (Or.inl ⟨by rfl, ?_⟩) hSw ?_
                          · intro w' hSw'
                            go_simp
                          simp only [Act.put, List.setIfInBounds_toArray, List.set_cons_zero, List.set_cons_succ]
                          refine wpAnyH_take (i := 10) (oi := ⟨some 141, _, _, _, _, _⟩) (v := (.int .i64 (j7 : Int))) rfl (by kernel_rfl) (by kernel_rfl) (by kernel_rfl) (fun _ _ _ h => h) (Or.inl ⟨by rfl, ?_⟩) hSw ?_
                          · intro w' hSw'
                            go_simp
                          simp only [Act.put, List.setIfInBounds_toArray, List.set_cons_zero, List.set_cons_succ]
                          refine wpAnyH_take (i := 11) (oi := ⟨some 142, _, _, _, _, _⟩) (v := (.pointer (some ⟨gw, j7, none⟩))) rfl (by kernel_rfl) (by kernel_rfl) (by kernel_rfl) (fun _ _ _ h => h) (Or.inl ⟨by rfl, ?_⟩) hSw ?_
                          · intro w' hSw'
                            go_simp
                          simp only [Act.put, List.setIfInBounds_toArray, List.set_cons_zero, List.set_cons_succ]
                          refine wpAnyH_take (i := 14) (oi := ⟨some 145, _, _, _, _, _⟩) (v := (.int .u32 (S1 : Int))) rfl (by kernel_rfl) (by kernel_rfl) (by kernel_rfl) (fun _ _ _ h => h) (Or.inl ⟨by rfl, ?_⟩) hSw ?_
                          · intro w' hSw'
                            go_simp
                          simp only [Act.put, List.setIfInBounds_toArray, List.set_cons_zero, List.set_cons_succ]
                          refine wpAnyH_ready (rs := [5, 12]) (by kernel_rfl) (by simp) (AllReadyH.cons (o := ⟨some 136, _, _, _, _, _⟩) rfl (fun K hK => ?_) (AllReadyH.cons (o := ⟨some 143, _, _, _, _, _⟩) rfl (fun K hK => ?_) AllReadyH.nil))
                          · skip
                            go_simp
                            refine hK.out _ _ (hSw) ?_
                            intro hSw
                            clear hK K
                            try simp only [Act.put, List.setIfInBounds_toArray, List.set_cons_zero, List.set_cons_succ]
                            refine wpAnyH_take (i := 7) (oi := ⟨some 138, _, _, _, _, _⟩) (v := (.int .u32 (A1 : Int))) rfl (by kernel_rfl) (by kernel_rfl) (by kernel_rfl) (fun _ _ _ h => h) (Or.inl ⟨by rfl, ?_⟩) hSw ?_
                            · intro w' hSw'
                              go_simp
                            simp only [Act.put, List.setIfInBounds_toArray, List.set_cons_zero, List.set_cons_succ]
                            refine wpAnyH_ready (rs := [12]) (by kernel_rfl) (by simp) (AllReadyH.cons (o := ⟨some 143, _, _, _, _, _⟩) rfl (fun K hK => ?_) AllReadyH.nil)
                            go_simp
                            refine hK.out _ _ (hSw) ?_
                            intro hSw
                            clear hK K
                            try simp only [Act.put, List.setIfInBounds_toArray, List.set_cons_zero, List.set_cons_succ]
                            refine wpAnyH_take (i := 13) (oi := ⟨some 144, _, _, _, _, _⟩) (v := (.int .u32 (A2 : Int))) rfl (by kernel_rfl) (by kernel_rfl) (by kernel_rfl) (fun _ _ _ h => h) (Or.inl ⟨by rfl, ?_⟩) hSw ?_
                            · intro w' hSw'
                              go_simp
                            simp only [Act.put, List.setIfInBounds_toArray, List.set_cons_zero, List.set_cons_succ]
                            refine wpAnyH_take (i := 15) (oi := ⟨some 146, _, _, _, _, _⟩) (v := (.int .u32 (A3 : Int))) rfl (by kernel_rfl) (by kernel_rfl) (by kernel_rfl) (fun _ _ _ h => h) (Or.inl ⟨by rfl, ?_⟩) hSw ?_
                            · intro w' hSw'
                              go_simp
                            simp only [Act.put, List.setIfInBounds_toArray, List.set_cons_zero, List.set_cons_succ]
                            refine wpAnyH_ready (rs := [16]) (by kernel_rfl) (by simp) (AllReadyH.cons (o := ⟨some 147, _, _, _, _, _⟩) rfl (fun K hK => ?_) AllReadyH.nil)
                            clear q16 q7
                            refine step_newu (by rfl) (.cells #[.int .u32 (A3 : Int)] 35) (fun N => .slice (some ⟨N, 0, none⟩) 1 1) (by show _ = _; kernel_rfl) ?_
                            intro N5 w5 hN5 hw5 hb5
                            have HS5 := Lib.hid (show Sl w5 (fun b => b = N5) 1 (some ⟨N5, 0, none⟩) 1 [.int .u32 (A3 : Int)] by rw [hN5, hw5]; exact Sl.one_new _ _ _)
                            have HO5 := Lib.hid (HO3.out.only (Only.of_below hb5) (fun k hk hk2 e => by omega))
                            clear hN5 hw5
                            refine hK.out _ _ (hSw.new hb5) ?_
                            intro hSw
                            clear hK K
                            try simp only [Act.put, List.setIfInBounds_toArray, List.set_cons_zero, List.set_cons_succ]
                            refine wpAnyH_ready (rs := [17]) (by kernel_rfl) (by simp) (AllReadyH.cons (o := ⟨some 148, _, _, _, _, _⟩) rfl (fun K hK => ?_) AllReadyH.nil)
                            have hjb : j ≤ 64 := by have := HJ.out; omega
                            refine step_app rfl (.tmp 131) (.tmp 147) 115 rfl (ph + 1) 35 _ 1 4 Try.underlying115 infoU32 rfl (by decide) (some ⟨gw, 0, none⟩) j c rfl (some ⟨N5, 0, none⟩) 1 1 rfl (us (sched Bk j)) HO5.out.1 (fun b => b = N5) _ HS5.out (by intro u hu; simp at hu; subst hu; rfl) (by unfold maxLen; omega) (by omega) (by have := hSw.bh.lt; omega) ?_
                            intro A7 c7 w7 hown7 ho7 hat7
                            have HR7 := hSw.only ho7 (fun b hb e => by have := own_ge HO5.out.1 e; omega)
                            have HO7 := Lib.hid (show OwnU w7 (ph + 1) A7 (j + 1) c7 (sched Bk (j + 1)) from ⟨by rw [sched, ← HNX.out, us_append]; exact hown7, sched_len _ _⟩)
                            clear hown7 ho7 hat7 HS5 hjb
                            refine hK.out _ _ (HR7) ?_
                            intro hSw
                            clear hK K
                            try simp only [Act.put, List.setIfInBounds_toArray, List.set_cons_zero, List.set_cons_succ]
                            refine wpAnyH_take (i := 18) (oi := ⟨some 9, _, _, _, _, _⟩) (v := (.slice A7 (j + 1) c7)) rfl (by kernel_rfl) (by kernel_rfl) (by kernel_rfl) (fun _ _ _ h => h) (Or.inl ⟨by rfl, ?_⟩) hSw ?_
                            · intro w' hSw'
                              go_simp
                            simp only [Act.put, List.setIfInBounds_toArray, List.set_cons_zero, List.set_cons_succ]
                            refine wpAnyH_done (by kernel_rfl) ?_ _
                            as_aux_lemma =>
                              have HR7 := Lib.hid hSw
                              clear hSw
                              have hj := HJ.out
                              have hlt := HLT.out
                              go_wp2
                              go_roundg (64 - 1 - j)
                              case measure => omega
                              case rel => exact ⟨j + 1, c7, A7, by omega, by omega, rfl, by go_num, HO7, HR7⟩
                          · skip
                            go_simp
                            refine hK.out _ _ (hSw) ?_
                            intro hSw
                            clear hK K
                            try simp only [Act.put, List.setIfInBounds_toArray, List.set_cons_zero, List.set_cons_succ]
                            refine wpAnyH_ready (rs := [5]) (by kernel_rfl) (by simp) (AllReadyH.cons (o := ⟨some 136, _, _, _, _, _⟩) rfl (fun K hK => ?_) AllReadyH.nil)
                            go_simp
                            refine hK.out _ _ (hSw) ?_
                            intro hSw
                            clear hK K
                            try simp only [Act.put, List.setIfInBounds_toArray, List.set_cons_zero, List.set_cons_succ]
                            refine wpAnyH_take (i := 7) (oi := ⟨some 138, _, _, _, _, _⟩) (v := (.int .u32 (A1 : Int))) rfl (by kernel_rfl) (by kernel_rfl) (by kernel_rfl) (fun _ _ _ h => h) (Or.inl ⟨by rfl, ?_⟩) hSw ?_
                            · intro w' hSw'
                              go_simp
                            simp only [Act.put, List.setIfInBounds_toArray, List.set_cons_zero, List.set_cons_succ]
                            refine wpAnyH_take (i := 13) (oi := ⟨some 144, _, _, _, _, _⟩) (v := (.int .u32 (A2 : Int))) rfl (by kernel_rfl) (by kernel_rfl) (by kernel_rfl) (fun _ _ _ h => h) (Or.inl ⟨by rfl, ?_⟩) hSw ?_
                            · intro w' hSw'
                              go_simp
                            simp only [Act.put, List.setIfInBounds_toArray, List.set_cons_zero, List.set_cons_succ]
                            refine wpAnyH_take (i := 15) (oi := ⟨some 146, _, _, _, _, _⟩) (v := (.int .u32 (A3 : Int))) rfl (by kernel_rfl) (by kernel_rfl) (by kernel_rfl) (fun _ _ _ h => h) (Or.inl ⟨by rfl, ?_⟩) hSw ?_
                            · intro w' hSw'
                              go_simp
                            simp only [Act.put, List.setIfInBounds_toArray, List.set_cons_zero, List.set_cons_succ]
                            refine wpAnyH_ready (rs := [16]) (by kernel_rfl) (by simp) (AllReadyH.cons (o := ⟨some 147, _, _, _, _, _⟩) rfl (fun K hK => ?_) AllReadyH.nil)
                            clear q16 q7
                            refine step_newu (by rfl) (.cells #[.int .u32 (A3 : Int)] 35) (fun N => .slice (some ⟨N, 0, none⟩) 1 1) (by show _ = _; kernel_rfl) ?_
                            intro N5 w5 hN5 hw5 hb5
                            have HS5 := Lib.hid (show Sl w5 (fun b => b = N5) 1 (some ⟨N5, 0, none⟩) 1 [.int .u32 (A3 : Int)] by rw [hN5, hw5]; exact Sl.one_new _ _ _)
                            have HO5 := Lib.hid (HO3.out.only (Only.of_below hb5) (fun k hk hk2 e => by omega))
                            clear hN5 hw5
                            refine hK.out _ _ (hSw.new hb5) ?_
                            intro hSw
                            clear hK K
                            try simp only [Act.put, List.setIfInBounds_toArray, List.set_cons_zero, List.set_cons_succ]
                            refine wpAnyH_ready (rs := [17]) (by kernel_rfl) (by simp) (AllReadyH.cons (o := ⟨some 148, _, _, _, _, _⟩) rfl (fun K hK => ?_) AllReadyH.nil)
                            have hjb : j ≤ 64 := by have := HJ.out; omega
                            refine step_app rfl (.tmp 131) (.tmp 147) 115 rfl (ph + 1) 35 _ 1 4 Try.underlying115 infoU32 rfl (by decide) (some ⟨gw, 0, none⟩) j c rfl (some ⟨N5, 0, none⟩) 1 1 rfl (us (sched Bk j)) HO5.out.1 (fun b => b = N5) _ HS5.out (by intro u hu; simp at hu; subst hu; rfl) (by unfold maxLen; omega) (by omega) (by have := hSw.bh.lt; omega) ?_
                            intro A7 c7 w7 hown7 ho7 hat7
                            have HR7 := hSw.only ho7 (fun b hb e => by have := own_ge HO5.out.1 e; omega)
                            have HO7 := Lib.hid (show OwnU w7 (ph + 1) A7 (j + 1) c7 (sched Bk (j + 1)) from ⟨by rw [sched, ← HNX.out, us_append]; exact hown7, sched_len _ _⟩)
                            clear hown7 ho7 hat7 HS5 hjb
                            refine hK.out _ _ (HR7) ?_
                            intro hSw
                            clear hK K
                            try simp only [Act.put, List.setIfInBounds_toArray, List.set_cons_zero, List.set_cons_succ]
                            refine wpAnyH_take (i := 18) (oi := ⟨some 9, _, _, _, _, _⟩) (v := (.slice A7 (j + 1) c7)) rfl (by kernel_rfl) (by kernel_rfl) (by kernel_rfl) (fun _ _ _ h => h) (Or.inl ⟨by rfl, ?_⟩) hSw ?_
                            · intro w' hSw'
                              go_simp
                            simp only [Act.put, List.setIfInBounds_toArray, List.set_cons_zero, List.set_cons_succ]
                            refine wpAnyH_done (by kernel_rfl) ?_ _
                            as_aux_lemma =>
                              have HR7 := Lib.hid hSw
                              clear hSw
                              have hj := HJ.out
                              have hlt := HLT.out
                              go_wp2
                              go_roundg (64 - 1 - j)
                              case measure => omega
                              case rel => exact ⟨j + 1, c7, A7, by omega, by omega, rfl, by go_num, HO7, HR7⟩
                    · obtain rfl : j = 64 := by omega
                      obtain ⟨gw, rfl, hgw1, hgw2, hrow⟩ := HO.out.addr (by omega)
                      clear hj hj16 hlt64 hgw2 hrow hgw1
                      obtain ⟨H, hH⟩ : ∃ H, shaN P i = H := ⟨_, rfl⟩
                      have hH8 : H.length = 8 := by rw [← hH]; exact shaN_len _ _
                      have hHlt : ∀ x ∈ H, x < 4294967296 := by rw [← hH]; exact shaN_lt _ _
                      rw [hH] at HR
                      obtain ⟨ws, hws⟩ : ∃ ws, sched Bk 64 = ws := ⟨_, rfl⟩
                      have hwl : ws.length = 64 := by rw [← hws]; exact sched_len _ _
                      rw [hws] at HO
                      have HH := Lib.hid hH
                      have HH8 := Lib.hid hH8
                      have HHL := Lib.hid hHlt
                      have HWS := Lib.hid hws
                      have HWL := Lib.hid hwl
                      have hsl : Sl (wr.alloc (.cells #[] 35)) (fun b => b = ph) 1 (some ⟨ph, 0, none⟩) 8 (us H) := ⟨by rw [us_length, hH8], fun _ => ⟨ph, 0, rfl, rfl, (HR.out.bh.alloc _).rowAll⟩⟩
                      clear hH hH8 hHlt hws hwl
                      go_wp2_with (at_builtin; refine wpList_app _ rfl (.tmp 149) (.tmp 150) 115 rfl wr.heap.size 35 _ 1 4 Try.underlying115 infoU32 rfl (by decide) (some ⟨wr.heap.size, 0, none⟩) 0 0 rfl (some ⟨ph, 0, none⟩) 8 8 rfl [] (World.ownsRow_lit wr #[] 0 (Nat.le_refl _) (by decide) rfl) (fun b => b = ph) (us H) hsl (us_one _) (by unfold maxLen; omega) (by omega) ?hb33 ?next33)
                      case hb33 => simp
                      case next33 =>
                        intro C8 c8 w8 hown8 ho8 hat8
                        have hY8 : Below wr.heap.size wr w8 := (((Only.refl (fun b => wr.heap.size ≤ b) wr).alloc _).trans ho8 (fun b hb e => by simp [Value.ownBlock] at e; omega)).below (Nat.le_refl _) (fun b hb h => by omega)
                        have hphl := HR.out.bh.lt
                        replace HR := Lib.hid (HR.out.new hY8)
                        replace HO := Lib.hid (HO.out.only (Only.of_below hY8) (fun k h1 h2 h3 => by omega))
                        have ho9 : OwnU w8 wr.heap.size C8 8 c8 H := ⟨by simpa using hown8, HH8.out⟩
                        obtain ⟨g, rfl, hg1, hg2, hrow⟩ := ho9.addr (by omega)
                        have HG := Lib.hid (show ph < g by omega)
                        have HRW := Lib.hid (show RowAt w8 g 0 (us (rnds H ws 0)) from hrow)
                        clear hown8 ho8 hat8 hY8 hphl ho9 hg1 hg2 hrow hsl
                        go_wp2_with fail
                        go_loopg [16, 17] 64 (fun k v16 v17 wr => ∃ (j g c8 : Nat), j + k = 64 ∧ v16 = .slice (some ⟨g, 0, none⟩) 8 c8 ∧ v17 = .int .i64 j ∧ Hid (RowAt wr g 0 (us (rnds H ws j))) ∧ Hid (ph < g) ∧ Hid (OwnU wr (ph + 1) (some ⟨gw, 0, none⟩) 64 c ws) ∧ Hid (Rs w wr p2 pk ph H))
                        case atStart => exact ⟨0, g, c8, by omega, by first | rfl | simp, rfl, HRW, HG, HO, HR⟩
                        case round =>
                          clear HRW HG HO HR
                          obtain ⟨j, g, c8, hj, rfl, rfl, HRW, HG, HO, HR⟩ := hrel
                          by_cases hlt64 : j < 64
                          · as_aux_lemma =>
                            have dl : decide ((j : Int) < 64) = true := by simp; omega
                            have hr8 : (rnds H ws j).length = 8 := rnds_len H ws j HH8.out
                            have hrl := rnds_lt H ws j HHL.out
                            obtain ⟨vl, hvl⟩ : ∃ vl, rnds H ws j = vl := ⟨_, rfl⟩
                            rw [hvl] at hr8 hrl HRW
                            obtain ⟨va, vb, vc, vd, ve, vf, vg, vh, rfl⟩ := len8 vl hr8
                            obtain ⟨_, _, hrow⟩ := HO.out.row (by omega)
                            have pw := row_us0 hrow (i := j) (by rw [HWL.out]; exact hlt64)
                            have pk1 := row_us0 HR.out.bk.rowAll (i := j) (by simp [kL]; exact hlt64)
                            rw [kL_get j hlt64] at pk1
                            obtain ⟨W1, hW1⟩ : ∃ x, ws.getD j 0 = x := ⟨_, rfl⟩
                            obtain ⟨K1, hK1⟩ : ∃ x, kS j = x := ⟨_, rfl⟩
                            rw [hW1] at pw
                            rw [hK1] at pk1
                            have la : va < 4294967296 := hrl va (by simp)
                            have lb : vb < 4294967296 := hrl vb (by simp)
                            have lc : vc < 4294967296 := hrl vc (by simp)
                            have le : ve < 4294967296 := hrl ve (by simp)
                            have lf : vf < 4294967296 := hrl vf (by simp)
                            have lg : vg < 4294967296 := hrl vg (by simp)
                            have T1 := Lib.hid (fun W => turn_any ve 6 W le (by omega))
                            have T2 := Lib.hid (fun W => turn_any ve 11 W le (by omega))
                            have T3 := Lib.hid (fun W => turn_any ve 25 W le (by omega))
                            have T4 := Lib.hid (fun W => turn_any va 2 W la (by omega))
                            have T5 := Lib.hid (fun W => turn_any va 13 W la (by omega))
                            have T6 := Lib.hid (fun W => turn_any va 22 W la (by omega))
                            obtain ⟨X1, S1, hS1, e1, e2⟩ := xor3_steps (rot ve 6) (rot ve 11) (rot ve 25) (rot_lt _ _ le (by omega)) (rot_lt _ _ le (by omega)) (rot_lt _ _ le (by omega))
                            obtain ⟨X2, S0, hS0, e3, e4⟩ := xor3_steps (rot va 2) (rot va 13) (rot va 22) (rot_lt _ _ la (by omega)) (rot_lt _ _ la (by omega)) (rot_lt _ _ la (by omega))
                            obtain ⟨A1, A2, A3, A4, A5, A6, A7, T, hT, f1, f2, f3, f4, f5, f6, f7, f8⟩ := t1r_steps vh S1 ve vf vg K1 W1 le lf lg
                            obtain ⟨B1, B2, B3, B4, B5, U, hU, g1, g2, g3, g4, g5, g6⟩ := t2_steps S0 va vb vc la lb lc
                            obtain ⟨N0, N4, hN0, hN4, n1, n2⟩ := vn_steps T U vd
                            have HNX := Lib.hid (show rnds H ws (j + 1) = [N0, va, vb, vc, N4, ve, vf, vg] by
                              rw [rnds, hvl, hW1, hK1, rnd, hN0.out, hN4.out, hU.out, hT.out, hS0.out, hS1.out]
                              have z1 : ∀ a b c : Nat, (a + b + c) % 4294967296 = (a + (b + c) % 4294967296) % 4294967296 := fun a b c => by omega
                              rw [z1]; rfl)
                            obtain ⟨r1, hr1⟩ : ∃ r, rot ve 6 = r := ⟨_, rfl⟩
                            obtain ⟨r2, hr2⟩ : ∃ r, rot ve 11 = r := ⟨_, rfl⟩
                            obtain ⟨r3, hr3⟩ : ∃ r, rot ve 25 = r := ⟨_, rfl⟩
                            obtain ⟨r4, hr4⟩ : ∃ r, rot va 2 = r := ⟨_, rfl⟩
                            obtain ⟨r5, hr5⟩ : ∃ r, rot va 13 = r := ⟨_, rfl⟩
                            obtain ⟨r6, hr6⟩ : ∃ r, rot va 22 = r := ⟨_, rfl⟩
                            rw [hr1] at T1 e1; rw [hr2] at T2 e1; rw [hr3] at T3 e2; rw [hr4] at T4 e3; rw [hr5] at T5 e3; rw [hr6] at T6 e4
                            have j0 : (0 : Int) ≤ (j : Int) := by omega
                            have j64 : (j : Int) < 64 := by omega
                            have HJ := Lib.hid hj
                            have HPW := Lib.hid (And.intro pw pk1)
                            clear hr8 hrl hvl hrow hW1 hK1 la lb lc le lf lg hS1 hS0 hT hU hN0 hN4 hr1 hr2 hr3 hr4 hr5 hr6 hj pw pk1
                            go_upto_region 37 with fail
                            refine wp_region_held_drew (S := (fun w' => RowAt w' g 0 (us [va, vb, vc, vd, ve, vf, vg, vh]) ∧ Only (fun _ => False) wr w')) (by kernel_rfl) (⟨HRW.out, (Only.refl _ _).drew⟩) ?_
                            intro hSw
                            refine wpAnyH_take (i := 0) (oi := ⟨some 156, _, _, _, _, _⟩) (v := (.slice (some ⟨g, 0, none⟩) 8 c8)) rfl (by kernel_rfl) (by kernel_rfl) (by kernel_rfl) (fun _ _ _ h => h) (Or.inl ⟨by rfl, ?_⟩) hSw ?_
                            · intro w' hSw'
                              obtain ⟨p0, p1, p2', p3, p4, p5, p6, p7⟩ := row_eight hSw'.1
                              go_simp
                            simp only [Act.put, List.setIfInBounds_toArray, List.set_cons_zero, List.set_cons_succ]
                            refine wpAnyH_take (i := 1) (oi := ⟨some 157, _, _, _, _, _⟩) (v := (.pointer (some ⟨g, 4, none⟩))) rfl (by kernel_rfl) (by kernel_rfl) (by kernel_rfl) (fun _ _ _ h => h) (Or.inl ⟨by rfl, ?_⟩) hSw ?_
                            · intro w' hSw'
                              obtain ⟨p0, p1, p2', p3, p4, p5, p6, p7⟩ := row_eight hSw'.1
                              go_simp
                            simp only [Act.put, List.setIfInBounds_toArray, List.set_cons_zero, List.set_cons_succ]
                            refine wpAnyH_take (i := 2) (oi := ⟨some 158, _, _, _, _, _⟩) (v := (.int .u32 (ve : Int))) rfl (by kernel_rfl) (by kernel_rfl) (by kernel_rfl) (fun _ _ _ h => h) (Or.inl ⟨by rfl, ?_⟩) hSw ?_
                            · intro w' hSw'
                              obtain ⟨p0, p1, p2', p3, p4, p5, p6, p7⟩ := row_eight hSw'.1
                              go_simp
                            simp only [Act.put, List.setIfInBounds_toArray, List.set_cons_zero, List.set_cons_succ]
                            refine wpAnyH_take (i := 4) (oi := ⟨some 160, _, _, _, _, _⟩) (v := (.slice (some ⟨g, 0, none⟩) 8 c8)) rfl (by kernel_rfl) (by kernel_rfl) (by kernel_rfl) (fun _ _ _ h => h) (Or.inl ⟨by rfl, ?_⟩) hSw ?_
                            · intro w' hSw'
                              obtain ⟨p0, p1, p2', p3, p4, p5, p6, p7⟩ := row_eight hSw'.1
                              go_simp
                            simp only [Act.put, List.setIfInBounds_toArray, List.set_cons_zero, List.set_cons_succ]
                            refine wpAnyH_take (i := 5) (oi := ⟨some 161, _, _, _, _, _⟩) (v := (.pointer (some ⟨g, 4, none⟩))) rfl (by kernel_rfl) (by kernel_rfl) (by kernel_rfl) (fun _ _ _ h => h) (Or.inl ⟨by rfl, ?_⟩) hSw ?_
                            · intro w' hSw'
                              obtain ⟨p0, p1, p2', p3, p4, p5, p6, p7⟩ := row_eight hSw'.1
                              go_simp
                            simp only [Act.put, List.setIfInBounds_toArray, List.set_cons_zero, List.set_cons_succ]
                            refine wpAnyH_take (i := 6) (oi := ⟨some 162, _, _, _, _, _⟩) (v := (.int .u32 (ve : Int))) rfl (by kernel_rfl) (by kernel_rfl) (by kernel_rfl) (fun _ _ _ h => h) (Or.inl ⟨by rfl, ?_⟩) hSw ?_
                            · intro w' hSw'
                              obtain ⟨p0, p1, p2', p3, p4, p5, p6, p7⟩ := row_eight hSw'.1
                              go_simp
                            simp only [Act.put, List.setIfInBounds_toArray, List.set_cons_zero, List.set_cons_succ]
                            refine wpAnyH_take (i := 9) (oi := ⟨some 165, _, _, _, _, _⟩) (v := (.slice (some ⟨g, 0, none⟩) 8 c8)) rfl (by kernel_rfl) (by kernel_rfl) (by kernel_rfl) (fun _ _ _ h => h) (Or.inl ⟨by rfl, ?_⟩) hSw ?_
                            · intro w' hSw'
                              obtain ⟨p0, p1, p2', p3, p4, p5, p6, p7⟩ := row_eight hSw'.1
                              go_simp
                            simp only [Act.put, List.setIfInBounds_toArray, List.set_cons_zero, List.set_cons_succ]
                            refine wpAnyH_take (i := 10) (oi := ⟨some 166, _, _, _, _, _⟩) (v := (.pointer (some ⟨g, 4, none⟩))) rfl (by kernel_rfl) (by kernel_rfl) (by kernel_rfl) (fun _ _ _ h => h) (Or.inl ⟨by rfl, ?_⟩) hSw ?_
                            · intro w' hSw'
                              obtain ⟨p0, p1, p2', p3, p4, p5, p6, p7⟩ := row_eight hSw'.1
                              go_simp
                            simp only [Act.put, List.setIfInBounds_toArray, List.set_cons_zero, List.set_cons_succ]
                            refine wpAnyH_take (i := 11) (oi := ⟨some 167, _, _, _, _, _⟩) (v := (.int .u32 (ve : Int))) rfl (by kernel_rfl) (by kernel_rfl) (by kernel_rfl) (fun _ _ _ h => h) (Or.inl ⟨by rfl, ?_⟩) hSw ?_
                            · intro w' hSw'
                              obtain ⟨p0, p1, p2', p3, p4, p5, p6, p7⟩ := row_eight hSw'.1
                              go_simp
                            simp only [Act.put, List.setIfInBounds_toArray, List.set_cons_zero, List.set_cons_succ]
                            refine wpAnyH_ready (rs := [3]) (by kernel_rfl) (by simp) (AllReadyH.cons (o := ⟨some 159, _, _, _, _, _⟩) rfl (fun K hK => ?_) AllReadyH.nil)
                            go_simp
                            go_at_call 65
                            refine (T1.out _).mono ?_
                            rintro e5 w5 ⟨rfl, rfl⟩
                            dsimp only
                            refine hK.out _ _ (hSw) ?_
                            intro hSw
                            clear hK K
                            try simp only [Act.put, List.setIfInBounds_toArray, List.set_cons_zero, List.set_cons_succ]
                            refine wpAnyH_ready (rs := [7]) (by kernel_rfl) (by simp) (AllReadyH.cons (o := ⟨some 163, _, _, _, _, _⟩) rfl (fun K hK => ?_) AllReadyH.nil)
                            go_simp
                            go_at_call 65
                            refine (T2.out _).mono ?_
                            rintro e5 w5 ⟨rfl, rfl⟩
                            dsimp only
                            refine hK.out _ _ (hSw) ?_
                            intro hSw
                            clear hK K
                            try simp only [Act.put, List.setIfInBounds_toArray, List.set_cons_zero, List.set_cons_succ]
                            refine wpAnyH_take (i := 8) (oi := ⟨some 164, _, _, _, _, _⟩) (v := (.int .u32 (X1 : Int))) rfl (by kernel_rfl) (by kernel_rfl) (by kernel_rfl) (fun _ _ _ h => h) (Or.inl ⟨by rfl, ?_⟩) hSw ?_
                            · intro w' hSw'
                              obtain ⟨p0, p1, p2', p3, p4, p5, p6, p7⟩ := row_eight hSw'.1
                              go_simp
                            simp only [Act.put, List.setIfInBounds_toArray, List.set_cons_zero, List.set_cons_succ]
                            refine wpAnyH_ready (rs := [12]) (by kernel_rfl) (by simp) (AllReadyH.cons (o := ⟨some 168, _, _, _, _, _⟩) rfl (fun K hK => ?_) AllReadyH.nil)
                            go_simp
                            go_at_call 65
                            refine (T3.out _).mono ?_
                            rintro e5 w5 ⟨rfl, rfl⟩
                            dsimp only
                            refine hK.out _ _ (hSw) ?_
                            intro hSw
                            clear hK K
                            try simp only [Act.put, List.setIfInBounds_toArray, List.set_cons_zero, List.set_cons_succ]
                            refine wpAnyH_take (i := 13) (oi := ⟨some 169, _, _, _, _, _⟩) (v := (.int .u32 (S1 : Int))) rfl (by kernel_rfl) (by kernel_rfl) (by kernel_rfl) (fun _ _ _ h => h) (Or.inl ⟨by rfl, ?_⟩) hSw ?_
                            · intro w' hSw'
                              obtain ⟨p0, p1, p2', p3, p4, p5, p6, p7⟩ := row_eight hSw'.1
                              go_simp
                            simp only [Act.put, List.setIfInBounds_toArray, List.set_cons_zero, List.set_cons_succ]
                            refine wpAnyH_take (i := 14) (oi := ⟨some 18, _, _, _, _, _⟩) (v := (.int .u32 (S1 : Int))) rfl (by kernel_rfl) (by kernel_rfl) (by kernel_rfl) (fun _ _ _ h => h) (Or.inl ⟨by rfl, ?_⟩) hSw ?_
                            · intro w' hSw'
                              obtain ⟨p0, p1, p2', p3, p4, p5, p6, p7⟩ := row_eight hSw'.1
                              go_simp
                            simp only [Act.put, List.setIfInBounds_toArray, List.set_cons_zero, List.set_cons_succ]
                            refine wpAnyH_done (by kernel_rfl) ?_ _
                            as_aux_lemma =>
                              clear e1 e2 hSw T1 T2 T3
                              go_upto_region 38 with fail
                              refine wp_region_held_drew (S := (fun w' => RowAt w' g 0 (us [va, vb, vc, vd, ve, vf, vg, vh]) ∧ w'.cell? ⟨gw, j, none⟩ = some (.int .u32 (W1 : Int)) ∧ w'.cell? ⟨pk, j, none⟩ = some (.int .u32 (K1 : Int)))) (by kernel_rfl) (⟨HRW.out, HPW.out.1, HPW.out.2⟩) ?_
                              intro hSw
                              refine wpAnyH_take (i := 0) (oi := ⟨some 170, _, _, _, _, _⟩) (v := (.slice (some ⟨g, 0, none⟩) 8 c8)) rfl (by kernel_rfl) (by kernel_rfl) (by kernel_rfl) (fun _ _ _ h => h) (Or.inl ⟨by rfl, ?_⟩) hSw ?_
                              · intro w' hSw'
                                obtain ⟨p0, p1, p2', p3, p4, p5, p6, p7⟩ := row_eight hSw'.1
                                have pw := hSw'.2.1
                                have pk1 := hSw'.2.2
                                go_simp
                              simp only [Act.put, List.setIfInBounds_toArray, List.set_cons_zero, List.set_cons_succ]
                              refine wpAnyH_take (i := 1) (oi := ⟨some 171, _, _, _, _, _⟩) (v := (.pointer (some ⟨g, 7, none⟩))) rfl (by kernel_rfl) (by kernel_rfl) (by kernel_rfl) (fun _ _ _ h => h) (Or.inl ⟨by rfl, ?_⟩) hSw ?_
                              · intro w' hSw'
                                obtain ⟨p0, p1, p2', p3, p4, p5, p6, p7⟩ := row_eight hSw'.1
                                have pw := hSw'.2.1
                                have pk1 := hSw'.2.2
                                go_simp
                              simp only [Act.put, List.setIfInBounds_toArray, List.set_cons_zero, List.set_cons_succ]
                              refine wpAnyH_take (i := 2) (oi := ⟨some 172, _, _, _, _, _⟩) (v := (.int .u32 (vh : Int))) rfl (by kernel_rfl) (by kernel_rfl) (by kernel_rfl) (fun _ _ _ h => h) (Or.inl ⟨by rfl, ?_⟩) hSw ?_
                              · intro w' hSw'
                                obtain ⟨p0, p1, p2', p3, p4, p5, p6, p7⟩ := row_eight hSw'.1
                                have pw := hSw'.2.1
                                have pk1 := hSw'.2.2
                                go_simp
                              simp only [Act.put, List.setIfInBounds_toArray, List.set_cons_zero, List.set_cons_succ]
                              refine wpAnyH_take (i := 3) (oi := ⟨some 173, _, _, _, _, _⟩) (v := (.int .u32 (S1 : Int))) rfl (by kernel_rfl) (by kernel_rfl) (by kernel_rfl) (fun _ _ _ h => h) (Or.inl ⟨by rfl, ?_⟩) hSw ?_
                              · intro w' hSw'
                                obtain ⟨p0, p1, p2', p3, p4, p5, p6, p7⟩ := row_eight hSw'.1
                                have pw := hSw'.2.1
                                have pk1 := hSw'.2.2
                                go_simp
                              simp only [Act.put, List.setIfInBounds_toArray, List.set_cons_zero, List.set_cons_succ]
                              refine wpAnyH_take (i := 4) (oi := ⟨some 174, _, _, _, _, _⟩) (v := (.int .u32 (A1 : Int))) rfl (by kernel_rfl) (by kernel_rfl) (by kernel_rfl) (fun _ _ _ h => h) (Or.inl ⟨by rfl, ?_⟩) hSw ?_
                              · intro w' hSw'
                                obtain ⟨p0, p1, p2', p3, p4, p5, p6, p7⟩ := row_eight hSw'.1
                                have pw := hSw'.2.1
                                have pk1 := hSw'.2.2
                                go_simp
                              simp only [Act.put, List.setIfInBounds_toArray, List.set_cons_zero, List.set_cons_succ]
                              refine wpAnyH_take (i := 5) (oi := ⟨some 175, _, _, _, _, _⟩) (v := (.slice (some ⟨g, 0, none⟩) 8 c8)) rfl (by kernel_rfl) (by kernel_rfl) (by kernel_rfl) (fun _ _ _ h => h) (Or.inl ⟨by rfl, ?_⟩) hSw ?_
                              · intro w' hSw'
                                obtain ⟨p0, p1, p2', p3, p4, p5, p6, p7⟩ := row_eight hSw'.1
                                have pw := hSw'.2.1
                                have pk1 := hSw'.2.2
                                go_simp
                              simp only [Act.put, List.setIfInBounds_toArray, List.set_cons_zero, List.set_cons_succ]
                              refine wpAnyH_take (i := 6) (oi := ⟨some 176, _, _, _, _, _⟩) (v := (.pointer (some ⟨g, 4, none⟩))) rfl (by kernel_rfl) (by kernel_rfl) (by kernel_rfl) (fun _ _ _ h => h) (Or.inl ⟨by rfl, ?_⟩) hSw ?_
                              · intro w' hSw'
                                obtain ⟨p0, p1, p2', p3, p4, p5, p6, p7⟩ := row_eight hSw'.1
                                have pw := hSw'.2.1
                                have pk1 := hSw'.2.2
                                go_simp
                              simp only [Act.put, List.setIfInBounds_toArray, List.set_cons_zero, List.set_cons_succ]
                              refine wpAnyH_take (i := 7) (oi := ⟨some 177, _, _, _, _, _⟩) (v := (.int .u32 (ve : Int))) rfl (by kernel_rfl) (by kernel_rfl) (by kernel_rfl) (fun _ _ _ h => h) (Or.inl ⟨by rfl, ?_⟩) hSw ?_
                              · intro w' hSw'
                                obtain ⟨p0, p1, p2', p3, p4, p5, p6, p7⟩ := row_eight hSw'.1
                                have pw := hSw'.2.1
                                have pk1 := hSw'.2.2
                                go_simp
                              simp only [Act.put, List.setIfInBounds_toArray, List.set_cons_zero, List.set_cons_succ]
                              refine wpAnyH_take (i := 8) (oi := ⟨some 178, _, _, _, _, _⟩) (v := (.slice (some ⟨g, 0, none⟩) 8 c8)) rfl (by kernel_rfl) (by kernel_rfl) (by kernel_rfl) (fun _ _ _ h => h) (Or.inl ⟨by rfl, ?_⟩) hSw ?_
                              · intro w' hSw'
                                obtain ⟨p0, p1, p2', p3, p4, p5, p6, p7⟩ := row_eight hSw'.1
                                have pw := hSw'.2.1
                                have pk1 := hSw'.2.2
                                go_simp
                              simp only [Act.put, List.setIfInBounds_toArray, List.set_cons_zero, List.set_cons_succ]
                              refine wpAnyH_take (i := 9) (oi := ⟨some 179, _, _, _, _, _⟩) (v := (.pointer (some ⟨g, 5, none⟩))) rfl (by kernel_rfl) (by kernel_rfl) (by kernel_rfl) (fun _ _ _ h => h) (Or.inl ⟨by rfl, ?_⟩) hSw ?_
                              · intro w' hSw'
                                obtain ⟨p0, p1, p2', p3, p4, p5, p6, p7⟩ := row_eight hSw'.1
                                have pw := hSw'.2.1
                                have pk1 := hSw'.2.2
                                go_simp
                              simp only [Act.put, List.setIfInBounds_toArray, List.set_cons_zero, List.set_cons_succ]
                              refine wpAnyH_take (i := 10) (oi := ⟨some 180, _, _, _, _, _⟩) (v := (.int .u32 (vf : Int))) rfl (by kernel_rfl) (by kernel_rfl) (by kernel_rfl) (fun _ _ _ h => h) (Or.inl ⟨by rfl, ?_⟩) hSw ?_
                              · intro w' hSw'
                                obtain ⟨p0, p1, p2', p3, p4, p5, p6, p7⟩ := row_eight hSw'.1
                                have pw := hSw'.2.1
                                have pk1 := hSw'.2.2
                                go_simp
                              simp only [Act.put, List.setIfInBounds_toArray, List.set_cons_zero, List.set_cons_succ]
                              refine wpAnyH_take (i := 11) (oi := ⟨some 181, _, _, _, _, _⟩) (v := (.int .u32 (A2 : Int))) rfl (by kernel_rfl) (by kernel_rfl) (by kernel_rfl) (fun _ _ _ h => h) (Or.inl ⟨by rfl, ?_⟩) hSw ?_
                              · intro w' hSw'
                                obtain ⟨p0, p1, p2', p3, p4, p5, p6, p7⟩ := row_eight hSw'.1
                                have pw := hSw'.2.1
                                have pk1 := hSw'.2.2
                                go_simp
                              simp only [Act.put, List.setIfInBounds_toArray, List.set_cons_zero, List.set_cons_succ]
                              refine wpAnyH_take (i := 12) (oi := ⟨some 182, _, _, _, _, _⟩) (v := (.slice (some ⟨g, 0, none⟩) 8 c8)) rfl (by kernel_rfl) (by kernel_rfl) (by kernel_rfl) (fun _ _ _ h => h) (Or.inl ⟨by rfl, ?_⟩) hSw ?_
                              · intro w' hSw'
                                obtain ⟨p0, p1, p2', p3, p4, p5, p6, p7⟩ := row_eight hSw'.1
                                have pw := hSw'.2.1
                                have pk1 := hSw'.2.2
                                go_simp
                              simp only [Act.put, List.setIfInBounds_toArray, List.set_cons_zero, List.set_cons_succ]
                              refine wpAnyH_take (i := 13) (oi := ⟨some 183, _, _, _, _, _⟩) (v := (.pointer (some ⟨g, 4, none⟩))) rfl (by kernel_rfl) (by kernel_rfl) (by kernel_rfl) (fun _ _ _ h => h) (Or.inl ⟨by rfl, ?_⟩) hSw ?_
                              · intro w' hSw'
                                obtain ⟨p0, p1, p2', p3, p4, p5, p6, p7⟩ := row_eight hSw'.1
                                have pw := hSw'.2.1
                                have pk1 := hSw'.2.2
                                go_simp
                              simp only [Act.put, List.setIfInBounds_toArray, List.set_cons_zero, List.set_cons_succ]
                              refine wpAnyH_take (i := 14) (oi := ⟨some 184, _, _, _, _, _⟩) (v := (.int .u32 (ve : Int))) rfl (by kernel_rfl) (by kernel_rfl) (by kernel_rfl) (fun _ _ _ h => h) (Or.inl ⟨by rfl, ?_⟩) hSw ?_
                              · intro w' hSw'
                                obtain ⟨p0, p1, p2', p3, p4, p5, p6, p7⟩ := row_eight hSw'.1
                                have pw := hSw'.2.1
                                have pk1 := hSw'.2.2
                                go_simp
                              simp only [Act.put, List.setIfInBounds_toArray, List.set_cons_zero, List.set_cons_succ]
                              refine wpAnyH_take (i := 15) (oi := ⟨some 185, _, _, _, _, _⟩) (v := (.int .u32 (A3 : Int))) rfl (by kernel_rfl) (by kernel_rfl) (by kernel_rfl) (fun _ _ _ h => h) (Or.inl ⟨by rfl, ?_⟩) hSw ?_
                              · intro w' hSw'
                                obtain ⟨p0, p1, p2', p3, p4, p5, p6, p7⟩ := row_eight hSw'.1
                                have pw := hSw'.2.1
                                have pk1 := hSw'.2.2
                                go_simp
                              simp only [Act.put, List.setIfInBounds_toArray, List.set_cons_zero, List.set_cons_succ]
                              refine wpAnyH_take (i := 16) (oi := ⟨some 186, _, _, _, _, _⟩) (v := (.slice (some ⟨g, 0, none⟩) 8 c8)) rfl (by kernel_rfl) (by kernel_rfl) (by kernel_rfl) (fun _ _ _ h => h) (Or.inl ⟨by rfl, ?_⟩) hSw ?_
                              · intro w' hSw'
                                obtain ⟨p0, p1, p2', p3, p4, p5, p6, p7⟩ := row_eight hSw'.1
                                have pw := hSw'.2.1
                                have pk1 := hSw'.2.2
                                go_simp
                              simp only [Act.put, List.setIfInBounds_toArray, List.set_cons_zero, List.set_cons_succ]
                              refine wpAnyH_take (i := 17) (oi := ⟨some 187, _, _, _, _, _⟩) (v := (.pointer (some ⟨g, 6, none⟩))) rfl (by kernel_rfl) (by kernel_rfl) (by kernel_rfl) (fun _ _ _ h => h) (Or.inl ⟨by rfl, ?_⟩) hSw ?_
                              · intro w' hSw'
                                obtain ⟨p0, p1, p2', p3, p4, p5, p6, p7⟩ := row_eight hSw'.1
                                have pw := hSw'.2.1
                                have pk1 := hSw'.2.2
                                go_simp
                              simp only [Act.put, List.setIfInBounds_toArray, List.set_cons_zero, List.set_cons_succ]
                              refine wpAnyH_take (i := 18) (oi := ⟨some 188, _, _, _, _, _⟩) (v := (.int .u32 (vg : Int))) rfl (by kernel_rfl) (by kernel_rfl) (by kernel_rfl) (fun _ _ _ h => h) (Or.inl ⟨by rfl, ?_⟩) hSw ?_
                              · intro w' hSw'
                                obtain ⟨p0, p1, p2', p3, p4, p5, p6, p7⟩ := row_eight hSw'.1
                                have pw := hSw'.2.1
                                have pk1 := hSw'.2.2
                                go_simp
                              simp only [Act.put, List.setIfInBounds_toArray, List.set_cons_zero, List.set_cons_succ]
                              refine wpAnyH_take (i := 19) (oi := ⟨some 189, _, _, _, _, _⟩) (v := (.int .u32 (A4 : Int))) rfl (by kernel_rfl) (by kernel_rfl) (by kernel_rfl) (fun _ _ _ h => h) (Or.inl ⟨by rfl, ?_⟩) hSw ?_
                              · intro w' hSw'
                                obtain ⟨p0, p1, p2', p3, p4, p5, p6, p7⟩ := row_eight hSw'.1
                                have pw := hSw'.2.1
                                have pk1 := hSw'.2.2
                                go_simp
                              simp only [Act.put, List.setIfInBounds_toArray, List.set_cons_zero, List.set_cons_succ]
                              refine wpAnyH_take (i := 20) (oi := ⟨some 190, _, _, _, _, _⟩) (v := (.int .u32 (A5 : Int))) rfl (by kernel_rfl) (by kernel_rfl) (by kernel_rfl) (fun _ _ _ h => h) (Or.inl ⟨by rfl, ?_⟩) hSw ?_
                              · intro w' hSw'
                                obtain ⟨p0, p1, p2', p3, p4, p5, p6, p7⟩ := row_eight hSw'.1
                                have pw := hSw'.2.1
                                have pk1 := hSw'.2.2
                                go_simp
                              simp only [Act.put, List.setIfInBounds_toArray, List.set_cons_zero, List.set_cons_succ]
                              refine wpAnyH_take (i := 21) (oi := ⟨some 191, _, _, _, _, _⟩) (v := (.int .u32 (A6 : Int))) rfl (by kernel_rfl) (by kernel_rfl) (by kernel_rfl) (fun _ _ _ h => h) (Or.inl ⟨by rfl, ?_⟩) hSw ?_
                              · intro w' hSw'
                                obtain ⟨p0, p1, p2', p3, p4, p5, p6, p7⟩ := row_eight hSw'.1
                                have pw := hSw'.2.1
                                have pk1 := hSw'.2.2
                                go_simp
                              simp only [Act.put, List.setIfInBounds_toArray, List.set_cons_zero, List.set_cons_succ]
                              refine wpAnyH_take (i := 22) (oi := ⟨some 192, _, _, _, _, _⟩) (v := (.slice (some ⟨pk, 0, none⟩) 64 64)) rfl (by kernel_rfl) (by kernel_rfl) (by kernel_rfl) (fun _ _ _ h => h) (Or.inl ⟨by rfl, ?_⟩) hSw ?_
                              · intro w' hSw'
                                obtain ⟨p0, p1, p2', p3, p4, p5, p6, p7⟩ := row_eight hSw'.1
                                have pw := hSw'.2.1
                                have pk1 := hSw'.2.2
                                go_simp
                              simp only [Act.put, List.setIfInBounds_toArray, List.set_cons_zero, List.set_cons_succ]
                              refine wpAnyH_take (i := 23) (oi := ⟨some 193, _, _, _, _, _⟩) (v := (.int .i64 (j : Int))) rfl (by kernel_rfl) (by kernel_rfl) (by kernel_rfl) (fun _ _ _ h => h) (Or.inl ⟨by rfl, ?_⟩) hSw ?_
                              · intro w' hSw'
                                obtain ⟨p0, p1, p2', p3, p4, p5, p6, p7⟩ := row_eight hSw'.1
                                have pw := hSw'.2.1
                                have pk1 := hSw'.2.2
                                go_simp
                              simp only [Act.put, List.setIfInBounds_toArray, List.set_cons_zero, List.set_cons_succ]
                              refine wpAnyH_take (i := 24) (oi := ⟨some 194, _, _, _, _, _⟩) (v := (.pointer (some ⟨pk, j, none⟩))) rfl (by kernel_rfl) (by kernel_rfl) (by kernel_rfl) (fun _ _ _ h => h) (Or.inl ⟨by rfl, ?_⟩) hSw ?_
                              · intro w' hSw'
                                obtain ⟨p0, p1, p2', p3, p4, p5, p6, p7⟩ := row_eight hSw'.1
                                have pw := hSw'.2.1
                                have pk1 := hSw'.2.2
                                go_simp
                              simp only [Act.put, List.setIfInBounds_toArray, List.set_cons_zero, List.set_cons_succ]
                              refine wpAnyH_take (i := 25) (oi := ⟨some 195, _, _, _, _, _⟩) (v := (.int .u32 (K1 : Int))) rfl (by kernel_rfl) (by kernel_rfl) (by kernel_rfl) (fun _ _ _ h => h) (Or.inl ⟨by rfl, ?_⟩) hSw ?_
                              · intro w' hSw'
                                obtain ⟨p0, p1, p2', p3, p4, p5, p6, p7⟩ := row_eight hSw'.1
                                have pw := hSw'.2.1
                                have pk1 := hSw'.2.2
                                go_simp
                              simp only [Act.put, List.setIfInBounds_toArray, List.set_cons_zero, List.set_cons_succ]
                              refine wpAnyH_take (i := 26) (oi := ⟨some 196, _, _, _, _, _⟩) (v := (.int .u32 (A7 : Int))) rfl (by kernel_rfl) (by kernel_rfl) (by kernel_rfl) (fun _ _ _ h => h) (Or.inl ⟨by rfl, ?_⟩) hSw ?_
                              · intro w' hSw'
                                obtain ⟨p0, p1, p2', p3, p4, p5, p6, p7⟩ := row_eight hSw'.1
                                have pw := hSw'.2.1
                                have pk1 := hSw'.2.2
                                go_simp
                              simp only [Act.put, List.setIfInBounds_toArray, List.set_cons_zero, List.set_cons_succ]
                              refine wpAnyH_take (i := 27) (oi := ⟨some 197, _, _, _, _, _⟩) (v := (.slice (some ⟨gw, 0, none⟩) 64 c)) rfl (by kernel_rfl) (by kernel_rfl) (by kernel_rfl) (fun _ _ _ h => h) (Or.inl ⟨by rfl, ?_⟩) hSw ?_
                              · intro w' hSw'
                                obtain ⟨p0, p1, p2', p3, p4, p5, p6, p7⟩ := row_eight hSw'.1
                                have pw := hSw'.2.1
                                have pk1 := hSw'.2.2
                                go_simp
                              simp only [Act.put, List.setIfInBounds_toArray, List.set_cons_zero, List.set_cons_succ]
                              refine wpAnyH_take (i := 28) (oi := ⟨some 198, _, _, _, _, _⟩) (v := (.int .i64 (j : Int))) rfl (by kernel_rfl) (by kernel_rfl) (by kernel_rfl) (fun _ _ _ h => h) (Or.inl ⟨by rfl, ?_⟩) hSw ?_
                              · intro w' hSw'
                                obtain ⟨p0, p1, p2', p3, p4, p5, p6, p7⟩ := row_eight hSw'.1
                                have pw := hSw'.2.1
                                have pk1 := hSw'.2.2
                                go_simp
                              simp only [Act.put, List.setIfInBounds_toArray, List.set_cons_zero, List.set_cons_succ]
                              refine wpAnyH_take (i := 29) (oi := ⟨some 199, _, _, _, _, _⟩) (v := (.pointer (some ⟨gw, j, none⟩))) rfl (by kernel_rfl) (by kernel_rfl) (by kernel_rfl) (fun _ _ _ h => h) (Or.inl ⟨by rfl, ?_⟩) hSw ?_
                              · intro w' hSw'
                                obtain ⟨p0, p1, p2', p3, p4, p5, p6, p7⟩ := row_eight hSw'.1
                                have pw := hSw'.2.1
                                have pk1 := hSw'.2.2
                                go_simp
                              simp only [Act.put, List.setIfInBounds_toArray, List.set_cons_zero, List.set_cons_succ]
                              refine wpAnyH_take (i := 30) (oi := ⟨some 200, _, _, _, _, _⟩) (v := (.int .u32 (W1 : Int))) rfl (by kernel_rfl) (by kernel_rfl) (by kernel_rfl) (fun _ _ _ h => h) (Or.inl ⟨by rfl, ?_⟩) hSw ?_
                              · intro w' hSw'
                                obtain ⟨p0, p1, p2', p3, p4, p5, p6, p7⟩ := row_eight hSw'.1
                                have pw := hSw'.2.1
                                have pk1 := hSw'.2.2
                                go_simp
                              simp only [Act.put, List.setIfInBounds_toArray, List.set_cons_zero, List.set_cons_succ]
                              refine wpAnyH_take (i := 31) (oi := ⟨some 201, _, _, _, _, _⟩) (v := (.int .u32 (T : Int))) rfl (by kernel_rfl) (by kernel_rfl) (by kernel_rfl) (fun _ _ _ h => h) (Or.inl ⟨by rfl, ?_⟩) hSw ?_
                              · intro w' hSw'
                                obtain ⟨p0, p1, p2', p3, p4, p5, p6, p7⟩ := row_eight hSw'.1
                                have pw := hSw'.2.1
                                have pk1 := hSw'.2.2
                                go_simp
                              simp only [Act.put, List.setIfInBounds_toArray, List.set_cons_zero, List.set_cons_succ]
                              refine wpAnyH_take (i := 32) (oi := ⟨some 19, _, _, _, _, _⟩) (v := (.int .u32 (T : Int))) rfl (by kernel_rfl) (by kernel_rfl) (by kernel_rfl) (fun _ _ _ h => h) (Or.inl ⟨by rfl, ?_⟩) hSw ?_
                              · intro w' hSw'
                                obtain ⟨p0, p1, p2', p3, p4, p5, p6, p7⟩ := row_eight hSw'.1
                                have pw := hSw'.2.1
                                have pk1 := hSw'.2.2
                                go_simp
                              simp only [Act.put, List.setIfInBounds_toArray, List.set_cons_zero, List.set_cons_succ]
                              refine wpAnyH_done (by kernel_rfl) ?_ _
                              as_aux_lemma =>
                                clear f1 f2 f3 f4 f5 f6 f7 f8 hSw
                                go_upto_region 39 with fail
                                refine wp_region_held_drew (S := (fun w' => RowAt w' g 0 (us [va, vb, vc, vd, ve, vf, vg, vh]) ∧ Only (fun _ => False) wr w')) (by kernel_rfl) (⟨HRW.out, (Only.refl _ _).drew.drew.drew⟩) ?_
                                intro hSw
                                refine wpAnyH_take (i := 0) (oi := ⟨some 202, _, _, _, _, _⟩) (v := (.slice (some ⟨g, 0, none⟩) 8 c8)) rfl (by kernel_rfl) (by kernel_rfl) (by kernel_rfl) (fun _ _ _ h => h) (Or.inl ⟨by rfl, ?_⟩) hSw ?_
                                · intro w' hSw'
                                  obtain ⟨p0, p1, p2', p3, p4, p5, p6, p7⟩ := row_eight hSw'.1
                                  go_simp
                                simp only [Act.put, List.setIfInBounds_toArray, List.set_cons_zero, List.set_cons_succ]
                                refine wpAnyH_take (i := 1) (oi := ⟨some 203, _, _, _, _, _⟩) (v := (.pointer (some ⟨g, 0, none⟩))) rfl (by kernel_rfl) (by kernel_rfl) (by kernel_rfl) (fun _ _ _ h => h) (Or.inl ⟨by rfl, ?_⟩) hSw ?_
                                · intro w' hSw'
                                  obtain ⟨p0, p1, p2', p3, p4, p5, p6, p7⟩ := row_eight hSw'.1
                                  go_simp
                                simp only [Act.put, List.setIfInBounds_toArray, List.set_cons_zero, List.set_cons_succ]
                                refine wpAnyH_take (i := 2) (oi := ⟨some 204, _, _, _, _, _⟩) (v := (.int .u32 (va : Int))) rfl (by kernel_rfl) (by kernel_rfl) (by kernel_rfl) (fun _ _ _ h => h) (Or.inl ⟨by rfl, ?_⟩) hSw ?_
                                · intro w' hSw'
                                  obtain ⟨p0, p1, p2', p3, p4, p5, p6, p7⟩ := row_eight hSw'.1
                                  go_simp
                                simp only [Act.put, List.setIfInBounds_toArray, List.set_cons_zero, List.set_cons_succ]
                                refine wpAnyH_take (i := 4) (oi := ⟨some 206, _, _, _, _, _⟩) (v := (.slice (some ⟨g, 0, none⟩) 8 c8)) rfl (by kernel_rfl) (by kernel_rfl) (by kernel_rfl) (fun _ _ _ h => h) (Or.inl ⟨by rfl, ?_⟩) hSw ?_
                                · intro w' hSw'
                                  obtain ⟨p0, p1, p2', p3, p4, p5, p6, p7⟩ := row_eight hSw'.1
                                  go_simp
                                simp only [Act.put, List.setIfInBounds_toArray, List.set_cons_zero, List.set_cons_succ]
                                refine wpAnyH_take (i := 5) (oi := ⟨some 207, _, _, _, _, _⟩) (v := (.pointer (some ⟨g, 0, none⟩))) rfl (by kernel_rfl) (by kernel_rfl) (by kernel_rfl) (fun _ _ _ h => h) (Or.inl ⟨by rfl, ?_⟩) hSw ?_
                                · intro w' hSw'
                                  obtain ⟨p0, p1, p2', p3, p4, p5, p6, p7⟩ := row_eight hSw'.1
                                  go_simp
                                simp only [Act.put, List.setIfInBounds_toArray, List.set_cons_zero, List.set_cons_succ]
                                refine wpAnyH_take (i := 6) (oi := ⟨some 208, _, _, _, _, _⟩) (v := (.int .u32 (va : Int))) rfl (by kernel_rfl) (by kernel_rfl) (by kernel_rfl) (fun _ _ _ h => h) (Or.inl ⟨by rfl, ?_⟩) hSw ?_
                                · intro w' hSw'
                                  obtain ⟨p0, p1, p2', p3, p4, p5, p6, p7⟩ := row_eight hSw'.1
                                  go_simp
                                simp only [Act.put, List.setIfInBounds_toArray, List.set_cons_zero, List.set_cons_succ]
                                refine wpAnyH_take (i := 9) (oi := ⟨some 211, _, _, _, _, _⟩) (v := (.slice (some ⟨g, 0, none⟩) 8 c8)) rfl (by kernel_rfl) (by kernel_rfl) (by kernel_rfl) (fun _ _ _ h => h) (Or.inl ⟨by rfl, ?_⟩) hSw ?_
                                · intro w' hSw'
                                  obtain ⟨p0, p1, p2', p3, p4, p5, p6, p7⟩ := row_eight hSw'.1
                                  go_simp
                                simp only [Act.put, List.setIfInBounds_toArray, List.set_cons_zero, List.set_cons_succ]
                                refine wpAnyH_take (i := 10) (oi := ⟨some 212, _, _, _, _, _⟩) (v := (.pointer (some ⟨g, 0, none⟩))) rfl (by kernel_rfl) (by kernel_rfl) (by kernel_rfl) (fun _ _ _ h => h) (Or.inl ⟨by rfl, ?_⟩) hSw ?_
                                · intro w' hSw'
                                  obtain ⟨p0, p1, p2', p3, p4, p5, p6, p7⟩ := row_eight hSw'.1
                                  go_simp
                                simp only [Act.put, List.setIfInBounds_toArray, List.set_cons_zero, List.set_cons_succ]
                                refine wpAnyH_take (i := 11) (oi := ⟨some 213, _, _, _, _, _⟩) (v := (.int .u32 (va : Int))) rfl (by kernel_rfl) (by kernel_rfl) (by kernel_rfl) (fun _ _ _ h => h) (Or.inl ⟨by rfl, ?_⟩) hSw ?_
                                · intro w' hSw'
                                  obtain ⟨p0, p1, p2', p3, p4, p5, p6, p7⟩ := row_eight hSw'.1
                                  go_simp
                                simp only [Act.put, List.setIfInBounds_toArray, List.set_cons_zero, List.set_cons_succ]
                                refine wpAnyH_ready (rs := [3]) (by kernel_rfl) (by simp) (AllReadyH.cons (o := ⟨some 205, _, _, _, _, _⟩) rfl (fun K hK => ?_) AllReadyH.nil)
                                go_simp
                                go_at_call 65
                                refine (T4.out _).mono ?_
                                rintro e5 w5 ⟨rfl, rfl⟩
                                dsimp only
                                refine hK.out _ _ (hSw) ?_
                                intro hSw
                                clear hK K
                                try simp only [Act.put, List.setIfInBounds_toArray, List.set_cons_zero, List.set_cons_succ]
                                refine wpAnyH_ready (rs := [7]) (by kernel_rfl) (by simp) (AllReadyH.cons (o := ⟨some 209, _, _, _, _, _⟩) rfl (fun K hK => ?_) AllReadyH.nil)
                                go_simp
                                go_at_call 65
                                refine (T5.out _).mono ?_
                                rintro e5 w5 ⟨rfl, rfl⟩
                                dsimp only
                                refine hK.out _ _ (hSw) ?_
                                intro hSw
                                clear hK K
                                try simp only [Act.put, List.setIfInBounds_toArray, List.set_cons_zero, List.set_cons_succ]
                                refine wpAnyH_take (i := 8) (oi := ⟨some 210, _, _, _, _, _⟩) (v := (.int .u32 (X2 : Int))) rfl (by kernel_rfl) (by kernel_rfl) (by kernel_rfl) (fun _ _ _ h => h) (Or.inl ⟨by rfl, ?_⟩) hSw ?_
                                · intro w' hSw'
                                  obtain ⟨p0, p1, p2', p3, p4, p5, p6, p7⟩ := row_eight hSw'.1
                                  go_simp
                                simp only [Act.put, List.setIfInBounds_toArray, List.set_cons_zero, List.set_cons_succ]
                                refine wpAnyH_ready (rs := [12]) (by kernel_rfl) (by simp) (AllReadyH.cons (o := ⟨some 214, _, _, _, _, _⟩) rfl (fun K hK => ?_) AllReadyH.nil)
                                go_simp
                                go_at_call 65
                                refine (T6.out _).mono ?_
                                rintro e5 w5 ⟨rfl, rfl⟩
                                dsimp only
                                refine hK.out _ _ (hSw) ?_
                                intro hSw
                                clear hK K
                                try simp only [Act.put, List.setIfInBounds_toArray, List.set_cons_zero, List.set_cons_succ]
                                refine wpAnyH_take (i := 13) (oi := ⟨some 215, _, _, _, _, _⟩) (v := (.int .u32 (S0 : Int))) rfl (by kernel_rfl) (by kernel_rfl) (by kernel_rfl) (fun _ _ _ h => h) (Or.inl ⟨by rfl, ?_⟩) hSw ?_
                                · intro w' hSw'
                                  obtain ⟨p0, p1, p2', p3, p4, p5, p6, p7⟩ := row_eight hSw'.1
                                  go_simp
                                simp only [Act.put, List.setIfInBounds_toArray, List.set_cons_zero, List.set_cons_succ]
                                refine wpAnyH_take (i := 14) (oi := ⟨some 20, _, _, _, _, _⟩) (v := (.int .u32 (S0 : Int))) rfl (by kernel_rfl) (by kernel_rfl) (by kernel_rfl) (fun _ _ _ h => h) (Or.inl ⟨by rfl, ?_⟩) hSw ?_
                                · intro w' hSw'
                                  obtain ⟨p0, p1, p2', p3, p4, p5, p6, p7⟩ := row_eight hSw'.1
                                  go_simp
                                simp only [Act.put, List.setIfInBounds_toArray, List.set_cons_zero, List.set_cons_succ]
                                refine wpAnyH_done (by kernel_rfl) ?_ _
                                as_aux_lemma =>
                                  clear e3 e4 hSw T4 T5 T6
                                  go_upto_region 40 with fail
                                  refine wp_region_held_drew (S := (fun w' => RowAt w' g 0 (us [va, vb, vc, vd, ve, vf, vg, vh]) ∧ Only (fun _ => False) wr w')) (by kernel_rfl) (⟨HRW.out, (Only.refl _ _).drew.drew.drew.drew⟩) ?_
                                  intro hSw
                                  refine wpAnyH_take (i := 0) (oi := ⟨some 216, _, _, _, _, _⟩) (v := (.int .u32 (S0 : Int))) rfl (by kernel_rfl) (by kernel_rfl) (by kernel_rfl) (fun _ _ _ h => h) (Or.inl ⟨by rfl, ?_⟩) hSw ?_
                                  · intro w' hSw'
                                    obtain ⟨p0, p1, p2', p3, p4, p5, p6, p7⟩ := row_eight hSw'.1
                                    go_simp
                                  simp only [Act.put, List.setIfInBounds_toArray, List.set_cons_zero, List.set_cons_succ]
                                  refine wpAnyH_take (i := 1) (oi := ⟨some 217, _, _, _, _, _⟩) (v := (.slice (some ⟨g, 0, none⟩) 8 c8)) rfl (by kernel_rfl) (by kernel_rfl) (by kernel_rfl) (fun _ _ _ h => h) (Or.inl ⟨by rfl, ?_⟩) hSw ?_
                                  · intro w' hSw'
                                    obtain ⟨p0, p1, p2', p3, p4, p5, p6, p7⟩ := row_eight hSw'.1
                                    go_simp
                                  simp only [Act.put, List.setIfInBounds_toArray, List.set_cons_zero, List.set_cons_succ]
                                  refine wpAnyH_take (i := 2) (oi := ⟨some 218, _, _, _, _, _⟩) (v := (.pointer (some ⟨g, 0, none⟩))) rfl (by kernel_rfl) (by kernel_rfl) (by kernel_rfl) (fun _ _ _ h => h) (Or.inl ⟨by rfl, ?_⟩) hSw ?_
                                  · intro w' hSw'
                                    obtain ⟨p0, p1, p2', p3, p4, p5, p6, p7⟩ := row_eight hSw'.1
                                    go_simp
                                  simp only [Act.put, List.setIfInBounds_toArray, List.set_cons_zero, List.set_cons_succ]
                                  refine wpAnyH_take (i := 3) (oi := ⟨some 219, _, _, _, _, _⟩) (v := (.int .u32 (va : Int))) rfl (by kernel_rfl) (by kernel_rfl) (by kernel_rfl) (fun _ _ _ h => h) (Or.inl ⟨by rfl, ?_⟩) hSw ?_
                                  · intro w' hSw'
                                    obtain ⟨p0, p1, p2', p3, p4, p5, p6, p7⟩ := row_eight hSw'.1
                                    go_simp
                                  simp only [Act.put, List.setIfInBounds_toArray, List.set_cons_zero, List.set_cons_succ]
                                  refine wpAnyH_take (i := 4) (oi := ⟨some 220, _, _, _, _, _⟩) (v := (.slice (some ⟨g, 0, none⟩) 8 c8)) rfl (by kernel_rfl) (by kernel_rfl) (by kernel_rfl) (fun _ _ _ h => h) (Or.inl ⟨by rfl, ?_⟩) hSw ?_
                                  · intro w' hSw'
                                    obtain ⟨p0, p1, p2', p3, p4, p5, p6, p7⟩ := row_eight hSw'.1
                                    go_simp
                                  simp only [Act.put, List.setIfInBounds_toArray, List.set_cons_zero, List.set_cons_succ]
                                  refine wpAnyH_take (i := 5) (oi := ⟨some 221, _, _, _, _, _⟩) (v := (.pointer (some ⟨g, 1, none⟩))) rfl (by kernel_rfl) (by kernel_rfl) (by kernel_rfl) (fun _ _ _ h => h) (Or.inl ⟨by rfl, ?_⟩) hSw ?_
                                  · intro w' hSw'
                                    obtain ⟨p0, p1, p2', p3, p4, p5, p6, p7⟩ := row_eight hSw'.1
                                    go_simp
                                  simp only [Act.put, List.setIfInBounds_toArray, List.set_cons_zero, List.set_cons_succ]
                                  refine wpAnyH_take (i := 6) (oi := ⟨some 222, _, _, _, _, _⟩) (v := (.int .u32 (vb : Int))) rfl (by kernel_rfl) (by kernel_rfl) (by kernel_rfl) (fun _ _ _ h => h) (Or.inl ⟨by rfl, ?_⟩) hSw ?_
                                  · intro w' hSw'
                                    obtain ⟨p0, p1, p2', p3, p4, p5, p6, p7⟩ := row_eight hSw'.1
                                    go_simp
                                  simp only [Act.put, List.setIfInBounds_toArray, List.set_cons_zero, List.set_cons_succ]
                                  refine wpAnyH_take (i := 7) (oi := ⟨some 223, _, _, _, _, _⟩) (v := (.int .u32 (B1 : Int))) rfl (by kernel_rfl) (by kernel_rfl) (by kernel_rfl) (fun _ _ _ h => h) (Or.inl ⟨by rfl, ?_⟩) hSw ?_
                                  · intro w' hSw'
                                    obtain ⟨p0, p1, p2', p3, p4, p5, p6, p7⟩ := row_eight hSw'.1
                                    go_simp
                                  simp only [Act.put, List.setIfInBounds_toArray, List.set_cons_zero, List.set_cons_succ]
                                  refine wpAnyH_take (i := 8) (oi := ⟨some 224, _, _, _, _, _⟩) (v := (.slice (some ⟨g, 0, none⟩) 8 c8)) rfl (by kernel_rfl) (by kernel_rfl) (by kernel_rfl) (fun _ _ _ h => h) (Or.inl ⟨by rfl, ?_⟩) hSw ?_
                                  · intro w' hSw'
                                    obtain ⟨p0, p1, p2', p3, p4, p5, p6, p7⟩ := row_eight hSw'.1
                                    go_simp
                                  simp only [Act.put, List.setIfInBounds_toArray, List.set_cons_zero, List.set_cons_succ]
                                  refine wpAnyH_take (i := 9) (oi := ⟨some 225, _, _, _, _, _⟩) (v := (.pointer (some ⟨g, 0, none⟩))) rfl (by kernel_rfl) (by kernel_rfl) (by kernel_rfl) (fun _ _ _ h => h) (Or.inl ⟨by rfl, ?_⟩) hSw ?_
                                  · intro w' hSw'
                                    obtain ⟨p0, p1, p2', p3, p4, p5, p6, p7⟩ := row_eight hSw'.1
                                    go_simp
                                  simp only [Act.put, List.setIfInBounds_toArray, List.set_cons_zero, List.set_cons_succ]
                                  refine wpAnyH_take (i := 10) (oi := ⟨some 226, _, _, _, _, _⟩) (v := (.int .u32 (va : Int))) rfl (by kernel_rfl) (by kernel_rfl) (by kernel_rfl) (fun _ _ _ h => h) (Or.inl ⟨by rfl, ?_⟩) hSw ?_
                                  · intro w' hSw'
                                    obtain ⟨p0, p1, p2', p3, p4, p5, p6, p7⟩ := row_eight hSw'.1
                                    go_simp
                                  simp only [Act.put, List.setIfInBounds_toArray, List.set_cons_zero, List.set_cons_succ]
                                  refine wpAnyH_take (i := 11) (oi := ⟨some 227, _, _, _, _, _⟩) (v := (.slice (some ⟨g, 0, none⟩) 8 c8)) rfl (by kernel_rfl) (by kernel_rfl) (by kernel_rfl) (fun _ _ _ h => h) (Or.inl ⟨by rfl, ?_⟩) hSw ?_
                                  · intro w' hSw'
                                    obtain ⟨p0, p1, p2', p3, p4, p5, p6, p7⟩ := row_eight hSw'.1
                                    go_simp
                                  simp only [Act.put, List.setIfInBounds_toArray, List.set_cons_zero, List.set_cons_succ]
                                  refine wpAnyH_take (i := 12) (oi := ⟨some 228, _, _, _, _, _⟩) (v := (.pointer (some ⟨g, 2, none⟩))) rfl (by kernel_rfl) (by kernel_rfl) (by kernel_rfl) (fun _ _ _ h => h) (Or.inl ⟨by rfl, ?_⟩) hSw ?_
                                  · intro w' hSw'
                                    obtain ⟨p0, p1, p2', p3, p4, p5, p6, p7⟩ := row_eight hSw'.1
                                    go_simp
                                  simp only [Act.put, List.setIfInBounds_toArray, List.set_cons_zero, List.set_cons_succ]
                                  refine wpAnyH_take (i := 13) (oi := ⟨some 229, _, _, _, _, _⟩) (v := (.int .u32 (vc : Int))) rfl (by kernel_rfl) (by kernel_rfl) (by kernel_rfl) (fun _ _ _ h => h) (Or.inl ⟨by rfl, ?_⟩) hSw ?_
                                  · intro w' hSw'
                                    obtain ⟨p0, p1, p2', p3, p4, p5, p6, p7⟩ := row_eight hSw'.1
                                    go_simp
                                  simp only [Act.put, List.setIfInBounds_toArray, List.set_cons_zero, List.set_cons_succ]
                                  refine wpAnyH_take (i := 14) (oi := ⟨some 230, _, _, _, _, _⟩) (v := (.int .u32 (B2 : Int))) rfl (by kernel_rfl) (by kernel_rfl) (by kernel_rfl) (fun _ _ _ h => h) (Or.inl ⟨by rfl, ?_⟩) hSw ?_
                                  · intro w' hSw'
                                    obtain ⟨p0, p1, p2', p3, p4, p5, p6, p7⟩ := row_eight hSw'.1
                                    go_simp
                                  simp only [Act.put, List.setIfInBounds_toArray, List.set_cons_zero, List.set_cons_succ]
                                  refine wpAnyH_take (i := 15) (oi := ⟨some 231, _, _, _, _, _⟩) (v := (.int .u32 (B3 : Int))) rfl (by kernel_rfl) (by kernel_rfl) (by kernel_rfl) (fun _ _ _ h => h) (Or.inl ⟨by rfl, ?_⟩) hSw ?_
                                  · intro w' hSw'
                                    obtain ⟨p0, p1, p2', p3, p4, p5, p6, p7⟩ := row_eight hSw'.1
                                    go_simp
                                  simp only [Act.put, List.setIfInBounds_toArray, List.set_cons_zero, List.set_cons_succ]
                                  refine wpAnyH_take (i := 16) (oi := ⟨some 232, _, _, _, _, _⟩) (v := (.slice (some ⟨g, 0, none⟩) 8 c8)) rfl (by kernel_rfl) (by kernel_rfl) (by kernel_rfl) (fun _ _ _ h => h) (Or.inl ⟨by rfl, ?_⟩) hSw ?_
                                  · intro w' hSw'
                                    obtain ⟨p0, p1, p2', p3, p4, p5, p6, p7⟩ := row_eight hSw'.1
                                    go_simp
                                  simp only [Act.put, List.setIfInBounds_toArray, List.set_cons_zero, List.set_cons_succ]
                                  refine wpAnyH_take (i := 17) (oi := ⟨some 233, _, _, _, _, _⟩) (v := (.pointer (some ⟨g, 1, none⟩))) rfl (by kernel_rfl) (by kernel_rfl) (by kernel_rfl) (fun _ _ _ h => h) (Or.inl ⟨by rfl, ?_⟩) hSw ?_
                                  · intro w' hSw'
                                    obtain ⟨p0, p1, p2', p3, p4, p5, p6, p7⟩ := row_eight hSw'.1
                                    go_simp
                                  simp only [Act.put, List.setIfInBounds_toArray, List.set_cons_zero, List.set_cons_succ]
                                  refine wpAnyH_take (i := 18) (oi := ⟨some 234, _, _, _, _, _⟩) (v := (.int .u32 (vb : Int))) rfl (by kernel_rfl) (by kernel_rfl) (by kernel_rfl) (fun _ _ _ h => h) (Or.inl ⟨by rfl, ?_⟩) hSw ?_
                                  · intro w' hSw'
                                    obtain ⟨p0, p1, p2', p3, p4, p5, p6, p7⟩ := row_eight hSw'.1
                                    go_simp
                                  simp only [Act.put, List.setIfInBounds_toArray, List.set_cons_zero, List.set_cons_succ]
                                  refine wpAnyH_take (i := 19) (oi := ⟨some 235, _, _, _, _, _⟩) (v := (.slice (some ⟨g, 0, none⟩) 8 c8)) rfl (by kernel_rfl) (by kernel_rfl) (by kernel_rfl) (fun _ _ _ h => h) (Or.inl ⟨by rfl, ?_⟩) hSw ?_
                                  · intro w' hSw'
                                    obtain ⟨p0, p1, p2', p3, p4, p5, p6, p7⟩ := row_eight hSw'.1
                                    go_simp
                                  simp only [Act.put, List.setIfInBounds_toArray, List.set_cons_zero, List.set_cons_succ]
                                  refine wpAnyH_take (i := 20) (oi := ⟨some 236, _, _, _, _, _⟩) (v := (.pointer (some ⟨g, 2, none⟩))) rfl (by kernel_rfl) (by kernel_rfl) (by kernel_rfl) (fun _ _ _ h => h) (Or.inl ⟨by rfl, ?_⟩) hSw ?_
                                  · intro w' hSw'
                                    obtain ⟨p0, p1, p2', p3, p4, p5, p6, p7⟩ := row_eight hSw'.1
                                    go_simp
                                  simp only [Act.put, List.setIfInBounds_toArray, List.set_cons_zero, List.set_cons_succ]
                                  refine wpAnyH_take (i := 21) (oi := ⟨some 237, _, _, _, _, _⟩) (v := (.int .u32 (vc : Int))) rfl (by kernel_rfl) (by kernel_rfl) (by kernel_rfl) (fun _ _ _ h => h) (Or.inl ⟨by rfl, ?_⟩) hSw ?_
                                  · intro w' hSw'
                                    obtain ⟨p0, p1, p2', p3, p4, p5, p6, p7⟩ := row_eight hSw'.1
                                    go_simp
                                  simp only [Act.put, List.setIfInBounds_toArray, List.set_cons_zero, List.set_cons_succ]
                                  refine wpAnyH_take (i := 22) (oi := ⟨some 238, _, _, _, _, _⟩) (v := (.int .u32 (B4 : Int))) rfl (by kernel_rfl) (by kernel_rfl) (by kernel_rfl) (fun _ _ _ h => h) (Or.inl ⟨by rfl, ?_⟩) hSw ?_
                                  · intro w' hSw'
                                    obtain ⟨p0, p1, p2', p3, p4, p5, p6, p7⟩ := row_eight hSw'.1
                                    go_simp
                                  simp only [Act.put, List.setIfInBounds_toArray, List.set_cons_zero, List.set_cons_succ]
                                  refine wpAnyH_take (i := 23) (oi := ⟨some 239, _, _, _, _, _⟩) (v := (.int .u32 (B5 : Int))) rfl (by kernel_rfl) (by kernel_rfl) (by kernel_rfl) (fun _ _ _ h => h) (Or.inl ⟨by rfl, ?_⟩) hSw ?_
                                  · intro w' hSw'
                                    obtain ⟨p0, p1, p2', p3, p4, p5, p6, p7⟩ := row_eight hSw'.1
                                    go_simp
                                  simp only [Act.put, List.setIfInBounds_toArray, List.set_cons_zero, List.set_cons_succ]
                                  refine wpAnyH_take (i := 24) (oi := ⟨some 240, _, _, _, _, _⟩) (v := (.int .u32 (U : Int))) rfl (by kernel_rfl) (by kernel_rfl) (by kernel_rfl) (fun _ _ _ h => h) (Or.inl ⟨by rfl, ?_⟩) hSw ?_
                                  · intro w' hSw'
                                    obtain ⟨p0, p1, p2', p3, p4, p5, p6, p7⟩ := row_eight hSw'.1
                                    go_simp
                                  simp only [Act.put, List.setIfInBounds_toArray, List.set_cons_zero, List.set_cons_succ]
                                  refine wpAnyH_take (i := 25) (oi := ⟨some 21, _, _, _, _, _⟩) (v := (.int .u32 (U : Int))) rfl (by kernel_rfl) (by kernel_rfl) (by kernel_rfl) (fun _ _ _ h => h) (Or.inl ⟨by rfl, ?_⟩) hSw ?_
                                  · intro w' hSw'
                                    obtain ⟨p0, p1, p2', p3, p4, p5, p6, p7⟩ := row_eight hSw'.1
                                    go_simp
                                  simp only [Act.put, List.setIfInBounds_toArray, List.set_cons_zero, List.set_cons_succ]
                                  refine wpAnyH_done (by kernel_rfl) ?_ _
                                  as_aux_lemma =>
                                    clear g1 g2 g3 g4 g5 g6 hSw
                                    go_upto_region 41 with fail
                                    refine wp_region_held_drew (S := (fun w' => RowAt w' g 0 (us [va, vb, vc, vd, ve, vf, vg, vh]) ∧ True ∧ OwnU w' (ph + 1) (some ⟨gw, 0, none⟩) 64 c ws ∧ Rs w w' p2 pk ph H)) (by kernel_rfl) (⟨HRW.out, trivial, HO.out.only ((Only.refl (fun _ => False) wr).drew.drew.drew.drew.drew) (fun _ _ _ h => h), HR.out.drew.drew.drew.drew.drew⟩) ?_
                                    intro hSw
                                    refine wpAnyH_take (i := 0) (oi := ⟨some 241, _, _, _, _, _⟩) (v := (.int .u32 (T : Int))) rfl (by kernel_rfl) (by kernel_rfl) (by kernel_rfl) (fun _ _ _ h => h) (Or.inl ⟨by rfl, ?_⟩) hSw ?_
                                    · intro w' hSw'
                                      obtain ⟨p0, p1, p2', p3, p4, p5, p6, p7⟩ := row_eight hSw'.1
                                      go_simp
                                    simp only [Act.put, List.setIfInBounds_toArray, List.set_cons_zero, List.set_cons_succ]
                                    refine wpAnyH_take (i := 1) (oi := ⟨some 242, _, _, _, _, _⟩) (v := (.int .u32 (U : Int))) rfl (by kernel_rfl) (by kernel_rfl) (by kernel_rfl) (fun _ _ _ h => h) (Or.inl ⟨by rfl, ?_⟩) hSw ?_
                                    · intro w' hSw'
                                      obtain ⟨p0, p1, p2', p3, p4, p5, p6, p7⟩ := row_eight hSw'.1
                                      go_simp
                                    simp only [Act.put, List.setIfInBounds_toArray, List.set_cons_zero, List.set_cons_succ]
                                    refine wpAnyH_take (i := 2) (oi := ⟨some 243, _, _, _, _, _⟩) (v := (.int .u32 (N0 : Int))) rfl (by kernel_rfl) (by kernel_rfl) (by kernel_rfl) (fun _ _ _ h => h) (Or.inl ⟨by rfl, ?_⟩) hSw ?_
                                    · intro w' hSw'
                                      obtain ⟨p0, p1, p2', p3, p4, p5, p6, p7⟩ := row_eight hSw'.1
                                      go_simp
                                    simp only [Act.put, List.setIfInBounds_toArray, List.set_cons_zero, List.set_cons_succ]
                                    refine wpAnyH_take (i := 3) (oi := ⟨some 244, _, _, _, _, _⟩) (v := (.slice (some ⟨g, 0, none⟩) 8 c8)) rfl (by kernel_rfl) (by kernel_rfl) (by kernel_rfl) (fun _ _ _ h => h) (Or.inl ⟨by rfl, ?_⟩) hSw ?_
                                    · intro w' hSw'
                                      obtain ⟨p0, p1, p2', p3, p4, p5, p6, p7⟩ := row_eight hSw'.1
                                      go_simp
                                    simp only [Act.put, List.setIfInBounds_toArray, List.set_cons_zero, List.set_cons_succ]
                                    refine wpAnyH_take (i := 4) (oi := ⟨some 245, _, _, _, _, _⟩) (v := (.pointer (some ⟨g, 0, none⟩))) rfl (by kernel_rfl) (by kernel_rfl) (by kernel_rfl) (fun _ _ _ h => h) (Or.inl ⟨by rfl, ?_⟩) hSw ?_
                                    · intro w' hSw'
                                      obtain ⟨p0, p1, p2', p3, p4, p5, p6, p7⟩ := row_eight hSw'.1
                                      go_simp
                                    simp only [Act.put, List.setIfInBounds_toArray, List.set_cons_zero, List.set_cons_succ]
                                    refine wpAnyH_take (i := 5) (oi := ⟨some 246, _, _, _, _, _⟩) (v := (.int .u32 (va : Int))) rfl (by kernel_rfl) (by kernel_rfl) (by kernel_rfl) (fun _ _ _ h => h) (Or.inl ⟨by rfl, ?_⟩) hSw ?_
                                    · intro w' hSw'
                                      obtain ⟨p0, p1, p2', p3, p4, p5, p6, p7⟩ := row_eight hSw'.1
                                      go_simp
                                    simp only [Act.put, List.setIfInBounds_toArray, List.set_cons_zero, List.set_cons_succ]
                                    refine wpAnyH_take (i := 6) (oi := ⟨some 247, _, _, _, _, _⟩) (v := (.slice (some ⟨g, 0, none⟩) 8 c8)) rfl (by kernel_rfl) (by kernel_rfl) (by kernel_rfl) (fun _ _ _ h => h) (Or.inl ⟨by rfl, ?_⟩) hSw ?_
                                    · intro w' hSw'
                                      obtain ⟨p0, p1, p2', p3, p4, p5, p6, p7⟩ := row_eight hSw'.1
                                      go_simp
                                    simp only [Act.put, List.setIfInBounds_toArray, List.set_cons_zero, List.set_cons_succ]
                                    refine wpAnyH_take (i := 7) (oi := ⟨some 248, _, _, _, _, _⟩) (v := (.pointer (some ⟨g, 1, none⟩))) rfl (by kernel_rfl) (by kernel_rfl) (by kernel_rfl) (fun _ _ _ h => h) (Or.inl ⟨by rfl, ?_⟩) hSw ?_
                                    · intro w' hSw'
                                      obtain ⟨p0, p1, p2', p3, p4, p5, p6, p7⟩ := row_eight hSw'.1
                                      go_simp
                                    simp only [Act.put, List.setIfInBounds_toArray, List.set_cons_zero, List.set_cons_succ]
                                    refine wpAnyH_take (i := 8) (oi := ⟨some 249, _, _, _, _, _⟩) (v := (.int .u32 (vb : Int))) rfl (by kernel_rfl) (by kernel_rfl) (by kernel_rfl) (fun _ _ _ h => h) (Or.inl ⟨by rfl, ?_⟩) hSw ?_
                                    · intro w' hSw'
                                      obtain ⟨p0, p1, p2', p3, p4, p5, p6, p7⟩ := row_eight hSw'.1
                                      go_simp
                                    simp only [Act.put, List.setIfInBounds_toArray, List.set_cons_zero, List.set_cons_succ]
                                    refine wpAnyH_take (i := 9) (oi := ⟨some 250, _, _, _, _, _⟩) (v := (.slice (some ⟨g, 0, none⟩) 8 c8)) rfl (by kernel_rfl) (by kernel_rfl) (by kernel_rfl) (fun _ _ _ h => h) (Or.inl ⟨by rfl, ?_⟩) hSw ?_
                                    · intro w' hSw'
                                      obtain ⟨p0, p1, p2', p3, p4, p5, p6, p7⟩ := row_eight hSw'.1
                                      go_simp
                                    simp only [Act.put, List.setIfInBounds_toArray, List.set_cons_zero, List.set_cons_succ]
                                    refine wpAnyH_take (i := 10) (oi := ⟨some 251, _, _, _, _, _⟩) (v := (.pointer (some ⟨g, 2, none⟩))) rfl (by kernel_rfl) (by kernel_rfl) (by kernel_rfl) (fun _ _ _ h => h) (Or.inl ⟨by rfl, ?_⟩) hSw ?_
                                    · intro w' hSw'
                                      obtain ⟨p0, p1, p2', p3, p4, p5, p6, p7⟩ := row_eight hSw'.1
                                      go_simp
                                    simp only [Act.put, List.setIfInBounds_toArray, List.set_cons_zero, List.set_cons_succ]
                                    refine wpAnyH_take (i := 11) (oi := ⟨some 252, _, _, _, _, _⟩) (v := (.int .u32 (vc : Int))) rfl (by kernel_rfl) (by kernel_rfl) (by kernel_rfl) (fun _ _ _ h => h) (Or.inl ⟨by rfl, ?_⟩) hSw ?_
                                    · intro w' hSw'
                                      obtain ⟨p0, p1, p2', p3, p4, p5, p6, p7⟩ := row_eight hSw'.1
                                      go_simp
                                    simp only [Act.put, List.setIfInBounds_toArray, List.set_cons_zero, List.set_cons_succ]
                                    refine wpAnyH_take (i := 12) (oi := ⟨some 253, _, _, _, _, _⟩) (v := (.slice (some ⟨g, 0, none⟩) 8 c8)) rfl (by kernel_rfl) (by kernel_rfl) (by kernel_rfl) (fun _ _ _ h => h) (Or.inl ⟨by rfl, ?_⟩) hSw ?_
                                    · intro w' hSw'
                                      obtain ⟨p0, p1, p2', p3, p4, p5, p6, p7⟩ := row_eight hSw'.1
                                      go_simp
                                    simp only [Act.put, List.setIfInBounds_toArray, List.set_cons_zero, List.set_cons_succ]
                                    refine wpAnyH_take (i := 13) (oi := ⟨some 254, _, _, _, _, _⟩) (v := (.pointer (some ⟨g, 3, none⟩))) rfl (by kernel_rfl) (by kernel_rfl) (by kernel_rfl) (fun _ _ _ h => h) (Or.inl ⟨by rfl, ?_⟩) hSw ?_
                                    · intro w' hSw'
                                      obtain ⟨p0, p1, p2', p3, p4, p5, p6, p7⟩ := row_eight hSw'.1
                                      go_simp
                                    simp only [Act.put, List.setIfInBounds_toArray, List.set_cons_zero, List.set_cons_succ]
                                    refine wpAnyH_take (i := 14) (oi := ⟨some 255, _, _, _, _, _⟩) (v := (.int .u32 (vd : Int))) rfl (by kernel_rfl) (by kernel_rfl) (by kernel_rfl) (fun _ _ _ h => h) (Or.inl ⟨by rfl, ?_⟩) hSw ?_
                                    · intro w' hSw'
                                      obtain ⟨p0, p1, p2', p3, p4, p5, p6, p7⟩ := row_eight hSw'.1
                                      go_simp
                                    simp only [Act.put, List.setIfInBounds_toArray, List.set_cons_zero, List.set_cons_succ]
                                    refine wpAnyH_take (i := 15) (oi := ⟨some 256, _, _, _, _, _⟩) (v := (.int .u32 (T : Int))) rfl (by kernel_rfl) (by kernel_rfl) (by kernel_rfl) (fun _ _ _ h => h) (Or.inl ⟨by rfl, ?_⟩) hSw ?_
                                    · intro w' hSw'
                                      obtain ⟨p0, p1, p2', p3, p4, p5, p6, p7⟩ := row_eight hSw'.1
                                      go_simp
                                    simp only [Act.put, List.setIfInBounds_toArray, List.set_cons_zero, List.set_cons_succ]
                                    refine wpAnyH_take (i := 16) (oi := ⟨some 257, _, _, _, _, _⟩) (v := (.int .u32 (N4 : Int))) rfl (by kernel_rfl) (by kernel_rfl) (by kernel_rfl) (fun _ _ _ h => h) (Or.inl ⟨by rfl, ?_⟩) hSw ?_
                                    · intro w' hSw'
                                      obtain ⟨p0, p1, p2', p3, p4, p5, p6, p7⟩ := row_eight hSw'.1
                                      go_simp
                                    simp only [Act.put, List.setIfInBounds_toArray, List.set_cons_zero, List.set_cons_succ]
                                    refine wpAnyH_take (i := 17) (oi := ⟨some 258, _, _, _, _, _⟩) (v := (.slice (some ⟨g, 0, none⟩) 8 c8)) rfl (by kernel_rfl) (by kernel_rfl) (by kernel_rfl) (fun _ _ _ h => h) (Or.inl ⟨by rfl, ?_⟩) hSw ?_
                                    · intro w' hSw'
                                      obtain ⟨p0, p1, p2', p3, p4, p5, p6, p7⟩ := row_eight hSw'.1
                                      go_simp
                                    simp only [Act.put, List.setIfInBounds_toArray, List.set_cons_zero, List.set_cons_succ]
                                    refine wpAnyH_take (i := 18) (oi := ⟨some 259, _, _, _, _, _⟩) (v := (.pointer (some ⟨g, 4, none⟩))) rfl (by kernel_rfl) (by kernel_rfl) (by kernel_rfl) (fun _ _ _ h => h) (Or.inl ⟨by rfl, ?_⟩) hSw ?_
                                    · intro w' hSw'
                                      obtain ⟨p0, p1, p2', p3, p4, p5, p6, p7⟩ := row_eight hSw'.1
                                      go_simp
                                    simp only [Act.put, List.setIfInBounds_toArray, List.set_cons_zero, List.set_cons_succ]
                                    refine wpAnyH_take (i := 19) (oi := ⟨some 260, _, _, _, _, _⟩) (v := (.int .u32 (ve : Int))) rfl (by kernel_rfl) (by kernel_rfl) (by kernel_rfl) (fun _ _ _ h => h) (Or.inl ⟨by rfl, ?_⟩) hSw ?_
                                    · intro w' hSw'
                                      obtain ⟨p0, p1, p2', p3, p4, p5, p6, p7⟩ := row_eight hSw'.1
                                      go_simp
                                    simp only [Act.put, List.setIfInBounds_toArray, List.set_cons_zero, List.set_cons_succ]
                                    refine wpAnyH_take (i := 20) (oi := ⟨some 261, _, _, _, _, _⟩) (v := (.slice (some ⟨g, 0, none⟩) 8 c8)) rfl (by kernel_rfl) (by kernel_rfl) (by kernel_rfl) (fun _ _ _ h => h) (Or.inl ⟨by rfl, ?_⟩) hSw ?_
                                    · intro w' hSw'
                                      obtain ⟨p0, p1, p2', p3, p4, p5, p6, p7⟩ := row_eight hSw'.1
                                      go_simp
                                    simp only [Act.put, List.setIfInBounds_toArray, List.set_cons_zero, List.set_cons_succ]
                                    refine wpAnyH_take (i := 21) (oi := ⟨some 262, _, _, _, _, _⟩) (v := (.pointer (some ⟨g, 5, none⟩))) rfl (by kernel_rfl) (by kernel_rfl) (by kernel_rfl) (fun _ _ _ h => h) (Or.inl ⟨by rfl, ?_⟩) hSw ?_
                                    · intro w' hSw'
                                      obtain ⟨p0, p1, p2', p3, p4, p5, p6, p7⟩ := row_eight hSw'.1
                                      go_simp
                                    simp only [Act.put, List.setIfInBounds_toArray, List.set_cons_zero, List.set_cons_succ]
                                    refine wpAnyH_take (i := 22) (oi := ⟨some 263, _, _, _, _, _⟩) (v := (.int .u32 (vf : Int))) rfl (by kernel_rfl) (by kernel_rfl) (by kernel_rfl) (fun _ _ _ h => h) (Or.inl ⟨by rfl, ?_⟩) hSw ?_
                                    · intro w' hSw'
                                      obtain ⟨p0, p1, p2', p3, p4, p5, p6, p7⟩ := row_eight hSw'.1
                                      go_simp
                                    simp only [Act.put, List.setIfInBounds_toArray, List.set_cons_zero, List.set_cons_succ]
                                    refine wpAnyH_take (i := 23) (oi := ⟨some 264, _, _, _, _, _⟩) (v := (.slice (some ⟨g, 0, none⟩) 8 c8)) rfl (by kernel_rfl) (by kernel_rfl) (by kernel_rfl) (fun _ _ _ h => h) (Or.inl ⟨by rfl, ?_⟩) hSw ?_
                                    · intro w' hSw'
                                      obtain ⟨p0, p1, p2', p3, p4, p5, p6, p7⟩ := row_eight hSw'.1
                                      go_simp
                                    simp only [Act.put, List.setIfInBounds_toArray, List.set_cons_zero, List.set_cons_succ]
                                    refine wpAnyH_take (i := 24) (oi := ⟨some 265, _, _, _, _, _⟩) (v := (.pointer (some ⟨g, 6, none⟩))) rfl (by kernel_rfl) (by kernel_rfl) (by kernel_rfl) (fun _ _ _ h => h) (Or.inl ⟨by rfl, ?_⟩) hSw ?_
                                    · intro w' hSw'
                                      obtain ⟨p0, p1, p2', p3, p4, p5, p6, p7⟩ := row_eight hSw'.1
                                      go_simp
                                    simp only [Act.put, List.setIfInBounds_toArray, List.set_cons_zero, List.set_cons_succ]
                                    refine wpAnyH_take (i := 25) (oi := ⟨some 266, _, _, _, _, _⟩) (v := (.int .u32 (vg : Int))) rfl (by kernel_rfl) (by kernel_rfl) (by kernel_rfl) (fun _ _ _ h => h) (Or.inl ⟨by rfl, ?_⟩) hSw ?_
                                    · intro w' hSw'
                                      obtain ⟨p0, p1, p2', p3, p4, p5, p6, p7⟩ := row_eight hSw'.1
                                      go_simp
                                    simp only [Act.put, List.setIfInBounds_toArray, List.set_cons_zero, List.set_cons_succ]
                                    refine wpAnyH_ready (rs := [26]) (by kernel_rfl) (by simp) (AllReadyH.cons (o := ⟨some 267, _, _, _, _, _⟩) rfl (fun K hK => ?_) AllReadyH.nil)
                                    refine step_newu (by rfl) (.cells #[.int .u32 (N0 : Int), .int .u32 (va : Int), .int .u32 (vb : Int), .int .u32 (vc : Int), .int .u32 (N4 : Int), .int .u32 (ve : Int), .int .u32 (vf : Int), .int .u32 (vg : Int)] 35) (fun N => .slice (some ⟨N, 0, none⟩) 8 8) (exec_bsl (t := 115) (n := 8) rfl (run_bs8 _ N0 va vb vc N4 ve vf vg) (by kernel_rfl)) ?_
                                    intro N5 w5 hN5 hw5 hb5
                                    have HRW5 := Lib.hid (show RowAt w5 N5 0 (us [N0, va, vb, vc, N4, ve, vf, vg]) by rw [hN5, hw5]; exact RowAt.new_us _ 35 [N0, va, vb, vc, N4, ve, vf, vg])
                                    have HG5 := Lib.hid (show ph < N5 by rw [hN5]; exact hSw.2.2.2.bh.lt)
                                    clear hN5 hw5
                                    refine hK.out _ _ (⟨hSw.1.only (Only.of_below hb5) (fun e => by have := hSw.1.lt (by simp [us]); omega), trivial, hSw.2.2.1.only (Only.of_below hb5) (fun k hk hk2 e => by omega), hSw.2.2.2.new hb5⟩) ?_
                                    intro hSw
                                    clear hK K
                                    try simp only [Act.put, List.setIfInBounds_toArray, List.set_cons_zero, List.set_cons_succ]
                                    refine wpAnyH_take (i := 27) (oi := ⟨some 16, _, _, _, _, _⟩) (v := (.slice (some ⟨N5, 0, none⟩) 8 8)) rfl (by kernel_rfl) (by kernel_rfl) (by kernel_rfl) (fun _ _ _ h => h) (Or.inl ⟨by rfl, ?_⟩) hSw ?_
                                    · intro w' hSw'
                                      obtain ⟨p0, p1, p2', p3, p4, p5, p6, p7⟩ := row_eight hSw'.1
                                      go_simp
                                    simp only [Act.put, List.setIfInBounds_toArray, List.set_cons_zero, List.set_cons_succ]
                                    refine wpAnyH_done (by kernel_rfl) ?_ _
                                    as_aux_lemma =>
                                      have HR7 := Lib.hid (hSw.2.2.2)
                                      have HO7 := Lib.hid (hSw.2.2.1)
                                      clear hSw HRW HG HO HR
                                      have hj := HJ.out
                                      go_wp2
                                      go_roundg (64 - 1 - j)
                                      case measure => omega
                                      case rel => exact ⟨j + 1, N5, 8, by omega, rfl, by go_num, by rw [HNX.out]; exact HRW5, HG5, HO7, HR7⟩
                          · obtain rfl : j = 64 := by omega
                            clear hj hlt64
                            obtain ⟨R, hR⟩ : ∃ R, rnds H ws 64 = R := ⟨_, rfl⟩
                            have hR8 : R.length = 8 := by rw [← hR]; exact rnds_len H ws 64 HH8.out
                            rw [hR] at HRW
                            have HBB := Lib.hid (show shaN P (i + 1) = addL H R 8 by rw [shaN, HBK.out, HH.out, blk, HWS.out, hR])
                            have HR8 := Lib.hid hR8
                            clear hR hR8
                            go_wp2_with fail
                            go_loopg [22] 8 (fun k v22 wr => ∃ (i2 : Nat), i2 + k = 8 ∧ v22 = .int .i64 i2 ∧ Hid (RowAt wr g 0 (us R)) ∧ Hid (Rs w wr p2 pk ph (addL H R i2)))
                            case atStart => exact ⟨0, by omega, rfl, HRW, by rw [addL_zero H R HH8.out]; exact HR⟩
                            case round =>
                              clear HRW HR
                              obtain ⟨i2, hi2, rfl, HRW, HR⟩ := hrel
                              by_cases hlt8 : i2 < 8
                              · as_aux_lemma =>
                                have dl : decide ((i2 : Int) < 8) = true := by simp; omega
                                have j0 : (0 : Int) ≤ (i2 : Int) := by omega
                                have j8 : (i2 : Int) < 8 := by omega
                                obtain ⟨X, hX⟩ : ∃ X, H.getD i2 0 = X := ⟨_, rfl⟩
                                obtain ⟨Y, hY⟩ : ∃ Y, R.getD i2 0 = Y := ⟨_, rfl⟩
                                have pX := row_us0 HR.out.bh.rowAll (i := i2) (by rw [addL_len]; exact hlt8)
                                rw [addL_get H R i2 i2 hlt8, if_neg (by omega), hX] at pX
                                have pY := row_us0 HRW.out (i := i2) (by rw [HR8.out]; exact hlt8)
                                rw [hY] at pY
                                obtain ⟨Z, hZ⟩ : ∃ Z, (X + Y) % 4294967296 = Z := ⟨_, rfl⟩
                                have e280 : IntKind.u32.wrap ((X : Int) + (Y : Int)) = (Z : Int) := by rw [wrap32]; omega
                                have HPX := Lib.hid (And.intro pX pY)
                                have hset := addL_set H R i2 hlt8
                                rw [hX, hY, hZ] at hset
                                have HSET := Lib.hid hset
                                have HJ := Lib.hid hi2
                                clear hX hY hZ pX pY hset hi2
                                go_upto_region 45 with fail
                                refine wp_region_tail (S := (fun w' => w'.cell? ⟨ph, i2, none⟩ = some (.int .u32 (X : Int)) ∧ w'.cell? ⟨g, i2, none⟩ = some (.int .u32 (Y : Int)) ∧ Rs w w' p2 pk ph (addL H R i2) ∧ RowAt w' g 0 (us R))) 10 (by kernel_rfl) (by decide) (by kernel_rfl) (⟨HPX.out.1, HPX.out.2, HR.out.drew, HRW.out⟩) ?_
                                simp only [List.take_succ_cons, List.take_zero, List.drop_succ_cons, List.drop_zero]
                                intro hSw
                                refine wpAnyH_take (i := 0) (oi := ⟨some 272, _, _, _, _, _⟩) (v := (.slice (some ⟨ph, 0, none⟩) 8 8)) rfl (by kernel_rfl) (by kernel_rfl) (by kernel_rfl) (fun _ _ _ h => h) (Or.inl ⟨by rfl, ?_⟩) hSw ?_
                                · intro w' hSw'
                                  have pX := hSw'.1
                                  have pY := hSw'.2.1
                                  go_simp
                                simp only [Act.put, List.setIfInBounds_toArray, List.set_cons_zero, List.set_cons_succ]
                                refine wpAnyH_take (i := 1) (oi := ⟨some 273, _, _, _, _, _⟩) (v := (.int .i64 (i2 : Int))) rfl (by kernel_rfl) (by kernel_rfl) (by kernel_rfl) (fun _ _ _ h => h) (Or.inl ⟨by rfl, ?_⟩) hSw ?_
                                · intro w' hSw'
                                  have pX := hSw'.1
                                  have pY := hSw'.2.1
                                  go_simp
                                simp only [Act.put, List.setIfInBounds_toArray, List.set_cons_zero, List.set_cons_succ]
                                refine wpAnyH_take (i := 2) (oi := ⟨some 274, _, _, _, _, _⟩) (v := (.pointer (some ⟨ph, i2, none⟩))) rfl (by kernel_rfl) (by kernel_rfl) (by kernel_rfl) (fun _ _ _ h => h) (Or.inl ⟨by rfl, ?_⟩) hSw ?_
                                · intro w' hSw'
                                  have pX := hSw'.1
                                  have pY := hSw'.2.1
                                  go_simp
                                simp only [Act.put, List.setIfInBounds_toArray, List.set_cons_zero, List.set_cons_succ]
                                refine wpAnyH_take (i := 3) (oi := ⟨some 275, _, _, _, _, _⟩) (v := (.int .u32 (X : Int))) rfl (by kernel_rfl) (by kernel_rfl) (by kernel_rfl) (fun _ _ _ h => h) (Or.inl ⟨by rfl, ?_⟩) hSw ?_
                                · intro w' hSw'
                                  have pX := hSw'.1
                                  have pY := hSw'.2.1
                                  go_simp
                                simp only [Act.put, List.setIfInBounds_toArray, List.set_cons_zero, List.set_cons_succ]
                                refine wpAnyH_take (i := 4) (oi := ⟨some 276, _, _, _, _, _⟩) (v := (.slice (some ⟨g, 0, none⟩) 8 c8)) rfl (by kernel_rfl) (by kernel_rfl) (by kernel_rfl) (fun _ _ _ h => h) (Or.inl ⟨by rfl, ?_⟩) hSw ?_
                                · intro w' hSw'
                                  have pX := hSw'.1
                                  have pY := hSw'.2.1
                                  go_simp
                                simp only [Act.put, List.setIfInBounds_toArray, List.set_cons_zero, List.set_cons_succ]
                                refine wpAnyH_take (i := 5) (oi := ⟨some 277, _, _, _, _, _⟩) (v := (.int .i64 (i2 : Int))) rfl (by kernel_rfl) (by kernel_rfl) (by kernel_rfl) (fun _ _ _ h => h) (Or.inl ⟨by rfl, ?_⟩) hSw ?_
                                · intro w' hSw'
                                  have pX := hSw'.1
                                  have pY := hSw'.2.1
                                  go_simp
                                simp only [Act.put, List.setIfInBounds_toArray, List.set_cons_zero, List.set_cons_succ]
                                refine wpAnyH_take (i := 6) (oi := ⟨some 278, _, _, _, _, _⟩) (v := (.pointer (some ⟨g, i2, none⟩))) rfl (by kernel_rfl) (by kernel_rfl) (by kernel_rfl) (fun _ _ _ h => h) (Or.inl ⟨by rfl, ?_⟩) hSw ?_
                                · intro w' hSw'
                                  have pX := hSw'.1
                                  have pY := hSw'.2.1
                                  go_simp
                                simp only [Act.put, List.setIfInBounds_toArray, List.set_cons_zero, List.set_cons_succ]
                                refine wpAnyH_take (i := 7) (oi := ⟨some 279, _, _, _, _, _⟩) (v := (.int .u32 (Y : Int))) rfl (by kernel_rfl) (by kernel_rfl) (by kernel_rfl) (fun _ _ _ h => h) (Or.inl ⟨by rfl, ?_⟩) hSw ?_
                                · intro w' hSw'
                                  have pX := hSw'.1
                                  have pY := hSw'.2.1
                                  go_simp
                                simp only [Act.put, List.setIfInBounds_toArray, List.set_cons_zero, List.set_cons_succ]
                                refine wpAnyH_take (i := 8) (oi := ⟨some 280, _, _, _, _, _⟩) (v := (.int .u32 (Z : Int))) rfl (by kernel_rfl) (by kernel_rfl) (by kernel_rfl) (fun _ _ _ h => h) (Or.inl ⟨by rfl, ?_⟩) hSw ?_
                                · intro w' hSw'
                                  have pX := hSw'.1
                                  have pY := hSw'.2.1
                                  go_simp
                                simp only [Act.put, List.setIfInBounds_toArray, List.set_cons_zero, List.set_cons_succ]
                                refine wpAnyH_take (i := 9) (oi := ⟨some 281, _, _, _, _, _⟩) (v := (.pointer (some ⟨ph, i2, none⟩))) rfl (by kernel_rfl) (by kernel_rfl) (by kernel_rfl) (fun _ _ _ h => h) (Or.inl ⟨by rfl, ?_⟩) hSw ?_
                                · intro w' hSw'
                                  have pX := hSw'.1
                                  have pY := hSw'.2.1
                                  go_simp
                                simp only [Act.put, List.setIfInBounds_toArray, List.set_cons_zero, List.set_cons_succ]
                                refine wpAnyH_done (by kernel_rfl) ?_ _
                                show wpList _ _ _ _ _ _
                                have pX := hSw.1
                                have fX := hSw.2.2.1.bh.frozen i2
                                have hR9 := hSw.2.2.1.seth i2 (.int .u32 (Z : Int)) HSET.out
                                have hW9 := hSw.2.2.2.only ((Only.refl (fun b => b = ph) _).setCell (p := ⟨ph, i2, none⟩) (fun _ => rfl) (.int .u32 (Z : Int))) (fun e => by have := HG.out; omega)
                                have HR9 := Lib.hid hR9
                                have HW9 := Lib.hid hW9
                                clear hR9 hW9 hSw
                                have hi2 := HJ.out
                                go_wp2
                                go_roundg (8 - 1 - i2)
                                case measure => omega
                                case rel => exact ⟨i2 + 1, by omega, by go_num, HW9, HR9⟩
                              · obtain rfl : i2 = 8 := by omega
                                have hi := HI.out
                                have hz := HZ.out
                                clear hlt8 hi2
                                go_wp2
                                go_roundg (N - 1 - i)
                                case measure => omega
                                case rel => exact ⟨i + 1, z + 64, by omega, by (have h1 := HN.out; have h2 := HPB.out; refine congrArg (Value.int .i64) ?_; rw [IntWalk.wrap64_in _ (by omega)]; omega), by rw [Hid]; omega, by rw [HBB.out]; exact HR⟩
            · as_aux_lemma =>
              obtain rfl : i = N := by omega
              have dl : decide (z < pl) = false := by have := HZ.out; have := HN.out; simp; omega
              have dl2 : decide ((z : Int) < (pl : Int)) = false := by have := HZ.out; have := HN.out; simp; omega
              obtain ⟨H, hH⟩ : ∃ H, shaN P i = H := ⟨_, rfl⟩
              have hH8 : H.length = 8 := by rw [← hH]; exact shaN_len _ _
              rw [hH] at HR
              have HSH := Lib.hid (show sha l = idp H 8 by
                rw [idp_all H hH8, sha, ← HPD.out, HPL.out, HN.out, Nat.mul_div_cancel_left i (show 0 < 64 by decide), hH])
              have HH8 := Lib.hid hH8
              have HHL := Lib.hid (show ∀ x ∈ H, x < 4294967296 by rw [← hH]; exact shaN_lt _ _)
              clear hH hH8 hlt hi
              go_wp2_with (with_reducible refine wpList_stb rfl 36 (.tmp 23) (.tmp 282) rfl wr.heap.size 0 _ rfl rfl 36 _ (Blk.new wr _ _) ?h1 ?h2 ?h3 ?_)
              case h1 => simp
              case h2 => rw [infoA32]; rfl
              case h3 => (repeat' apply And.intro) <;> rfl
              clear dl dl2
              intro w9 b9 o9
              have hO9 : Below wr.heap.size wr w9 := (((Only.refl (fun b => wr.heap.size ≤ b) wr).alloc _).trans o9 (fun b _ e => by omega)).below (Nat.le_refl _) (fun b hb h => by omega)
              have hphl := HR.out.bh.lt
              replace HR := Lib.hid (HR.out.new hO9)
              have hb9 : Blk w9 wr.heap.size 36 (bts (idp H 0)).toArray := b9
              obtain ⟨po, hpo⟩ : ∃ po, wr.heap.size = po := ⟨_, rfl⟩
              rw [hpo] at hb9 hphl ⊢
              have HBO := Lib.hid hb9
              have HPO := Lib.hid hphl
              clear b9 o9 hO9 hb9 hphl hpo
              go_wp2_with fail
              go_loopg [24] 8 (fun k v24 wr => ∃ (i2 : Nat), i2 + k = 8 ∧ v24 = .int .i64 i2 ∧ Hid (Blk wr po 36 (bts (idp H i2)).toArray) ∧ Hid (Rs w wr p2 pk ph H))
              case atStart => exact ⟨0, by omega, rfl, HBO, HR⟩
              case round =>
                clear HBO HR
                obtain ⟨i2, hi2, rfl, HBO, HR⟩ := hrel
                by_cases hlt8 : i2 < 8
                · have dl : decide ((i2 : Int) < 8) = true := by simp; omega
                  have j0 : (0 : Int) ≤ (i2 : Int) := by omega
                  have j8 : (i2 : Int) < 8 := by omega
                  have pX := row_us0 HR.out.bh.rowAll (i := i2) (by rw [HH8.out]; exact hlt8)
                  obtain ⟨X, hX⟩ : ∃ X, H.getD i2 0 = X := ⟨_, rfl⟩
                  rw [hX] at pX
                  have hXl : X < 4294967296 := by rw [← hX]; unfold List.getD; rw [List.getElem?_eq_getElem (show i2 < H.length by rw [HH8.out]; exact hlt8)]; exact HHL.out _ (List.getElem_mem _)
                  have HXL := Lib.hid hXl
                  have HSM := Lib.hid (show setm (bts (idp H i2)) i2 X 4 = bts (idp H (i2 + 1)) by rw [← hX]; exact setm_all H i2 HH8.out hlt8)
                  have HI2 := Lib.hid hi2
                  have HLT := Lib.hid hlt8
                  have hil : (bts (idp H i2)).length = 32 := by rw [bts_length, idp, List.length_append, List.length_take, List.length_replicate, flat4_len, HH8.out]; omega
                  have HIL := Lib.hid hil
                  clear hX hXl hi2 hil
                  go_wp2_with fail
                  clear pX dl
                  go_loopg [25, 26] 4 (fun k v25 v26 wr => ∃ (m x : Nat) (y : Int), m + k = 4 ∧ v25 = .int .u32 (x : Int) ∧ v26 = .int .i64 y ∧ Hid (y = 3 - (m : Int)) ∧ Hid (x = X / 256 ^ m) ∧ Hid (Blk wr po 36 (setm (bts (idp H i2)) i2 X m).toArray) ∧ Hid (Rs w wr p2 pk ph H))
                  case atStart => exact ⟨0, X, 3, by omega, rfl, rfl, rfl, by simp [Hid], HBO, HR⟩
                  case round =>
                    clear HBO HR
                    obtain ⟨m, x, y, hm, rfl, rfl, HY, HX, HBO, HR⟩ := hrel
                    by_cases hlt4 : m < 4
                    · have y0 : (0 : Int) ≤ y := by have := HY.out; omega
                      obtain ⟨a1, ha1⟩ : ∃ a, 4 * i2 = a := ⟨_, rfl⟩
                      obtain ⟨a3, ha3⟩ : ∃ a, 4 * i2 + 3 - m = a := ⟨_, rfl⟩
                      have e296 : IntKind.i64.wrap (4 * (i2 : Int)) = (a1 : Int) := by rw [w64 _ (by omega)]; omega
                      have e298 : IntKind.i64.wrap ((a1 : Int) + y) = (a3 : Int) := by have := HY.out; rw [w64 _ (by omega)]; omega
                      obtain ⟨y2, hy2⟩ : ∃ y2, y - 1 = y2 := ⟨_, rfl⟩
                      have e294 : IntKind.i64.wrap (y - 1) = y2 := by have := HY.out; rw [w64 _ (by omega)]; omega
                      have b0 : (0 : Int) ≤ (a3 : Int) := by omega
                      have b1 : (a3 : Int) < 32 := by omega
                      have b2 : a3 < 32 := by omega
                      have hxl : x < 4294967296 := by rw [HX.out]; exact Nat.lt_of_le_of_lt (Nat.div_le_self _ _) HXL.out
                      obtain ⟨d, hd⟩ : ∃ d, x % 256 = d := ⟨_, rfl⟩
                      have e300 : (x : Int) % 256 = (d : Int) := by omega
                      have e301 : IntKind.u8.wrap (d : Int) = (d : Int) := by rw [IntKind.wrap_u8]; omega
                      obtain ⟨x2, hx2⟩ : ∃ x2, x / 256 = x2 := ⟨_, rfl⟩
                      have e304 : (x : Int) / 256 = (x2 : Int) := by omega
                      have hsl : a3 < (setm (bts (idp H i2)) i2 X m).length := by rw [setm_len, HIL.out]; exact b2
                      have pC := HBO.out.cell a3
                      obtain ⟨cv, hcv⟩ : ∃ cv, (setm (bts (idp H i2)) i2 X m)[a3]? = some cv := ⟨_, List.getElem?_eq_getElem hsl⟩
                      rw [List.getElem?_toArray, hcv] at pC
                      have fC := HBO.out.frozen a3
                      have hbv : Value.int .u8 (d : Int) = Bt (UInt8.ofNat (X / 256 ^ m)) := by rw [← HX.out]; exact byte_mod x _ (by omega)
                      have hst := HBO.out.set_ a3 (.int .u8 (d : Int))
                      rw [List.setIfInBounds_toArray] at hst
                      have HST := Lib.hid (show Blk (wr.setCell ⟨po, a3, none⟩ (.int .u8 (d : Int))) po 36 (setm (bts (idp H i2)) i2 X (m + 1)).toArray by
                        rw [setm, ha3, ← hbv]; exact hst)
                      have HR9 := Lib.hid (HR.out.only ((Only.refl (fun b => b = po) wr).setCell (p := ⟨po, a3, none⟩) (fun _ => rfl) (.int .u8 (d : Int))) (fun b hb e => by have := HPO.out; omega))
                      have HX2 := Lib.hid (show x2 = X / 256 ^ (m + 1) by rw [← hx2, HX.out, Nat.pow_succ, Nat.div_div_eq_div_mul])
                      have HX2L := Lib.hid (show x2 < 4294967296 by rw [HX2.out]; exact Nat.lt_of_le_of_lt (Nat.div_le_self _ _) HXL.out)
                      have HY2 := Lib.hid (show y2 = 3 - ((m + 1 : Nat) : Int) by have := HY.out; omega)
                      have HM := Lib.hid hm
                      clear ha1 ha3 hy2 hd hx2 hsl hcv hbv hst hm hxl
                      go_wp2
                      go_roundg (4 - 1 - m)
                      case measure => have := HM.out; omega
                      case rel => exact ⟨m + 1, x2, y2, by have := HM.out; omega, by (have := HX2L.out; refine congrArg _ ?_; omega), rfl, HY2, HX2, HST, HR9⟩
                    · obtain rfl : m = 4 := by omega
                      have y0 : ¬ ((0 : Int) ≤ y) := by have := HY.out; omega
                      have HBO' := Lib.hid (show Blk wr po 36 (bts (idp H (i2 + 1))).toArray from HSM.out ▸ HBO.out)
                      have hi2 := HI2.out
                      clear hlt4 hm
                      go_wp2
                      go_roundg (8 - 1 - i2)
                      case measure => have := HLT.out; omega
                      case rel => exact ⟨i2 + 1, by have := HLT.out; omega, by go_num, HBO', HR⟩
                · obtain rfl : i2 = 8 := by omega
                  have hl32 : (bts (sha l)).length = 32 := by rw [bts_length, sha_len]
                  have HL32 := Lib.hid hl32
                  rw [← HSH.out] at HBO
                  clear hl32 hlt8 hi2
                  go_wp2_with (first
                    | (with_reducible refine wpList_ld rfl 36 (.tmp 23) rfl po 0 rfl (bts (sha l)) HBO.out.rowAll _ Try.underlying36 rfl 32 infoA32 HL32.out.symm ?_)
                    | (with_reducible refine wpList_stb rfl 36 (.tmp 2) (.tmp 305) rfl p2 0 _ rfl rfl 36 _ HR.out.b2 ?k1 ?k2 ?k3 ?_))
                  case k1 => simp [HL32.out, zeros32]
                  case k2 => rw [infoA32]; simp [HL32.out]
                  case k3 => exact bts_one _
                  intro w6 b6 o6
                  rw [over_all _ _ (by simp [HL32.out, zeros32])] at b6
                  have HB6 := Lib.hid b6
                  have HBL6 := Lib.hid (HR.out.below.trans (o6.below HR.out.below.size (fun b hb e => by have := HR.out.h0; omega)))
                  clear b6 o6
                  go_wp2
                  refine bodyPost_ret (results_cell_row rfl _ _ p2 36 (bts (sha l)).toArray (0, 0) _ rfl HB6.out Try.underlying36 rfl (by rw [infoA32]; simp [HL32.out])) rfl ?_
                  exact ⟨rfl, HBL6.out⟩
end Go.Proofs.Ytnonabmbichfnaa
