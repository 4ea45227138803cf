/- WholeSpent, walked. -/
import Derived.Test.YtlbpeihdedhjiaaWsp
import Derived.Test.YtlbpeihdedhjiaaNm
import Derived.Test.YtlbpeihdedhjiaaTp
import Derived.Test.YtlbpeihdedhjiaaCfp
import Derived.Test.YtlbpeihdedhjiaaCt
namespace Go.Proofs.Ytlbpeihdedhjiaa
open Go.RowKit Go.MapKept
open Go.ChangeMaps (setBlock)
theorem zl32 : zid.length = 32 := rfl
def keysSh : Shape (List (List UInt8)) := shSlice shBytes (by decide)
def feesSh : Shape (List Int) := shSlice (shInt .i64) (by decide)
theorem opens_keys : Opens Try.prog 22 keysSh := opens_slice Try.underlying22 (by kernel_rfl) (opens_bytes Try.underlying30 Try.underlying5 (by kernel_rfl))
theorem opens_fees : Opens Try.prog 23 feesSh := opens_slice Try.underlying23 (by kernel_rfl) (opens_int Try.underlying2)
theorem built_inz (id : List UInt8) (ix : Nat) (h : id.length = 32) : Try.prog.built 32 [(0, .agg (ptC id ix).toArray)] = some (inC id ix (.slice none 0 0)).toArray := by
    match id, h with
    | [b1, b2, b3, b4, b5, b6, b7, b8, b9, b10, b11, b12, b13, b14, b15, b16, b17, b18, b19, b20, b21, b22, b23, b24, b25, b26, b27, b28, b29, b30, b31, b32], _ => show _ = _; kernel_rfl
theorem zero_blkT (w : World) : (zeroValue 54).run Try.prog w = .ok (.agg (blkC 0 zid zid 0 0 0 (.slice none 0 0)).toArray) w := by show _ = _; kernel_rfl
section
variable {P : Program} {ops : Array Oper} {rest : List Oper} {o : Oper} {a : Act} {w : World} {Q : Exit → Act → World → Prop}
theorem wpList_ldg4 (hw : Region.wanted o (yielded ops a.tmps) = true) (ty : TypeId) (x : Operand) (ho : o.op = .load ty x) (b oo : Nat) (hx : a.eval x = .pointer (some ⟨b, oo, none⟩)) (cs : List Value) (hc : RowAt w b oo cs)
    (d : TypeDesc) (hu : P.underlying ty = some d) (hd : d.isRow = true) (n : Nat) (hi : (P.info? ty).map (·.size) = some n) (hn : n = cs.length)
    (h : wpList P ops Q rest (a.put o.dst (.agg cs.toArray)) w) : wpList P ops Q (o :: rest) a w := by
  unfold wpList
  rw [if_pos hw]
  exact .inl (wp_load_mid ty x ho b oo hx cs d hc hu hd (by rw [hi, hn]) h)
theorem wpList_val {v : Value} {w' : World} (hw : Region.wanted o (yielded ops a.tmps) = true) (hr : (execOp a.eval o).run P w = .ok (.value v) w') (h : wpList P ops Q rest (a.put o.dst v) w') : wpList P ops Q (o :: rest) a w := by
  unfold wpList
  rw [if_pos hw]
  exact .inl (step_val hr h)
end
theorem step_estore {P : Program} {ops : Array Oper} {o : Oper} {ac : Act} {w w' : World} {Q : Exit → Act → World → Prop} {K : Act → World → Prop} {E : Prop} {t : TypeId} {m s x : Operand} (hw : Region.wanted o (yielded ops ac.tmps) = true) (ho : o.op = .entryStore t m s x)
    (hr : (Instr.entryStore t (ac.eval m) (ac.eval s) (ac.eval x)).run P w = .ok () w') (h : K (ac.put o.dst undef) w') : if Region.wanted o (yielded ops ac.tmps) = true then Oper.wp P o ac w K Q else E := by
  rw [if_pos hw]
  unfold Oper.wp execOp
  simp only [ho, Sem.run_bind, hr, Result.andThen_ok]
  exact h
theorem key1_conv {B : Nat} {w w' : World} {N : Nat} {c : Int} {l : List UInt8} {fr : Nat × Nat} (h : w.heap[N]? = some (Obj.cells #[.int .u8 c] 5 fr)) (hB : B ≤ N) (f : Fz B w w') (hl : [Value.int .u8 c] = bts l) : KyP B w' N 1 1 l := by
  have hlen : l.length = 1 := by have := congrArg List.length hl; simpa using this.symm
  obtain ⟨fr1, hb1⟩ := f.u8 N _ fr h
  refine ⟨_, fr1, hB, ⟨_, 1, 1, rfl, hlen.symm, Nat.le_refl _, by simp [hlen], fun _ => ⟨N, 0, rfl, rfl, ?_⟩⟩, hb1⟩
  rw [← hl]
  intro j u hj
  refine f.cel _ _ ?_
  match j, hj with
  | 0, hj => rw [← hj]; exact cell_of_row _ _ _ _ _ _ h
theorem cm_nm_ne {w : World} {b b' : Nat} {L : CoL} {N : List (List UInt8)} (h : IsCM w b L) (hn : IsNM w b' N) (hL : L ≠ []) : b ≠ b' := by
  rintro rfl
  obtain ⟨es, clock, h1, h2, _⟩ := h
  obtain ⟨es', clock', k1, _, k3, _⟩ := hn
  rw [h1] at k1
  injection k1 with k1
  injection k1 with k1 _
  subst k1
  cases L with
  | nil => exact hL rfl
  | cons y L =>
    rw [List.map_cons] at h2
    cases hl : es.toList with
    | nil => rw [hl] at h2; cases h2
    | cons e r =>
      rw [hl, List.map_cons] at h2
      injection h2 with h2 _
      have hv : e.val = coinV y.2 := (congrArg Prod.snd h2)
      have := k3 e (by rw [hl]; exact List.mem_cons_self)
      rw [hv] at this
      cases this
theorem nm_blk_ne {w : World} {b g : Nat} {N : List (List UInt8)} {t : TypeId} {cs : Array Value} (h : IsNM w b N) (hg : Blk w g t cs) : b ≠ g := by
  rintro rfl
  obtain ⟨es, clock, h1, _⟩ := h
  unfold Blk at hg
  rw [h1] at hg
  cases hg
theorem below_drew {B : Nat} {w w' : World} (h : Below B w.drew w') : Below B w w' := ⟨h.os, h.tape, h.output, h.size, h.block⟩
/-- what lies in memory at each round -/
structure WsW (w0 : World) (gs nm p5 p10 : Nat) (pm : Option Nat) (L : CoL) (x : List UInt8) (N : List (List UInt8)) (kv : Value) (key : List UInt8) (w : World) : Prop where
  hs : Blk w gs 42 [Value.map pm].toArray
  hm : MapAt w gs pm L
  h5 : Blk w p5 28 (ptC zid 4294967295).toArray
  h10 : Blk w p10 28 (ptC x 0).toArray
  hn : IsNM w nm N
  hb : Below w0.heap.size w0 w
  hk : IsB w (fun b => b ≠ gs ∧ b ≠ nm ∧ b ≠ p10 ∧ b < w.heap.size) kv key
theorem WsW.new {w0 : World} {gs nm p5 p10 : Nat} {pm : Option Nat} {L : CoL} {x : List UInt8} {N : List (List UInt8)} {kv : Value} {key : List UInt8} {w w' : World} (h : WsW w0 gs nm p5 p10 pm L x N kv key w) (a : Below w.heap.size w w') : WsW w0 gs nm p5 p10 pm L x N kv key w' :=
  ⟨h.hs.below a h.hs.lt, h.hm.new a, h.h5.below a h.h5.lt, h.h10.below a h.h10.lt, h.hn.new a, h.hb.trans (a.mono h.hb.size), (h.hk.below a (fun _ _ h => h.2.2.2)).weak (fun _ hb h => ⟨h.1, h.2.1, h.2.2.1, hb⟩)⟩
theorem WsW.named {w0 : World} {gs nm p5 p10 : Nat} {pm : Option Nat} {L : CoL} {x : List UInt8} {N N' : List (List UInt8)} {kv : Value} {key : List UInt8} {w w' : World} (h : WsW w0 gs nm p5 p10 pm L x N kv key w) (hL : L ≠ []) (o : Only (fun b => b = nm) w w') (hn : IsNM w' nm N') (hw : w0.heap.size ≤ nm) : WsW w0 gs nm p5 p10 pm L x N' kv key w' :=
  ⟨h.hs.only o (fun e => nm_blk_ne h.hn h.hs e.symm), h.hm.only o (fun b hb e => by
    have h2 := h.hm
    subst hb
    exact cm_nm_ne h2.2 h.hn hL e), h.h5.only o (fun e => nm_blk_ne h.hn h.h5 e.symm), h.h10.only o (fun e => nm_blk_ne h.hn h.h10 e.symm), hn, h.hb.trans (o.below h.hb.size (fun b hb e => by omega)), (h.hk.only o (fun b _ h e => h.2.1 e)).weak (fun b hb h => ⟨h.1, h.2.1, h.2.2.1, hb⟩)⟩
theorem run_zero_u8 (w : World) : (Instr.buildSlice 30 0 #[]).run Try.prog w = .ok (.slice (some ⟨w.heap.size, 0, none⟩) 0 0) (w.alloc (.cells #[] 5)) := by show _ = _; kernel_rfl
theorem below_only {w w' : World} (h : Below w.heap.size w w') (S : Nat → Prop) : Only S w w' := Only.of_new h S
theorem WsW.conn {w0 : World} {gs nm p5 p10 : Nat} {pm pm' : Option Nat} {L L' : CoL} {x : List UInt8} {N : List (List UInt8)} {kv : Value} {key : List UInt8} {w w' : World} (h : WsW w0 gs nm p5 p10 pm L x N kv key w) (o : Only (fun b => b = gs) w w') (hs : Blk w' gs 42 [Value.map pm'].toArray) (hm : MapAt w' gs pm' L') (hw : w0.heap.size ≤ gs) : WsW w0 gs nm p5 p10 pm' L' x N kv key w' :=
  ⟨hs, hm, h.h5.only o (fun e => Blk.ne_ h.h5 h.hs (by decide) e), h.h10.only o (fun e => Blk.ne_ h.h10 h.hs (by decide) e), h.hn.only o (fun e => nm_blk_ne h.hn h.hs e), h.hb.trans (o.below h.hb.size (fun b hb e => by omega)), (h.hk.only o (fun b _ h e => h.1 e)).weak (fun b hb h => ⟨h.1, h.2.1, h.2.2.1, hb⟩)⟩
theorem Below.via {B : Nat} {w wr w' : World} (h1 : Below B w wr) (h2 : Below B w w') (hs : wr.heap.size ≤ w'.heap.size) : Below B wr w' := ⟨h2.os.trans h1.os.symm, h2.tape.trans h1.tape.symm, h2.output.trans h1.output.symm, hs, fun k hk => (h2.block k hk).trans (h1.block k hk).symm⟩
theorem WsW.moved {w0 : World} {gs nm p5 p10 : Nat} {pm : Option Nat} {L : CoL} {x x' : List UInt8} {N : List (List UInt8)} {kv kv' : Value} {key key' : List UInt8} {w w' : World} (h : WsW w0 gs nm p5 p10 pm L x N kv key w) (o : Only (fun b => b = p10) w w') (hp : Blk w' p10 28 (ptC x' 0).toArray) (hw : w0.heap.size ≤ p10) (h5 : p5 ≠ p10) (hk : IsB w' (fun b => b ≠ gs ∧ b ≠ nm ∧ b ≠ p10 ∧ b < w'.heap.size) kv' key') : WsW w0 gs nm p5 p10 pm L x' N kv' key' w' :=
  ⟨h.hs.only o (fun e => Blk.ne_ h.hs h.h10 (by decide) e), h.hm.only o (fun b hb e => by
    have h2 := h.hm
    subst hb
    exact cm_blk_ne h2.2 h.h10 e), h.h5.only o h5, hp, h.hn.only o (fun e => nm_blk_ne h.hn h.h10 e), h.hb.trans (o.below h.hb.size (fun b hb e => by omega)), hk⟩
theorem key_only {B M t : Nat} {w w' : World} {k n c : Nat} {l : List UInt8} {cs : Array Value} (h : KyP B w k n c l) (hM : Blk w M t cs) (ht : 5 ≠ t) (o : Only (fun b => b = M) w w') : IsB w' (fun b => b = k) (.slice (some ⟨k, 0, none⟩) n c) l := by
  obtain ⟨C, fr, h1, h2, h3⟩ := h
  refine h2.only o (fun b _ hb e => ?_)
  have h9 : b = k := hb
  subst h9
  have e : b = M := e
  subst e
  unfold Blk at hM
  rw [hM] at h3
  injection h3 with h3
  injection h3 with _ h4 _
  exact ht h4.symm
theorem WsI.ne {L : CoL} {x key : List UInt8} {left made : Int} {N : List (List UInt8)} (h : WsI L x key left made N) : L ≠ [] := by
  obtain ⟨hh, h1⟩ := h.last
  rintro rfl
  cases h1
theorem mark2 (i : Nat) (h : i ≤ 7) : [Value.int .u8 (i : Int), Value.int .u8 1] = bts [UInt8.ofNat i, 1] := by
  match i, h with
  | 0, _ | 1, _ | 2, _ | 3, _ | 4, _ | 5, _ | 6, _ | 7, _ => rfl
theorem conv8 (i : Nat) (h : i ≤ 7) (w : World) : (convert 3 5 (.int .i64 (i : Int))).run Try.prog w = .ok (.int .u8 (i : Int)) w := by
  match i, h with
  | 0, _ | 1, _ | 2, _ | 3, _ | 4, _ | 5, _ | 6, _ | 7, _ => show _ = _; kernel_rfl
theorem ws_ctx : ctx wsT true = 0 := by kernel_rfl
theorem run_two_u8 (a b : Int) (w : World) : (Instr.buildSlice 30 2 #[(0, .int .u8 a), (1, .int .u8 b)]).run Try.prog w = .ok (.slice (some ⟨w.heap.size, 0, none⟩) 2 2) (w.alloc (.cells #[.int .u8 a, .int .u8 b] 5)) := by show _ = _; kernel_rfl
theorem key2_new (w : World) (B : Nat) (a b : Int) (l : List UInt8) (hB : B ≤ w.heap.size) (hl : [Value.int .u8 a, Value.int .u8 b] = bts l) : KyP B (w.alloc (.cells #[.int .u8 a, .int .u8 b] 5)) w.heap.size 2 2 l := by
  have hlen : l.length = 2 := by have := congrArg List.length hl; simpa using this.symm
  refine ⟨_, (0, 0), hB, ⟨_, 2, 2, rfl, hlen.symm, Nat.le_refl _, by simp [hlen], fun _ => ⟨w.heap.size, 0, rfl, rfl, ?_⟩⟩, heap_alloc_new _ _⟩
  rw [← hl]
  exact (Blk.new w 5 [Value.int .u8 a, Value.int .u8 b].toArray).rowAll
set_option maxRecDepth 20000 in
set_option maxHeartbeats 16000000 in
set_option linter.unusedSimpArgs false in
theorem wholeSpent_any (w : World) (A : Option Addr) (n c : Nat) (ks : List (List UInt8)) (F : Option Addr) (m fc : Nat) (fs : List Int) (hk : keysSh.rel w (fun b => b < w.heap.size) [.slice A n c] ks) (hn : ks.length = n) (hf : feesSh.rel w (fun b => b < w.heap.size) [.slice F m fc] fs) (hm : fs.length = m) :
    Calls Try.prog 3 #[.slice A n c, .slice F m fc] w fun e w' => e = .returned (.bool true) ∧ Below w.heap.size w w' := by
  have HK := Lib.hid hk
  have HF := Lib.hid hf
  have HN := Lib.hid hn
  have HM := Lib.hid hm
  clear hk hf hn hm
  go_enter Try.func3, Try.ntmps3
  go_wp2_with fail
  refine (maker_any w).mono ?_
  rintro e0 w0 ⟨rfl, a0⟩
  rw [ptV]
  go_wp2_with (with_reducible refine wpList_stb rfl 28 (.tmp 5) (.tmp 29) rfl w0.heap.size 0 _ rfl rfl 28 (ptC zid 0) (Blk.new w0 _ _) ?c1 ?c2 ?c3 ?_)
  case c1 => simp [ptC_len _ _ zl32]
  case c2 => rw [infoPt]; simp [ptC_len _ _ zl32]
  case c3 => exact ptC_one _ _
  intro w1 b1 o1
  rw [over_all _ _ (by simp [ptC_len _ _ zl32])] at b1
  have hO1 : Below w0.heap.size w0 w1 := (((Only.refl (fun b => w0.heap.size ≤ b) w0).alloc _).trans o1 (fun b _ e => by omega)).below (Nat.le_refl _) (fun b hb h => by omega)
  have HBL := Lib.hid (a0.trans (hO1.mono a0.size))
  have HP5 := Lib.hid b1
  have HP5W := Lib.hid a0.size
  obtain ⟨p5, hp5⟩ : ∃ p5, w0.heap.size = p5 := ⟨_, rfl⟩
  rw [hp5] at HP5 HP5W ⊢
  clear b1 o1 hO1 a0 hp5
  go_upto_region 2 with fail
  obtain ⟨B, hB⟩ : ∃ B, w1.heap.size = B := ⟨_, rfl⟩
  have HBZ := Lib.hid hB
  refine wp_region_sets 11 (by kernel_rfl) (by decide) (by kernel_rfl) (by kernel_rfl) (by kernel_rfl) (Fz B) (Fz.refl _ _) (fun _ _ h k => h.trans k) (fun ii v w' => match ii with
    | 0 => v = .agg (ptC zid 4294967295).toArray
    | 1 => v = .agg (inC zid 4294967295 (.slice none 0 0)).toArray
    | 2 => ∃ N : Nat, v = .slice (some ⟨N, 0, none⟩) 1 1 ∧ B ≤ N ∧ Blk w' N 32 (inC zid 4294967295 (.slice none 0 0)).toArray
    | 3 => ∃ N fr, v = .slice (some ⟨N, 0, none⟩) 1 1 ∧ B ≤ N ∧ w'.heap[N]? = some (Obj.cells #[.int .u8 107] 5 fr)
    | 4 => ∃ N : Nat, v = .slice (some ⟨N, 0, none⟩) 1 1 ∧ KyP B w' N 1 1 [107]
    | 5 => ∃ N K : Nat, v = .slice (some ⟨N, 0, none⟩) 1 1 ∧ KyP B w' K 1 1 [107] ∧ B ≤ N ∧ Blk w' N 30 #[.slice (some ⟨K, 0, none⟩) 1 1]
    | 6 => v = idV (sha [107])
    | 7 => v = .agg (outC (1000) (sha [107])).toArray
    | 8 => ∃ N : Nat, v = .slice (some ⟨N, 0, none⟩) 1 1 ∧ B ≤ N ∧ Blk w' N 36 (outC (1000) (sha [107])).toArray
    | 9 => ∃ N M : Nat, v = .agg #[.slice (some ⟨N, 0, none⟩) 1 1, .slice (some ⟨M, 0, none⟩) 1 1] ∧ B ≤ N ∧ B ≤ M ∧ Blk w' N 32 (inC zid 4294967295 (.slice none 0 0)).toArray ∧ Blk w' M 36 (outC (1000) (sha [107])).toArray
    | 10 => ∃ N : Nat, v = .pointer (some ⟨N, 0, none⟩) ∧ B ≤ N ∧ Blk w' N 39 #[.slice none 0 0, .slice none 0 0]
    | _ => True) ?hV30 ?hs30 ?hf30
  case hV30 =>
    intro ii v wa wb h f
    match ii, h with
    | 0, h => exact h
    | 1, h => exact h
    | 2, ⟨N, h1, h2, h3⟩ => exact ⟨N, h1, h2, f.blk _ _ _ (by decide) h3⟩
    | 3, ⟨N, fr, h1, h2, h3⟩ =>
      obtain ⟨fr', h4⟩ := f.u8 N _ fr h3
      exact ⟨N, fr', h1, h2, h4⟩
    | 4, ⟨N, h1, h2⟩ => exact ⟨N, h1, h2.fz f⟩
    | 5, ⟨N, K, h1, h2, h3, h4⟩ => exact ⟨N, K, h1, h2.fz f, h3, f.blk _ _ _ (by decide) h4⟩
    | 6, h => exact h
    | 7, h => exact h
    | 8, ⟨N, h1, h2, h3⟩ => exact ⟨N, h1, h2, f.blk _ _ _ (by decide) h3⟩
    | 9, ⟨N, M, h1, h2, h3, h4, h5⟩ => exact ⟨N, M, h1, h2, h3, f.blk _ _ _ (by decide) h4, f.blk _ _ _ (by decide) h5⟩
    | 10, ⟨N, h1, h2, h3⟩ => exact ⟨N, h1, h2, f.blk _ _ _ (by decide) h3⟩
    | _ + 11, _ => trivial
  case hs30 =>
    intro ii o ho x w' hw hd K hK
    have hBw : B ≤ w'.heap.size := by have h1 := hw.size; have h2 := HBZ.out; have h3 : w1.drew.heap.size = w1.heap.size := rfl; omega
    rcases ii with _ | ii
    · obtain rfl := Option.some.inj (show some _ = some o from ho)
      clear ho
      generalize hfr : frameOf _ _ _ _ = fr at hK ⊢
      have e : fr.eval (.tmp 5) = .pointer (some ⟨p5, 0, none⟩) := by rw [← hfr]; kernel_rfl
      exact wp_load_mid 28 (.tmp 5) rfl p5 0 e (ptC zid 4294967295) _ ((HP5.out.drew.below hw.below (by have := HBZ.out; have := HP5.out.lt; omega)).rowAll) Try.underlying28 rfl (by rw [infoPt, ptC_len _ _ zl32]) (hK _ _ (Fz.refl _ _) rfl)
    rcases ii with _ | ii
    · obtain rfl := Option.some.inj (show some _ = some o from ho)
      clear ho
      generalize hfr : frameOf _ _ _ _ = fr at hK ⊢
      have ep := (by rw [← hfr]; kernel_rfl : fr.eval (.tmp 30) = x 0)
      have hxp : x 0 = .agg (ptC zid 4294967295).toArray := hd 0 (by kernel_rfl)
      exact step_val (exec_buildc rfl (l := [(0, .agg (ptC zid 4294967295).toArray)]) (by simp [hxp, ep]) (built_inz zid 4294967295 zl32)) (hK _ _ (Fz.refl _ _) rfl)
    rcases ii with _ | ii
    · obtain rfl := Option.some.inj (show some _ = some o from ho)
      clear ho
      generalize hfr : frameOf _ _ _ _ = fr at hK ⊢
      have e := (by rw [← hfr]; kernel_rfl : fr.eval (.tmp 31) = x 1)
      have hx : x 1 = .agg (inC zid 4294967295 (.slice none 0 0)).toArray := hd 1 (by kernel_rfl)
      have ha : Below w'.heap.size w' (w'.alloc (.cells (inC zid 4294967295 (.slice none 0 0)).toArray 32)) := (Below.refl _ _).alloc (Nat.le_refl _) _
      exact step_val (exec_bslc rfl (run_one_in zid 4294967295 _ _ _ zl32 w') (by simp [e, hx])) (hK _ _ (Fz.of_below hBw ha) ⟨w'.heap.size, rfl, hBw, Blk.new _ _ _⟩)
    rcases ii with _ | ii
    · obtain rfl := Option.some.inj (show some _ = some o from ho)
      clear ho
      generalize hfr : frameOf _ _ _ _ = fr at hK ⊢
      refine step_val (exec_bslc rfl (run_one_u8 107 w') (by simp [Act.eval])) (hK _ _ (Fz.of_below hBw ((Below.refl _ _).alloc (Nat.le_refl _) _)) ⟨w'.heap.size, (0, 0), rfl, hBw, heap_alloc_new _ _⟩)
    rcases ii with _ | ii
    · obtain rfl := Option.some.inj (show some _ = some o from ho)
      clear ho
      generalize hfr : frameOf _ _ _ _ = fr at hK ⊢
      have e := (by rw [← hfr]; kernel_rfl : fr.eval (.tmp 33) = x 3)
      obtain ⟨N, fr0, hx2, hN, hb⟩ := hd 3 (by kernel_rfl)
      obtain ⟨w2', hrun, hfz⟩ := mark_any w' B N 1 1 _ fr0 hb hN
      obtain ⟨fr1, hb1⟩ := hfz.u8 N _ fr0 hb
      refine step_val (exec_conv rfl (e.trans hx2) hrun) (hK _ _ hfz ⟨N, rfl, _, fr1, hN, ⟨_, _, _, rfl, rfl, Nat.le_refl _, rfl, fun _ => ⟨N, 0, rfl, rfl, ?_⟩⟩, hb1⟩)
      intro j u hj
      refine hfz.cel _ _ ?_
      match j, hj with
      | 0, hj => rw [← hj]; exact cell_of_row _ _ _ _ _ _ hb
    rcases ii with _ | ii
    · obtain rfl := Option.some.inj (show some _ = some o from ho)
      clear ho
      generalize hfr : frameOf _ _ _ _ = fr at hK ⊢
      have e := (by rw [← hfr]; kernel_rfl : fr.eval (.tmp 34) = x 4)
      obtain ⟨N, hx, hb⟩ := hd 4 (by kernel_rfl)
      have ha : Below w'.heap.size w' (w'.alloc (.cells #[.slice (some ⟨N, 0, none⟩) 1 1] 30)) := (Below.refl _ _).alloc (Nat.le_refl _) _
      exact step_val (exec_bslc rfl (run_one_bs (some ⟨N, 0, none⟩) 1 1 w') (by simp [e, hx])) (hK _ _ (Fz.of_below hBw ha) ⟨w'.heap.size, N, rfl, hb.fz (Fz.of_below hBw ha), hBw, Blk.new _ _ _⟩)
    rcases ii with _ | ii
    · obtain rfl := Option.some.inj (show some _ = some o from ho)
      clear ho
      generalize hfr : frameOf _ _ _ _ = fr at hK ⊢
      obtain ⟨N, K, hx, ⟨C, fr0, hK1, hK2, hK3⟩, hN, hb⟩ := hd 5 (by kernel_rfl)
      have e : fr.tmps[35]?.getD undef = .slice (some ⟨N, 0, none⟩) 1 1 := (by rw [← hfr]; kernel_rfl : fr.tmps[35]?.getD undef = x 5).trans hx
      clear hfr
      go_simp
      go_at_call 11
      refine (hsum_any w' _ 1 1 [.slice (some ⟨K, 0, none⟩) 1 1] [[107]] _ _ (sl_blk hb rfl) (Each1.one hK2) (by omega) (fun p hp => by rw [List.mem_singleton] at hp; rw [hp]; simp)).mono ?_
      rintro e9 w9 ⟨rfl, a9⟩
      exact hK _ _ (Fz.of_below hBw a9) rfl
    rcases ii with _ | ii
    · obtain rfl := Option.some.inj (show some _ = some o from ho)
      clear ho
      generalize hfr : frameOf _ _ _ _ = fr at hK ⊢
      have el := (by rw [← hfr]; kernel_rfl : fr.eval (.tmp 36) = x 6)
      have hxl : x 6 = .agg (bts (sha [107])).toArray := hd 6 (by kernel_rfl)
      have ea : fr.eval (.const (.int .i64 (1000))) = .int .i64 (1000) := rfl
      exact step_val (exec_buildc rfl (l := [(0, .int .i64 (1000)), (1, .agg (bts (sha [107])).toArray)]) (by simp [el, hxl, ea]) (built_outk (1000) (sha [107]) (sha_len _))) (hK _ _ (Fz.refl _ _) rfl)
    rcases ii with _ | ii
    · obtain rfl := Option.some.inj (show some _ = some o from ho)
      clear ho
      generalize hfr : frameOf _ _ _ _ = fr at hK ⊢
      have e := (by rw [← hfr]; kernel_rfl : fr.eval (.tmp 37) = x 7)
      have hx : x 7 = .agg (outC (1000) (sha [107])).toArray := hd 7 (by kernel_rfl)
      have ha : Below w'.heap.size w' (w'.alloc (.cells (outC (1000) (sha [107])).toArray 36)) := (Below.refl _ _).alloc (Nat.le_refl _) _
      exact step_val (exec_bslc rfl (run_one_out (1000) (sha [107]) (sha_len _) w') (by simp [e, hx])) (hK _ _ (Fz.of_below hBw ha) ⟨w'.heap.size, rfl, hBw, Blk.new _ _ _⟩)
    rcases ii with _ | ii
    · obtain rfl := Option.some.inj (show some _ = some o from ho)
      clear ho
      generalize hfr : frameOf _ _ _ _ = fr at hK ⊢
      have ei := (by rw [← hfr]; kernel_rfl : fr.eval (.tmp 32) = x 2)
      have eo := (by rw [← hfr]; kernel_rfl : fr.eval (.tmp 38) = x 8)
      obtain ⟨N, hx1, hN, hb1⟩ := hd 2 (by kernel_rfl)
      obtain ⟨M, hx2, hM, hb2⟩ := hd 8 (by kernel_rfl)
      exact step_val (exec_buildc rfl (l := [(0, .slice (some ⟨N, 0, none⟩) 1 1), (1, .slice (some ⟨M, 0, none⟩) 1 1)]) (by simp [ei, eo, hx1, hx2]) (built_txk _ _ _ _ _ _)) (hK _ _ (Fz.refl _ _) ⟨N, M, rfl, hN, hM, hb1, hb2⟩)
    rcases ii with _ | ii
    · obtain rfl := Option.some.inj (show some _ = some o from ho)
      clear ho
      generalize hfr : frameOf _ _ _ _ = fr at hK ⊢
      exact step_val (v := .pointer (some ⟨w'.heap.size, 0, none⟩)) (w' := w'.alloc (.cells #[.slice none 0 0, .slice none 0 0] 39)) (by show _ = _; kernel_rfl) (hK _ _ (Fz.of_below hBw ((Below.refl _ _).alloc (Nat.le_refl _) _)) ⟨w'.heap.size, rfl, hBw, Blk.new _ _ _⟩)
    exfalso
    have : ii + 11 < 11 := by
      have h1 := (List.getElem?_eq_some_iff.1 ho).1
      simpa using h1
    omega
  case hf30 =>
    intro x w2 hw hall
    obtain ⟨q1, q2, hx9, hq1, hq2, hb1, hb2⟩ := hall 9 (by decide)
    obtain ⟨p6, hx10, hp6, hb6⟩ := hall 10 (by decide)
    have hB7 := hw.below
    have HP52 := Lib.hid (HP5.out.drew.below hB7 (by have := HBZ.out; have := HP5.out.lt; omega))
    have HF2 := Lib.hid (HBL.out.trans (show Below w.heap.size w1 w2 from ⟨hB7.os, hB7.tape, hB7.output, hB7.size, fun k hk => hB7.block k (by have := HBL.out.size; have := HBZ.out; omega)⟩))
    have HMB := Lib.hid (show w.heap.size ≤ p5 ∧ p5 < B ∧ B ≤ q1 ∧ B ≤ q2 ∧ B ≤ p6 by have := HP5.out.lt; have := HP5W.out; have := HBZ.out; omega)
    have HQ1 := Lib.hid hb1
    have HQ2 := Lib.hid hb2
    have HP6 := Lib.hid hb6
    clear hall hb1 hb2 hb6 hq1 hq2 hp6 hB7 HP5 HBL hw HP5W HBZ hB
    simp only [List.take_succ_cons, List.take_zero, List.drop_succ_cons, List.drop_zero, frameOf, Act.put, List.setIfInBounds_toArray, List.set_cons_zero, List.set_cons_succ, Nat.zero_add, Nat.reduceAdd, hx9, hx10]
    clear hx9 hx10
    go_wp2_with (with_reducible refine wpList_stb rfl 39 (.tmp 6) (.tmp 39) rfl p6 0 _ rfl rfl 39 [.slice none 0 0, .slice none 0 0] HP6.out ?d1 ?d2 ?d3 ?_)
    case d1 => simp
    case d2 => rw [infoTx]; rfl
    case d3 => simp [Value.oneCell']
    intro w3 b3 o3
    rw [over_all _ _ (by simp)] at b3
    have HP63 := Lib.hid b3
    have HP53 := Lib.hid (HP52.out.only o3 (by have := HMB.out; omega))
    have HQ13 := Lib.hid (HQ1.out.only o3 (fun e => Blk.ne_ HQ1.out HP6.out (by decide) e))
    have HQ23 := Lib.hid (HQ2.out.only o3 (fun e => Blk.ne_ HQ2.out HP6.out (by decide) e))
    have HF3 := Lib.hid (HF2.out.trans (o3.below HF2.out.size (fun b hb e => by have := HMB.out; omega)))
    clear b3 o3 HP6 HP52 HQ1 HQ2 HF2
    go_upto_region 4 with fail
    generalize hW : World.alloc w3 _ = w4
    have hb4 : Blk w4 w3.heap.size 42 [Value.map none].toArray := by rw [← hW]; exact Blk.new _ _ _
    have hl4 : Below w3.heap.size w3 w4 := by rw [← hW]; exact (Below.refl _ _).alloc (Nat.le_refl _) _
    clear hW
    have HGG := Lib.hid (show p5 < w3.heap.size ∧ p6 < w3.heap.size ∧ q1 < w3.heap.size ∧ q2 < w3.heap.size ∧ w.heap.size ≤ w3.heap.size from ⟨HP53.out.lt, HP63.out.lt, HQ13.out.lt, HQ23.out.lt, HF3.out.size⟩)
    replace HP63 := Lib.hid (HP63.out.below hl4 HP63.out.lt)
    replace HP53 := Lib.hid (HP53.out.below hl4 HP53.out.lt)
    replace HQ13 := Lib.hid (HQ13.out.below hl4 HQ13.out.lt)
    replace HQ23 := Lib.hid (HQ23.out.below hl4 HQ23.out.lt)
    replace HF3 := Lib.hid (HF3.out.trans (hl4.mono HF3.out.size))
    have HS4 := Lib.hid hb4
    obtain ⟨gs, hg⟩ : ∃ gs, w3.heap.size = gs := ⟨_, rfl⟩
    rw [hg] at HS4 HGG ⊢
    clear hb4 hl4 hg
    have HTI := Lib.hid (show insSh.rel w4 (fun b => b < gs) [.slice (some ⟨q1, 0, none⟩) 1 1] [mkIn []] from one_slk HQ13.out.rowAll HGG.out.2.2.1 (in_rel rfl (by decide) ⟨none, 0, 0, rfl, rfl, Nat.le_refl _, ⟨rfl, fun h => absurd h (by decide)⟩⟩))
    have HTO := Lib.hid (show outsSh.rel w4 (fun b => b < gs) [.slice (some ⟨q2, 0, none⟩) 1 1] [(1000, sha [107], ())] from one_slk HQ23.out.rowAll HGG.out.2.2.2.1 (out_rel (sha_len _) (by decide)))
    clear HQ13 HQ23
    have hzv := zero_blkT
    go_wp2_with (first
      | (with_reducible refine wpList_ld rfl 39 (.tmp 6) rfl p6 0 rfl [.slice (some ⟨q1, 0, none⟩) 1 1, .slice (some ⟨q2, 0, none⟩) 1 1] HP63.out.rowAll _ Try.underlying39 rfl 2 infoTx rfl ?_)
      | (refine wpList_bsl rfl 50 1 _ rfl #[(0, .agg #[.slice (some ⟨q1, 0, none⟩) 1 1, .slice (some ⟨q2, 0, none⟩) 1 1])] _ (run_one_tx _ _ w4) (by simp [Act.eval, Act.put]) ?_)
      | (refine wpList_bld rfl 54 _ rfl [(1, .slice (some ⟨w4.heap.size, 0, none⟩) 1 1)] _ (built_blkt _ _ _) (by simp [Act.eval, Act.put]) ?_))
    have k1 : Blk (w4.alloc (.cells #[.slice (some ⟨q1, 0, none⟩) 1 1, .slice (some ⟨q2, 0, none⟩) 1 1] 39)) w4.heap.size 39 #[.slice (some ⟨q1, 0, none⟩) 1 1, .slice (some ⟨q2, 0, none⟩) 1 1] := Blk.new _ _ _
    have hal : Below w4.heap.size w4 (w4.alloc (.cells #[.slice (some ⟨q1, 0, none⟩) 1 1, .slice (some ⟨q2, 0, none⟩) 1 1] 39)) := (Below.refl _ _).alloc (Nat.le_refl _) _
    generalize w4.alloc (.cells #[.slice (some ⟨q1, 0, none⟩) 1 1, .slice (some ⟨q2, 0, none⟩) 1 1] 39) = w5 at k1 hal ⊢
    have HTX := Lib.hid (show txsSh.rel w5 (fun b => b < w5.heap.size) [.slice (some ⟨w4.heap.size, 0, none⟩) 1 1] [wsT] from one_slk k1.rowAll k1.lt (weak_tx13 _ _ (fun b => b < w5.heap.size) _ _ (tx_rel (insSh.below HTI.out hal (fun b _ h => by have := HS4.out.lt; omega)) (outsSh.below HTO.out hal (fun b _ h => by have := HS4.out.lt; omega))) (fun b hb _ => hb)))
    have HTI5 := Lib.hid (insSh.below HTI.out hal (fun b _ h => by have := HS4.out.lt; omega))
    have HTO5 := Lib.hid (outsSh.below HTO.out hal (fun b _ h => by have := HS4.out.lt; omega))
    have HS5 := Lib.hid (HS4.out.below hal HS4.out.lt)
    have HP65 := Lib.hid (HP63.out.below hal HP63.out.lt)
    have HP55 := Lib.hid (HP53.out.below hal HP53.out.lt)
    have HF5 := Lib.hid (HF3.out.trans (hal.mono HF3.out.size))
    clear k1 hal hzv HTI HTO HS4 HP63 HP53 HF3
    obtain ⟨tb, htb⟩ : ∃ tb, w4.heap.size = tb := ⟨_, rfl⟩
    rw [htb] at HTX ⊢
    clear htb
    have CC := cconnect_any w5 gs gs none [] 0 0 0 0 zid zid (some ⟨tb, 0, none⟩) 1 1 [wsT] 0 1000 rfl rfl (Nat.le_of_lt HS5.out.lt) HS5.out rfl HTX.out rfl (fun t ht => by rw [List.mem_singleton] at ht; rw [ht]; exact wsfitT) (by decide)
    rw [ws_first] at CC
    refine CC.mono ?_
    clear CC HTX
    rintro e6 w6 ⟨u1, v1, u2, v2, rfl, o6, _, _, pm, hs6, hm6⟩
    have HTI6 := Lib.hid (insSh.only HTI5.out o6 (fun b _ h e => by omega))
    have HTO6 := Lib.hid (outsSh.only HTO5.out o6 (fun b _ h e => by omega))
    have HS6 := Lib.hid hs6
    have HM6 := Lib.hid (show MapAt w6 gs pm [((txX wsT, 0), (1000, sha [107], 0))] from hm6)
    have HP66 := Lib.hid (HP65.out.only o6 (by have := HGG.out; omega))
    have HP56 := Lib.hid (HP55.out.only o6 (by have := HGG.out; omega))
    have HF6 := Lib.hid (HF5.out.trans (o6.below HF5.out.size (fun b hb e => by have := HGG.out; omega)))
    clear hs6 hm6 o6 HTI5 HTO5 HS5 HP65 HP55 HF5
    rw [show cU (([((txX wsT, 0), (1000, sha [107], 0))], [], 0) : CoL × CoL × Int) = [] from rfl, show (([((txX wsT, 0), (1000, sha [107], 0))], [], 0) : CoL × CoL × Int).2.2 = 0 from rfl, List.length_nil]
    go_wp2_with (with_reducible refine wpList_stb rfl 46 (.tmp 8) (.tmp 45) rfl w6.heap.size 0 _ rfl rfl 46 [.slice none 0 0, .slice none 0 0] (Blk.new w6 _ _) ?f1 ?f2 ?f3 ?_)
    case f1 => simp
    case f2 => rw [infoUndo]; rfl
    case f3 => simp [Value.oneCell']
    intro w7 b7 o7
    have hO7 : Below w6.heap.size w6 w7 := (((Only.refl (fun b => w6.heap.size ≤ b) w6).alloc _).trans o7 (fun b _ e => by omega)).below (Nat.le_refl _) (fun b hb h => by omega)
    clear b7 o7
    replace HTI6 := Lib.hid (insSh.below HTI6.out hO7 (fun b _ h => by have := HS6.out.lt; omega))
    replace HTO6 := Lib.hid (outsSh.below HTO6.out hO7 (fun b _ h => by have := HS6.out.lt; omega))
    replace HM6 := Lib.hid (HM6.out.new hO7)
    replace HS6 := Lib.hid (HS6.out.below hO7 HS6.out.lt)
    replace HP66 := Lib.hid (HP66.out.below hO7 HP66.out.lt)
    replace HP56 := Lib.hid (HP56.out.below hO7 HP56.out.lt)
    replace HF6 := Lib.hid (HF6.out.trans (hO7.mono HF6.out.size))
    obtain ⟨p8, hp8⟩ : ∃ p8, w6.heap.size = p8 := ⟨_, rfl⟩
    rw [hp8]
    clear hO7 hp8
    go_wp2_with (refine wpList_ldg4 (by rfl) 39 (.tmp 6) rfl p6 0 rfl [.slice (some ⟨q1, 0, none⟩) 1 1, .slice (some ⟨q2, 0, none⟩) 1 1] HP66.out.rowAll _ Try.underlying39 rfl 2 infoTx rfl ?_)
    refine (check_tx_any w7 _ _ 1 1 1 1 [mkIn []] [(1000, sha [107], ())] _ true HTI6.out HTO6.out rfl rfl).mono ?_
    rintro e8 w8 ⟨rfl, a8⟩
    rw [show ctx ([mkIn []], [(1000, sha [107], ())], ()) true = 0 from ws_ctx]
    have HTI8 := Lib.hid (insSh.below HTI6.out a8 (fun b _ h => by have := HS6.out.lt; omega))
    have HTO8 := Lib.hid (outsSh.below HTO6.out a8 (fun b _ h => by have := HS6.out.lt; omega))
    have HM8 := Lib.hid (HM6.out.new a8)
    have HS8 := Lib.hid (HS6.out.below a8 HS6.out.lt)
    have HP68 := Lib.hid (HP66.out.below a8 HP66.out.lt)
    have HP58 := Lib.hid (HP56.out.below a8 HP56.out.lt)
    have HF8 := Lib.hid (HF6.out.trans (a8.mono HF6.out.size))
    clear a8 HTI6 HTO6 HM6 HS6 HP66 HP56 HF6
    go_wp2_with fail
    refine (clen_any w8 gs gs pm _ HS8.out HM8.out).mono ?_
    rintro e9 w9 ⟨rfl, rfl⟩
    rw [show (([((txX wsT, 0), (1000, sha [107], 0))] : CoL).length : Int) = 1 from rfl]
    have HN' := HN.out
    have HM' := HM.out
    by_cases q8 : 8 < n
    · have d8 : decide ((8 : Int) < (n : Int)) = true := by simpa using by omega
      clear q8 HN' HM'
      go_wp2
      go_ret
      exact ⟨rfl, HF8.out⟩
    have d8 : decide ((8 : Int) < (n : Int)) = false := by simpa using by omega
    by_cases qm : m = n
    · subst qm
      have dm : ((m : Int) != (m : Int)) = false := by simp
      have HMZ := Lib.hid (show m ≤ 8 by omega)
      clear q8 HN' HM'
      go_wp2_with (refine wpList_ldg4 (by rfl) 39 (.tmp 6) rfl p6 0 rfl [.slice (some ⟨q1, 0, none⟩) 1 1, .slice (some ⟨q2, 0, none⟩) 1 1] HP68.out.rowAll _ Try.underlying39 rfl 2 infoTx rfl ?_)
      clear d8 dm
      refine (tx_id_any w9 _ _ 1 1 1 1 [mkIn []] [(1000, sha [107], ())] _ HTI8.out HTO8.out rfl rfl (fun b h => by have := HS8.out.lt; omega) wsfitT).mono ?_
      rintro ea wa ⟨rfl, aa⟩
      rw [show sha2 (txB ([mkIn []], [(1000, sha [107], ())], ())) = txX wsT from rfl]
      have hx32 : (txX wsT).length = 32 := sha_len _
      have HTIa := Lib.hid (insSh.below HTI8.out aa (fun b _ h => by have := HS8.out.lt; omega))
      have HTOa := Lib.hid (outsSh.below HTO8.out aa (fun b _ h => by have := HS8.out.lt; omega))
      have HMa := Lib.hid (HM8.out.new aa)
      have HSa := Lib.hid (HS8.out.below aa HS8.out.lt)
      have HP6a := Lib.hid (HP68.out.below aa HP68.out.lt)
      have HP5a := Lib.hid (HP58.out.below aa HP58.out.lt)
      have HFa := Lib.hid (HF8.out.trans (aa.mono HF8.out.size))
      clear aa HTI8 HTO8 HM8 HS8 HP68 HP58 HF8
      have H0 := Lib.hid ws_start
      obtain ⟨x0, hx0⟩ : ∃ x0, txX wsT = x0 := ⟨_, rfl⟩
      rw [hx0] at H0 HMa hx32 ⊢
      have HX0 := Lib.hid hx0
      have HX32 := Lib.hid hx32
      clear hx0 hx32
      unfold idV
      obtain ⟨wc, hrun, hfz⟩ := mark_any (wa.alloc (.cells #[.int .u8 107] 5)) wa.heap.size wa.heap.size 1 1 _ (0, 0) (heap_alloc_new _ _) (Nat.le_refl _)
      have HKY := Lib.hid (key1_conv (l := [107]) (heap_alloc_new wa (.cells #[.int .u8 107] 5)) (Nat.le_refl _) hfz rfl)
      have hOc : Below wa.heap.size wa wc := ((Below.refl _ _).alloc (Nat.le_refl _) _).trans hfz.below
      go_wp2_with (first
        | (refine wpList_bld rfl 28 _ rfl [(0, .agg (bts x0).toArray)] _ (built_pt0 _ HX32.out) (by simp [Act.eval, Act.put]) ?_)
        | (refine wpList_bsl rfl 30 1 _ rfl #[(0, .int .u8 107)] _ (run_one_u8 107 wa) (by simp [Act.eval, Act.put]) ?_)
        | (refine wpList_val (by rfl) (exec_conv rfl rfl hrun) ?_)
        | (with_reducible refine wpList_stb rfl 28 (.tmp 10) (.tmp 70) rfl wc.heap.size 0 _ rfl rfl 28 (ptC zid 0) (Blk.new wc _ _) ?g1 ?g2 ?g3 ?_))
      case g1 => simp [ptC_len _ _ zl32, ptC_len _ _ HX32.out]
      case g2 => rw [infoPt]; simp [ptC_len _ _ HX32.out]
      case g3 => exact ptC_one _ _
      intro wd bd od
      rw [over_all _ _ (by simp [ptC_len _ _ zl32, ptC_len _ _ HX32.out])] at bd
      have hOd : Below wa.heap.size wa wd := hOc.trans (((((Only.refl (fun b => wc.heap.size ≤ b) wc).alloc _).trans od (fun b _ e => by omega)).below (Nat.le_refl _) (fun b hb h => by omega)).mono hOc.size)
      have HKYd := Lib.hid (show KyP wa.heap.size wd wa.heap.size 1 1 [107] from HKY.out.fz (Fz.of_below hOc.size ((((Only.refl (fun b => wc.heap.size ≤ b) wc).alloc _).trans od (fun b _ e => by omega)).below (Nat.le_refl _) (fun b hb h => by omega))))
      have HTId := Lib.hid (insSh.below HTIa.out hOd (fun b _ h => by have := HSa.out.lt; omega))
      have HTOd := Lib.hid (outsSh.below HTOa.out hOd (fun b _ h => by have := HSa.out.lt; omega))
      have HMd := Lib.hid (HMa.out.new hOd)
      have HSd := Lib.hid (HSa.out.below hOd HSa.out.lt)
      have HP6d := Lib.hid (HP6a.out.below hOd HP6a.out.lt)
      have HP5d := Lib.hid (HP5a.out.below hOd HP5a.out.lt)
      have HFd := Lib.hid (HFa.out.trans (hOd.mono HFa.out.size))
      have HP10 := Lib.hid bd
      have HG2 := Lib.hid (show gs < wa.heap.size ∧ wa.heap.size < wc.heap.size ∧ wc.heap.size < wd.heap.size from ⟨HSa.out.lt, by have := hfz.size; simp at this; omega, HP10.out.lt⟩)
      obtain ⟨kb, hkb⟩ : ∃ kb, wa.heap.size = kb := ⟨_, rfl⟩
      obtain ⟨p10, hp10⟩ : ∃ p10, wc.heap.size = p10 := ⟨_, rfl⟩
      rw [hkb] at HKYd HG2
      rw [hp10] at HP10 HG2
      rw [hkb, hp10]
      clear hOd hOc bd od hrun hfz HKY HTIa HTOa HMa HSa HP6a HP5a HFa hkb hp10
      have hmk : (Instr.makeMap 58 none).run Try.prog wd = .ok (.map (some wd.heap.size)) (wd.alloc (.map #[] 0)) := by show _ = _; kernel_rfl
      have hOe : Below wd.heap.size wd (wd.alloc (.map #[] 0)) := (Below.refl _ _).alloc (Nat.le_refl _) _
      have hnm := IsNM.made wd
      have hpe := HP6d.out.below hOe HP6d.out.lt
      go_wp2_with (refine wpList_ldg4 (by rfl) 39 (.tmp 6) rfl p6 0 rfl [.slice (some ⟨q1, 0, none⟩) 1 1, .slice (some ⟨q2, 0, none⟩) 1 1] hpe.rowAll _ Try.underlying39 rfl 2 infoTx rfl ?_)
      refine (tx_id_any _ _ _ 1 1 1 1 [mkIn []] [(1000, sha [107], ())] _ (insSh.below HTId.out hOe (fun b _ h => by have := HSd.out.lt; omega)) (outsSh.below HTOd.out hOe (fun b _ h => by have := HSd.out.lt; omega)) rfl rfl (fun b h => by have := HSd.out.lt; have := hOe.size; omega) wsfitT).mono ?_
      rintro ee we ⟨rfl, ae⟩
      rw [show sha2 (txB ([mkIn []], [(1000, sha [107], ())], ())) = x0 from HX0.out]
      replace hOe := hOe.trans (ae.mono hOe.size)
      have hnme := hnm.new ae
      obtain ⟨wf, hput, hnmf, hof⟩ := nm_put hnme (t := 58) (e := 4) Try.underlying58 HX32.out (by simp)
      unfold nmV at hput
      have HMf := Lib.hid (MapAt.only (HMd.out.new hOe) hof (fun b hb => by
        have h7 := HMd.out
        subst hb
        have := h7.2.lt
        omega))
      have HSf := Lib.hid ((HSd.out.below hOe HSd.out.lt).only hof (by have := HSd.out.lt; omega))
      have HP5f := Lib.hid ((HP5d.out.below hOe HP5d.out.lt).only hof (by have := HP5d.out.lt; omega))
      have HP10f := Lib.hid ((HP10.out.below hOe HP10.out.lt).only hof (by have := HP10.out.lt; omega))
      have HKf := Lib.hid (show IsB wf (fun b => b = kb) (.slice (some ⟨kb, 0, none⟩) 1 1) [107] by
        obtain ⟨C, fr, h1, h2, h3⟩ := HKYd.out
        exact (h2.below hOe (fun b _ h => by have h9 : b = kb := h; have := HG2.out; omega)).only hof (fun b _ h e => by have := HG2.out; omega))
      have HFf := Lib.hid ((HFd.out.trans (hOe.mono HFd.out.size)).trans (hof.below (HFd.out.trans (hOe.mono HFd.out.size)).size (fun b hb e => by have := HFd.out.size; omega)))
      have HNf := Lib.hid hnmf
      have HG3 := Lib.hid (show p10 < wd.heap.size ∧ wd.heap.size < wf.heap.size from ⟨HP10.out.lt, HNf.out.lt⟩)
      obtain ⟨nm, hnm'⟩ : ∃ nm, wd.heap.size = nm := ⟨_, rfl⟩
      rw [hnm'] at hput HNf HG3 ⊢
      clear hof hnmf hnme hnm hOe ae hnm' HTId HTOd HMd HSd HP6d HP5d HP10 HKYd HFd hmk hpe
      unfold idV
      go_wp2_with fail
      go_loopg [11, 12, 14, 79] m (fun q v11 v12 v14 v79 wr => ∃ (i : Nat) (KA : Option Addr) (kn kc : Nat) (key : List UInt8) (left made : Int) (x : List UInt8) (L : CoL) (N : List (List UInt8)) (pm : Option Nat), i + q = m ∧ v79 = .int .i64 i ∧ v11 = .slice KA kn kc ∧ v12 = .int .i64 left ∧ v14 = .int .i64 made ∧ Hid (0 ≤ left ∧ left ≤ 1000 ∧ made = 1000 + 10 * (i : Int) ∧ key.length ≤ 100) ∧ Hid (x.length = 32) ∧ Hid (WsI L x key left made N) ∧ Hid (IsB wr (fun b => b ≠ gs ∧ b ≠ nm ∧ b ≠ p10 ∧ b < wr.heap.size) (.slice KA kn kc) key) ∧ Hid (Blk wr gs 42 [Value.map pm].toArray) ∧ Hid (MapAt wr gs pm L) ∧ Hid (Blk wr p5 28 (ptC zid 4294967295).toArray) ∧ Hid (Blk wr p10 28 (ptC x 0).toArray) ∧ Hid (IsNM wr nm N) ∧ Hid (Below w.heap.size w wr))
      case atStart => exact ⟨0, _, 1, 1, [107], 1000, 1000, x0, [((x0, 0), (1000, sha [107], 0))], [x0], pm, by omega, rfl, rfl, rfl, rfl, ⟨by decide, by decide, by decide, by decide⟩, HX32, H0, HKf.out.weak (fun b hb h => by have h9 : b = kb := h; have := HG2.out; have := HG3.out; subst h9; exact ⟨by omega, by omega, by omega, hb⟩), HSf, HMf, HP5f, HP10f, HNf, HFf⟩
      case round =>
        clear HMf HSf HP5f HP10f HKf HFf HNf H0 HX0 HX32
        obtain ⟨i, KA, kn, kc, key, left, made, xl, L, N, pm, hi, rfl, rfl, rfl, rfl, HNUM, HX32, HWS, HKY, HS, HMM, HP5, HP10, HNM, HBL⟩ := hrel
        by_cases him : i < m
        · have dim : decide (i < m) = true := by simpa using him
          have HKW := Lib.hid (Shape.below keysSh HK.out HBL.out (fun b _ h => h))
          have HFW := Lib.hid (Shape.below feesSh HF.out HBL.out (fun b _ h => h))
          obtain ⟨bk, ok_, csk, rfl, hbk, hrk, hrowk⟩ := shSlice_at HKW.out (i := i) (by have := HN.out; omega)
          obtain ⟨bf, of_, csf, rfl, hbf, hrf, hrowf⟩ := shSlice_at HFW.out (i := i) (by have := HM.out; omega)
          obtain ⟨k, hk⟩ : ∃ k, ks[i]'(by have := HN.out; omega) = k := ⟨_, rfl⟩
          obtain ⟨fee, hfee⟩ : ∃ fee, fs[i]'(by have := HM.out; omega) = fee := ⟨_, rfl⟩
          rw [hk] at hrk
          rw [hfee] at hrf
          clear hk hfee
          obtain ⟨kv, rfl, hkb⟩ := hrk
          obtain ⟨rfl, hfw⟩ := hrf
          have hkb' := hkb
          obtain ⟨KA', kn', kc', rfl, hkl, _, _⟩ := hkb'
          have HKI := Lib.hid hkb
          have HKL := Lib.hid hkl
          have hcf := hrowf 0 _ rfl
          have hck := hrowk 0 _ rfl
          rw [show ok_ + i * shBytes.size + 0 = ok_ + i from by show ok_ + i * 1 + 0 = _; omega] at hck
          rw [show of_ + i * (shInt .i64).size + 0 = of_ + i from by show of_ + i * 1 + 0 = _; omega] at hcf
          have HCF := Lib.hid hcf
          have HBF := Lib.hid (show bf < w.heap.size from hbf)
          clear hkb hkl hrowf hrowk hbk hbf hfw HKW HFW
          by_cases q1 : 100 < kn'
          · have e1 : decide ((100 : Int) < (kn' : Int)) = true := by simpa using by omega
            clear q1
            go_wp2
            go_ret
            exact ⟨rfl, HBL.out⟩
          have e1 : decide ((100 : Int) < (kn' : Int)) = false := by simpa using by omega
          by_cases q2 : fee < 0
          · have e2 : decide (fee < (0 : Int)) = true := by simpa using q2
            clear q1 q2
            go_wp2
            go_ret
            exact ⟨rfl, HBL.out⟩
          have e2 : decide (fee < (0 : Int)) = false := by simpa using q2
          by_cases q3 : left < fee
          · have e3 : decide (left < fee) = true := by simpa using q3
            clear q1 q2 q3
            go_wp2
            go_ret
            exact ⟨rfl, HBL.out⟩
          have e3 : decide (left < fee) = false := by simpa using q3
          have HFEE := Lib.hid (show 0 ≤ fee ∧ fee ≤ left by omega)
          have HKL2 := Lib.hid (show k.length ≤ 100 by have := HKL.out; omega)
          clear q1 q2 q3
          go_upto_region 17 with fail
          have HW := Lib.hid (show WsW w gs nm p5 p10 pm L xl N (.slice KA kn kc) key wr from ⟨HS.out, HMM.out, HP5.out, HP10.out, HNM.out, HBL.out, HKY.out⟩)
          have HIM := Lib.hid him
          have HBLR := Lib.hid HBL.out
          have HCFw := Lib.hid (show w.cell? ⟨bf, of_ + i, none⟩ = some (.int .i64 fee) by rw [← World.cell?_of_block (HBL.out.block bf HBF.out)]; exact HCF.out)
          have HRR := Lib.hid (show gs < wr.heap.size ∧ nm < wr.heap.size ∧ p10 < wr.heap.size from ⟨HS.out.lt, HNM.out.lt, HP10.out.lt⟩)
          clear HS HMM HP5 HNM HKY
          obtain ⟨B2, hB2⟩ : ∃ B2, wr.heap.size = B2 := ⟨_, rfl⟩
          have HBZ := Lib.hid hB2
          clear e1 e2 e3 dim hck hcf
          refine wp_region_sets 17 (by kernel_rfl) (by decide) (by kernel_rfl) (by kernel_rfl) (by kernel_rfl) (Fz B2) (Fz.refl _ _) (fun _ _ h k => h.trans k) (fun ii v w' => match ii with
            | 0 => v = .agg (ptC xl 0).toArray
            | 1 => v = .slice KA kn kc
            | 2 => v = .agg (inC xl 0 (.slice KA kn kc)).toArray
            | 3 => ∃ N : Nat, v = .slice (some ⟨N, 0, none⟩) 1 1 ∧ B2 ≤ N ∧ Blk w' N 32 (inC xl 0 (.slice KA kn kc)).toArray
            | 4 => v = .int .i64 left
            | 5 => v = .slice (some ⟨bf, of_, none⟩) m fc
            | 6 => v = .int .i64 (i : Int)
            | 7 => v = .pointer (some ⟨bf, of_ + i, none⟩)
            | 8 => v = .int .i64 fee
            | 9 => v = .int .i64 (left - fee)
            | 10 => v = .slice KA' kn' kc'
            | 11 => ∃ N : Nat, v = .slice (some ⟨N, 0, none⟩) 1 1 ∧ B2 ≤ N ∧ Blk w' N 30 #[.slice KA' kn' kc']
            | 12 => v = idV (sha k)
            | 13 => v = .agg (outC (left - fee) (sha k)).toArray
            | 14 => ∃ N : Nat, v = .slice (some ⟨N, 0, none⟩) 1 1 ∧ B2 ≤ N ∧ Blk w' N 36 (outC (left - fee) (sha k)).toArray
            | 15 => ∃ N M : Nat, v = .agg #[.slice (some ⟨N, 0, none⟩) 1 1, .slice (some ⟨M, 0, none⟩) 1 1] ∧ B2 ≤ N ∧ B2 ≤ M ∧ Blk w' N 32 (inC xl 0 (.slice KA kn kc)).toArray ∧ Blk w' M 36 (outC (left - fee) (sha k)).toArray
            | 16 => ∃ N : Nat, v = .pointer (some ⟨N, 0, none⟩) ∧ B2 ≤ N ∧ Blk w' N 39 #[.slice none 0 0, .slice none 0 0]
            | _ => True) ?hV102 ?hs102 ?hf102
          case hV102 =>
            intro ii v wa wb h f
            match ii, h with
            | 0, h => exact h
            | 1, h => exact h
            | 2, h => exact h
            | 3, ⟨N, h1, h2, h3⟩ => exact ⟨N, h1, h2, f.blk _ _ _ (by decide) h3⟩
            | 4, h => exact h
            | 5, h => exact h
            | 6, h => exact h
            | 7, h => exact h
            | 8, h => exact h
            | 9, h => exact h
            | 10, h => exact h
            | 11, ⟨N, h1, h2, h3⟩ => exact ⟨N, h1, h2, f.blk _ _ _ (by decide) h3⟩
            | 12, h => exact h
            | 13, h => exact h
            | 14, ⟨N, h1, h2, h3⟩ => exact ⟨N, h1, h2, f.blk _ _ _ (by decide) h3⟩
            | 15, ⟨N, M, h1, h2, h3, h4, h5⟩ => exact ⟨N, M, h1, h2, h3, f.blk _ _ _ (by decide) h4, f.blk _ _ _ (by decide) h5⟩
            | 16, ⟨N, h1, h2, h3⟩ => exact ⟨N, h1, h2, f.blk _ _ _ (by decide) h3⟩
            | _ + 17, _ => trivial
          case hs102 =>
            intro ii o ho x w' hw hd K hK
            have hBw : B2 ≤ w'.heap.size := by have h1 := hw.size; have h2 := HBZ.out; have h3 : wr.drew.heap.size = wr.heap.size := rfl; omega
            rcases ii with _ | ii
            · obtain rfl := Option.some.inj (show some _ = some o from ho)
              clear ho
              generalize hfr : frameOf _ _ _ _ = fr at hK ⊢
              have e : fr.eval (.tmp 10) = .pointer (some ⟨p10, 0, none⟩) := by rw [← hfr]; kernel_rfl
              exact wp_load_mid 28 (.tmp 10) rfl p10 0 e (ptC xl 0) _ ((HP10.out.drew.below hw.below (by have := HBZ.out; have := HP10.out.lt; omega)).rowAll) Try.underlying28 rfl (by rw [infoPt, ptC_len _ _ HX32.out]) (hK _ _ (Fz.refl _ _) rfl)
            rcases ii with _ | ii
            · obtain rfl := Option.some.inj (show some _ = some o from ho)
              clear ho
              generalize hfr : frameOf _ _ _ _ = fr at hK ⊢
              have e : fr.tmps[11]?.getD undef = .slice KA kn kc := by rw [← hfr]; kernel_rfl
              refine step_val (v := .slice KA kn kc) (w' := w') (by go_simp) (hK _ _ (Fz.refl _ _) rfl)
            rcases ii with _ | ii
            · obtain rfl := Option.some.inj (show some _ = some o from ho)
              clear ho
              generalize hfr : frameOf _ _ _ _ = fr at hK ⊢
              have ek := (by rw [← hfr]; kernel_rfl : fr.eval (.tmp 103) = x 1)
              have hxk : x 1 = .slice KA kn kc := hd 1 (by kernel_rfl)
              have ep := (by rw [← hfr]; kernel_rfl : fr.eval (.tmp 102) = x 0)
              have hxp : x 0 = .agg (ptC xl 0).toArray := hd 0 (by kernel_rfl)
              exact step_val (exec_buildc rfl (l := [(0, .agg (ptC xl 0).toArray), (1, .slice KA kn kc)]) (by simp [ep, ek, hxp, hxk]) (built_inp xl 0 _ _ _ HX32.out)) (hK _ _ (Fz.refl _ _) rfl)
            rcases ii with _ | ii
            · obtain rfl := Option.some.inj (show some _ = some o from ho)
              clear ho
              generalize hfr : frameOf _ _ _ _ = fr at hK ⊢
              have e := (by rw [← hfr]; kernel_rfl : fr.eval (.tmp 104) = x 2)
              have hx : x 2 = .agg (inC xl 0 (.slice KA kn kc)).toArray := hd 2 (by kernel_rfl)
              have ha : Below w'.heap.size w' (w'.alloc (.cells (inC xl 0 (.slice KA kn kc)).toArray 32)) := (Below.refl _ _).alloc (Nat.le_refl _) _
              exact step_val (exec_bslc rfl (run_one_in xl 0 _ _ _ HX32.out w') (by simp [e, hx])) (hK _ _ (Fz.of_below hBw ha) ⟨w'.heap.size, rfl, hBw, Blk.new _ _ _⟩)
            rcases ii with _ | ii
            · obtain rfl := Option.some.inj (show some _ = some o from ho)
              clear ho
              generalize hfr : frameOf _ _ _ _ = fr at hK ⊢
              have e : fr.tmps[12]?.getD undef = .int .i64 left := by rw [← hfr]; kernel_rfl
              refine step_val (v := .int .i64 left) (w' := w') (by go_simp) (hK _ _ (Fz.refl _ _) rfl)
            rcases ii with _ | ii
            · obtain rfl := Option.some.inj (show some _ = some o from ho)
              clear ho
              generalize hfr : frameOf _ _ _ _ = fr at hK ⊢
              have e : fr.tmps[1]?.getD undef = .slice (some ⟨bf, of_, none⟩) m fc := by rw [← hfr]; kernel_rfl
              refine step_val (v := .slice (some ⟨bf, of_, none⟩) m fc) (w' := w') (by go_simp) (hK _ _ (Fz.refl _ _) rfl)
            rcases ii with _ | ii
            · obtain rfl := Option.some.inj (show some _ = some o from ho)
              clear ho
              generalize hfr : frameOf _ _ _ _ = fr at hK ⊢
              have e : fr.tmps[15]?.getD undef = .int .i64 (i : Int) := by rw [← hfr]; kernel_rfl
              refine step_val (v := .int .i64 (i : Int)) (w' := w') (by go_simp) (hK _ _ (Fz.refl _ _) rfl)
            rcases ii with _ | ii
            · obtain rfl := Option.some.inj (show some _ = some o from ho)
              clear ho
              generalize hfr : frameOf _ _ _ _ = fr at hK ⊢
              have e5 : fr.tmps[107]?.getD undef = .slice (some ⟨bf, of_, none⟩) m fc := (by rw [← hfr]; kernel_rfl : fr.tmps[107]?.getD undef = x 5).trans (hd 5 (by kernel_rfl))
              have e6 : fr.tmps[108]?.getD undef = .int .i64 (i : Int) := (by rw [← hfr]; kernel_rfl : fr.tmps[108]?.getD undef = x 6).trans (hd 6 (by kernel_rfl))
              refine step_val (v := .pointer (some ⟨bf, of_ + i, none⟩)) (w' := w') (by go_simp) (hK _ _ (Fz.refl _ _) rfl)
            rcases ii with _ | ii
            · obtain rfl := Option.some.inj (show some _ = some o from ho)
              clear ho
              generalize hfr : frameOf _ _ _ _ = fr at hK ⊢
              have e7 : fr.tmps[109]?.getD undef = .pointer (some ⟨bf, of_ + i, none⟩) := (by rw [← hfr]; kernel_rfl : fr.tmps[109]?.getD undef = x 7).trans (hd 7 (by kernel_rfl))
              have c := hw.cel _ _ (show wr.drew.cell? ⟨bf, of_ + i, none⟩ = some (.int .i64 fee) from HCF.out)
              refine step_val (v := .int .i64 fee) (w' := w') (by go_simp) (hK _ _ (Fz.refl _ _) rfl)
            rcases ii with _ | ii
            · obtain rfl := Option.some.inj (show some _ = some o from ho)
              clear ho
              generalize hfr : frameOf _ _ _ _ = fr at hK ⊢
              have e4 : fr.tmps[106]?.getD undef = .int .i64 left := (by rw [← hfr]; kernel_rfl : fr.tmps[106]?.getD undef = x 4).trans (hd 4 (by kernel_rfl))
              have e8 : fr.tmps[110]?.getD undef = .int .i64 fee := (by rw [← hfr]; kernel_rfl : fr.tmps[110]?.getD undef = x 8).trans (hd 8 (by kernel_rfl))
              have u := IntWalk.i64_in (left - fee) (by have := HFEE.out; have := HNUM.out; omega)
              refine step_val (v := .int .i64 (left - fee)) (w' := w') (by go_simp) (hK _ _ (Fz.refl _ _) rfl)
            rcases ii with _ | ii
            · obtain rfl := Option.some.inj (show some _ = some o from ho)
              clear ho
              generalize hfr : frameOf _ _ _ _ = fr at hK ⊢
              have e : fr.tmps[16]?.getD undef = .slice KA' kn' kc' := by rw [← hfr]; kernel_rfl
              refine step_val (v := .slice KA' kn' kc') (w' := w') (by go_simp) (hK _ _ (Fz.refl _ _) rfl)
            rcases ii with _ | ii
            · obtain rfl := Option.some.inj (show some _ = some o from ho)
              clear ho
              generalize hfr : frameOf _ _ _ _ = fr at hK ⊢
              have e := (by rw [← hfr]; kernel_rfl : fr.eval (.tmp 112) = x 10)
              have hx : x 10 = .slice KA' kn' kc' := hd 10 (by kernel_rfl)
              have ha : Below w'.heap.size w' (w'.alloc (.cells #[.slice KA' kn' kc'] 30)) := (Below.refl _ _).alloc (Nat.le_refl _) _
              exact step_val (exec_bslc rfl (run_one_bs KA' kn' kc' w') (by simp [e, hx])) (hK _ _ (Fz.of_below hBw ha) ⟨w'.heap.size, rfl, hBw, Blk.new _ _ _⟩)
            rcases ii with _ | ii
            · obtain rfl := Option.some.inj (show some _ = some o from ho)
              clear ho
              generalize hfr : frameOf _ _ _ _ = fr at hK ⊢
              obtain ⟨N, hx, hN, hb⟩ := hd 11 (by kernel_rfl)
              have e : fr.tmps[113]?.getD undef = .slice (some ⟨N, 0, none⟩) 1 1 := (by rw [← hfr]; kernel_rfl : fr.tmps[113]?.getD undef = x 11).trans hx
              clear hfr
              go_simp
              go_at_call 11
              refine (hsum_any w' _ 1 1 [.slice KA' kn' kc'] [k] _ _ (sl_blk hb rfl) (Each1.one (IsB.below (show IsB wr.drew (fun b => b < w.heap.size) (.slice KA' kn' kc') k from HKI.out) hw.below (fun b _ h => by have h2 := HBL.out.size; have h3 := HBZ.out; omega))) (by omega) (fun p hp => by rw [List.mem_singleton] at hp; rw [hp]; have := HKL2.out; omega)).mono ?_
              rintro e9 w9 ⟨rfl, a9⟩
              rw [show [k].flatten = k by simp] 
              exact hK _ _ (Fz.of_below hBw a9) rfl
            rcases ii with _ | ii
            · obtain rfl := Option.some.inj (show some _ = some o from ho)
              clear ho
              generalize hfr : frameOf _ _ _ _ = fr at hK ⊢
              have el := (by rw [← hfr]; kernel_rfl : fr.eval (.tmp 114) = x 12)
              have hxl : x 12 = .agg (bts (sha k)).toArray := hd 12 (by kernel_rfl)
              have ea := (by rw [← hfr]; kernel_rfl : fr.eval (.tmp 111) = x 9)
              have hxa : x 9 = .int .i64 (left - fee) := hd 9 (by kernel_rfl)
              exact step_val (exec_buildc rfl (l := [(0, .int .i64 (left - fee)), (1, .agg (bts (sha k)).toArray)]) (by simp [el, hxl, ea, hxa]) (built_outk (left - fee) (sha k) (sha_len _))) (hK _ _ (Fz.refl _ _) rfl)
            rcases ii with _ | ii
            · obtain rfl := Option.some.inj (show some _ = some o from ho)
              clear ho
              generalize hfr : frameOf _ _ _ _ = fr at hK ⊢
              have e := (by rw [← hfr]; kernel_rfl : fr.eval (.tmp 115) = x 13)
              have hx : x 13 = .agg (outC (left - fee) (sha k)).toArray := hd 13 (by kernel_rfl)
              have ha : Below w'.heap.size w' (w'.alloc (.cells (outC (left - fee) (sha k)).toArray 36)) := (Below.refl _ _).alloc (Nat.le_refl _) _
              exact step_val (exec_bslc rfl (run_one_out (left - fee) (sha k) (sha_len _) w') (by simp [e, hx])) (hK _ _ (Fz.of_below hBw ha) ⟨w'.heap.size, rfl, hBw, Blk.new _ _ _⟩)
            rcases ii with _ | ii
            · obtain rfl := Option.some.inj (show some _ = some o from ho)
              clear ho
              generalize hfr : frameOf _ _ _ _ = fr at hK ⊢
              have ei := (by rw [← hfr]; kernel_rfl : fr.eval (.tmp 105) = x 3)
              have eo := (by rw [← hfr]; kernel_rfl : fr.eval (.tmp 116) = x 14)
              obtain ⟨N, hx1, hN, hb1⟩ := hd 3 (by kernel_rfl)
              obtain ⟨M, hx2, hM, hb2⟩ := hd 14 (by kernel_rfl)
              exact step_val (exec_buildc rfl (l := [(0, .slice (some ⟨N, 0, none⟩) 1 1), (1, .slice (some ⟨M, 0, none⟩) 1 1)]) (by simp [ei, eo, hx1, hx2]) (built_txk _ _ _ _ _ _)) (hK _ _ (Fz.refl _ _) ⟨N, M, rfl, hN, hM, hb1, hb2⟩)
            rcases ii with _ | ii
            · obtain rfl := Option.some.inj (show some _ = some o from ho)
              clear ho
              generalize hfr : frameOf _ _ _ _ = fr at hK ⊢
              exact step_val (v := .pointer (some ⟨w'.heap.size, 0, none⟩)) (w' := w'.alloc (.cells #[.slice none 0 0, .slice none 0 0] 39)) (by show _ = _; kernel_rfl) (hK _ _ (Fz.of_below hBw ((Below.refl _ _).alloc (Nat.le_refl _) _)) ⟨w'.heap.size, rfl, hBw, Blk.new _ _ _⟩)
            exfalso
            have : ii + 17 < 17 := by
              have h1 := (List.getElem?_eq_some_iff.1 ho).1
              simpa using h1
            omega
          case hf102 =>
            intro x2 w2 hw hall
            obtain ⟨q1, q2, hx9, hq1, hq2, hb1, hb2⟩ := hall 15 (by decide)
            obtain ⟨p17, hx10, hp6, hb6⟩ := hall 16 (by decide)
            have aw : Below wr.heap.size wr w2 := by rw [HBZ.out]; exact below_drew hw.below
            have HQ1 := Lib.hid hb1
            have HQ2 := Lib.hid hb2
            have HP17 := Lib.hid hb6
            have HQZ := Lib.hid (show wr.heap.size ≤ q1 ∧ wr.heap.size ≤ q2 ∧ wr.heap.size ≤ p17 by have := HBZ.out; omega)
            have HAW := Lib.hid aw
            clear hall hb1 hb2 hb6 hq1 hq2 hp6 aw HBZ HP10 hw hB2
            simp only [List.take_succ_cons, List.take_zero, List.drop_succ_cons, List.drop_zero, frameOf, Act.put, List.setIfInBounds_toArray, List.set_cons_zero, List.set_cons_succ, Nat.zero_add, Nat.reduceAdd, hx9, hx10]
            clear hx9 hx10
            go_wp2_with (with_reducible refine wpList_stb rfl 39 (.tmp 17) (.tmp 117) rfl p17 0 _ rfl rfl 39 [.slice none 0 0, .slice none 0 0] HP17.out ?s1 ?s2 ?s3 ?_)
            case s1 => simp
            case s2 => rw [infoTx]; rfl
            case s3 => simp [Value.oneCell']
            intro w3 b3 o3
            rw [over_all _ _ (by simp)] at b3
            have aw3 : Below wr.heap.size wr w3 := HAW.out.trans (o3.below HAW.out.size (fun b hb e => by have := HQZ.out; omega))
            have HW3 := Lib.hid (HW.out.new aw3)
            have HCF3 := Lib.hid (show w3.cell? ⟨bf, of_ + i, none⟩ = some (.int .i64 fee) by rw [World.cell?_of_block (aw3.block bf (by have := HBL.out.size; have := HBF.out; omega))]; exact HCF.out)
            have HP17' := Lib.hid b3
            have HQ1' := Lib.hid (HQ1.out.only o3 (fun e => Blk.ne_ HQ1.out HP17.out (by decide) e))
            have HQ2' := Lib.hid (HQ2.out.only o3 (fun e => Blk.ne_ HQ2.out HP17.out (by decide) e))
            have HBL3 := Lib.hid HW3.out.hb
            have HP5 := Lib.hid HW3.out.h5
            clear b3 o3 aw3 HW HAW HQ1 HQ2 HP17 HBL
            go_upto_region 18 with fail
            obtain ⟨B3, hB3⟩ : ∃ B3, w3.heap.size = B3 := ⟨_, rfl⟩
            have HBZ := Lib.hid hB3
            have HI8 := Lib.hid (show i ≤ 7 by have := HMZ.out; omega)
            have hconv : ∀ w', (convert 3 5 (.int .i64 (i : Int))).run Try.prog w' = .ok (.int .u8 (i : Int)) w' := conv8 i HI8.out
            refine wp_region_sets 19 (by kernel_rfl) (by decide) (by kernel_rfl) (by kernel_rfl) (by kernel_rfl) (Fz B3) (Fz.refl _ _) (fun _ _ h k => h.trans k) (fun ii v w' => match ii with
              | 0 => v = .agg (ptC zid 4294967295).toArray
              | 1 => v = .int .i64 (i : Int)
              | 2 => v = .int .u8 (i : Int)
              | 3 => ∃ N : Nat, v = .slice (some ⟨N, 0, none⟩) 2 2 ∧ KyP B3 w' N 2 2 [UInt8.ofNat i, 1]
              | 4 => ∃ K : Nat, v = .agg (inC zid 4294967295 (.slice (some ⟨K, 0, none⟩) 2 2)).toArray ∧ KyP B3 w' K 2 2 [UInt8.ofNat i, 1]
              | 5 => ∃ N K : Nat, v = .slice (some ⟨N, 0, none⟩) 1 1 ∧ KyP B3 w' K 2 2 [UInt8.ofNat i, 1] ∧ B3 ≤ N ∧ Blk w' N 32 (inC zid 4294967295 (.slice (some ⟨K, 0, none⟩) 2 2)).toArray
              | 6 => v = .slice (some ⟨bf, of_, none⟩) m fc
              | 7 => v = .int .i64 (i : Int)
              | 8 => v = .pointer (some ⟨bf, of_ + i, none⟩)
              | 9 => v = .int .i64 fee
              | 10 => v = .int .i64 (10 + fee)
              | 11 => ∃ N fr, v = .slice (some ⟨N, 0, none⟩) 1 1 ∧ B3 ≤ N ∧ w'.heap[N]? = some (Obj.cells #[.int .u8 109] 5 fr)
              | 12 => ∃ N : Nat, v = .slice (some ⟨N, 0, none⟩) 1 1 ∧ KyP B3 w' N 1 1 [109]
              | 13 => ∃ N K : Nat, v = .slice (some ⟨N, 0, none⟩) 1 1 ∧ KyP B3 w' K 1 1 [109] ∧ B3 ≤ N ∧ Blk w' N 30 #[.slice (some ⟨K, 0, none⟩) 1 1]
              | 14 => v = idV (sha [109])
              | 15 => v = .agg (outC (10 + fee) (sha [109])).toArray
              | 16 => ∃ N : Nat, v = .slice (some ⟨N, 0, none⟩) 1 1 ∧ B3 ≤ N ∧ Blk w' N 36 (outC (10 + fee) (sha [109])).toArray
              | 17 => ∃ N M K : Nat, v = .agg #[.slice (some ⟨N, 0, none⟩) 1 1, .slice (some ⟨M, 0, none⟩) 1 1] ∧ B3 ≤ N ∧ B3 ≤ M ∧ KyP B3 w' K 2 2 [UInt8.ofNat i, 1] ∧ Blk w' N 32 (inC zid 4294967295 (.slice (some ⟨K, 0, none⟩) 2 2)).toArray ∧ Blk w' M 36 (outC (10 + fee) (sha [109])).toArray
              | 18 => ∃ N : Nat, v = .pointer (some ⟨N, 0, none⟩) ∧ B3 ≤ N ∧ Blk w' N 39 #[.slice none 0 0, .slice none 0 0]
              | _ => True) ?hV118 ?hs118 ?hf118
            case hV118 =>
              intro ii v wa wb h f
              match ii, h with
              | 0, h => exact h
              | 1, h => exact h
              | 2, h => exact h
              | 3, ⟨N, h1, h2⟩ => exact ⟨N, h1, h2.fz f⟩
              | 4, ⟨K, h1, h2⟩ => exact ⟨K, h1, h2.fz f⟩
              | 5, ⟨N, K, h1, h2, h3, h4⟩ => exact ⟨N, K, h1, h2.fz f, h3, f.blk _ _ _ (by decide) h4⟩
              | 6, h => exact h
              | 7, h => exact h
              | 8, h => exact h
              | 9, h => exact h
              | 10, h => exact h
              | 11, ⟨N, fr, h1, h2, h3⟩ =>
                obtain ⟨fr', h4⟩ := f.u8 N _ fr h3
                exact ⟨N, fr', h1, h2, h4⟩
              | 12, ⟨N, h1, h2⟩ => exact ⟨N, h1, h2.fz f⟩
              | 13, ⟨N, K, h1, h2, h3, h4⟩ => exact ⟨N, K, h1, h2.fz f, h3, f.blk _ _ _ (by decide) h4⟩
              | 14, h => exact h
              | 15, h => exact h
              | 16, ⟨N, h1, h2, h3⟩ => exact ⟨N, h1, h2, f.blk _ _ _ (by decide) h3⟩
              | 17, ⟨N, M, K, h1, h2, h3, h6, h4, h5⟩ => exact ⟨N, M, K, h1, h2, h3, h6.fz f, f.blk _ _ _ (by decide) h4, f.blk _ _ _ (by decide) h5⟩
              | 18, ⟨N, h1, h2, h3⟩ => exact ⟨N, h1, h2, f.blk _ _ _ (by decide) h3⟩
              | _ + 19, _ => trivial
            case hs118 =>
              intro ii o ho x w' hw hd K hK
              have hBw : B3 ≤ w'.heap.size := by have h1 := hw.size; have h2 := HBZ.out; have h3 : w3.drew.heap.size = w3.heap.size := rfl; omega
              rcases ii with _ | ii
              · obtain rfl := Option.some.inj (show some _ = some o from ho)
                clear ho
                generalize hfr : frameOf _ _ _ _ = fr at hK ⊢
                have e : fr.eval (.tmp 5) = .pointer (some ⟨p5, 0, none⟩) := by rw [← hfr]; kernel_rfl
                exact wp_load_mid 28 (.tmp 5) rfl p5 0 e (ptC zid 4294967295) _ ((HP5.out.drew.below hw.below (by have := HBZ.out; have := HP5.out.lt; omega)).rowAll) Try.underlying28 rfl (by rw [infoPt, ptC_len _ _ zl32]) (hK _ _ (Fz.refl _ _) rfl)
              rcases ii with _ | ii
              · obtain rfl := Option.some.inj (show some _ = some o from ho)
                clear ho
                generalize hfr : frameOf _ _ _ _ = fr at hK ⊢
                have e : fr.tmps[15]?.getD undef = .int .i64 (i : Int) := by rw [← hfr]; kernel_rfl
                refine step_val (v := .int .i64 (i : Int)) (w' := w') (by go_simp) (hK _ _ (Fz.refl _ _) rfl)
              rcases ii with _ | ii
              · obtain rfl := Option.some.inj (show some _ = some o from ho)
                clear ho
                generalize hfr : frameOf _ _ _ _ = fr at hK ⊢
                have e1 : fr.tmps[119]?.getD undef = .int .i64 (i : Int) := (by rw [← hfr]; kernel_rfl : fr.tmps[119]?.getD undef = x 1).trans (hd 1 (by kernel_rfl))
                have c := hconv w'
                refine step_val (v := .int .u8 (i : Int)) (w' := w') (by go_simp) (hK _ _ (Fz.refl _ _) rfl)
              rcases ii with _ | ii
              · obtain rfl := Option.some.inj (show some _ = some o from ho)
                clear ho
                generalize hfr : frameOf _ _ _ _ = fr at hK ⊢
                have e := (by rw [← hfr]; kernel_rfl : fr.eval (.tmp 120) = x 2)
                have hx : x 2 = .int .u8 ((i : Int)) := hd 2 (by kernel_rfl)
                have ha : Below w'.heap.size w' (w'.alloc (.cells #[.int .u8 ((i : Int)), .int .u8 1] 5)) := (Below.refl _ _).alloc (Nat.le_refl _) _
                have ec : fr.eval (.const (.int .u8 1)) = .int .u8 1 := rfl
                exact step_val (exec_bslc rfl (run_two_u8 ((i : Int)) 1 w') (by simp [e, hx, ec])) (hK _ _ (Fz.of_below hBw ha) ⟨w'.heap.size, rfl, key2_new w' B3 _ _ _ hBw ((mark2 i HI8.out))⟩)
              rcases ii with _ | ii
              · obtain rfl := Option.some.inj (show some _ = some o from ho)
                clear ho
                generalize hfr : frameOf _ _ _ _ = fr at hK ⊢
                have ep := (by rw [← hfr]; kernel_rfl : fr.eval (.tmp 118) = x 0)
                have ek := (by rw [← hfr]; kernel_rfl : fr.eval (.tmp 121) = x 3)
                have hxp : x 0 = .agg (ptC zid 4294967295).toArray := hd 0 (by kernel_rfl)
                obtain ⟨K, hxk, hb⟩ := hd 3 (by kernel_rfl)
                exact step_val (exec_buildc rfl (l := [(0, .agg (ptC zid 4294967295).toArray), (1, .slice (some ⟨K, 0, none⟩) 2 2)]) (by simp [ep, ek, hxp, hxk]) (built_inp zid 4294967295 _ _ _ zl32)) (hK _ _ (Fz.refl _ _) ⟨K, rfl, hb⟩)
              rcases ii with _ | ii
              · obtain rfl := Option.some.inj (show some _ = some o from ho)
                clear ho
                generalize hfr : frameOf _ _ _ _ = fr at hK ⊢
                have e := (by rw [← hfr]; kernel_rfl : fr.eval (.tmp 122) = x 4)
                obtain ⟨K, hx, hb⟩ := hd 4 (by kernel_rfl)
                have ha : Below w'.heap.size w' (w'.alloc (.cells (inC zid 4294967295 (.slice (some ⟨K, 0, none⟩) 2 2)).toArray 32)) := (Below.refl _ _).alloc (Nat.le_refl _) _
                exact step_val (exec_bslc rfl (run_one_in zid 4294967295 _ _ _ zl32 w') (by simp [e, hx])) (hK _ _ (Fz.of_below hBw ha) ⟨w'.heap.size, K, rfl, hb.fz (Fz.of_below hBw ha), hBw, Blk.new _ _ _⟩)
              rcases ii with _ | ii
              · obtain rfl := Option.some.inj (show some _ = some o from ho)
                clear ho
                generalize hfr : frameOf _ _ _ _ = fr at hK ⊢
                have e : fr.tmps[1]?.getD undef = .slice (some ⟨bf, of_, none⟩) m fc := by rw [← hfr]; kernel_rfl
                refine step_val (v := .slice (some ⟨bf, of_, none⟩) m fc) (w' := w') (by go_simp) (hK _ _ (Fz.refl _ _) rfl)
              rcases ii with _ | ii
              · obtain rfl := Option.some.inj (show some _ = some o from ho)
                clear ho
                generalize hfr : frameOf _ _ _ _ = fr at hK ⊢
                have e : fr.tmps[15]?.getD undef = .int .i64 (i : Int) := by rw [← hfr]; kernel_rfl
                refine step_val (v := .int .i64 (i : Int)) (w' := w') (by go_simp) (hK _ _ (Fz.refl _ _) rfl)
              rcases ii with _ | ii
              · obtain rfl := Option.some.inj (show some _ = some o from ho)
                clear ho
                generalize hfr : frameOf _ _ _ _ = fr at hK ⊢
                have e6 : fr.tmps[124]?.getD undef = .slice (some ⟨bf, of_, none⟩) m fc := (by rw [← hfr]; kernel_rfl : fr.tmps[124]?.getD undef = x 6).trans (hd 6 (by kernel_rfl))
                have e7 : fr.tmps[125]?.getD undef = .int .i64 (i : Int) := (by rw [← hfr]; kernel_rfl : fr.tmps[125]?.getD undef = x 7).trans (hd 7 (by kernel_rfl))
                refine step_val (v := .pointer (some ⟨bf, of_ + i, none⟩)) (w' := w') (by go_simp) (hK _ _ (Fz.refl _ _) rfl)
              rcases ii with _ | ii
              · obtain rfl := Option.some.inj (show some _ = some o from ho)
                clear ho
                generalize hfr : frameOf _ _ _ _ = fr at hK ⊢
                have e8 : fr.tmps[126]?.getD undef = .pointer (some ⟨bf, of_ + i, none⟩) := (by rw [← hfr]; kernel_rfl : fr.tmps[126]?.getD undef = x 8).trans (hd 8 (by kernel_rfl))
                have c := hw.cel _ _ (show w3.drew.cell? ⟨bf, of_ + i, none⟩ = some (.int .i64 fee) from HCF3.out)
                refine step_val (v := .int .i64 fee) (w' := w') (by go_simp) (hK _ _ (Fz.refl _ _) rfl)
              rcases ii with _ | ii
              · obtain rfl := Option.some.inj (show some _ = some o from ho)
                clear ho
                generalize hfr : frameOf _ _ _ _ = fr at hK ⊢
                have e9 : fr.tmps[127]?.getD undef = .int .i64 fee := (by rw [← hfr]; kernel_rfl : fr.tmps[127]?.getD undef = x 9).trans (hd 9 (by kernel_rfl))
                have u := IntWalk.i64_in (10 + fee) (by have := HFEE.out; have := HNUM.out; omega)
                refine step_val (v := .int .i64 (10 + fee)) (w' := w') (by go_simp) (hK _ _ (Fz.refl _ _) rfl)
              rcases ii with _ | ii
              · obtain rfl := Option.some.inj (show some _ = some o from ho)
                clear ho
                generalize hfr : frameOf _ _ _ _ = fr at hK ⊢
                refine step_val (exec_bslc rfl (run_one_u8 109 w') (by simp [Act.eval])) (hK _ _ (Fz.of_below hBw ((Below.refl _ _).alloc (Nat.le_refl _) _)) ⟨w'.heap.size, (0, 0), rfl, hBw, heap_alloc_new _ _⟩)
              rcases ii with _ | ii
              · obtain rfl := Option.some.inj (show some _ = some o from ho)
                clear ho
                generalize hfr : frameOf _ _ _ _ = fr at hK ⊢
                have e := (by rw [← hfr]; kernel_rfl : fr.eval (.tmp 129) = x 11)
                obtain ⟨N, fr0, hx2, hN, hb⟩ := hd 11 (by kernel_rfl)
                obtain ⟨w2', hrun, hfz⟩ := mark_any w' B3 N 1 1 _ fr0 hb hN
                obtain ⟨fr1, hb1⟩ := hfz.u8 N _ fr0 hb
                refine step_val (exec_conv rfl (e.trans hx2) hrun) (hK _ _ hfz ⟨N, rfl, _, fr1, hN, ⟨_, _, _, rfl, rfl, Nat.le_refl _, rfl, fun _ => ⟨N, 0, rfl, rfl, ?_⟩⟩, hb1⟩)
                intro j u hj
                refine hfz.cel _ _ ?_
                match j, hj with
                | 0, hj => rw [← hj]; exact cell_of_row _ _ _ _ _ _ hb
              rcases ii with _ | ii
              · obtain rfl := Option.some.inj (show some _ = some o from ho)
                clear ho
                generalize hfr : frameOf _ _ _ _ = fr at hK ⊢
                have e := (by rw [← hfr]; kernel_rfl : fr.eval (.tmp 130) = x 12)
                obtain ⟨N, hx, hb⟩ := hd 12 (by kernel_rfl)
                have ha : Below w'.heap.size w' (w'.alloc (.cells #[.slice (some ⟨N, 0, none⟩) 1 1] 30)) := (Below.refl _ _).alloc (Nat.le_refl _) _
                exact step_val (exec_bslc rfl (run_one_bs (some ⟨N, 0, none⟩) 1 1 w') (by simp [e, hx])) (hK _ _ (Fz.of_below hBw ha) ⟨w'.heap.size, N, rfl, hb.fz (Fz.of_below hBw ha), hBw, Blk.new _ _ _⟩)
              rcases ii with _ | ii
              · obtain rfl := Option.some.inj (show some _ = some o from ho)
                clear ho
                generalize hfr : frameOf _ _ _ _ = fr at hK ⊢
                obtain ⟨N, K, hx, ⟨C, fr0, hK1, hK2, hK3⟩, hN, hb⟩ := hd 13 (by kernel_rfl)
                have e : fr.tmps[131]?.getD undef = .slice (some ⟨N, 0, none⟩) 1 1 := (by rw [← hfr]; kernel_rfl : fr.tmps[131]?.getD undef = x 13).trans hx
                clear hfr
                go_simp
                go_at_call 11
                refine (hsum_any w' _ 1 1 [.slice (some ⟨K, 0, none⟩) 1 1] [[109]] _ _ (sl_blk hb rfl) (Each1.one hK2) (by omega) (fun p hp => by rw [List.mem_singleton] at hp; rw [hp]; simp)).mono ?_
                rintro e9 w9 ⟨rfl, a9⟩
                exact hK _ _ (Fz.of_below hBw a9) rfl
              rcases ii with _ | ii
              · obtain rfl := Option.some.inj (show some _ = some o from ho)
                clear ho
                generalize hfr : frameOf _ _ _ _ = fr at hK ⊢
                have el := (by rw [← hfr]; kernel_rfl : fr.eval (.tmp 132) = x 14)
                have hxl : x 14 = .agg (bts (sha [109])).toArray := hd 14 (by kernel_rfl)
                have ea := (by rw [← hfr]; kernel_rfl : fr.eval (.tmp 128) = x 10)
                have hxa : x 10 = .int .i64 (10 + fee) := hd 10 (by kernel_rfl)
                exact step_val (exec_buildc rfl (l := [(0, .int .i64 (10 + fee)), (1, .agg (bts (sha [109])).toArray)]) (by simp [el, hxl, ea, hxa]) (built_outk (10 + fee) (sha [109]) (sha_len _))) (hK _ _ (Fz.refl _ _) rfl)
              rcases ii with _ | ii
              · obtain rfl := Option.some.inj (show some _ = some o from ho)
                clear ho
                generalize hfr : frameOf _ _ _ _ = fr at hK ⊢
                have e := (by rw [← hfr]; kernel_rfl : fr.eval (.tmp 133) = x 15)
                have hx : x 15 = .agg (outC (10 + fee) (sha [109])).toArray := hd 15 (by kernel_rfl)
                have ha : Below w'.heap.size w' (w'.alloc (.cells (outC (10 + fee) (sha [109])).toArray 36)) := (Below.refl _ _).alloc (Nat.le_refl _) _
                exact step_val (exec_bslc rfl (run_one_out (10 + fee) (sha [109]) (sha_len _) w') (by simp [e, hx])) (hK _ _ (Fz.of_below hBw ha) ⟨w'.heap.size, rfl, hBw, Blk.new _ _ _⟩)
              rcases ii with _ | ii
              · obtain rfl := Option.some.inj (show some _ = some o from ho)
                clear ho
                generalize hfr : frameOf _ _ _ _ = fr at hK ⊢
                have ei := (by rw [← hfr]; kernel_rfl : fr.eval (.tmp 123) = x 5)
                have eo := (by rw [← hfr]; kernel_rfl : fr.eval (.tmp 134) = x 16)
                obtain ⟨N, K, hx1, hky, hN, hb1⟩ := hd 5 (by kernel_rfl)
                obtain ⟨M, hx2, hM, hb2⟩ := hd 16 (by kernel_rfl)
                exact step_val (exec_buildc rfl (l := [(0, .slice (some ⟨N, 0, none⟩) 1 1), (1, .slice (some ⟨M, 0, none⟩) 1 1)]) (by simp [ei, eo, hx1, hx2]) (built_txk _ _ _ _ _ _)) (hK _ _ (Fz.refl _ _) ⟨N, M, K, rfl, hN, hM, hky, hb1, hb2⟩)
              rcases ii with _ | ii
              · obtain rfl := Option.some.inj (show some _ = some o from ho)
                clear ho
                generalize hfr : frameOf _ _ _ _ = fr at hK ⊢
                exact step_val (v := .pointer (some ⟨w'.heap.size, 0, none⟩)) (w' := w'.alloc (.cells #[.slice none 0 0, .slice none 0 0] 39)) (by show _ = _; kernel_rfl) (hK _ _ (Fz.of_below hBw ((Below.refl _ _).alloc (Nat.le_refl _) _)) ⟨w'.heap.size, rfl, hBw, Blk.new _ _ _⟩)
              exfalso
              have : ii + 19 < 19 := by
                have h1 := (List.getElem?_eq_some_iff.1 ho).1
                simpa using h1
              omega
            case hf118 =>
              intro x3 w4 hw hall
              obtain ⟨r1, r2, mk, hx9, hq1, hq2, hky, hb1, hb2⟩ := hall 17 (by decide)
              obtain ⟨p18, hx10, hp6, hb6⟩ := hall 18 (by decide)
              have aw : Below w3.heap.size w3 w4 := by rw [HBZ.out]; exact below_drew hw.below
              have HR1 := Lib.hid hb1
              have HR2 := Lib.hid hb2
              have HP18 := Lib.hid hb6
              have HKY4 := Lib.hid hky
              have HQ14 := Lib.hid (HQ1'.out.below aw HQ1'.out.lt)
              have HQ24 := Lib.hid (HQ2'.out.below aw HQ2'.out.lt)
              have HP174 := Lib.hid (HP17'.out.below aw HP17'.out.lt)
              have HAW := Lib.hid aw
              have HRZ := Lib.hid (show w3.heap.size ≤ r1 ∧ w3.heap.size ≤ r2 ∧ w3.heap.size ≤ p18 ∧ p17 < w3.heap.size ∧ w3.heap.size ≤ mk by have h9 := HBZ.out; have := HP17'.out.lt; obtain ⟨_, _, h7, _⟩ := hky; omega)
              have HZ4 := Lib.hid (show gs < w3.heap.size ∧ nm < w3.heap.size ∧ p10 < w3.heap.size ∧ p5 < w3.heap.size ∧ gs < wr.heap.size ∧ nm < wr.heap.size ∧ p10 < wr.heap.size from ⟨HW3.out.hs.lt, HW3.out.hn.lt, HW3.out.h10.lt, HW3.out.h5.lt, HRR.out⟩)
              clear hall hb1 hb2 hb6 hq1 hq2 hp6 hky aw HBZ hw hB3 hconv HP5 HQ1' HQ2' HP17' HBL3
              simp only [List.take_succ_cons, List.take_zero, List.drop_succ_cons, List.drop_zero, frameOf, Act.put, List.setIfInBounds_toArray, List.set_cons_zero, List.set_cons_succ, Nat.zero_add, Nat.reduceAdd, hx9, hx10]
              clear hx9 hx10
              go_wp2_with (with_reducible refine wpList_stb rfl 39 (.tmp 18) (.tmp 135) rfl p18 0 _ rfl rfl 39 [.slice none 0 0, .slice none 0 0] HP18.out ?t1 ?t2 ?t3 ?_)
              case t1 => simp
              case t2 => rw [infoTx]; rfl
              case t3 => simp [Value.oneCell']
              intro w5 b5 o5
              rw [over_all _ _ (by simp)] at b5
              have HQ15 := Lib.hid (HQ14.out.only o5 (fun e => Blk.ne_ HQ14.out HP18.out (by decide) e))
              have HQ25 := Lib.hid (HQ24.out.only o5 (fun e => Blk.ne_ HQ24.out HP18.out (by decide) e))
              have HR15 := Lib.hid (HR1.out.only o5 (fun e => Blk.ne_ HR1.out HP18.out (by decide) e))
              have HR25 := Lib.hid (HR2.out.only o5 (fun e => Blk.ne_ HR2.out HP18.out (by decide) e))
              have HP175 := Lib.hid (HP174.out.only o5 (by have := HRZ.out; omega))
              have HK5 := Lib.hid (key_only HKY4.out HP18.out (by decide) o5)
              have HW5 := Lib.hid (HW3.out.new (HAW.out.trans (o5.below HAW.out.size (fun b hb e => by have := HRZ.out; omega))))
              have HP18' := Lib.hid b5
              clear b5 o5 HQ14 HQ24 HP174 HKY4 HW3 HAW HR1 HR2 HP18
              obtain ⟨xu, hxu⟩ : ∃ xu, txX (wsU xl key (left - fee) k) = xu := ⟨_, rfl⟩
              obtain ⟨xm, hxm⟩ : ∃ xm, txX (wsM [UInt8.ofNat i, 1] (10 + fee)) = xm := ⟨_, rfl⟩
              have HXU := Lib.hid hxu
              have HXM := Lib.hid hxm
              have hxu32 : xu.length = 32 := by rw [← hxu]; exact sha_len _
              have hxm32 : xm.length = 32 := by rw [← hxm]; exact sha_len _
              have HXU32 := Lib.hid hxu32
              have HXM32 := Lib.hid hxm32
              clear hxu hxm
              have hpos : ∀ q, wr.heap.size ≤ q → q < w5.heap.size → q ≠ gs ∧ q ≠ nm ∧ q ≠ p10 ∧ q < w5.heap.size := fun q h1 h2 => by have := HZ4.out; omega
              have HRUI := Lib.hid (show insSh.rel w5 (fun b => b ≠ gs ∧ b ≠ nm ∧ b ≠ p10 ∧ b < w5.heap.size) [.slice (some ⟨q1, 0, none⟩) 1 1] [((xl, ((0 : Nat) : Int), ()), key, ())] from one_slk HQ15.out.rowAll (hpos q1 HQZ.out.1 HQ15.out.lt) (in_rel HX32.out (by decide) HW5.out.hk))
              have HRUO := Lib.hid (show outsSh.rel w5 (fun b => b ≠ gs ∧ b ≠ nm ∧ b ≠ p10 ∧ b < w5.heap.size) [.slice (some ⟨q2, 0, none⟩) 1 1] [(left - fee, sha k, ())] from one_slk HQ25.out.rowAll (hpos q2 HQZ.out.2.1 HQ25.out.lt) (out_rel (sha_len _) (by have := HFEE.out; have := HNUM.out; simp [Lit.wf, IntKind.min, IntKind.max, IntKind.signed, IntKind.bits]; omega)))
              have hr3 : wr.heap.size ≤ w3.heap.size := by have := HQZ.out; have := HRZ.out; omega
              have HRMI := Lib.hid (show insSh.rel w5 (fun b => b ≠ gs ∧ b ≠ nm ∧ b ≠ p10 ∧ b < w5.heap.size) [.slice (some ⟨r1, 0, none⟩) 1 1] [mkIn [UInt8.ofNat i, 1]] from one_slk HR15.out.rowAll (hpos r1 (by have := HRZ.out; omega) HR15.out.lt) (in_rel rfl (by decide) (HK5.out.weak (fun b hb h => by have h9 : b = mk := h; subst h9; exact hpos b (by have := HRZ.out; omega) hb))))
              have HRMO := Lib.hid (show outsSh.rel w5 (fun b => b ≠ gs ∧ b ≠ nm ∧ b ≠ p10 ∧ b < w5.heap.size) [.slice (some ⟨r2, 0, none⟩) 1 1] [(10 + fee, sha [109], ())] from one_slk HR25.out.rowAll (hpos r2 (by have := HRZ.out; omega) HR25.out.lt) (out_rel (sha_len _) (by have := HFEE.out; have := HNUM.out; simp [Lit.wf, IntKind.min, IntKind.max, IntKind.signed, IntKind.bits]; omega)))
              have HW3Z := Lib.hid hr3
              have HPZ := Lib.hid (And.intro (hpos p17 HQZ.out.2.2 HP175.out.lt) (hpos p18 (by have := HRZ.out; omega) HP18'.out.lt))
              clear hpos hr3 HQ15 HQ25 HR15 HR25 HK5
              have HFU := Lib.hid (wsfitU xl key (left - fee) k (by have := HNUM.out; omega))
              have HFM := Lib.hid (wsfitM (UInt8.ofNat i) 1 (10 + fee))
              have ID17 := Lib.hid (show ∀ W, Only (fun b => b = gs ∨ b = nm ∨ b = p10) w5 W → Calls Try.prog 15 #[.agg #[.slice (some ⟨q1, 0, none⟩) 1 1, .slice (some ⟨q2, 0, none⟩) 1 1]] W fun e w' => e = .returned (idV xu) ∧ Below W.heap.size W w' from by
                intro W hW
                rw [← HXU.out]
                exact tx_id_any W _ _ 1 1 1 1 _ _ _ (insSh.only HRUI.out hW (fun b hb h e => by have h9 := h.1; have h8 := h.2.1; have h7 := h.2.2.1; omega)) (outsSh.only HRUO.out hW (fun b hb h e => by have h9 := h.1; have h8 := h.2.1; have h7 := h.2.2.1; omega)) rfl rfl (fun b hb => Nat.lt_of_lt_of_le hb.2.2.2 hW.size) HFU.out)
              have ID18 := Lib.hid (show ∀ W, Only (fun b => b = gs ∨ b = nm ∨ b = p10) w5 W → Calls Try.prog 15 #[.agg #[.slice (some ⟨r1, 0, none⟩) 1 1, .slice (some ⟨r2, 0, none⟩) 1 1]] W fun e w' => e = .returned (idV xm) ∧ Below W.heap.size W w' from by
                intro W hW
                rw [← HXM.out]
                exact tx_id_any W _ _ 1 1 1 1 _ _ _ (insSh.only HRMI.out hW (fun b hb h e => by have h9 := h.1; have h8 := h.2.1; have h7 := h.2.2.1; omega)) (outsSh.only HRMO.out hW (fun b hb h e => by have h9 := h.1; have h8 := h.2.1; have h7 := h.2.2.1; omega)) rfl rfl (fun b hb => Nat.lt_of_lt_of_le hb.2.2.2 hW.size) HFM.out)
              obtain ⟨a1, ha1⟩ : ∃ a1, decide (xu ∈ N) = a1 := ⟨_, rfl⟩
              obtain ⟨a2, ha2⟩ : ∃ a2, decide (xm ∈ N) = a2 := ⟨_, rfl⟩
              obtain ⟨a3, ha3⟩ : ∃ a3, (xu == xm) = a3 := ⟨_, rfl⟩
              have heqA : ∀ w', (Op.equalIn 10000 25 (.agg (bts xu).toArray) (.agg (bts xm).toArray)).run Try.prog w' = .ok a3 w' := fun w' => by
                rw [show (10000 : Nat) = 9998 + 2 from rfl, run_eq_arr Try.underlying25 Try.underlying5 (by kernel_rfl) (by kernel_rfl) (by kernel_rfl) xu xm hxu32 hxm32 w' 9998, ha3]
              have HA1 := Lib.hid ha1
              have HA2 := Lib.hid ha2
              have HA3 := Lib.hid ha3
              clear ha1 ha2 ha3 hxu32 hxm32
              unfold idV at ID17 ID18
              go_upto_region 19 with fail
              cases a1 with
              | true =>
                refine wp_region_held_drew (S := (fun w' => Blk w' p17 39 #[.slice (some ⟨q1, 0, none⟩) 1 1, .slice (some ⟨q2, 0, none⟩) 1 1] ∧ Blk w' p18 39 #[.slice (some ⟨r1, 0, none⟩) 1 1, .slice (some ⟨r2, 0, none⟩) 1 1] ∧ IsNM w' nm N ∧ Below w5.heap.size w5 w')) (by kernel_rfl) (⟨HP175.out.drew, HP18'.out.drew, show IsNM w5.drew nm N from HW5.out.hn, (Below.refl w5.heap.size w5).drew⟩) ?_
                intro hSw
                refine wpAnyH_take (i := 0) (oi := ⟨some 136, _, _, _, _, _⟩) (v := (.map (some nm))) rfl (by kernel_rfl) (by kernel_rfl) (by kernel_rfl) (fun _ _ _ h => h) (Or.inl ⟨by rfl, ?_⟩) hSw ?_
                · intro w' hSw'
                  have l1 := nm_look hSw'.2.2.1 (t := 58) (e := 4) Try.underlying58 (by show _ = _; kernel_rfl) HXU32.out
                  have l2 := nm_look hSw'.2.2.1 (t := 58) (e := 4) Try.underlying58 (by show _ = _; kernel_rfl) HXM32.out
                  rw [HA1.out] at l1
                  rw [HA2.out] at l2
                  unfold nmV at l1 l2
                  go_simp
                simp only [Act.put, List.setIfInBounds_toArray, List.set_cons_zero, List.set_cons_succ]
                refine wpAnyH_take (i := 1) (oi := ⟨some 137, _, _, _, _, _⟩) (v := .agg ([.slice (some ⟨q1, 0, none⟩) 1 1, .slice (some ⟨q2, 0, none⟩) 1 1]).toArray) rfl (by kernel_rfl) (by kernel_rfl) (by kernel_rfl) (fun _ _ _ h => h) (yieldsIf_load_mid (by rfl) _ _ rfl p17 (0) rfl ([.slice (some ⟨q1, 0, none⟩) 1 1, .slice (some ⟨q2, 0, none⟩) 1 1]) _ (fun _ h => h.1.rowAll) Try.underlying39 rfl infoTx) hSw ?_
                simp only [Act.put, List.setIfInBounds_toArray, List.set_cons_zero, List.set_cons_succ]
                refine wpAnyH_ready (rs := [2]) (by kernel_rfl) (by simp) (AllReadyH.cons (o := ⟨some 138, _, _, _, _, _⟩) rfl (fun K hK => ?_) AllReadyH.nil)
                go_simp
                refine (ID17.out _ (Only.of_new hSw.2.2.2 _)).mono ?_
                rintro e22 w22' ⟨rfl, a22⟩
                dsimp only
                refine hK.out _ _ (⟨hSw.1.below a22 hSw.1.lt, hSw.2.1.below a22 hSw.2.1.lt, hSw.2.2.1.new a22, hSw.2.2.2.trans (a22.mono hSw.2.2.2.size)⟩) ?_
                intro hSw
                clear hK K
                try simp only [Act.put, List.setIfInBounds_toArray, List.set_cons_zero, List.set_cons_succ]
                refine wpAnyH_take (i := 3) (oi := ⟨some 139, _, _, _, _, _⟩) (v := (.bool true)) rfl (by kernel_rfl) (by kernel_rfl) (by kernel_rfl) (fun _ _ _ h => h) (Or.inl ⟨by rfl, ?_⟩) hSw ?_
                · intro w' hSw'
                  have l1 := nm_look hSw'.2.2.1 (t := 58) (e := 4) Try.underlying58 (by show _ = _; kernel_rfl) HXU32.out
                  have l2 := nm_look hSw'.2.2.1 (t := 58) (e := 4) Try.underlying58 (by show _ = _; kernel_rfl) HXM32.out
                  rw [HA1.out] at l1
                  rw [HA2.out] at l2
                  unfold nmV at l1 l2
                  go_simp
                simp only [Act.put, List.setIfInBounds_toArray, List.set_cons_zero, List.set_cons_succ]
                refine wpAnyH_take (i := 4) (oi := ⟨some 140, _, _, _, _, _⟩) (v := (.bool true)) rfl (by kernel_rfl) (by kernel_rfl) (by kernel_rfl) (fun _ _ _ h => h) (Or.inl ⟨by rfl, ?_⟩) hSw ?_
                · intro w' hSw'
                  have l1 := nm_look hSw'.2.2.1 (t := 58) (e := 4) Try.underlying58 (by show _ = _; kernel_rfl) HXU32.out
                  have l2 := nm_look hSw'.2.2.1 (t := 58) (e := 4) Try.underlying58 (by show _ = _; kernel_rfl) HXM32.out
                  rw [HA1.out] at l1
                  rw [HA2.out] at l2
                  unfold nmV at l1 l2
                  go_simp
                simp only [Act.put, List.setIfInBounds_toArray, List.set_cons_zero, List.set_cons_succ]
                refine wpAnyH_take (i := 5) (oi := ⟨some 141, _, _, _, _, _⟩) (v := undef) rfl (by kernel_rfl) (by kernel_rfl) (by kernel_rfl) (fun _ _ _ h => h) (Or.inr ⟨by rfl, rfl⟩) hSw ?_
                simp only [Act.put, List.setIfInBounds_toArray, List.set_cons_zero, List.set_cons_succ]
                refine wpAnyH_take (i := 6) (oi := ⟨some 142, _, _, _, _, _⟩) (v := undef) rfl (by kernel_rfl) (by kernel_rfl) (by kernel_rfl) (fun _ _ _ h => h) (Or.inr ⟨by rfl, rfl⟩) hSw ?_
                simp only [Act.put, List.setIfInBounds_toArray, List.set_cons_zero, List.set_cons_succ]
                refine wpAnyH_take (i := 7) (oi := ⟨some 143, _, _, _, _, _⟩) (v := undef) rfl (by kernel_rfl) (by kernel_rfl) (by kernel_rfl) (fun _ _ _ h => h) (Or.inr ⟨by rfl, rfl⟩) hSw ?_
                simp only [Act.put, List.setIfInBounds_toArray, List.set_cons_zero, List.set_cons_succ]
                refine wpAnyH_take (i := 8) (oi := ⟨some 144, _, _, _, _, _⟩) (v := undef) rfl (by kernel_rfl) (by kernel_rfl) (by kernel_rfl) (fun _ _ _ h => h) (Or.inr ⟨by rfl, rfl⟩) hSw ?_
                simp only [Act.put, List.setIfInBounds_toArray, List.set_cons_zero, List.set_cons_succ]
                refine wpAnyH_take (i := 9) (oi := ⟨some 145, _, _, _, _, _⟩) (v := (.bool true)) rfl (by kernel_rfl) (by kernel_rfl) (by kernel_rfl) (fun _ _ _ h => h) (Or.inl ⟨by rfl, ?_⟩) hSw ?_
                · intro w' hSw'
                  have l1 := nm_look hSw'.2.2.1 (t := 58) (e := 4) Try.underlying58 (by show _ = _; kernel_rfl) HXU32.out
                  have l2 := nm_look hSw'.2.2.1 (t := 58) (e := 4) Try.underlying58 (by show _ = _; kernel_rfl) HXM32.out
                  rw [HA1.out] at l1
                  rw [HA2.out] at l2
                  unfold nmV at l1 l2
                  go_simp
                simp only [Act.put, List.setIfInBounds_toArray, List.set_cons_zero, List.set_cons_succ]
                refine wpAnyH_take (i := 10) (oi := ⟨some 146, _, _, _, _, _⟩) (v := (.bool true)) rfl (by kernel_rfl) (by kernel_rfl) (by kernel_rfl) (fun _ _ _ h => h) (Or.inl ⟨by rfl, ?_⟩) hSw ?_
                · intro w' hSw'
                  have l1 := nm_look hSw'.2.2.1 (t := 58) (e := 4) Try.underlying58 (by show _ = _; kernel_rfl) HXU32.out
                  have l2 := nm_look hSw'.2.2.1 (t := 58) (e := 4) Try.underlying58 (by show _ = _; kernel_rfl) HXM32.out
                  rw [HA1.out] at l1
                  rw [HA2.out] at l2
                  unfold nmV at l1 l2
                  go_simp
                simp only [Act.put, List.setIfInBounds_toArray, List.set_cons_zero, List.set_cons_succ]
                refine wpAnyH_take (i := 11) (oi := ⟨some 147, _, _, _, _, _⟩) (v := undef) rfl (by kernel_rfl) (by kernel_rfl) (by kernel_rfl) (fun _ _ _ h => h) (Or.inr ⟨by rfl, rfl⟩) hSw ?_
                simp only [Act.put, List.setIfInBounds_toArray, List.set_cons_zero, List.set_cons_succ]
                refine wpAnyH_take (i := 12) (oi := ⟨some 148, _, _, _, _, _⟩) (v := undef) rfl (by kernel_rfl) (by kernel_rfl) (by kernel_rfl) (fun _ _ _ h => h) (Or.inr ⟨by rfl, rfl⟩) hSw ?_
                simp only [Act.put, List.setIfInBounds_toArray, List.set_cons_zero, List.set_cons_succ]
                refine wpAnyH_take (i := 13) (oi := ⟨some 149, _, _, _, _, _⟩) (v := undef) rfl (by kernel_rfl) (by kernel_rfl) (by kernel_rfl) (fun _ _ _ h => h) (Or.inr ⟨by rfl, rfl⟩) hSw ?_
                simp only [Act.put, List.setIfInBounds_toArray, List.set_cons_zero, List.set_cons_succ]
                refine wpAnyH_take (i := 14) (oi := ⟨some 150, _, _, _, _, _⟩) (v := undef) rfl (by kernel_rfl) (by kernel_rfl) (by kernel_rfl) (fun _ _ _ h => h) (Or.inr ⟨by rfl, rfl⟩) hSw ?_
                simp only [Act.put, List.setIfInBounds_toArray, List.set_cons_zero, List.set_cons_succ]
                refine wpAnyH_take (i := 15) (oi := ⟨some 151, _, _, _, _, _⟩) (v := undef) rfl (by kernel_rfl) (by kernel_rfl) (by kernel_rfl) (fun _ _ _ h => h) (Or.inr ⟨by rfl, rfl⟩) hSw ?_
                simp only [Act.put, List.setIfInBounds_toArray, List.set_cons_zero, List.set_cons_succ]
                refine wpAnyH_take (i := 16) (oi := ⟨some 152, _, _, _, _, _⟩) (v := (.bool true)) rfl (by kernel_rfl) (by kernel_rfl) (by kernel_rfl) (fun _ _ _ h => h) (Or.inl ⟨by rfl, ?_⟩) hSw ?_
                · intro w' hSw'
                  have l1 := nm_look hSw'.2.2.1 (t := 58) (e := 4) Try.underlying58 (by show _ = _; kernel_rfl) HXU32.out
                  have l2 := nm_look hSw'.2.2.1 (t := 58) (e := 4) Try.underlying58 (by show _ = _; kernel_rfl) HXM32.out
                  rw [HA1.out] at l1
                  rw [HA2.out] at l2
                  unfold nmV at l1 l2
                  go_simp
                simp only [Act.put, List.setIfInBounds_toArray, List.set_cons_zero, List.set_cons_succ]
                refine wpAnyH_done (by kernel_rfl) ?_ _
                have HWE := Lib.hid hSw.2.2.2
                clear hSw heqA
                go_wp2
                go_ret
                exact ⟨rfl, HW5.out.hb.trans (HWE.out.mono HW5.out.hb.size)⟩
              | false =>
                cases a2 with
                | true =>
                  refine wp_region_held_drew (S := (fun w' => Blk w' p17 39 #[.slice (some ⟨q1, 0, none⟩) 1 1, .slice (some ⟨q2, 0, none⟩) 1 1] ∧ Blk w' p18 39 #[.slice (some ⟨r1, 0, none⟩) 1 1, .slice (some ⟨r2, 0, none⟩) 1 1] ∧ IsNM w' nm N ∧ Below w5.heap.size w5 w')) (by kernel_rfl) (⟨HP175.out.drew, HP18'.out.drew, show IsNM w5.drew nm N from HW5.out.hn, (Below.refl w5.heap.size w5).drew⟩) ?_
                  intro hSw
                  refine wpAnyH_take (i := 0) (oi := ⟨some 136, _, _, _, _, _⟩) (v := (.map (some nm))) rfl (by kernel_rfl) (by kernel_rfl) (by kernel_rfl) (fun _ _ _ h => h) (Or.inl ⟨by rfl, ?_⟩) hSw ?_
                  · intro w' hSw'
                    have l1 := nm_look hSw'.2.2.1 (t := 58) (e := 4) Try.underlying58 (by show _ = _; kernel_rfl) HXU32.out
                    have l2 := nm_look hSw'.2.2.1 (t := 58) (e := 4) Try.underlying58 (by show _ = _; kernel_rfl) HXM32.out
                    rw [HA1.out] at l1
                    rw [HA2.out] at l2
                    unfold nmV at l1 l2
                    go_simp
                  simp only [Act.put, List.setIfInBounds_toArray, List.set_cons_zero, List.set_cons_succ]
                  refine wpAnyH_take (i := 1) (oi := ⟨some 137, _, _, _, _, _⟩) (v := .agg ([.slice (some ⟨q1, 0, none⟩) 1 1, .slice (some ⟨q2, 0, none⟩) 1 1]).toArray) rfl (by kernel_rfl) (by kernel_rfl) (by kernel_rfl) (fun _ _ _ h => h) (yieldsIf_load_mid (by rfl) _ _ rfl p17 (0) rfl ([.slice (some ⟨q1, 0, none⟩) 1 1, .slice (some ⟨q2, 0, none⟩) 1 1]) _ (fun _ h => h.1.rowAll) Try.underlying39 rfl infoTx) hSw ?_
                  simp only [Act.put, List.setIfInBounds_toArray, List.set_cons_zero, List.set_cons_succ]
                  refine wpAnyH_ready (rs := [2]) (by kernel_rfl) (by simp) (AllReadyH.cons (o := ⟨some 138, _, _, _, _, _⟩) rfl (fun K hK => ?_) AllReadyH.nil)
                  go_simp
                  refine (ID17.out _ (Only.of_new hSw.2.2.2 _)).mono ?_
                  rintro e22 w22' ⟨rfl, a22⟩
                  dsimp only
                  refine hK.out _ _ (⟨hSw.1.below a22 hSw.1.lt, hSw.2.1.below a22 hSw.2.1.lt, hSw.2.2.1.new a22, hSw.2.2.2.trans (a22.mono hSw.2.2.2.size)⟩) ?_
                  intro hSw
                  clear hK K
                  try simp only [Act.put, List.setIfInBounds_toArray, List.set_cons_zero, List.set_cons_succ]
                  refine wpAnyH_take (i := 3) (oi := ⟨some 139, _, _, _, _, _⟩) (v := (.bool false)) rfl (by kernel_rfl) (by kernel_rfl) (by kernel_rfl) (fun _ _ _ h => h) (Or.inl ⟨by rfl, ?_⟩) hSw ?_
                  · intro w' hSw'
                    have l1 := nm_look hSw'.2.2.1 (t := 58) (e := 4) Try.underlying58 (by show _ = _; kernel_rfl) HXU32.out
                    have l2 := nm_look hSw'.2.2.1 (t := 58) (e := 4) Try.underlying58 (by show _ = _; kernel_rfl) HXM32.out
                    rw [HA1.out] at l1
                    rw [HA2.out] at l2
                    unfold nmV at l1 l2
                    go_simp
                  simp only [Act.put, List.setIfInBounds_toArray, List.set_cons_zero, List.set_cons_succ]
                  refine wpAnyH_take (i := 4) (oi := ⟨some 140, _, _, _, _, _⟩) (v := (.bool false)) rfl (by kernel_rfl) (by kernel_rfl) (by kernel_rfl) (fun _ _ _ h => h) (Or.inl ⟨by rfl, ?_⟩) hSw ?_
                  · intro w' hSw'
                    have l1 := nm_look hSw'.2.2.1 (t := 58) (e := 4) Try.underlying58 (by show _ = _; kernel_rfl) HXU32.out
                    have l2 := nm_look hSw'.2.2.1 (t := 58) (e := 4) Try.underlying58 (by show _ = _; kernel_rfl) HXM32.out
                    rw [HA1.out] at l1
                    rw [HA2.out] at l2
                    unfold nmV at l1 l2
                    go_simp
                  simp only [Act.put, List.setIfInBounds_toArray, List.set_cons_zero, List.set_cons_succ]
                  refine wpAnyH_take (i := 5) (oi := ⟨some 141, _, _, _, _, _⟩) (v := (.map (some nm))) rfl (by kernel_rfl) (by kernel_rfl) (by kernel_rfl) (fun _ _ _ h => h) (Or.inl ⟨by rfl, ?_⟩) hSw ?_
                  · intro w' hSw'
                    have l1 := nm_look hSw'.2.2.1 (t := 58) (e := 4) Try.underlying58 (by show _ = _; kernel_rfl) HXU32.out
                    have l2 := nm_look hSw'.2.2.1 (t := 58) (e := 4) Try.underlying58 (by show _ = _; kernel_rfl) HXM32.out
                    rw [HA1.out] at l1
                    rw [HA2.out] at l2
                    unfold nmV at l1 l2
                    go_simp
                  simp only [Act.put, List.setIfInBounds_toArray, List.set_cons_zero, List.set_cons_succ]
                  refine wpAnyH_take (i := 6) (oi := ⟨some 142, _, _, _, _, _⟩) (v := .agg ([.slice (some ⟨r1, 0, none⟩) 1 1, .slice (some ⟨r2, 0, none⟩) 1 1]).toArray) rfl (by kernel_rfl) (by kernel_rfl) (by kernel_rfl) (fun _ _ _ h => h) (yieldsIf_load_mid (by rfl) _ _ rfl p18 (0) rfl ([.slice (some ⟨r1, 0, none⟩) 1 1, .slice (some ⟨r2, 0, none⟩) 1 1]) _ (fun _ h => h.2.1.rowAll) Try.underlying39 rfl infoTx) hSw ?_
                  simp only [Act.put, List.setIfInBounds_toArray, List.set_cons_zero, List.set_cons_succ]
                  refine wpAnyH_ready (rs := [7]) (by kernel_rfl) (by simp) (AllReadyH.cons (o := ⟨some 143, _, _, _, _, _⟩) rfl (fun K hK => ?_) AllReadyH.nil)
                  go_simp
                  refine (ID18.out _ (Only.of_new hSw.2.2.2 _)).mono ?_
                  rintro e27 w27' ⟨rfl, a27⟩
                  dsimp only
                  refine hK.out _ _ (⟨hSw.1.below a27 hSw.1.lt, hSw.2.1.below a27 hSw.2.1.lt, hSw.2.2.1.new a27, hSw.2.2.2.trans (a27.mono hSw.2.2.2.size)⟩) ?_
                  intro hSw
                  clear hK K
                  try simp only [Act.put, List.setIfInBounds_toArray, List.set_cons_zero, List.set_cons_succ]
                  refine wpAnyH_take (i := 8) (oi := ⟨some 144, _, _, _, _, _⟩) (v := (.bool true)) rfl (by kernel_rfl) (by kernel_rfl) (by kernel_rfl) (fun _ _ _ h => h) (Or.inl ⟨by rfl, ?_⟩) hSw ?_
                  · intro w' hSw'
                    have l1 := nm_look hSw'.2.2.1 (t := 58) (e := 4) Try.underlying58 (by show _ = _; kernel_rfl) HXU32.out
                    have l2 := nm_look hSw'.2.2.1 (t := 58) (e := 4) Try.underlying58 (by show _ = _; kernel_rfl) HXM32.out
                    rw [HA1.out] at l1
                    rw [HA2.out] at l2
                    unfold nmV at l1 l2
                    go_simp
                  simp only [Act.put, List.setIfInBounds_toArray, List.set_cons_zero, List.set_cons_succ]
                  refine wpAnyH_take (i := 9) (oi := ⟨some 145, _, _, _, _, _⟩) (v := (.bool true)) rfl (by kernel_rfl) (by kernel_rfl) (by kernel_rfl) (fun _ _ _ h => h) (Or.inl ⟨by rfl, ?_⟩) hSw ?_
                  · intro w' hSw'
                    have l1 := nm_look hSw'.2.2.1 (t := 58) (e := 4) Try.underlying58 (by show _ = _; kernel_rfl) HXU32.out
                    have l2 := nm_look hSw'.2.2.1 (t := 58) (e := 4) Try.underlying58 (by show _ = _; kernel_rfl) HXM32.out
                    rw [HA1.out] at l1
                    rw [HA2.out] at l2
                    unfold nmV at l1 l2
                    go_simp
                  simp only [Act.put, List.setIfInBounds_toArray, List.set_cons_zero, List.set_cons_succ]
                  refine wpAnyH_take (i := 10) (oi := ⟨some 146, _, _, _, _, _⟩) (v := (.bool true)) rfl (by kernel_rfl) (by kernel_rfl) (by kernel_rfl) (fun _ _ _ h => h) (Or.inl ⟨by rfl, ?_⟩) hSw ?_
                  · intro w' hSw'
                    have l1 := nm_look hSw'.2.2.1 (t := 58) (e := 4) Try.underlying58 (by show _ = _; kernel_rfl) HXU32.out
                    have l2 := nm_look hSw'.2.2.1 (t := 58) (e := 4) Try.underlying58 (by show _ = _; kernel_rfl) HXM32.out
                    rw [HA1.out] at l1
                    rw [HA2.out] at l2
                    unfold nmV at l1 l2
                    go_simp
                  simp only [Act.put, List.setIfInBounds_toArray, List.set_cons_zero, List.set_cons_succ]
                  refine wpAnyH_take (i := 11) (oi := ⟨some 147, _, _, _, _, _⟩) (v := undef) rfl (by kernel_rfl) (by kernel_rfl) (by kernel_rfl) (fun _ _ _ h => h) (Or.inr ⟨by rfl, rfl⟩) hSw ?_
                  simp only [Act.put, List.setIfInBounds_toArray, List.set_cons_zero, List.set_cons_succ]
                  refine wpAnyH_take (i := 12) (oi := ⟨some 148, _, _, _, _, _⟩) (v := undef) rfl (by kernel_rfl) (by kernel_rfl) (by kernel_rfl) (fun _ _ _ h => h) (Or.inr ⟨by rfl, rfl⟩) hSw ?_
                  simp only [Act.put, List.setIfInBounds_toArray, List.set_cons_zero, List.set_cons_succ]
                  refine wpAnyH_take (i := 13) (oi := ⟨some 149, _, _, _, _, _⟩) (v := undef) rfl (by kernel_rfl) (by kernel_rfl) (by kernel_rfl) (fun _ _ _ h => h) (Or.inr ⟨by rfl, rfl⟩) hSw ?_
                  simp only [Act.put, List.setIfInBounds_toArray, List.set_cons_zero, List.set_cons_succ]
                  refine wpAnyH_take (i := 14) (oi := ⟨some 150, _, _, _, _, _⟩) (v := undef) rfl (by kernel_rfl) (by kernel_rfl) (by kernel_rfl) (fun _ _ _ h => h) (Or.inr ⟨by rfl, rfl⟩) hSw ?_
                  simp only [Act.put, List.setIfInBounds_toArray, List.set_cons_zero, List.set_cons_succ]
                  refine wpAnyH_take (i := 15) (oi := ⟨some 151, _, _, _, _, _⟩) (v := undef) rfl (by kernel_rfl) (by kernel_rfl) (by kernel_rfl) (fun _ _ _ h => h) (Or.inr ⟨by rfl, rfl⟩) hSw ?_
                  simp only [Act.put, List.setIfInBounds_toArray, List.set_cons_zero, List.set_cons_succ]
                  refine wpAnyH_take (i := 16) (oi := ⟨some 152, _, _, _, _, _⟩) (v := (.bool true)) rfl (by kernel_rfl) (by kernel_rfl) (by kernel_rfl) (fun _ _ _ h => h) (Or.inl ⟨by rfl, ?_⟩) hSw ?_
                  · intro w' hSw'
                    have l1 := nm_look hSw'.2.2.1 (t := 58) (e := 4) Try.underlying58 (by show _ = _; kernel_rfl) HXU32.out
                    have l2 := nm_look hSw'.2.2.1 (t := 58) (e := 4) Try.underlying58 (by show _ = _; kernel_rfl) HXM32.out
                    rw [HA1.out] at l1
                    rw [HA2.out] at l2
                    unfold nmV at l1 l2
                    go_simp
                  simp only [Act.put, List.setIfInBounds_toArray, List.set_cons_zero, List.set_cons_succ]
                  refine wpAnyH_done (by kernel_rfl) ?_ _
                  have HWE := Lib.hid hSw.2.2.2
                  clear hSw heqA
                  go_wp2
                  go_ret
                  exact ⟨rfl, HW5.out.hb.trans (HWE.out.mono HW5.out.hb.size)⟩
                | false =>
                  refine wp_region_held_drew (S := (fun w' => Blk w' p17 39 #[.slice (some ⟨q1, 0, none⟩) 1 1, .slice (some ⟨q2, 0, none⟩) 1 1] ∧ Blk w' p18 39 #[.slice (some ⟨r1, 0, none⟩) 1 1, .slice (some ⟨r2, 0, none⟩) 1 1] ∧ IsNM w' nm N ∧ Below w5.heap.size w5 w')) (by kernel_rfl) (⟨HP175.out.drew, HP18'.out.drew, show IsNM w5.drew nm N from HW5.out.hn, (Below.refl w5.heap.size w5).drew⟩) ?_
                  intro hSw
                  refine wpAnyH_take (i := 0) (oi := ⟨some 136, _, _, _, _, _⟩) (v := (.map (some nm))) rfl (by kernel_rfl) (by kernel_rfl) (by kernel_rfl) (fun _ _ _ h => h) (Or.inl ⟨by rfl, ?_⟩) hSw ?_
                  · intro w' hSw'
                    have l1 := nm_look hSw'.2.2.1 (t := 58) (e := 4) Try.underlying58 (by show _ = _; kernel_rfl) HXU32.out
                    have l2 := nm_look hSw'.2.2.1 (t := 58) (e := 4) Try.underlying58 (by show _ = _; kernel_rfl) HXM32.out
                    rw [HA1.out] at l1
                    rw [HA2.out] at l2
                    unfold nmV at l1 l2
                    go_simp
                  simp only [Act.put, List.setIfInBounds_toArray, List.set_cons_zero, List.set_cons_succ]
                  refine wpAnyH_take (i := 1) (oi := ⟨some 137, _, _, _, _, _⟩) (v := .agg ([.slice (some ⟨q1, 0, none⟩) 1 1, .slice (some ⟨q2, 0, none⟩) 1 1]).toArray) rfl (by kernel_rfl) (by kernel_rfl) (by kernel_rfl) (fun _ _ _ h => h) (yieldsIf_load_mid (by rfl) _ _ rfl p17 (0) rfl ([.slice (some ⟨q1, 0, none⟩) 1 1, .slice (some ⟨q2, 0, none⟩) 1 1]) _ (fun _ h => h.1.rowAll) Try.underlying39 rfl infoTx) hSw ?_
                  simp only [Act.put, List.setIfInBounds_toArray, List.set_cons_zero, List.set_cons_succ]
                  refine wpAnyH_ready (rs := [2]) (by kernel_rfl) (by simp) (AllReadyH.cons (o := ⟨some 138, _, _, _, _, _⟩) rfl (fun K hK => ?_) AllReadyH.nil)
                  go_simp
                  refine (ID17.out _ (Only.of_new hSw.2.2.2 _)).mono ?_
                  rintro e22 w22' ⟨rfl, a22⟩
                  dsimp only
                  refine hK.out _ _ (⟨hSw.1.below a22 hSw.1.lt, hSw.2.1.below a22 hSw.2.1.lt, hSw.2.2.1.new a22, hSw.2.2.2.trans (a22.mono hSw.2.2.2.size)⟩) ?_
                  intro hSw
                  clear hK K
                  try simp only [Act.put, List.setIfInBounds_toArray, List.set_cons_zero, List.set_cons_succ]
                  refine wpAnyH_take (i := 3) (oi := ⟨some 139, _, _, _, _, _⟩) (v := (.bool false)) rfl (by kernel_rfl) (by kernel_rfl) (by kernel_rfl) (fun _ _ _ h => h) (Or.inl ⟨by rfl, ?_⟩) hSw ?_
                  · intro w' hSw'
                    have l1 := nm_look hSw'.2.2.1 (t := 58) (e := 4) Try.underlying58 (by show _ = _; kernel_rfl) HXU32.out
                    have l2 := nm_look hSw'.2.2.1 (t := 58) (e := 4) Try.underlying58 (by show _ = _; kernel_rfl) HXM32.out
                    rw [HA1.out] at l1
                    rw [HA2.out] at l2
                    unfold nmV at l1 l2
                    go_simp
                  simp only [Act.put, List.setIfInBounds_toArray, List.set_cons_zero, List.set_cons_succ]
                  refine wpAnyH_take (i := 4) (oi := ⟨some 140, _, _, _, _, _⟩) (v := (.bool false)) rfl (by kernel_rfl) (by kernel_rfl) (by kernel_rfl) (fun _ _ _ h => h) (Or.inl ⟨by rfl, ?_⟩) hSw ?_
                  · intro w' hSw'
                    have l1 := nm_look hSw'.2.2.1 (t := 58) (e := 4) Try.underlying58 (by show _ = _; kernel_rfl) HXU32.out
                    have l2 := nm_look hSw'.2.2.1 (t := 58) (e := 4) Try.underlying58 (by show _ = _; kernel_rfl) HXM32.out
                    rw [HA1.out] at l1
                    rw [HA2.out] at l2
                    unfold nmV at l1 l2
                    go_simp
                  simp only [Act.put, List.setIfInBounds_toArray, List.set_cons_zero, List.set_cons_succ]
                  refine wpAnyH_take (i := 5) (oi := ⟨some 141, _, _, _, _, _⟩) (v := (.map (some nm))) rfl (by kernel_rfl) (by kernel_rfl) (by kernel_rfl) (fun _ _ _ h => h) (Or.inl ⟨by rfl, ?_⟩) hSw ?_
                  · intro w' hSw'
                    have l1 := nm_look hSw'.2.2.1 (t := 58) (e := 4) Try.underlying58 (by show _ = _; kernel_rfl) HXU32.out
                    have l2 := nm_look hSw'.2.2.1 (t := 58) (e := 4) Try.underlying58 (by show _ = _; kernel_rfl) HXM32.out
                    rw [HA1.out] at l1
                    rw [HA2.out] at l2
                    unfold nmV at l1 l2
                    go_simp
                  simp only [Act.put, List.setIfInBounds_toArray, List.set_cons_zero, List.set_cons_succ]
                  refine wpAnyH_take (i := 6) (oi := ⟨some 142, _, _, _, _, _⟩) (v := .agg ([.slice (some ⟨r1, 0, none⟩) 1 1, .slice (some ⟨r2, 0, none⟩) 1 1]).toArray) rfl (by kernel_rfl) (by kernel_rfl) (by kernel_rfl) (fun _ _ _ h => h) (yieldsIf_load_mid (by rfl) _ _ rfl p18 (0) rfl ([.slice (some ⟨r1, 0, none⟩) 1 1, .slice (some ⟨r2, 0, none⟩) 1 1]) _ (fun _ h => h.2.1.rowAll) Try.underlying39 rfl infoTx) hSw ?_
                  simp only [Act.put, List.setIfInBounds_toArray, List.set_cons_zero, List.set_cons_succ]
                  refine wpAnyH_ready (rs := [7]) (by kernel_rfl) (by simp) (AllReadyH.cons (o := ⟨some 143, _, _, _, _, _⟩) rfl (fun K hK => ?_) AllReadyH.nil)
                  go_simp
                  refine (ID18.out _ (Only.of_new hSw.2.2.2 _)).mono ?_
                  rintro e27 w27' ⟨rfl, a27⟩
                  dsimp only
                  refine hK.out _ _ (⟨hSw.1.below a27 hSw.1.lt, hSw.2.1.below a27 hSw.2.1.lt, hSw.2.2.1.new a27, hSw.2.2.2.trans (a27.mono hSw.2.2.2.size)⟩) ?_
                  intro hSw
                  clear hK K
                  try simp only [Act.put, List.setIfInBounds_toArray, List.set_cons_zero, List.set_cons_succ]
                  refine wpAnyH_take (i := 8) (oi := ⟨some 144, _, _, _, _, _⟩) (v := (.bool false)) rfl (by kernel_rfl) (by kernel_rfl) (by kernel_rfl) (fun _ _ _ h => h) (Or.inl ⟨by rfl, ?_⟩) hSw ?_
                  · intro w' hSw'
                    have l1 := nm_look hSw'.2.2.1 (t := 58) (e := 4) Try.underlying58 (by show _ = _; kernel_rfl) HXU32.out
                    have l2 := nm_look hSw'.2.2.1 (t := 58) (e := 4) Try.underlying58 (by show _ = _; kernel_rfl) HXM32.out
                    rw [HA1.out] at l1
                    rw [HA2.out] at l2
                    unfold nmV at l1 l2
                    go_simp
                  simp only [Act.put, List.setIfInBounds_toArray, List.set_cons_zero, List.set_cons_succ]
                  refine wpAnyH_take (i := 9) (oi := ⟨some 145, _, _, _, _, _⟩) (v := (.bool false)) rfl (by kernel_rfl) (by kernel_rfl) (by kernel_rfl) (fun _ _ _ h => h) (Or.inl ⟨by rfl, ?_⟩) hSw ?_
                  · intro w' hSw'
                    have l1 := nm_look hSw'.2.2.1 (t := 58) (e := 4) Try.underlying58 (by show _ = _; kernel_rfl) HXU32.out
                    have l2 := nm_look hSw'.2.2.1 (t := 58) (e := 4) Try.underlying58 (by show _ = _; kernel_rfl) HXM32.out
                    rw [HA1.out] at l1
                    rw [HA2.out] at l2
                    unfold nmV at l1 l2
                    go_simp
                  simp only [Act.put, List.setIfInBounds_toArray, List.set_cons_zero, List.set_cons_succ]
                  refine wpAnyH_take (i := 10) (oi := ⟨some 146, _, _, _, _, _⟩) (v := (.bool false)) rfl (by kernel_rfl) (by kernel_rfl) (by kernel_rfl) (fun _ _ _ h => h) (Or.inl ⟨by rfl, ?_⟩) hSw ?_
                  · intro w' hSw'
                    have l1 := nm_look hSw'.2.2.1 (t := 58) (e := 4) Try.underlying58 (by show _ = _; kernel_rfl) HXU32.out
                    have l2 := nm_look hSw'.2.2.1 (t := 58) (e := 4) Try.underlying58 (by show _ = _; kernel_rfl) HXM32.out
                    rw [HA1.out] at l1
                    rw [HA2.out] at l2
                    unfold nmV at l1 l2
                    go_simp
                  simp only [Act.put, List.setIfInBounds_toArray, List.set_cons_zero, List.set_cons_succ]
                  refine wpAnyH_take (i := 11) (oi := ⟨some 147, _, _, _, _, _⟩) (v := .agg ([.slice (some ⟨q1, 0, none⟩) 1 1, .slice (some ⟨q2, 0, none⟩) 1 1]).toArray) rfl (by kernel_rfl) (by kernel_rfl) (by kernel_rfl) (fun _ _ _ h => h) (yieldsIf_load_mid (by rfl) _ _ rfl p17 (0) rfl ([.slice (some ⟨q1, 0, none⟩) 1 1, .slice (some ⟨q2, 0, none⟩) 1 1]) _ (fun _ h => h.1.rowAll) Try.underlying39 rfl infoTx) hSw ?_
                  simp only [Act.put, List.setIfInBounds_toArray, List.set_cons_zero, List.set_cons_succ]
                  refine wpAnyH_take (i := 13) (oi := ⟨some 149, _, _, _, _, _⟩) (v := .agg ([.slice (some ⟨r1, 0, none⟩) 1 1, .slice (some ⟨r2, 0, none⟩) 1 1]).toArray) rfl (by kernel_rfl) (by kernel_rfl) (by kernel_rfl) (fun _ _ _ h => h) (yieldsIf_load_mid (by rfl) _ _ rfl p18 (0) rfl ([.slice (some ⟨r1, 0, none⟩) 1 1, .slice (some ⟨r2, 0, none⟩) 1 1]) _ (fun _ h => h.2.1.rowAll) Try.underlying39 rfl infoTx) hSw ?_
                  simp only [Act.put, List.setIfInBounds_toArray, List.set_cons_zero, List.set_cons_succ]
                  refine wpAnyH_ready (rs := [12]) (by kernel_rfl) (by simp) (AllReadyH.cons (o := ⟨some 148, _, _, _, _, _⟩) rfl (fun K hK => ?_) AllReadyH.nil)
                  go_simp
                  refine (ID17.out _ (Only.of_new hSw.2.2.2 _)).mono ?_
                  rintro e32 w32' ⟨rfl, a32⟩
                  dsimp only
                  refine hK.out _ _ (⟨hSw.1.below a32 hSw.1.lt, hSw.2.1.below a32 hSw.2.1.lt, hSw.2.2.1.new a32, hSw.2.2.2.trans (a32.mono hSw.2.2.2.size)⟩) ?_
                  intro hSw
                  clear hK K
                  try simp only [Act.put, List.setIfInBounds_toArray, List.set_cons_zero, List.set_cons_succ]
                  refine wpAnyH_ready (rs := [14]) (by kernel_rfl) (by simp) (AllReadyH.cons (o := ⟨some 150, _, _, _, _, _⟩) rfl (fun K hK => ?_) AllReadyH.nil)
                  go_simp
                  refine (ID18.out _ (Only.of_new hSw.2.2.2 _)).mono ?_
                  rintro e34 w34' ⟨rfl, a34⟩
                  dsimp only
                  refine hK.out _ _ (⟨hSw.1.below a34 hSw.1.lt, hSw.2.1.below a34 hSw.2.1.lt, hSw.2.2.1.new a34, hSw.2.2.2.trans (a34.mono hSw.2.2.2.size)⟩) ?_
                  intro hSw
                  clear hK K
                  try simp only [Act.put, List.setIfInBounds_toArray, List.set_cons_zero, List.set_cons_succ]
                  refine wpAnyH_take (i := 15) (oi := ⟨some 151, _, _, _, _, _⟩) (v := (.bool a3)) rfl (by kernel_rfl) (by kernel_rfl) (by kernel_rfl) (fun _ _ _ h => h) (Or.inl ⟨by rfl, ?_⟩) hSw ?_
                  · intro w' hSw'
                    have l1 := nm_look hSw'.2.2.1 (t := 58) (e := 4) Try.underlying58 (by show _ = _; kernel_rfl) HXU32.out
                    have l2 := nm_look hSw'.2.2.1 (t := 58) (e := 4) Try.underlying58 (by show _ = _; kernel_rfl) HXM32.out
                    rw [HA1.out] at l1
                    rw [HA2.out] at l2
                    unfold nmV at l1 l2
                    go_simp
                  simp only [Act.put, List.setIfInBounds_toArray, List.set_cons_zero, List.set_cons_succ]
                  refine wpAnyH_take (i := 16) (oi := ⟨some 152, _, _, _, _, _⟩) (v := (.bool a3)) rfl (by kernel_rfl) (by kernel_rfl) (by kernel_rfl) (fun _ _ _ h => h) (Or.inl ⟨by rfl, ?_⟩) hSw ?_
                  · intro w' hSw'
                    have l1 := nm_look hSw'.2.2.1 (t := 58) (e := 4) Try.underlying58 (by show _ = _; kernel_rfl) HXU32.out
                    have l2 := nm_look hSw'.2.2.1 (t := 58) (e := 4) Try.underlying58 (by show _ = _; kernel_rfl) HXM32.out
                    rw [HA1.out] at l1
                    rw [HA2.out] at l2
                    unfold nmV at l1 l2
                    go_simp
                  simp only [Act.put, List.setIfInBounds_toArray, List.set_cons_zero, List.set_cons_succ]
                  refine wpAnyH_done (by kernel_rfl) ?_ _
                  have HWE := Lib.hid hSw.2.2.2
                  clear hSw heqA
                  cases a3 with
                  | true =>
                    go_wp2
                    go_ret
                    exact ⟨rfl, HW5.out.hb.trans (HWE.out.mono HW5.out.hb.size)⟩
                  | false =>
                    have HN34 := Lib.hid (HW5.out.hn.new HWE.out)
                    have HNMZ := Lib.hid (show w.heap.size ≤ nm ∧ w.heap.size ≤ gs by have := HGG.out; have := HG2.out; have := HG3.out; omega)
                    have hxn : ¬ xu ∈ N := by have := HA1.out; simpa using this
                    have hxm' : ¬ xm ∈ N := by have := HA2.out; simpa using this
                    have hxx : xu ≠ xm := by have := HA3.out; simpa using this
                    have HXN := Lib.hid hxn
                    have HXMN := Lib.hid hxm'
                    have HXX := Lib.hid hxx
                    clear hxn hxm' hxx HA1 HA2 HA3
                    go_upto_region 21 with fail
                    refine wp_region_held_drew (S := (fun w' => Only (fun b => b = gs ∨ b = nm ∨ b = p10) w5 w')) (by kernel_rfl) ((Only.of_new HWE.out _).drew) ?_
                    intro hSw
                    refine wpAnyH_take (i := 0) (oi := ⟨some 153, _, _, _, _, _⟩) (v := (.map (some nm))) rfl (by kernel_rfl) (by kernel_rfl) (by kernel_rfl) (fun _ _ _ h => h) (Or.inl ⟨by rfl, ?_⟩) hSw ?_
                    · intro w' hSw'
                      have h8 := hSw'
                      go_simp
                    simp only [Act.put, List.setIfInBounds_toArray, List.set_cons_zero, List.set_cons_succ]
                    refine wpAnyH_take (i := 1) (oi := ⟨some 154, _, _, _, _, _⟩) (v := .agg ([.slice (some ⟨q1, 0, none⟩) 1 1, .slice (some ⟨q2, 0, none⟩) 1 1]).toArray) rfl (by kernel_rfl) (by kernel_rfl) (by kernel_rfl) (fun _ _ _ h => h) (yieldsIf_load_mid (by rfl) _ _ rfl p17 (0) rfl ([.slice (some ⟨q1, 0, none⟩) 1 1, .slice (some ⟨q2, 0, none⟩) 1 1]) _ (fun _ h => (HP175.out.only h (by have h9 := HPZ.out.1; have h8 := h9.1; have h7 := h9.2.1; have h6 := h9.2.2.1; omega)).rowAll) Try.underlying39 rfl infoTx) hSw ?_
                    simp only [Act.put, List.setIfInBounds_toArray, List.set_cons_zero, List.set_cons_succ]
                    refine wpAnyH_take (i := 3) (oi := ⟨some 156, _, _, _, _, _⟩) (v := (.map (some nm))) rfl (by kernel_rfl) (by kernel_rfl) (by kernel_rfl) (fun _ _ _ h => h) (Or.inl ⟨by rfl, ?_⟩) hSw ?_
                    · intro w' hSw'
                      have h8 := hSw'
                      go_simp
                    simp only [Act.put, List.setIfInBounds_toArray, List.set_cons_zero, List.set_cons_succ]
                    refine wpAnyH_take (i := 4) (oi := ⟨some 157, _, _, _, _, _⟩) (v := .agg ([.slice (some ⟨r1, 0, none⟩) 1 1, .slice (some ⟨r2, 0, none⟩) 1 1]).toArray) rfl (by kernel_rfl) (by kernel_rfl) (by kernel_rfl) (fun _ _ _ h => h) (yieldsIf_load_mid (by rfl) _ _ rfl p18 (0) rfl ([.slice (some ⟨r1, 0, none⟩) 1 1, .slice (some ⟨r2, 0, none⟩) 1 1]) _ (fun _ h => (HP18'.out.only h (by have h9 := HPZ.out.2; have h8 := h9.1; have h7 := h9.2.1; have h6 := h9.2.2.1; omega)).rowAll) Try.underlying39 rfl infoTx) hSw ?_
                    simp only [Act.put, List.setIfInBounds_toArray, List.set_cons_zero, List.set_cons_succ]
                    refine wpAnyH_ready (rs := [2]) (by kernel_rfl) (by simp) (AllReadyH.cons (o := ⟨some 155, _, _, _, _, _⟩) rfl (fun K hK => ?_) AllReadyH.nil)
                    go_simp
                    refine (ID17.out _ hSw).mono ?_
                    rintro e22 w22 ⟨rfl, a22⟩
                    dsimp only
                    have HN22 := Lib.hid (IsNM.new (show IsNM w34'.drew nm N from HN34.out) a22)
                    have HO22 := Lib.hid (show Below w5.heap.size w5 w22 from HWE.out.trans (Below.mono (below_drew a22) HWE.out.size))
                    clear a22
                    refine hK.out _ _ (below_only HO22.out _) ?_
                    intro hSw
                    clear hK K
                    try simp only [Act.put, List.setIfInBounds_toArray, List.set_cons_zero, List.set_cons_succ]
                    refine wpAnyH_ready (rs := [5]) (by kernel_rfl) (by simp) (AllReadyH.cons (o := ⟨some 158, _, _, _, _, _⟩) rfl (fun K hK => ?_) AllReadyH.nil)
                    go_simp
                    refine (ID18.out _ hSw).mono ?_
                    rintro e25 w25 ⟨rfl, a25⟩
                    dsimp only
                    have HN25 := Lib.hid (HN22.out.new a25)
                    have HO25 := Lib.hid (show Below w5.heap.size w5 w25 from HO22.out.trans (a25.mono HO22.out.size))
                    clear a25 HN22 HO22
                    refine hK.out _ _ (below_only HO25.out _) ?_
                    intro hSw
                    clear hK K
                    try simp only [Act.put, List.setIfInBounds_toArray, List.set_cons_zero, List.set_cons_succ]
                    refine wpAnyH_ready (rs := [6]) (by kernel_rfl) (by simp) (AllReadyH.cons (o := ⟨some 159, _, _, _, _, _⟩) rfl (fun K hK => ?_) AllReadyH.nil)
                    obtain ⟨st, w26, w28, hr6, hr8, hn8, ho6, ho8⟩ := nm_entry HN25.out (t := 58) (e := 4) Try.underlying58 (fun u => by show _ = _; kernel_rfl) HXU32.out HXN.out
                    unfold nmV at hr6
                    have HN28 := Lib.hid hn8
                    have HO6 := Lib.hid ho6
                    have HO8 := Lib.hid ho8
                    have HR8 := Lib.hid hr8
                    clear hn8 ho6 ho8 hr8
                    go_simp
                    clear hr6
                    refine hK.out _ _ (hSw.trans HO6.out (fun _ _ h => .inr (.inl h))) ?_
                    intro hSw
                    clear hK K
                    try simp only [Act.put, List.setIfInBounds_toArray, List.set_cons_zero, List.set_cons_succ]
                    refine wpAnyH_take (i := 7) (oi := ⟨some 160, _, _, _, _, _⟩) (v := (goInt st)) rfl (by kernel_rfl) (by kernel_rfl) (by kernel_rfl) (fun _ _ _ h => h) (Or.inl ⟨by rfl, ?_⟩) hSw ?_
                    · intro w' hSw'
                      have h8 := hSw'
                      go_simp
                    simp only [Act.put, List.setIfInBounds_toArray, List.set_cons_zero, List.set_cons_succ]
                    refine wpAnyH_ready (rs := [8]) (by kernel_rfl) (by simp) (AllReadyH.cons (o := ⟨none, _, _, _, _, _⟩) rfl (fun K hK => ?_) AllReadyH.nil)
                    refine step_estore (by rfl) rfl HR8.out ?_
                    refine hK.out _ _ (hSw.trans HO8.out (fun _ _ h => .inr (.inl h))) ?_
                    intro hSw
                    clear hK K
                    try simp only [Act.put, List.setIfInBounds_toArray, List.set_cons_zero, List.set_cons_succ]
                    refine wpAnyH_ready (rs := [9]) (by kernel_rfl) (by simp) (AllReadyH.cons (o := ⟨none, _, _, _, _, _⟩) rfl (fun K hK => ?_) AllReadyH.nil)
                    obtain ⟨w29, hput, hnm9, ho9⟩ := nm_put HN28.out (t := 58) (e := 4) Try.underlying58 HXM32.out (by
                      rw [List.mem_append, List.mem_singleton]
                      rintro (h1 | h1)
                      · exact HXMN.out h1
                      · exact HXX.out h1.symm)
                    unfold nmV at hput
                    have HN29 := Lib.hid hnm9
                    have HO9 := Lib.hid ho9
                    clear hnm9 ho9
                    go_simp
                    clear hput
                    refine hK.out _ _ (hSw.trans HO9.out (fun _ _ h => .inr (.inl h))) ?_
                    intro hSw
                    clear hK K
                    try simp only [Act.put, List.setIfInBounds_toArray, List.set_cons_zero, List.set_cons_succ]
                    refine wpAnyH_done (by kernel_rfl) ?_ _
                    have HO59 := Lib.hid (show Only (fun b => b = nm) w5 w29 from (((below_only HO25.out (fun b => b = nm)).trans HO6.out (fun _ _ h => h)).trans HO8.out (fun _ _ h => h)).trans HO9.out (fun _ _ h => h))
                    have HW9 := Lib.hid (HW5.out.named HWS.out.ne HO59.out HN29.out HNMZ.out.1)
                    clear hSw HO25 HO6 HO8 HO9 HR8 HN28 HN25 HN29 HW5
                    go_upto_region 22 with fail
                    have HP179 := Lib.hid (HP175.out.only HO59.out (by have h9 := HPZ.out.1; exact h9.2.1))
                    go_wp2_with (first
                      | (with_reducible refine wpList_ld rfl 39 (.tmp 17) rfl p17 0 rfl [.slice (some ⟨q1, 0, none⟩) 1 1, .slice (some ⟨q2, 0, none⟩) 1 1] HP179.out.rowAll _ Try.underlying39 rfl 2 infoTx rfl ?_)
                      | (with_reducible refine wpList_stb rfl 39 (.tmp 19) (.tmp 161) rfl w29.heap.size 0 _ rfl rfl 39 [.slice none 0 0, .slice none 0 0] (Blk.new w29 _ _) ?u1 ?u2 ?u3 ?_))
                    case u1 => simp
                    case u2 => rw [infoTx]; rfl
                    case u3 => simp [Value.oneCell']
                    intro w10 b10 o10
                    rw [over_all _ _ (by simp)] at b10
                    have hO10 : Below w29.heap.size w29 w10 := (((Only.refl (fun b => w29.heap.size ≤ b) w29).alloc _).trans o10 (fun b _ e => by omega)).below (Nat.le_refl _) (fun b hb h => by omega)
                    have HW10 := Lib.hid (HW9.out.new hO10)
                    have HKEY := Lib.hid (show IsB w10 (fun b => b < w29.heap.size) (.slice KA kn kc) key from (HW9.out.hk.weak (fun b _ h => h.2.2.2)).below hO10 (fun b _ h => h))
                    have HO510 := Lib.hid (HO59.out.trans (Only.of_new hO10 (fun b => b = nm)) (fun _ _ h => h))
                    have HP19 := Lib.hid b10
                    have HB29 := Lib.hid hO10
                    have HZ19 := Lib.hid (show w5.heap.size ≤ w29.heap.size ∧ w29.heap.size < w10.heap.size from ⟨HO59.out.size, b10.lt⟩)
                    have HH19 := Lib.hid (show gs < w29.heap.size ∧ nm < w29.heap.size ∧ p10 < w29.heap.size ∧ p5 < w29.heap.size from ⟨HW9.out.hs.lt, HW9.out.hn.lt, HW9.out.h10.lt, HW9.out.h5.lt⟩)
                    obtain ⟨p19, hp19⟩ : ∃ p19, w29.heap.size = p19 := ⟨_, rfl⟩
                    rw [hp19] at HP19 HZ19 HH19 HKEY ⊢
                    have HS29 := Lib.hid hp19
                    clear b10 o10 hO10 hp19 HO59 HP179
                    go_upto_region 23 with fail
                    go_cut [] (fun wc => ∃ (ri : Nat) (KB : Option Addr) (kb2 : Nat), Hid (Blk wc p19 39 [.slice (some ⟨ri, 0, none⟩) 1 1, .slice (some ⟨q2, 0, none⟩) 1 1].toArray) ∧ Hid (Blk wc ri 32 (inC xl 0 (.slice KB (kn + 1) kb2)).toArray) ∧ Hid (w10.heap.size ≤ ri) ∧ Hid (IsB wc (fun b => w10.heap.size ≤ b ∧ b < wc.heap.size) (.slice KB (kn + 1) kb2) (key ++ [120])) ∧ Hid (Only (fun b => b = p19) w10 wc))
                    · have HB23 := Lib.hid (Below.refl w10.heap.size w10).drew
                      have HK100 := Lib.hid (show kn ≤ 100 by obtain ⟨_, _, _, h1, h2, _⟩ := HKEY.out; injection h1 with _ h1 _; have := HNUM.out; omega)
                      have HSL := Lib.hid (show ∀ W, Below w10.heap.size w10 W → Sl W (fun b => b < p19) 1 KA kn (bts key) from fun W a => by
                        obtain ⟨A9, n9, c9, h1, h2, h3, h4⟩ := HKEY.out
                        injection h1 with h1 h5 h6
                        subst h1 h5
                        exact h4.below a (fun b hb _ => hb) (by decide))
                      refine wp_region_held_drew (S := (fun w' => Only (fun b => b = p19) w10 w')) (by kernel_rfl) ((Only.refl _ w10).drew) ?_
                      intro hSw
                      refine wpAnyH_take (i := 0) (oi := ⟨some 162, _, _, _, _, _⟩) (v := .agg (ptC xl 0).toArray) rfl (by kernel_rfl) (by kernel_rfl) (by kernel_rfl) (fun _ _ _ h => h) (yieldsIf_load_mid (by rfl) _ _ rfl p10 (0) rfl (ptC xl 0) _ (fun _ h => (HW10.out.h10.only h (by have := HH19.out; omega)).rowAll) Try.underlying28 rfl (by rw [infoPt, ptC_len _ _ HX32.out])) hSw ?_
                      simp only [Act.put, List.setIfInBounds_toArray, List.set_cons_zero, List.set_cons_succ]
                      refine wpAnyH_take (i := 2) (oi := ⟨some 164, _, _, _, _, _⟩) (v := (.slice KA kn kc)) rfl (by kernel_rfl) (by kernel_rfl) (by kernel_rfl) (fun _ _ _ h => h) (Or.inl ⟨by rfl, ?_⟩) hSw ?_
                      · intro w' hSw'
                        have h8 := hSw'
                        go_simp
                      simp only [Act.put, List.setIfInBounds_toArray, List.set_cons_zero, List.set_cons_succ]
                      refine wpAnyH_ready (rs := [1, 4]) (by kernel_rfl) (by simp) (AllReadyH.cons (o := ⟨some 163, _, _, _, _, _⟩) rfl (fun K hK => ?_) (AllReadyH.cons (o := ⟨some 166, _, _, _, _, _⟩) rfl (fun K hK => ?_) AllReadyH.nil))
                      · skip
                        refine step_newc (by rfl) (.cells #[] 5) (fun N => .slice (some ⟨N, 0, none⟩) 0 0) (exec_bslc rfl (run_zero_u8 _) (by simp [Act.eval, Act.put])) ?_
                        intro N1 wn1 hN1 hw1 a1
                        have H163 := Lib.hid (show Blk wn1 N1 5 #[] by rw [hN1, hw1]; exact Blk.new _ _ _)
                        have HN163 := Lib.hid (show w10.heap.size ≤ N1 by rw [hN1]; exact HB23.out.size)
                        try have HNE := Lib.hid (show N4 ≠ N1 by have := H166.out.lt; omega)
                        try replace H166 := Lib.hid (H166.out.below a1 H166.out.lt)
                        replace HB23 := Lib.hid (HB23.out.trans (a1.mono HB23.out.size))
                        clear hN1 hw1 a1
                        refine hK.out _ _ (below_only HB23.out _) ?_
                        intro hSw
                        clear hK K
                        try simp only [Act.put, List.setIfInBounds_toArray, List.set_cons_zero, List.set_cons_succ]
                        refine wpAnyH_ready (rs := [3, 4]) (by kernel_rfl) (by simp) (AllReadyH.cons (o := ⟨some 165, _, _, _, _, _⟩) rfl (fun K hK => ?_) (AllReadyH.cons (o := ⟨some 166, _, _, _, _, _⟩) rfl (fun K hK => ?_) AllReadyH.nil))
                        · skip
                          refine step_appc rfl (.tmp 163) (.tmp 164) 30 rfl w10.heap.size 5 _ 1 1 Try.underlying30 infoU8 (by rfl) (by decide) (some ⟨N1, 0, none⟩) 0 0 rfl KA kn kc rfl [] ⟨rfl, .inr ⟨N1, 0, #[], rfl, HN163.out, H163.out, Nat.le_refl _, by simp [maxLen], rfl, rfl⟩⟩ _ _ (HSL.out _ HB23.out) (bts_one _) (by have := HK100.out; unfold maxLen; omega) (by have := HK100.out; omega) HB23.out.size ?_
                          intro A3 c3 w33 h2 h3 h4
                          rw [Nat.zero_add, List.nil_append] at h2
                          rw [Nat.zero_add] at h4 ⊢
                          have H165 := Lib.hid h2
                          try replace H166 := Lib.hid (H166.out.only h3 (fun e => HNE.out (by have e' : some N1 = some N4 := e; injection e' with e'; exact e'.symm)))
                          replace HB23 := Lib.hid (HB23.out.trans (h3.below HB23.out.size (fun b hb e => by have e' : some N1 = some b := e; injection e' with e'; have := HN163.out; omega)))
                          clear h2 h3 h4 H163
                          refine hK.out _ _ (below_only HB23.out _) ?_
                          intro hSw
                          clear hK K
                          try simp only [Act.put, List.setIfInBounds_toArray, List.set_cons_zero, List.set_cons_succ]
                          refine wpAnyH_ready (rs := [4]) (by kernel_rfl) (by simp) (AllReadyH.cons (o := ⟨some 166, _, _, _, _, _⟩) rfl (fun K hK => ?_) AllReadyH.nil)
                          refine step_newc (by rfl) (.cells #[.int .u8 120] 5) (fun N => .slice (some ⟨N, 0, none⟩) 1 1) (exec_bslc rfl (run_one_u8 120 _) (by simp [Act.eval, Act.put])) ?_
                          intro N4 wn4 hN4 hw4 a4
                          have H166 := Lib.hid (show Blk wn4 N4 5 [Value.int .u8 120].toArray by rw [hN4, hw4]; exact Blk.new _ _ _)
                          try have HNE := Lib.hid (show N4 ≠ N1 by have := H163.out.lt; omega)
                          try replace H163 := Lib.hid (H163.out.below a4 H163.out.lt)
                          try replace H165 := Lib.hid (own_only H165.out (Only.of_new a4 (fun _ => False)) (fun _ _ h => h))
                          replace HB23 := Lib.hid (HB23.out.trans (a4.mono HB23.out.size))
                          clear hN4 hw4 a4
                          refine hK.out _ _ (below_only HB23.out _) ?_
                          intro hSw
                          clear hK K
                          try simp only [Act.put, List.setIfInBounds_toArray, List.set_cons_zero, List.set_cons_succ]
                          refine wpAnyH_ready (rs := [5]) (by kernel_rfl) (by simp) (AllReadyH.cons (o := ⟨some 167, _, _, _, _, _⟩) rfl (fun K hK => ?_) AllReadyH.nil)
                          refine step_appc rfl (.tmp 165) (.tmp 166) 30 rfl w10.heap.size 5 _ 1 1 Try.underlying30 infoU8 (by rfl) (by decide) A3 kn c3 rfl (some ⟨N4, 0, none⟩) 1 1 rfl (bts key) H165.out _ _ (sl_blk H166.out rfl) (by simp [Value.oneCell']) (by have := HK100.out; unfold maxLen; omega) (by have := HK100.out; omega) HB23.out.size ?_
                          intro A5 c5 w55 h2 h3 h4
                          have H167 := Lib.hid h2
                          replace HB23 := Lib.hid (HB23.out.trans (h3.below HB23.out.size (fun b hb e => by have := own_ge H165.out e; omega)))
                          clear h2 h3 h4 H165 H166
                          refine hK.out _ _ (below_only HB23.out _) ?_
                          intro hSw
                          clear hK K
                          try simp only [Act.put, List.setIfInBounds_toArray, List.set_cons_zero, List.set_cons_succ]
                          refine wpAnyH_take (i := 6) (oi := ⟨some 168, _, _, _, _, _⟩) (v := (.agg (inC xl 0 (.slice A5 (kn + 1) c5)).toArray)) rfl (by kernel_rfl) (by kernel_rfl) (by kernel_rfl) (fun _ _ _ h => h) (Or.inl ⟨by rfl, ?_⟩) hSw ?_
                          · intro w' hSw'
                            exact exec_buildc rfl (by simp [Act.eval]) (built_inp xl 0 _ _ _ HX32.out)
                          simp only [Act.put, List.setIfInBounds_toArray, List.set_cons_zero, List.set_cons_succ]
                          refine wpAnyH_ready (rs := [7]) (by kernel_rfl) (by simp) (AllReadyH.cons (o := ⟨some 169, _, _, _, _, _⟩) rfl (fun K hK => ?_) AllReadyH.nil)
                          refine step_newc (by rfl) (.cells (inC xl 0 (.slice A5 (kn + 1) c5)).toArray 32) (fun N => .slice (some ⟨N, 0, none⟩) 1 1) (exec_bslc rfl (run_one_in xl 0 _ _ _ HX32.out _) (by simp [Act.eval, Act.put])) ?_
                          intro N7 wn7 hN7 hw7 a7
                          have H169 := Lib.hid (show Blk wn7 N7 32 (inC xl 0 (.slice A5 (kn + 1) c5)).toArray by rw [hN7, hw7]; exact Blk.new _ _ _)
                          have HN7 := Lib.hid (show w10.heap.size ≤ N7 by rw [hN7]; exact HB23.out.size)
                          replace H167 := Lib.hid (own_only H167.out (Only.of_new a7 (fun _ => False)) (fun _ _ h => h))
                          replace HB23 := Lib.hid (HB23.out.trans (a7.mono HB23.out.size))
                          clear hN7 hw7 a7
                          refine hK.out _ _ (below_only HB23.out _) ?_
                          intro hSw
                          clear hK K
                          try simp only [Act.put, List.setIfInBounds_toArray, List.set_cons_zero, List.set_cons_succ]
                          refine wpAnyH_take (i := 8) (oi := ⟨some 170, _, _, _, _, _⟩) (v := (.pointer (some ⟨p19, 0, none⟩))) rfl (by kernel_rfl) (by kernel_rfl) (by kernel_rfl) (fun _ _ _ h => h) (Or.inl ⟨by rfl, ?_⟩) hSw ?_
                          · intro w' hSw'
                            have h8 := hSw'
                            go_simp
                          simp only [Act.put, List.setIfInBounds_toArray, List.set_cons_zero, List.set_cons_succ]
                          refine wpAnyH_ready (rs := [9]) (by kernel_rfl) (by simp) (AllReadyH.cons (o := ⟨none, _, _, _, _, _⟩) rfl (fun K hK => ?_) AllReadyH.nil)
                          have hb9 := HP19.out.below HB23.out HP19.out.lt
                          have c9 := hb9.cell 0
                          have f9 := hb9.frozen 0
                          simp only [List.getElem?_toArray, List.getElem?_cons_zero] at c9
                          obtain ⟨wz, hwz⟩ : ∃ wz, World.setCell wn7 ⟨p19, 0, none⟩ (.slice (some ⟨N7, 0, none⟩) 1 1) = wz := ⟨_, rfl⟩
                          have o9 := (Only.refl (fun b => b = p19) wn7).setCell (p := ⟨p19, 0, none⟩) (fun _ => rfl) (Value.slice (some ⟨N7, 0, none⟩) 1 1)
                          have s9 := hb9.set_ 0 (Value.slice (some ⟨N7, 0, none⟩) 1 1)
                          go_simp
                          rw [hwz] at o9 s9
                          have HP23 := Lib.hid s9
                          have HO9 := Lib.hid ((below_only HB23.out (fun b => b = p19)).trans o9 (fun _ _ h => h))
                          have HI23 := Lib.hid (H169.out.only o9 (by have := HN7.out; have := HZ19.out; omega))
                          have HK23 := Lib.hid (own_only H167.out o9 (fun k hk e => by have := own_ge H167.out hk; have := HZ19.out; omega))
                          clear hb9 c9 f9 o9 s9 hwz H169 H167 HB23
                          refine hK.out _ _ (HO9.out) ?_
                          intro hSw
                          clear hK K
                          try simp only [Act.put, List.setIfInBounds_toArray, List.set_cons_zero, List.set_cons_succ]
                          refine wpAnyH_done (by kernel_rfl) ?_ _
                          clear hSw
                          go_wp2
                          go_meet
                          exact ⟨N7, A5, c5, HP23, HI23, HN7, (IsB.of_own (by rw [bts_append]; exact HK23.out)).weak (fun b _ h => h), HO9⟩
                        · skip
                          refine step_newc (by rfl) (.cells #[.int .u8 120] 5) (fun N => .slice (some ⟨N, 0, none⟩) 1 1) (exec_bslc rfl (run_one_u8 120 _) (by simp [Act.eval, Act.put])) ?_
                          intro N4 wn4 hN4 hw4 a4
                          have H166 := Lib.hid (show Blk wn4 N4 5 [Value.int .u8 120].toArray by rw [hN4, hw4]; exact Blk.new _ _ _)
                          try have HNE := Lib.hid (show N4 ≠ N1 by have := H163.out.lt; omega)
                          try replace H163 := Lib.hid (H163.out.below a4 H163.out.lt)
                          try replace H165 := Lib.hid (own_only H165.out (Only.of_new a4 (fun _ => False)) (fun _ _ h => h))
                          replace HB23 := Lib.hid (HB23.out.trans (a4.mono HB23.out.size))
                          clear hN4 hw4 a4
                          refine hK.out _ _ (below_only HB23.out _) ?_
                          intro hSw
                          clear hK K
                          try simp only [Act.put, List.setIfInBounds_toArray, List.set_cons_zero, List.set_cons_succ]
                          refine wpAnyH_ready (rs := [3]) (by kernel_rfl) (by simp) (AllReadyH.cons (o := ⟨some 165, _, _, _, _, _⟩) rfl (fun K hK => ?_) AllReadyH.nil)
                          refine step_appc rfl (.tmp 163) (.tmp 164) 30 rfl w10.heap.size 5 _ 1 1 Try.underlying30 infoU8 (by rfl) (by decide) (some ⟨N1, 0, none⟩) 0 0 rfl KA kn kc rfl [] ⟨rfl, .inr ⟨N1, 0, #[], rfl, HN163.out, H163.out, Nat.le_refl _, by simp [maxLen], rfl, rfl⟩⟩ _ _ (HSL.out _ HB23.out) (bts_one _) (by have := HK100.out; unfold maxLen; omega) (by have := HK100.out; omega) HB23.out.size ?_
                          intro A3 c3 w33 h2 h3 h4
                          rw [Nat.zero_add, List.nil_append] at h2
                          rw [Nat.zero_add] at h4 ⊢
                          have H165 := Lib.hid h2
                          try replace H166 := Lib.hid (H166.out.only h3 (fun e => HNE.out (by have e' : some N1 = some N4 := e; injection e' with e'; exact e'.symm)))
                          replace HB23 := Lib.hid (HB23.out.trans (h3.below HB23.out.size (fun b hb e => by have e' : some N1 = some b := e; injection e' with e'; have := HN163.out; omega)))
                          clear h2 h3 h4 H163
                          refine hK.out _ _ (below_only HB23.out _) ?_
                          intro hSw
                          clear hK K
                          try simp only [Act.put, List.setIfInBounds_toArray, List.set_cons_zero, List.set_cons_succ]
                          refine wpAnyH_ready (rs := [5]) (by kernel_rfl) (by simp) (AllReadyH.cons (o := ⟨some 167, _, _, _, _, _⟩) rfl (fun K hK => ?_) AllReadyH.nil)
                          refine step_appc rfl (.tmp 165) (.tmp 166) 30 rfl w10.heap.size 5 _ 1 1 Try.underlying30 infoU8 (by rfl) (by decide) A3 kn c3 rfl (some ⟨N4, 0, none⟩) 1 1 rfl (bts key) H165.out _ _ (sl_blk H166.out rfl) (by simp [Value.oneCell']) (by have := HK100.out; unfold maxLen; omega) (by have := HK100.out; omega) HB23.out.size ?_
                          intro A5 c5 w55 h2 h3 h4
                          have H167 := Lib.hid h2
                          replace HB23 := Lib.hid (HB23.out.trans (h3.below HB23.out.size (fun b hb e => by have := own_ge H165.out e; omega)))
                          clear h2 h3 h4 H165 H166
                          refine hK.out _ _ (below_only HB23.out _) ?_
                          intro hSw
                          clear hK K
                          try simp only [Act.put, List.setIfInBounds_toArray, List.set_cons_zero, List.set_cons_succ]
                          refine wpAnyH_take (i := 6) (oi := ⟨some 168, _, _, _, _, _⟩) (v := (.agg (inC xl 0 (.slice A5 (kn + 1) c5)).toArray)) rfl (by kernel_rfl) (by kernel_rfl) (by kernel_rfl) (fun _ _ _ h => h) (Or.inl ⟨by rfl, ?_⟩) hSw ?_
                          · intro w' hSw'
                            exact exec_buildc rfl (by simp [Act.eval]) (built_inp xl 0 _ _ _ HX32.out)
                          simp only [Act.put, List.setIfInBounds_toArray, List.set_cons_zero, List.set_cons_succ]
                          refine wpAnyH_ready (rs := [7]) (by kernel_rfl) (by simp) (AllReadyH.cons (o := ⟨some 169, _, _, _, _, _⟩) rfl (fun K hK => ?_) AllReadyH.nil)
                          refine step_newc (by rfl) (.cells (inC xl 0 (.slice A5 (kn + 1) c5)).toArray 32) (fun N => .slice (some ⟨N, 0, none⟩) 1 1) (exec_bslc rfl (run_one_in xl 0 _ _ _ HX32.out _) (by simp [Act.eval, Act.put])) ?_
                          intro N7 wn7 hN7 hw7 a7
                          have H169 := Lib.hid (show Blk wn7 N7 32 (inC xl 0 (.slice A5 (kn + 1) c5)).toArray by rw [hN7, hw7]; exact Blk.new _ _ _)
                          have HN7 := Lib.hid (show w10.heap.size ≤ N7 by rw [hN7]; exact HB23.out.size)
                          replace H167 := Lib.hid (own_only H167.out (Only.of_new a7 (fun _ => False)) (fun _ _ h => h))
                          replace HB23 := Lib.hid (HB23.out.trans (a7.mono HB23.out.size))
                          clear hN7 hw7 a7
                          refine hK.out _ _ (below_only HB23.out _) ?_
                          intro hSw
                          clear hK K
                          try simp only [Act.put, List.setIfInBounds_toArray, List.set_cons_zero, List.set_cons_succ]
                          refine wpAnyH_take (i := 8) (oi := ⟨some 170, _, _, _, _, _⟩) (v := (.pointer (some ⟨p19, 0, none⟩))) rfl (by kernel_rfl) (by kernel_rfl) (by kernel_rfl) (fun _ _ _ h => h) (Or.inl ⟨by rfl, ?_⟩) hSw ?_
                          · intro w' hSw'
                            have h8 := hSw'
                            go_simp
                          simp only [Act.put, List.setIfInBounds_toArray, List.set_cons_zero, List.set_cons_succ]
                          refine wpAnyH_ready (rs := [9]) (by kernel_rfl) (by simp) (AllReadyH.cons (o := ⟨none, _, _, _, _, _⟩) rfl (fun K hK => ?_) AllReadyH.nil)
                          have hb9 := HP19.out.below HB23.out HP19.out.lt
                          have c9 := hb9.cell 0
                          have f9 := hb9.frozen 0
                          simp only [List.getElem?_toArray, List.getElem?_cons_zero] at c9
                          obtain ⟨wz, hwz⟩ : ∃ wz, World.setCell wn7 ⟨p19, 0, none⟩ (.slice (some ⟨N7, 0, none⟩) 1 1) = wz := ⟨_, rfl⟩
                          have o9 := (Only.refl (fun b => b = p19) wn7).setCell (p := ⟨p19, 0, none⟩) (fun _ => rfl) (Value.slice (some ⟨N7, 0, none⟩) 1 1)
                          have s9 := hb9.set_ 0 (Value.slice (some ⟨N7, 0, none⟩) 1 1)
                          go_simp
                          rw [hwz] at o9 s9
                          have HP23 := Lib.hid s9
                          have HO9 := Lib.hid ((below_only HB23.out (fun b => b = p19)).trans o9 (fun _ _ h => h))
                          have HI23 := Lib.hid (H169.out.only o9 (by have := HN7.out; have := HZ19.out; omega))
                          have HK23 := Lib.hid (own_only H167.out o9 (fun k hk e => by have := own_ge H167.out hk; have := HZ19.out; omega))
                          clear hb9 c9 f9 o9 s9 hwz H169 H167 HB23
                          refine hK.out _ _ (HO9.out) ?_
                          intro hSw
                          clear hK K
                          try simp only [Act.put, List.setIfInBounds_toArray, List.set_cons_zero, List.set_cons_succ]
                          refine wpAnyH_done (by kernel_rfl) ?_ _
                          clear hSw
                          go_wp2
                          go_meet
                          exact ⟨N7, A5, c5, HP23, HI23, HN7, (IsB.of_own (by rw [bts_append]; exact HK23.out)).weak (fun b _ h => h), HO9⟩
                      · skip
                        refine step_newc (by rfl) (.cells #[.int .u8 120] 5) (fun N => .slice (some ⟨N, 0, none⟩) 1 1) (exec_bslc rfl (run_one_u8 120 _) (by simp [Act.eval, Act.put])) ?_
                        intro N4 wn4 hN4 hw4 a4
                        have H166 := Lib.hid (show Blk wn4 N4 5 [Value.int .u8 120].toArray by rw [hN4, hw4]; exact Blk.new _ _ _)
                        try have HNE := Lib.hid (show N4 ≠ N1 by have := H163.out.lt; omega)
                        try replace H163 := Lib.hid (H163.out.below a4 H163.out.lt)
                        try replace H165 := Lib.hid (own_only H165.out (Only.of_new a4 (fun _ => False)) (fun _ _ h => h))
                        replace HB23 := Lib.hid (HB23.out.trans (a4.mono HB23.out.size))
                        clear hN4 hw4 a4
                        refine hK.out _ _ (below_only HB23.out _) ?_
                        intro hSw
                        clear hK K
                        try simp only [Act.put, List.setIfInBounds_toArray, List.set_cons_zero, List.set_cons_succ]
                        refine wpAnyH_ready (rs := [1]) (by kernel_rfl) (by simp) (AllReadyH.cons (o := ⟨some 163, _, _, _, _, _⟩) rfl (fun K hK => ?_) AllReadyH.nil)
                        refine step_newc (by rfl) (.cells #[] 5) (fun N => .slice (some ⟨N, 0, none⟩) 0 0) (exec_bslc rfl (run_zero_u8 _) (by simp [Act.eval, Act.put])) ?_
                        intro N1 wn1 hN1 hw1 a1
                        have H163 := Lib.hid (show Blk wn1 N1 5 #[] by rw [hN1, hw1]; exact Blk.new _ _ _)
                        have HN163 := Lib.hid (show w10.heap.size ≤ N1 by rw [hN1]; exact HB23.out.size)
                        try have HNE := Lib.hid (show N4 ≠ N1 by have := H166.out.lt; omega)
                        try replace H166 := Lib.hid (H166.out.below a1 H166.out.lt)
                        replace HB23 := Lib.hid (HB23.out.trans (a1.mono HB23.out.size))
                        clear hN1 hw1 a1
                        refine hK.out _ _ (below_only HB23.out _) ?_
                        intro hSw
                        clear hK K
                        try simp only [Act.put, List.setIfInBounds_toArray, List.set_cons_zero, List.set_cons_succ]
                        refine wpAnyH_ready (rs := [3]) (by kernel_rfl) (by simp) (AllReadyH.cons (o := ⟨some 165, _, _, _, _, _⟩) rfl (fun K hK => ?_) AllReadyH.nil)
                        refine step_appc rfl (.tmp 163) (.tmp 164) 30 rfl w10.heap.size 5 _ 1 1 Try.underlying30 infoU8 (by rfl) (by decide) (some ⟨N1, 0, none⟩) 0 0 rfl KA kn kc rfl [] ⟨rfl, .inr ⟨N1, 0, #[], rfl, HN163.out, H163.out, Nat.le_refl _, by simp [maxLen], rfl, rfl⟩⟩ _ _ (HSL.out _ HB23.out) (bts_one _) (by have := HK100.out; unfold maxLen; omega) (by have := HK100.out; omega) HB23.out.size ?_
                        intro A3 c3 w33 h2 h3 h4
                        rw [Nat.zero_add, List.nil_append] at h2
                        rw [Nat.zero_add] at h4 ⊢
                        have H165 := Lib.hid h2
                        try replace H166 := Lib.hid (H166.out.only h3 (fun e => HNE.out (by have e' : some N1 = some N4 := e; injection e' with e'; exact e'.symm)))
                        replace HB23 := Lib.hid (HB23.out.trans (h3.below HB23.out.size (fun b hb e => by have e' : some N1 = some b := e; injection e' with e'; have := HN163.out; omega)))
                        clear h2 h3 h4 H163
                        refine hK.out _ _ (below_only HB23.out _) ?_
                        intro hSw
                        clear hK K
                        try simp only [Act.put, List.setIfInBounds_toArray, List.set_cons_zero, List.set_cons_succ]
                        refine wpAnyH_ready (rs := [5]) (by kernel_rfl) (by simp) (AllReadyH.cons (o := ⟨some 167, _, _, _, _, _⟩) rfl (fun K hK => ?_) AllReadyH.nil)
                        refine step_appc rfl (.tmp 165) (.tmp 166) 30 rfl w10.heap.size 5 _ 1 1 Try.underlying30 infoU8 (by rfl) (by decide) A3 kn c3 rfl (some ⟨N4, 0, none⟩) 1 1 rfl (bts key) H165.out _ _ (sl_blk H166.out rfl) (by simp [Value.oneCell']) (by have := HK100.out; unfold maxLen; omega) (by have := HK100.out; omega) HB23.out.size ?_
                        intro A5 c5 w55 h2 h3 h4
                        have H167 := Lib.hid h2
                        replace HB23 := Lib.hid (HB23.out.trans (h3.below HB23.out.size (fun b hb e => by have := own_ge H165.out e; omega)))
                        clear h2 h3 h4 H165 H166
                        refine hK.out _ _ (below_only HB23.out _) ?_
                        intro hSw
                        clear hK K
                        try simp only [Act.put, List.setIfInBounds_toArray, List.set_cons_zero, List.set_cons_succ]
                        refine wpAnyH_take (i := 6) (oi := ⟨some 168, _, _, _, _, _⟩) (v := (.agg (inC xl 0 (.slice A5 (kn + 1) c5)).toArray)) rfl (by kernel_rfl) (by kernel_rfl) (by kernel_rfl) (fun _ _ _ h => h) (Or.inl ⟨by rfl, ?_⟩) hSw ?_
                        · intro w' hSw'
                          exact exec_buildc rfl (by simp [Act.eval]) (built_inp xl 0 _ _ _ HX32.out)
                        simp only [Act.put, List.setIfInBounds_toArray, List.set_cons_zero, List.set_cons_succ]
                        refine wpAnyH_ready (rs := [7]) (by kernel_rfl) (by simp) (AllReadyH.cons (o := ⟨some 169, _, _, _, _, _⟩) rfl (fun K hK => ?_) AllReadyH.nil)
                        refine step_newc (by rfl) (.cells (inC xl 0 (.slice A5 (kn + 1) c5)).toArray 32) (fun N => .slice (some ⟨N, 0, none⟩) 1 1) (exec_bslc rfl (run_one_in xl 0 _ _ _ HX32.out _) (by simp [Act.eval, Act.put])) ?_
                        intro N7 wn7 hN7 hw7 a7
                        have H169 := Lib.hid (show Blk wn7 N7 32 (inC xl 0 (.slice A5 (kn + 1) c5)).toArray by rw [hN7, hw7]; exact Blk.new _ _ _)
                        have HN7 := Lib.hid (show w10.heap.size ≤ N7 by rw [hN7]; exact HB23.out.size)
                        replace H167 := Lib.hid (own_only H167.out (Only.of_new a7 (fun _ => False)) (fun _ _ h => h))
                        replace HB23 := Lib.hid (HB23.out.trans (a7.mono HB23.out.size))
                        clear hN7 hw7 a7
                        refine hK.out _ _ (below_only HB23.out _) ?_
                        intro hSw
                        clear hK K
                        try simp only [Act.put, List.setIfInBounds_toArray, List.set_cons_zero, List.set_cons_succ]
                        refine wpAnyH_take (i := 8) (oi := ⟨some 170, _, _, _, _, _⟩) (v := (.pointer (some ⟨p19, 0, none⟩))) rfl (by kernel_rfl) (by kernel_rfl) (by kernel_rfl) (fun _ _ _ h => h) (Or.inl ⟨by rfl, ?_⟩) hSw ?_
                        · intro w' hSw'
                          have h8 := hSw'
                          go_simp
                        simp only [Act.put, List.setIfInBounds_toArray, List.set_cons_zero, List.set_cons_succ]
                        refine wpAnyH_ready (rs := [9]) (by kernel_rfl) (by simp) (AllReadyH.cons (o := ⟨none, _, _, _, _, _⟩) rfl (fun K hK => ?_) AllReadyH.nil)
                        have hb9 := HP19.out.below HB23.out HP19.out.lt
                        have c9 := hb9.cell 0
                        have f9 := hb9.frozen 0
                        simp only [List.getElem?_toArray, List.getElem?_cons_zero] at c9
                        obtain ⟨wz, hwz⟩ : ∃ wz, World.setCell wn7 ⟨p19, 0, none⟩ (.slice (some ⟨N7, 0, none⟩) 1 1) = wz := ⟨_, rfl⟩
                        have o9 := (Only.refl (fun b => b = p19) wn7).setCell (p := ⟨p19, 0, none⟩) (fun _ => rfl) (Value.slice (some ⟨N7, 0, none⟩) 1 1)
                        have s9 := hb9.set_ 0 (Value.slice (some ⟨N7, 0, none⟩) 1 1)
                        go_simp
                        rw [hwz] at o9 s9
                        have HP23 := Lib.hid s9
                        have HO9 := Lib.hid ((below_only HB23.out (fun b => b = p19)).trans o9 (fun _ _ h => h))
                        have HI23 := Lib.hid (H169.out.only o9 (by have := HN7.out; have := HZ19.out; omega))
                        have HK23 := Lib.hid (own_only H167.out o9 (fun k hk e => by have := own_ge H167.out hk; have := HZ19.out; omega))
                        clear hb9 c9 f9 o9 s9 hwz H169 H167 HB23
                        refine hK.out _ _ (HO9.out) ?_
                        intro hSw
                        clear hK K
                        try simp only [Act.put, List.setIfInBounds_toArray, List.set_cons_zero, List.set_cons_succ]
                        refine wpAnyH_done (by kernel_rfl) ?_ _
                        clear hSw
                        go_wp2
                        go_meet
                        exact ⟨N7, A5, c5, HP23, HI23, HN7, (IsB.of_own (by rw [bts_append]; exact HK23.out)).weak (fun b _ h => h), HO9⟩
                    case rest =>
                      clear HP19
                      obtain ⟨ri, KB, kb2, HB19, HRI, HRIZ, HKB, HO19⟩ := hcut
                      have hb19c : Below p19 w10 wc := HO19.out.below (by have := HZ19.out; omega) (fun b hb e => by omega)
                      have HWc := Lib.hid (HW9.out.new (w' := wc) (by
                        have h1 := HB29.out
                        rw [HS29.out] at h1 ⊢
                        exact h1.trans hb19c))
                      have HO5c := Lib.hid (HO510.out.trans HO19.out (fun b hb e => by have := HZ19.out; omega))
                      have HP17c := Lib.hid (HP175.out.only HO5c.out (by have h9 := HPZ.out.1; exact h9.2.1))
                      have HP18c := Lib.hid (HP18'.out.only HO5c.out (by have h9 := HPZ.out.2; exact h9.2.1))
                      have HZc := Lib.hid (show w5.heap.size ≤ wc.heap.size ∧ p19 < wc.heap.size ∧ w.heap.size ≤ gs from ⟨HO5c.out.size, HB19.out.lt, HNMZ.out.2⟩)
                      have HUIc := Lib.hid (insSh.only HRUI.out HO5c.out (fun b hb h e => h.2.1 e))
                      have HUOc := Lib.hid (weak_slice weak_out13 _ _ (fun b => b < wc.heap.size) _ _ (outsSh.only HRUO.out HO5c.out (fun b hb h e => h.2.1 e)) (fun b hb _ => hb))
                      have HMIc := Lib.hid (weak_slice weak_in13 _ _ (fun b => b < wc.heap.size) _ _ (insSh.only HRMI.out HO5c.out (fun b hb h e => h.2.1 e)) (fun b hb _ => hb))
                      have HMOc := Lib.hid (weak_slice weak_out13 _ _ (fun b => b < wc.heap.size) _ _ (outsSh.only HRMO.out HO5c.out (fun b hb h e => h.2.1 e)) (fun b hb _ => hb))
                      have HBIc := Lib.hid (show insSh.rel wc (fun b => b < wc.heap.size) [.slice (some ⟨ri, 0, none⟩) 1 1] [((xl, ((0 : Nat) : Int), ()), key ++ [120], ())] from one_slk HRI.out.rowAll HRI.out.lt (in_rel HX32.out (by decide) (HKB.out.weak (fun b hb _ => hb))))
                      clear hb19c HW9 HB29 HS29 HO510 HW10
                      go_wp2_with (first
                        | (with_reducible refine wpList_ld rfl 39 (.tmp 18) rfl p18 0 rfl [.slice (some ⟨r1, 0, none⟩) 1 1, .slice (some ⟨r2, 0, none⟩) 1 1] HP18c.out.rowAll _ Try.underlying39 rfl 2 infoTx rfl ?_)
                        | (with_reducible refine wpList_ld rfl 39 (.tmp 19) rfl p19 0 rfl [.slice (some ⟨ri, 0, none⟩) 1 1, .slice (some ⟨q2, 0, none⟩) 1 1] HB19.out.rowAll _ Try.underlying39 rfl 2 infoTx rfl ?_)
                        | (refine wpList_bsl rfl 50 2 _ rfl #[(0, .agg #[.slice (some ⟨r1, 0, none⟩) 1 1, .slice (some ⟨r2, 0, none⟩) 1 1]), (1, .agg #[.slice (some ⟨ri, 0, none⟩) 1 1, .slice (some ⟨q2, 0, none⟩) 1 1])] _ (run_two_tx _ _ _ _ wc) (by simp [Act.eval, Act.put]) ?_)
                        | (refine wpList_bld rfl 54 _ rfl [(1, .slice (some ⟨wc.heap.size, 0, none⟩) 2 2)] _ (built_blkt _ _ _) (by simp [Act.eval, Act.put]) ?_))
                      have k1 : Blk (wc.alloc (.cells #[.slice (some ⟨r1, 0, none⟩) 1 1, .slice (some ⟨r2, 0, none⟩) 1 1, .slice (some ⟨ri, 0, none⟩) 1 1, .slice (some ⟨q2, 0, none⟩) 1 1] 39)) wc.heap.size 39 #[.slice (some ⟨r1, 0, none⟩) 1 1, .slice (some ⟨r2, 0, none⟩) 1 1, .slice (some ⟨ri, 0, none⟩) 1 1, .slice (some ⟨q2, 0, none⟩) 1 1] := Blk.new _ _ _
                      have hal : Below wc.heap.size wc (wc.alloc (.cells #[.slice (some ⟨r1, 0, none⟩) 1 1, .slice (some ⟨r2, 0, none⟩) 1 1, .slice (some ⟨ri, 0, none⟩) 1 1, .slice (some ⟨q2, 0, none⟩) 1 1] 39)) := (Below.refl _ _).alloc (Nat.le_refl _) _
                      generalize wc.alloc (.cells #[.slice (some ⟨r1, 0, none⟩) 1 1, .slice (some ⟨r2, 0, none⟩) 1 1, .slice (some ⟨ri, 0, none⟩) 1 1, .slice (some ⟨q2, 0, none⟩) 1 1] 39) = w12 at k1 hal ⊢
                      have HTX := Lib.hid (show txsSh.rel w12 (fun b => b < w12.heap.size) [.slice (some ⟨wc.heap.size, 0, none⟩) 2 2] [wsM [UInt8.ofNat i, 1] (10 + fee), wsU xl (key ++ [120]) (left - fee) k] from two_slk k1.rowAll k1.lt (weak_tx13 _ _ (fun b => b < w12.heap.size) _ _ (tx_rel (insSh.below HMIc.out hal (fun b _ h => h)) (outsSh.below HMOc.out hal (fun b _ h => h))) (fun b hb _ => hb)) (weak_tx13 _ _ (fun b => b < w12.heap.size) _ _ (tx_rel (insSh.below HBIc.out hal (fun b _ h => h)) (outsSh.below HUOc.out hal (fun b _ h => h))) (fun b hb _ => hb)))
                      have HW12 := Lib.hid (HWc.out.new hal)
                      have HALc := Lib.hid hal
                      obtain ⟨tb2, htb2⟩ : ∃ tb2, wc.heap.size = tb2 := ⟨_, rfl⟩
                      rw [htb2] at HTX ⊢
                      clear k1 hal htb2 HWc
                      have hwi : wrap64 ((i : Int) + 1) = (i : Int) + 1 := IntWalk.wrap64_in _ (by have := HI8.out; omega)
                      rw [hwi]
                      have CC := cconnect_any w12 gs gs pm L 0 0 0 0 zid zid (some ⟨tb2, 0, none⟩) 2 2 [wsM [UInt8.ofNat i, 1] (10 + fee), wsU xl (key ++ [120]) (left - fee) k] ((i : Int) + 1) 10 rfl rfl (Nat.le_of_lt HW12.out.hs.lt) HW12.out.hs HW12.out.hm HTX.out rfl (fun t ht => by
                        rw [List.mem_cons, List.mem_singleton] at ht
                        rcases ht with rfl | rfl
                        · exact HFM.out
                        · exact wsfitU xl (key ++ [120]) (left - fee) k (by have := HNUM.out; rw [List.length_append]; simp; omega)) (by decide)
                      obtain ⟨R, hR⟩ : ∃ R, connM ((i : Int) + 1) 10 [wsM [UInt8.ofNat i, 1] (10 + fee), wsU xl (key ++ [120]) (left - fee) k] L = R := ⟨_, rfl⟩
                      rw [hR] at CC
                      have HR := Lib.hid hR
                      refine CC.mono ?_
                      clear CC HTX hR
                      rintro e13 w13 ⟨s1, z1, s2, z2, rfl, o13, _, _, pm2, hs13, hm13⟩
                      have HW13 := Lib.hid (HW12.out.conn o13 hs13 hm13 HZc.out.2.2)
                      have HO13 := Lib.hid ((below_only HALc.out (fun b => b = gs)).trans o13 (fun _ _ h => h))
                      clear o13 hs13 hm13 HALc HW12
                      go_wp2_with (with_reducible refine wpList_stb rfl 46 (.tmp 20) (.tmp 179) rfl w13.heap.size 0 _ rfl rfl 46 [.slice none 0 0, .slice none 0 0] (Blk.new w13 _ _) ?f1 ?f2 ?f3 ?_)
                      case f1 => simp
                      case f2 => rw [infoUndo]; rfl
                      case f3 => simp [Value.oneCell']
                      intro w14 b14 o14
                      have hO14 : Below w13.heap.size w13 w14 := (((Only.refl (fun b => w13.heap.size ≤ b) w13).alloc _).trans o14 (fun b _ e => by omega)).below (Nat.le_refl _) (fun b hb h => by omega)
                      have HW14 := Lib.hid (HW13.out.new hO14)
                      have HOc14 := Lib.hid (HO13.out.trans (below_only hO14 (fun b => b = gs)) (fun _ _ h => h))
                      obtain ⟨p20, hp20⟩ : ∃ p20, w13.heap.size = p20 := ⟨_, rfl⟩
                      rw [hp20]
                      clear b14 o14 hO14 hp20 HW13 HO13 hwi
                      by_cases hr0 : R.2.2 = 0
                      · have d0 : (R.2.2 == 0) = true := by rw [hr0]; rfl
                        have HR0 := Lib.hid hr0
                        clear hr0
                        have hbg : p19 ≠ gs ∧ ri ≠ gs := by have := HH19.out; have := HRIZ.out; have := HZ19.out; omega
                        have c19 := (HB19.out.only HOc14.out hbg.1).cell 0
                        have cri : w14.cell? ⟨ri, 33, none⟩ = some (.slice KB (kn + 1) kb2) := by
                          rw [(HRI.out.only HOc14.out hbg.2).cell 33, List.getElem?_toArray, inC, List.getElem?_append_right (by simp [HX32.out])]
                          simp [HX32.out]
                        have HKB14 := Lib.hid (HKB.out.only HOc14.out (fun b _ h e => by have := HH19.out; have := HZ19.out; omega))
                        simp only [List.getElem?_toArray, List.getElem?_cons_zero] at c19
                        clear hbg
                        go_wp2_with fail
                        clear c19 cri d0
                        obtain ⟨X1, hX1⟩ : ∃ X1, sha (key ++ [120]) = X1 := ⟨_, rfl⟩
                        obtain ⟨X2, hX2⟩ : ∃ X2, sha key = X2 := ⟨_, rfl⟩
                        have hbad : (X1 == X2) = true := by rw [← hX1, ← hX2]; exact ws_bad HWS.out (by rw [HR.out]; exact HR0.out)
                        have heqB : ∀ w', (Op.equalIn 10000 25 (.agg (bts X1).toArray) (.agg (bts X2).toArray)).run Try.prog w' = .ok true w' := fun w' => by
                          rw [show (10000 : Nat) = 9998 + 2 from rfl, run_eq_arr Try.underlying25 Try.underlying5 (by kernel_rfl) (by kernel_rfl) (by kernel_rfl) X1 X2 (by rw [← hX1]; exact sha_len _) (by rw [← hX2]; exact sha_len _) w' 9998, hbad]
                        have HX1 := Lib.hid hX1
                        have HX2 := Lib.hid hX2
                        clear hX1 hX2 hbad
                        go_wp2_with (refine wpList_bsl rfl 22 1 _ rfl #[(0, .slice KB (kn + 1) kb2)] _ (run_one_bs KB (kn + 1) kb2 w14) (by simp [Act.eval, Act.put]) ?_)
                        have hal14 : Below w14.heap.size w14 (w14.alloc (.cells #[.slice KB (kn + 1) kb2] 30)) := (Below.refl _ _).alloc (Nat.le_refl _) _
                        refine (hsum_any _ _ 1 1 [.slice KB (kn + 1) kb2] [key ++ [120]] _ _ (Sl.one_new _ _ _) (Each1.one (HKB14.out.below hal14 (fun b hb _ => hb))) (by omega) (fun p hp => by rw [List.mem_singleton] at hp; rw [hp, List.length_append]; have := HNUM.out; simp; omega)).mono ?_
                        rintro e15 w15 ⟨rfl, a15⟩
                        have HA15 := Lib.hid (show Below w14.heap.size w14 w15 from hal14.trans (a15.mono hal14.size))
                        clear hal14 a15
                        rw [show [key ++ [120]].flatten = key ++ [120] by simp, HX1.out]
                        unfold idV
                        go_wp2_with (refine wpList_bsl rfl 22 1 _ rfl #[(0, .slice KA kn kc)] _ (run_one_bs KA kn kc w15) (by simp [Act.eval, Act.put]) ?_)
                        have hal15 : Below w15.heap.size w15 (w15.alloc (.cells #[.slice KA kn kc] 30)) := (Below.refl _ _).alloc (Nat.le_refl _) _
                        have hal16 := HA15.out.trans (hal15.mono HA15.out.size)
                        refine (hsum_any _ _ 1 1 [.slice KA kn kc] [key] _ _ (Sl.one_new _ _ _) (Each1.one (HW14.out.hk.below hal16 (fun b hb _ => hb))) (by omega) (fun p hp => by rw [List.mem_singleton] at hp; rw [hp]; have := HNUM.out; omega)).mono ?_
                        rintro e16 w16 ⟨rfl, a16⟩
                        have HA16 := Lib.hid (show Below w14.heap.size w14 w16 from hal16.trans (a16.mono hal16.size))
                        clear hal15 hal16 a16
                        rw [show [key].flatten = key by simp, HX2.out]
                        unfold idV
                        go_wp2
                        go_ret
                        exact ⟨rfl, HW14.out.hb.trans (HA16.out.mono HW14.out.hb.size)⟩
                      · have d0 : (R.2.2 == 0) = false := by simpa using hr0
                        have hcl : cL R L = L := by rw [cL, if_neg hr0]
                        rw [hcl] at HW14
                        clear hcl hr0 HKB HRI HB19 HBIc HUOc HMIc HMOc HUIc HRIZ
                        have HO514 := Lib.hid ((HO5c.out.mono (S' := fun b => b = gs ∨ b = nm ∨ b = p10) (fun _ _ h => .inr (.inl h))).trans HOc14.out (fun _ _ h => .inl h))
                        have HP17e := Lib.hid (HP17c.out.only HOc14.out (by have h9 := HPZ.out.1; exact h9.1))
                        have HP18e := Lib.hid (HP18c.out.only HOc14.out (by have h9 := HPZ.out.2; exact h9.1))
                        have HUI14 := Lib.hid (weak_slice weak_in13 _ _ (fun b => b < w14.heap.size) _ _ (insSh.only HRUI.out HO514.out (fun b hb h e => by have h9 := h.1; have h8 := h.2.1; have h7 := h.2.2.1; omega)) (fun b hb _ => hb))
                        have HUO14 := Lib.hid (weak_slice weak_out13 _ _ (fun b => b < w14.heap.size) _ _ (outsSh.only HRUO.out HO514.out (fun b hb h e => by have h9 := h.1; have h8 := h.2.1; have h7 := h.2.2.1; omega)) (fun b hb _ => hb))
                        have HMI14 := Lib.hid (weak_slice weak_in13 _ _ (fun b => b < w14.heap.size) _ _ (insSh.only HRMI.out HO514.out (fun b hb h e => by have h9 := h.1; have h8 := h.2.1; have h7 := h.2.2.1; omega)) (fun b hb _ => hb))
                        have HMO14 := Lib.hid (weak_slice weak_out13 _ _ (fun b => b < w14.heap.size) _ _ (outsSh.only HRMO.out HO514.out (fun b hb h e => by have h9 := h.1; have h8 := h.2.1; have h7 := h.2.2.1; omega)) (fun b hb _ => hb))
                        clear HO5c HP17c HP18c HOc14 HO19
                        go_upto_region 27 with fail
                        clear d0
                        go_wp2_with (first
                          | (with_reducible refine wpList_ld rfl 39 (.tmp 18) rfl p18 0 rfl [.slice (some ⟨r1, 0, none⟩) 1 1, .slice (some ⟨r2, 0, none⟩) 1 1] HP18e.out.rowAll _ Try.underlying39 rfl 2 infoTx rfl ?_)
                          | (with_reducible refine wpList_ld rfl 39 (.tmp 17) rfl p17 0 rfl [.slice (some ⟨q1, 0, none⟩) 1 1, .slice (some ⟨q2, 0, none⟩) 1 1] HP17e.out.rowAll _ Try.underlying39 rfl 2 infoTx rfl ?_)
                          | (refine wpList_bsl rfl 50 2 _ rfl #[(0, .agg #[.slice (some ⟨r1, 0, none⟩) 1 1, .slice (some ⟨r2, 0, none⟩) 1 1]), (1, .agg #[.slice (some ⟨q1, 0, none⟩) 1 1, .slice (some ⟨q2, 0, none⟩) 1 1])] _ (run_two_tx _ _ _ _ w14) (by simp [Act.eval, Act.put]) ?_)
                          | (refine wpList_bld rfl 54 _ rfl [(1, .slice (some ⟨w14.heap.size, 0, none⟩) 2 2)] _ (built_blkt _ _ _) (by simp [Act.eval, Act.put]) ?_))
                        have k1 : Blk (w14.alloc (.cells #[.slice (some ⟨r1, 0, none⟩) 1 1, .slice (some ⟨r2, 0, none⟩) 1 1, .slice (some ⟨q1, 0, none⟩) 1 1, .slice (some ⟨q2, 0, none⟩) 1 1] 39)) w14.heap.size 39 #[.slice (some ⟨r1, 0, none⟩) 1 1, .slice (some ⟨r2, 0, none⟩) 1 1, .slice (some ⟨q1, 0, none⟩) 1 1, .slice (some ⟨q2, 0, none⟩) 1 1] := Blk.new _ _ _
                        have hal : Below w14.heap.size w14 (w14.alloc (.cells #[.slice (some ⟨r1, 0, none⟩) 1 1, .slice (some ⟨r2, 0, none⟩) 1 1, .slice (some ⟨q1, 0, none⟩) 1 1, .slice (some ⟨q2, 0, none⟩) 1 1] 39)) := (Below.refl _ _).alloc (Nat.le_refl _) _
                        generalize w14.alloc (.cells #[.slice (some ⟨r1, 0, none⟩) 1 1, .slice (some ⟨r2, 0, none⟩) 1 1, .slice (some ⟨q1, 0, none⟩) 1 1, .slice (some ⟨q2, 0, none⟩) 1 1] 39) = w15 at k1 hal ⊢
                        have HTX := Lib.hid (show txsSh.rel w15 (fun b => b < w15.heap.size) [.slice (some ⟨w14.heap.size, 0, none⟩) 2 2] [wsM [UInt8.ofNat i, 1] (10 + fee), wsU xl key (left - fee) k] from two_slk k1.rowAll k1.lt (weak_tx13 _ _ (fun b => b < w15.heap.size) _ _ (tx_rel (insSh.below HMI14.out hal (fun b _ h => h)) (outsSh.below HMO14.out hal (fun b _ h => h))) (fun b hb _ => hb)) (weak_tx13 _ _ (fun b => b < w15.heap.size) _ _ (tx_rel (insSh.below HUI14.out hal (fun b _ h => h)) (outsSh.below HUO14.out hal (fun b _ h => h))) (fun b hb _ => hb)))
                        have HW15 := Lib.hid (HW14.out.new hal)
                        have HO515 := Lib.hid (HO514.out.trans (below_only hal (fun b => b = gs ∨ b = nm ∨ b = p10)) (fun _ _ h => h))
                        have HP17f := Lib.hid (HP17e.out.below hal HP17e.out.lt)
                        obtain ⟨tb2, htb2⟩ : ∃ tb2, w14.heap.size = tb2 := ⟨_, rfl⟩
                        rw [htb2] at HTX ⊢
                        clear k1 hal htb2 HW14 HO514 HP17e HP18e HUI14 HUO14 HMI14 HMO14
                        have hwi : wrap64 ((i : Int) + 1) = (i : Int) + 1 := IntWalk.wrap64_in _ (by have := HI8.out; omega)
                        rw [hwi]
                        have CC := cconnect_any w15 gs gs pm2 L 0 0 0 0 zid zid (some ⟨tb2, 0, none⟩) 2 2 [wsM [UInt8.ofNat i, 1] (10 + fee), wsU xl key (left - fee) k] ((i : Int) + 1) 10 rfl rfl (Nat.le_of_lt HW15.out.hs.lt) HW15.out.hs HW15.out.hm HTX.out rfl (fun t ht => by
                          rw [List.mem_cons, List.mem_singleton] at ht
                          rcases ht with rfl | rfl
                          · exact HFM.out
                          · exact HFU.out) (by decide)
                        have HG := ws_good (h := (i : Int) + 1) (mark := [UInt8.ofNat i, 1]) (k := k) HWS.out HFEE.out.1 HFEE.out.2 (by have := HNUM.out; omega) (by rw [HXU.out]; exact HXN.out) (by rw [HXM.out]; exact HXMN.out) (by rw [HXU.out, HXM.out]; exact HXX.out)
                        rw [HXU.out, HXM.out] at HG
                        obtain ⟨RR, hRR⟩ : ∃ RR, connM ((i : Int) + 1) 10 [wsM [UInt8.ofNat i, 1] (10 + fee), wsU xl key (left - fee) k] L = RR := ⟨_, rfl⟩
                        rw [hRR] at CC HG
                        clear hRR
                        obtain ⟨hg0, hgi⟩ := HG
                        have hcl : cL RR L = RR.1 := by rw [cL, if_pos hg0]
                        rw [hg0, hcl] at CC
                        obtain ⟨L2, hL2⟩ : ∃ L2, RR.1 = L2 := ⟨_, rfl⟩
                        rw [hL2] at CC hgi
                        have HWS2 := Lib.hid hgi
                        refine CC.mono ?_
                        clear CC HTX hg0 hgi hcl hL2
                        rintro e17 w17 ⟨s3, z3, s4, z4, rfl, o17, _, _, pm3, hs17, hm17⟩
                        have HW17 := Lib.hid (HW15.out.conn o17 hs17 hm17 HNMZ.out.2)
                        have HO517 := Lib.hid (HO515.out.trans o17 (fun _ _ h => .inl h))
                        have HP17g := Lib.hid (HP17f.out.only o17 (by have h9 := HPZ.out.1; exact h9.1))
                        clear o17 hs17 hm17 HO515 HW15 HP17f
                        go_wp2_with (with_reducible refine wpList_stb rfl 46 (.tmp 22) (.tmp 202) rfl w17.heap.size 0 _ rfl rfl 46 [.slice none 0 0, .slice none 0 0] (Blk.new w17 _ _) ?g1 ?g2 ?g3 ?_)
                        case g1 => simp
                        case g2 => rw [infoUndo]; rfl
                        case g3 => simp [Value.oneCell']
                        intro w18 b18 o18
                        have hO18 : Below w17.heap.size w17 w18 := (((Only.refl (fun b => w17.heap.size ≤ b) w17).alloc _).trans o18 (fun b _ e => by omega)).below (Nat.le_refl _) (fun b hb h => by omega)
                        have HW18 := Lib.hid (HW17.out.new hO18)
                        have HO518 := Lib.hid (HO517.out.trans (below_only hO18 (fun b => b = gs ∨ b = nm ∨ b = p10)) (fun _ _ h => h))
                        have HP17h := Lib.hid (HP17g.out.below hO18 HP17g.out.lt)
                        obtain ⟨p22, hp22⟩ : ∃ p22, w17.heap.size = p22 := ⟨_, rfl⟩
                        rw [hp22]
                        clear b18 o18 hO18 hp22 HW17 HO517 HP17g hwi
                        have hcf : w18.cell? ⟨bf, of_ + i, none⟩ = some (.int .i64 fee) := by rw [World.cell?_of_block (HW18.out.hb.block bf HBF.out)]; exact HCFw.out
                        have hw1 : wrap64 (left - fee) = left - fee := IntWalk.wrap64_in _ (by have := HFEE.out; have := HNUM.out; omega)
                        have hw2 : wrap64 (made + 10) = made + 10 := IntWalk.wrap64_in _ (by have := HNUM.out; have := HI8.out; omega)
                        have him' := HIM.out
                        have dlen : decide (i < m) = true := by simpa using him'
                        go_wp2_with (with_reducible refine wpList_ld rfl 39 (.tmp 17) rfl p17 0 rfl [.slice (some ⟨q1, 0, none⟩) 1 1, .slice (some ⟨q2, 0, none⟩) 1 1] HP17h.out.rowAll _ Try.underlying39 rfl 2 infoTx rfl ?_)
                        clear hcf hw1 hw2 him' dlen
                        refine (ID17.out _ HO518.out).mono ?_
                        rintro e19 w19 ⟨rfl, a19⟩
                        have HW19 := Lib.hid (HW18.out.new a19)
                        have HZ19b := Lib.hid (show wr.heap.size ≤ w19.heap.size by have := HO518.out.size; have := a19.size; have := HQZ.out.2.2; have := HPZ.out.1.2.2.2; omega)
                        clear a19 HW18 HO518 HP17h
                        go_wp2_with (first
                          | (refine wpList_bld rfl 28 _ rfl [(0, .agg (bts xu).toArray)] _ (built_pt0 _ HXU32.out) (by simp [Act.eval, Act.put]) ?_)
                          | (with_reducible refine wpList_stb rfl 28 (.tmp 10) (.tmp 216) rfl p10 0 _ rfl rfl 28 (ptC xl 0) HW19.out.h10 ?y1 ?y2 ?y3 ?_))
                        case y1 => simp [ptC_len _ _ HX32.out, ptC_len _ _ HXU32.out]
                        case y2 => rw [infoPt]; simp [ptC_len _ _ HXU32.out]
                        case y3 => exact ptC_one _ _
                        intro w20 b20 o20
                        rw [over_all _ _ (by simp [ptC_len _ _ HX32.out, ptC_len _ _ HXU32.out])] at b20
                        have hpp : w.heap.size ≤ p10 ∧ p5 ≠ p10 := by have := HNMZ.out; have := HG2.out; have := HGG.out; omega
                        have hb20 : Below w.heap.size w w20 := HW19.out.hb.trans (o20.below HW19.out.hb.size (fun b hb e => by omega))
                        have HW20 := Lib.hid (HW19.out.moved o20 b20 hpp.1 hpp.2 (IsB.weak (IsB.below HKI.out (Below.via HBLR.out hb20 (Nat.le_trans HZ19b.out o20.size)) (fun b _ h => h)) (fun b hb h => by have h9 : b < w.heap.size := h; have := HNMZ.out; omega)))
                        clear hpp hb20 b20 o20 HW19
                        go_wp2_with fail
                        refine (call_any w20 gs gs pm3 L2 HW20.out.hs HW20.out.hm).mono ?_
                        rintro e21 w21 ⟨pq, rfl, a21, hma⟩
                        have HW21 := Lib.hid (HW20.out.new a21)
                        clear a21 HW20
                        cases pq with
                        | none => exact absurd hma HWS2.out.ne
                        | some b =>
                          obtain ⟨_, es, clock, e1, e2, e3, e4⟩ := hma
                          have ht : (Try.prog).underlying 40 = some (.map 28 61) := Try.underlying40
                          have hr := run_range_map (P := Try.prog) w21 40 _ _ b es clock ht e1
                          obtain ⟨T, hT⟩ : ∃ T, made + 10 = T := ⟨_, rfl⟩
                          have HMT := Lib.hid hT
                          have HT := Lib.hid (show amtS es.toList = T by rw [amtS_tot e2, HWS2.out.total, hT])
                          have HE := Lib.hid e1
                          have HST := Lib.hid e3
                          have HN2 := Lib.hid (amt_nn e2 HWS2.out.pos)
                          have HTT := Lib.hid (show T ≤ 4611686018427387904 by have := HNUM.out; have := HI8.out; omega)
                          have HVAL := Lib.hid (show ∀ e ∈ es.toList, ∃ c : CoT, e.val = coinV c ∧ c.2.1.length = 32 from fun e he => by
                            have : (e.key, e.val) ∈ L2.map (fun x => (pV x.1, coinV x.2)) := by rw [← e2]; exact List.mem_map.2 ⟨e, he, rfl⟩
                            obtain ⟨x, hx, e2⟩ := List.mem_map.1 this
                            exact ⟨x.2, (congrArg Prod.snd e2).symm, (e4 x hx).2.1⟩)
                          clear e1 e2 e3 e4 hT
                          go_wp2_with fail
                          have hal : Below w21.heap.size w21 (w21.alloc (.mapIter (some b) clock #[] clock)) := (Below.refl _ _).alloc (Nat.le_refl _) _
                          have hit : (w21.alloc (.mapIter (some b) clock #[] clock)).heap[w21.heap.size]? = some (.mapIter (some b) clock #[] clock) := heap_alloc_new _ _
                          have hmb : (w21.alloc (.mapIter (some b) clock #[] clock)).heap[b]? = some (.map es clock) := (hal.block b (blk_lt HE.out)).trans HE.out
                          have hl0 : leftOf es #[] = es := by unfold leftOf; simp
                          have hs0 : (0 : Int) + amtS (leftOf es #[]).toList = T := by rw [hl0, HT.out]; omega
                          generalize World.alloc w21 (.mapIter (some b) clock #[] clock) = W0 at hal hit hmb ⊢
                          obtain ⟨r, hrr⟩ : ∃ r, w21.heap.size = r := ⟨_, rfl⟩
                          have HRW := Lib.hid hrr
                          have HBLT := Lib.hid (blk_lt HE.out)
                          rw [hrr] at hit ⊢
                          have HIT := Lib.hid hit
                          have HMB := Lib.hid hmb
                          have HAL := Lib.hid hal
                          have HS0 := Lib.hid hs0
                          clear hal hit hmb hl0 hs0 hrr hr
                          go_loopg [24] (leftOf es #[]).size (fun k v3 wi => ∃ (seen : Array Nat) (acc : Int) (c0 : Nat), k = (leftOf es seen).size ∧ v3 = .int .i64 acc ∧ 0 ≤ acc ∧ Hid (acc + amtS (leftOf es seen).toList = T) ∧ Hid (wi.heap[b]? = some (.map es clock)) ∧ Hid (wi.heap[r]? = some (.mapIter (some b) clock seen c0)) ∧ clock ≤ c0 ∧ Hid (Below w21.heap.size w21 wi))
                          case atStart => exact ⟨#[], 0, clock, rfl, rfl, by omega, HS0, HMB, HIT, Nat.le_refl _, HAL⟩
                          case round =>
                            clear HMB HIT HAL HS0
                            obtain ⟨seen, acc, c0, hk, rfl, hacc, HS, HMB, HIT, hc0, HAL⟩ := hrel
                            have hst := (stamped_iff _ _).1 HST.out
                            rcases run_next_at (P := Try.prog) wr 0 r b clock c0 seen es clock HIT.out HMB.out hst.1 hc0 with ⟨h0, hnx⟩ | ⟨e, he, w1, hw1, hnx⟩
                            · have hfin : acc = T := by
                                have h2 : (leftOf es seen).toList = [] := List.eq_nil_of_length_eq_zero (by simpa using h0)
                                have := HS.out
                                rw [h2] at this
                                simpa [amtS] using this
                              subst hfin
                              clear hst h0 hk hc0 HS
                              have HWi := Lib.hid (HW21.out.new HAL.out)
                              go_wp2_with (with_reducible refine wpList_ld rfl 28 (.tmp 10) rfl p10 0 rfl (ptC xu 0) HWi.out.h10.rowAll _ Try.underlying28 rfl 33 infoPt (ptC_len _ _ HXU32.out).symm ?_)
                              refine (cget_any wr gs gs pm3 L2 xu 0 ⟨HXU32.out, by show (0 : Nat) < 4294967296; omega⟩ HWi.out.hs HWi.out.hm).mono ?_
                              rintro e22 w22 ⟨rfl, a22⟩
                              obtain ⟨hh2, hl2⟩ := HWS2.out.last
                              rw [hl2, show orZero (some (left - fee, sha k, hh2)) = (left - fee, sha k, hh2) from rfl, show (some (left - fee, sha k, hh2) : Option CoT).isSome = true from rfl]
                              have HW22 := Lib.hid (HWi.out.new a22)
                              clear a22 HWi hl2 hnx HAL HIT HMB
                              go_wp2_with (with_reducible refine wpList_stb rfl 61 (.tmp 27) (.tmp 232) rfl w22.heap.size 0 _ rfl rfl 61 (coinC zeroCo) (Blk.new w22 _ _) ?s1 ?s2 ?s3 ?_)
                              case s1 => simp [coinC_len (left - fee, sha k, hh2) (sha_len _)]; decide
                              case s2 =>
                                first
                                  | (rw [infoCo]; simp [coinC_len (left - fee, sha k, hh2) (sha_len _)])
                                  | (have h7 := infoCo; rw [Option.map_eq_some_iff] at h7; rw [coinC_len (left - fee, sha k, hh2) (sha_len _)]; exact h7)
                              case s3 => exact coinC_one _
                              intro w23 b23 o23
                              rw [over_all _ _ (by simp [coinC_len (left - fee, sha k, hh2) (sha_len _)]; decide)] at b23
                              have hO23 : Below w22.heap.size w22 w23 := (((Only.refl (fun b => w22.heap.size ≤ b) w22).alloc _).trans o23 (fun b _ e => by omega)).below (Nat.le_refl _) (fun b hb h => by omega)
                              have HW23 := Lib.hid (HW22.out.new hO23)
                              have ca := co_amt b23
                              obtain ⟨p27, hp27⟩ : ∃ p27, w22.heap.size = p27 := ⟨_, rfl⟩
                              rw [hp27] at ca ⊢
                              clear b23 o23 hO23 hp27 HW22
                              have dn1 : ((left - fee) != (left - fee)) = false := by simp
                              have dn2 : (acc != (made + 10)) = false := by have := HMT.out; simp; omega
                              have HNUM2 := Lib.hid (show 0 ≤ left - fee ∧ left - fee ≤ 1000 ∧ made + 10 = 1000 + 10 * ((i + 1 : Nat) : Int) ∧ k.length ≤ 100 by have := HNUM.out; have := HFEE.out; have := HKL2.out; omega)
                              have hwi1 : wrap64 ((i : Int) + 1) = ((i + 1 : Nat) : Int) := by rw [IntWalk.wrap64_in _ (by have := HI8.out; omega)]; rfl
                              go_wp2
                              go_roundg (m - (i + 1))
                              case measure => omega
                              case rel => exact ⟨i + 1, KA', kn', kc', k, left - fee, made + 10, xu, L2, N ++ [xu] ++ [xm], pm3, by omega, by first | rfl | rw [hwi1], rfl, rfl, rfl, HNUM2.out, HXU32.out, HWS2.out, HW23.out.hk, HW23.out.hs, HW23.out.hm, HW23.out.h5, HW23.out.h10, HW23.out.hn, HW23.out.hb⟩
                            · obtain ⟨hem, hes⟩ := mem_left he
                              obtain ⟨cc, hcv, hc32⟩ := HVAL.out e hem
                              have hsp := left_step HST.out he
                              have hsh := left_shrinks es seen e he
                              have hr1 : w1.heap[r]? = some (.mapIter (some b) clock seen c0) := by rcases hw1 with rfl | rfl <;> exact HIT.out
                              have hb1 : w1.heap[b]? = some (.map es clock) := by rcases hw1 with rfl | rfl <;> exact HMB.out
                              have hz1 : w1.heap.size = wr.heap.size := by rcases hw1 with rfl | rfl <;> rfl
                              have hset : (setBlock w1 r (.mapIter (some b) clock (seen.push e.born) clock)).heap[r]? = some (.mapIter (some b) clock (seen.push e.born) clock) ∧ ∀ i, i ≠ r → (setBlock w1 r (.mapIter (some b) clock (seen.push e.born) clock)).heap[i]? = w1.heap[i]? := heap_set (o' := .mapIter (some b) clock (seen.push e.born) clock) hr1
                              have hbr : b ≠ r := by have := HBLT.out; have := HRW.out; omega
                              have hb2 : (setBlock w1 r (.mapIter (some b) clock (seen.push e.born) clock)).heap[b]? = some (.map es clock) := (hset.2 b hbr).trans hb1
                              have hent := run_entry_at (P := Try.prog) _ r b clock seen es clock e hset.1 hb2 hem hst.2.1
                              have hon : Only (fun k => k = r) wr (setBlock w1 r (.mapIter (some b) clock (seen.push e.born) clock)) := by
                                rcases hw1 with rfl | rfl <;> exact ⟨rfl, rfl, rfl, by simp [setBlock], fun k _ hk => hset.2 k hk⟩
                              rw [hcv] at hnx hent hsp
                              rw [amtV_coin] at hsp
                              obtain ⟨amt, lock, hgt⟩ := cc
                              have hnne : 0 ≤ amt := by have := HN2.out e hem; rw [hcv, amtV_coin] at this; exact this
                              have hlf : 0 ≤ amtS (leftOf es (seen.push e.born)).toList := amtS_nn fun x hx => HN2.out x (mem_left hx).1
                              obtain ⟨w2', hw2⟩ : ∃ w2', setBlock w1 r (.mapIter (some b) clock (seen.push e.born) clock) = w2' := ⟨_, rfl⟩
                              rw [hw2] at hset hb2 hent hon hnx
                              have HB2 := Lib.hid hb2
                              have HR2 := Lib.hid hset.1
                              have HA2 := Lib.hid (HAL.out.trans (hon.below HAL.out.size (fun k hk e => by have := HRW.out; omega)))
                              have HSH := Lib.hid hsh
                              have HNS := Lib.hid (show acc + amt + amtS (leftOf es (seen.push e.born)).toList = T by have := HS.out; omega)
                              have hTT := HTT.out
                              have hw64 : wrap64 (acc + amt) = acc + amt := IntWalk.wrap64_in _ (by have := HNS.out; omega)
                              have HL32 := Lib.hid hc32
                              unfold coinV at hnx hent
                              clear hset hb2 hon hw2 hr1 hb1 hz1 hw1 hbr hst hcv hem hes he hsp hsh HMB HIT HAL HS
                              go_wp2_with (with_reducible refine wpList_stb rfl 61 (.tmp 26) (.tmp 223) rfl w2'.heap.size 0 _ rfl rfl 61 (coinC zeroCo) (Blk.new w2' _ _) ?v1 ?v2 ?v3 ?_)
                              case v1 => simp [coinC_len (amt, lock, hgt) HL32.out]; decide
                              case v2 =>
                                first
                                  | (rw [infoCo]; simp [coinC_len (amt, lock, hgt) HL32.out])
                                  | (have h7 := infoCo; rw [Option.map_eq_some_iff] at h7; rw [coinC_len (amt, lock, hgt) HL32.out]; exact h7)
                              case v3 => exact coinC_one _
                              intro w3' b3 o3
                              rw [over_all _ _ (by simp [coinC_len (amt, lock, hgt) HL32.out]; decide)] at b3
                              have hO3 : Below w2'.heap.size w2' w3' := (((Only.refl (fun b => w2'.heap.size ≤ b) w2').alloc _).trans o3 (fun b _ e => by omega)).below (Nat.le_refl _) (fun b hb h => by omega)
                              have HB3 := Lib.hid ((hO3.block b (blk_lt HB2.out)).trans HB2.out)
                              have HR3 := Lib.hid ((hO3.block r (blk_lt HR2.out)).trans HR2.out)
                              have HA3 := Lib.hid (HA2.out.trans (hO3.mono HA2.out.size))
                              have ca := co_amt b3
                              obtain ⟨p26, hp26⟩ : ∃ p26, w2'.heap.size = p26 := ⟨_, rfl⟩
                              rw [hp26] at ca ⊢
                              clear b3 o3 hO3 hnx hent hp26
                              go_wp2
                              go_roundg (leftOf es (seen.push e.born)).size
                              case measure => have := HSH.out; omega
                              case rel => exact ⟨seen.push e.born, acc + amt, clock, rfl, by rw [hw64], by omega, HNS.out, HB3.out, HR3.out, Nat.le_refl _, HA3.out⟩
        · have dim : decide (i < m) = false := by simpa using him
          clear him
          go_wp2
          go_ret
          exact ⟨rfl, HBL.out⟩
    · have dm : ((m : Int) != (n : Int)) = true := by simpa using by omega
      clear q8 qm HN' HM'
      go_wp2
      go_ret
      exact ⟨rfl, HF8.out⟩
end Go.Proofs.Ytlbpeihdedhjiaa
