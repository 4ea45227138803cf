/- Transactions, headers, blocks: their shapes and cells. -/
import Derived.Test.YtlbpeihdedhjiaaShp
namespace Go.Proofs.Ytlbpeihdedhjiaa
/-- a point: the name of a transaction, the place -/
abbrev PointT := List UInt8 × Int × Unit
abbrev InT := PointT × List UInt8 × Unit
abbrev OutT := Int × List UInt8 × Unit
abbrev TxT := List InT × List OutT × Unit
/-- a header: version, the block ahead, root, time, bits, nonce -/
abbrev HdrT := Int × List UInt8 × List UInt8 × Int × Int × Int × Unit
abbrev BlkT := HdrT × List TxT × Unit
def pointSh : Shape PointT := shPair (shArr 32) (shPair (shInt .u32) shUnit)
def inSh : Shape InT := shPair pointSh (shPair shBytes shUnit)
def outSh : Shape OutT := shPair (shInt .i64) (shPair (shArr 32) shUnit)
def insSh : Shape (List InT) := shSlice inSh (by decide)
def outsSh : Shape (List OutT) := shSlice outSh (by decide)
def txSh : Shape TxT := shPair insSh (shPair outsSh shUnit)
def txsSh : Shape (List TxT) := shSlice txSh (by decide)
def hdrSh : Shape HdrT := shPair (shInt .u32) (shPair (shArr 32) (shPair (shArr 32) (shPair (shInt .u32) (shPair (shInt .u32) (shPair (shInt .u32) shUnit)))))
def blkSh : Shape BlkT := shPair hdrSh (shPair txsSh shUnit)
theorem opens_id : Opens Try.prog 25 (shArr 32) := opens_arr Try.underlying25 Try.underlying5 (by kernel_rfl) (by kernel_rfl)
theorem opens_point : Opens Try.prog 28 pointSh :=
  opens_struct Try.underlying28 (by kernel_rfl) (opensF_cons opens_id rfl (by kernel_rfl) (opensF_cons (opens_int Try.underlying26) rfl (by kernel_rfl) (opensF_nil _)))
theorem opens_in : Opens Try.prog 32 inSh :=
  opens_struct Try.underlying32 (by kernel_rfl) (opensF_cons opens_point rfl (by kernel_rfl) (opensF_cons (opens_bytes Try.underlying30 Try.underlying5 (by kernel_rfl)) rfl (by kernel_rfl) (opensF_nil _)))
theorem opens_out : Opens Try.prog 36 outSh :=
  opens_struct Try.underlying36 (by kernel_rfl) (opensF_cons (opens_int Try.underlying2) rfl (by kernel_rfl) (opensF_cons opens_id rfl (by kernel_rfl) (opensF_nil _)))
theorem opens_tx : Opens Try.prog 39 txSh :=
  opens_struct Try.underlying39 (by kernel_rfl) (opensF_cons (opens_slice Try.underlying33 (by kernel_rfl) opens_in) rfl (by kernel_rfl) (opensF_cons (opens_slice Try.underlying37 (by kernel_rfl) opens_out) rfl (by kernel_rfl) (opensF_nil _)))
theorem opens_txs : Opens Try.prog 50 txsSh := opens_slice Try.underlying50 (by kernel_rfl) opens_tx
theorem opens_hdr : Opens Try.prog 52 hdrSh :=
  opens_struct Try.underlying52 (by kernel_rfl) (opensF_cons (opens_int Try.underlying26) rfl (by kernel_rfl) (opensF_cons opens_id rfl (by kernel_rfl) (opensF_cons opens_id rfl (by kernel_rfl)
    (opensF_cons (opens_int Try.underlying26) rfl (by kernel_rfl) (opensF_cons (opens_int Try.underlying26) rfl (by kernel_rfl) (opensF_cons (opens_int Try.underlying26) rfl (by kernel_rfl) (opensF_nil _)))))))
theorem opens_blk : Opens Try.prog 54 blkSh :=
  opens_struct Try.underlying54 (by kernel_rfl) (opensF_cons opens_hdr rfl (by kernel_rfl) (opensF_cons opens_txs rfl (by kernel_rfl) (opensF_nil _)))
/-! ### cells -/
theorem bounds_u32' {n : Int} (h : (Lit.int .u32 n).wf = true) : 0 ≤ n ∧ n < 4294967296 := by
  have := bounds_u32 h; omega
theorem bounds_i64' {n : Int} (h : (Lit.int .i64 n).wf = true) : -9223372036854775808 ≤ n ∧ n < 9223372036854775808 := by
  have := bounds_i64 h; omega
/-- the cells of an input -/
def inC (id : List UInt8) (ix : Nat) (v : Value) : List Value := bts id ++ [.int .u32 ((ix : Nat) : Int), v]
theorem inC_len (id : List UInt8) (ix : Nat) (v : Value) (h : id.length = 32) : (inC id ix v).length = 34 := by simp [inC, h]
theorem inC_one (id : List UInt8) (ix : Nat) (v : Value) (hv : v.oneCell' = true) : ∀ u ∈ inC id ix v, u.oneCell' = true := by
  intro u hu
  rw [inC, List.mem_append] at hu
  rcases hu with hu | hu
  · exact bts_one id u hu
  · simp only [List.mem_cons, List.not_mem_nil, or_false] at hu
    rcases hu with rfl | rfl
    · rfl
    · exact hv
theorem in_cells {w : World} {ok : Nat → Prop} {cs : List Value} {i : InT} (h : inSh.rel w ok cs i) :
    ∃ (id : List UInt8) (ix : Nat) (key : List UInt8) (v : Value), i = ((id, ((ix : Nat) : Int), ()), key, ()) ∧ cs = inC id ix v ∧ IsB w ok v key ∧ id.length = 32 ∧ ix < 4294967296 := by
  obtain ⟨⟨id, z, _⟩, key, _⟩ := i
  obtain ⟨c1, d1, rfl, ⟨c2, d2, rfl, ⟨h1, h2⟩, ⟨c3, d3, rfl, ⟨h3, h4⟩, h5⟩⟩, ⟨c6, d6, rfl, ⟨v, h6, h7⟩, h8⟩⟩ := h
  have hb := bounds_u32' h4
  obtain ⟨ix, rfl⟩ := Int.eq_ofNat_of_zero_le hb.1
  have h5' : d3 = [] := h5
  have h8' : d6 = [] := h8
  subst h1 h3 h5' h6 h8'
  exact ⟨id, ix, key, v, rfl, by simp [inC], h7, h2, by have := hb.2; simp at this ⊢; omega⟩
/-- the cells of an output -/
def outC (amt : Int) (lock : List UInt8) : List Value := .int .i64 amt :: bts lock
theorem outC_len (amt : Int) (lock : List UInt8) (h : lock.length = 32) : (outC amt lock).length = 33 := by simp [outC, h]
theorem outC_one (amt : Int) (lock : List UInt8) : ∀ u ∈ outC amt lock, u.oneCell' = true := by
  intro u hu
  simp only [outC, List.mem_cons] at hu
  rcases hu with rfl | hu
  · rfl
  · exact bts_one lock u hu
theorem out_cells {w : World} {ok : Nat → Prop} {cs : List Value} {o : OutT} (h : outSh.rel w ok cs o) :
    ∃ (amt : Int) (lock : List UInt8), o = (amt, lock, ()) ∧ cs = outC amt lock ∧ lock.length = 32 ∧ -9223372036854775808 ≤ amt ∧ amt < 9223372036854775808 := by
  obtain ⟨amt, lock, _⟩ := o
  obtain ⟨c1, d1, rfl, ⟨h1, h2⟩, ⟨c2, d2, rfl, ⟨h3, h4⟩, h5⟩⟩ := h
  have hb := bounds_i64' h2
  have h5' : d2 = [] := h5
  subst h1 h3 h5'
  exact ⟨amt, lock, rfl, by simp [outC], h4, hb.1, hb.2⟩
theorem tx_cells {w : World} {ok : Nat → Prop} {cs : List Value} {t : TxT} (h : txSh.rel w ok cs t) :
    ∃ (ins : List InT) (outs : List OutT) (A A' : Option Addr) (c c' : Nat), t = (ins, outs, ()) ∧ cs = [.slice A ins.length c, .slice A' outs.length c'] ∧ insSh.rel w ok [.slice A ins.length c] ins ∧ outsSh.rel w ok [.slice A' outs.length c'] outs := by
  obtain ⟨ins, outs, _⟩ := t
  obtain ⟨c1, d1, rfl, h1, ⟨c2, d2, rfl, h2, h3⟩⟩ := h
  have h3' : d2 = [] := h3
  subst h3'
  obtain ⟨A, c, cl, rfl, k1⟩ := h1
  obtain ⟨A', c', cl', rfl, k2⟩ := h2
  exact ⟨ins, outs, A, A', c, c', rfl, rfl, ⟨A, c, cl, rfl, k1⟩, ⟨A', c', cl', rfl, k2⟩⟩
theorem ins_at {w : World} {ok : Nat → Prop} {A : Option Addr} {n c : Nat} {ins : List InT} (h : insSh.rel w ok [.slice A n c] ins) {j : Nat} (hj : j < ins.length) :
    ∃ b o id ix key v, A = some ⟨b, o, none⟩ ∧ ok b ∧ ins[j] = ((id, ((ix : Nat) : Int), ()), key, ()) ∧ RowAt w b (o + j * 34) (inC id ix v) ∧ IsB w ok v key ∧ id.length = 32 ∧ ix < 4294967296 := by
  obtain ⟨b, o, cs, h1, hok, h3, h4⟩ := shSlice_at h hj
  obtain ⟨id, ix, key, v, e, rfl, hb, hid, hix⟩ := in_cells h3
  exact ⟨b, o, id, ix, key, v, h1, hok, e, h4, hb, hid, hix⟩
theorem outs_at {w : World} {ok : Nat → Prop} {A : Option Addr} {n c : Nat} {outs : List OutT} (h : outsSh.rel w ok [.slice A n c] outs) {j : Nat} (hj : j < outs.length) :
    ∃ b o amt lock, A = some ⟨b, o, none⟩ ∧ ok b ∧ outs[j] = (amt, lock, ()) ∧ RowAt w b (o + j * 33) (outC amt lock) ∧ lock.length = 32 ∧ -9223372036854775808 ≤ amt ∧ amt < 9223372036854775808 := by
  obtain ⟨b, o, cs, h1, hok, h3, h4⟩ := shSlice_at h hj
  obtain ⟨amt, lock, e, rfl, hl, hb⟩ := out_cells h3
  exact ⟨b, o, amt, lock, h1, hok, e, h4, hl, hb⟩
theorem txs_at {w : World} {ok : Nat → Prop} {A : Option Addr} {n c : Nat} {txs : List TxT} (h : txsSh.rel w ok [.slice A n c] txs) {j : Nat} (hj : j < txs.length) :
    ∃ b o cs, A = some ⟨b, o, none⟩ ∧ ok b ∧ txSh.rel w ok cs txs[j] ∧ RowAt w b (o + j * 2) cs := shSlice_at h hj
theorem infoIn : (Try.prog.info? 32).map (·.size) = some 34 := by kernel_rfl
theorem infoOut : (Try.prog.info? 36).map (·.size) = some 33 := by kernel_rfl
theorem infoTx : (Try.prog.info? 39).map (·.size) = some 2 := by kernel_rfl
theorem infoHdr : (Try.prog.info? 52).map (·.size) = some 68 := by kernel_rfl
theorem infoBlk : (Try.prog.info? 54).map (·.size) = some 69 := by kernel_rfl
end Go.Proofs.Ytlbpeihdedhjiaa
