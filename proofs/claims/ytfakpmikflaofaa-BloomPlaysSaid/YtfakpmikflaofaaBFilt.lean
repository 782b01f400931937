/- A filter: where it lies, its places. -/
import Derived.Test.YtfakpmikflaofaaBHash
import Derived.Test.YtfakpmikflaofaaAt
import Derived.Deep.DeepCutAuto
import Derived.Deep.CutBlock
set_option linter.unusedVariables false
set_option linter.unusedSimpArgs false
namespace Go.Proofs.Ytfakpmikflaofaa
open Go.RowKit
/-- A filter lies at g, its bits at b. -/
structure Flt (w : World) (g b : Nat) (M E : Nat) (bs : List UInt8) : Prop where
  head : At w g #[.int .i64 (M : Int), .int .i64 (E : Int), .slice (some ⟨b, 0, none⟩) bs.length bs.length] 46
  row : At w b (bcells bs).toArray 5
  ne : g ≠ b
theorem Flt.mono {w w' : World} {g b M E : Nat} {bs : List UInt8} (h : Flt w g b M E bs) (hb : Below w.heap.size w w') : Flt w' g b M E bs := ⟨h.head.mono hb, h.row.mono hb, h.ne⟩
theorem RX.flt {w w' : World} {B g b b' M E : Nat} {bs : List UInt8} (h : Flt w g b M E bs) (hb : RX B (some b') w w') (h1 : g < B) (h2 : b < B) (h3 : g ≠ b') (h4 : b ≠ b') : Flt w' g b M E bs :=
  ⟨(hb.block g h1 (by simpa using h3)).trans h.head, (hb.block b h2 (by simpa using h4)).trans h.row, h.ne⟩
/-- A value's how-many-eth bit. -/
def plc (v : V) (i M : Nat) : Nat := hashV v i % M
theorem plc_lt (v : V) (i : Nat) {M : Nat} (h : 0 < M) : plc v i M < M := Nat.mod_lt _ h
def okV (v : V) : Prop := -9223372036854775808 ≤ v.n ∧ v.n ≤ 9223372036854775807
set_option maxHeartbeats 2000000 in
theorem place_any (v : V) (i M E g b : Nat) (bs : List UInt8) (w : World) (hF : Flt w g b M E bs) (hn : okV v) (hi : i < 100) (hM : 0 < M) (hM2 : M ≤ 8192) :
    Calls Try.prog 19 #[.pointer (some ⟨g, 0, none⟩), v.val, .int .i64 (i : Int)] w (fun e w' => e = .returned (.int .i64 (plc v i M : Int)) ∧ Below w.heap.size w w') := by
  have HH := Lib.hid (fun w => hash_any v i w hn (by omega))
  have hlt := hashN_lt (putV v) i (by omega)
  have hp : plc v i M = hashV v i % M := rfl
  rw [hp]
  clear hp
  rw [show hashN (putV v) i = hashV v i from rfl] at hlt
  generalize hashV v i = H at HH hlt ⊢
  have hmod : H % M < M := Nat.mod_lt _ hM
  have z := hF.head
  clear hF
  obtain ⟨k, n, s⟩ := v
  simp only [V.val] at HH ⊢
  go_enter Try.func19, Try.ntmps19
  go_wp2_with (first | (at_make; refine Stop.un ?_) | (at_builtin; refine Stop.un ?_) | (with_reducible refine Stop.conv 32 9 ?_) | (with_reducible refine Stop.conv 9 32 ?_))
  have zv := At.new w #[.int .u8 k, .int .i64 n, .string s] 30
  have BB := (Below.refl w.heap.size w).alloc (Nat.le_refl _) (.cells #[.int .u8 k, .int .i64 n, .string s] 30)
  replace z := z.alloc (.cells #[.int .u8 k, .int .i64 n, .string s] 30)
  have hM3 : (M : Int) ≠ 0 := by omega
  have hq1 : (H : Int) % (M : Int) < 8192 := by have := Int.emod_lt_of_pos (H : Int) (by omega : (0 : Int) < M); omega
  have hq0 : 0 ≤ (H : Int) % (M : Int) := Int.emod_nonneg _ hM3
  refine mix_startE 12 rfl (by kernel_rfl) ?_
  intro xq hxq
  replace z := At.mono z hxq
  replace zv := At.mono zv hxq
  replace BB := Below.next BB hxq
  clear hxq
  refine mix_quiet Keeps.ext 0 rfl (by kernel_rfl) rfl ?_
  intro ι U hne hU
  have hcw0 := fun ii => (At.mono z (hU ii)).cell 0 rfl
  have hcw1 := fun ii => (At.mono zv (hU ii)).cell 0 rfl
  have hcw2 := fun ii => (At.mono zv (hU ii)).cell 1 rfl
  have hcw3 := fun ii => (At.mono zv (hU ii)).cell 2 rfl
  go_big_quiet_op
  clear hU hne hcw0 hcw1 hcw2 hcw3 U ι
  show wpAnyM _ _ _ _ _ _ _ _ _
  refine mix_quiet Keeps.ext 1 rfl (by kernel_rfl) rfl ?_
  intro ι U hne hU
  go_big_quiet_op
  clear hU hne U ι
  show wpAnyM _ _ _ _ _ _ _ _ _
  refine mix_quiet Keeps.ext 2 rfl (by kernel_rfl) rfl ?_
  intro ι U hne hU
  go_big_quiet_op
  clear hU hne U ι
  show wpAnyM _ _ _ _ _ _ _ _ _
  refine mix_quiet Keeps.ext 4 rfl (by kernel_rfl) rfl ?_
  intro ι U hne hU
  go_big_quiet_op
  clear hU hne U ι
  show wpAnyM _ _ _ _ _ _ _ _ _
  refine mix_quiet Keeps.ext 5 rfl (by kernel_rfl) rfl ?_
  intro ι U hne hU
  go_big_quiet_op
  clear hU hne U ι
  show wpAnyM _ _ _ _ _ _ _ _ _
  refine mix_quiet Keeps.ext 6 rfl (by kernel_rfl) rfl ?_
  intro ι U hne hU
  go_big_quiet_op
  clear hU hne U ι
  show wpAnyM _ _ _ _ _ _ _ _ _
  refine mix_quiet Keeps.ext 7 rfl (by kernel_rfl) rfl ?_
  intro ι U hne hU
  have hcw0 := fun ii => (At.mono z (hU ii)).cell 0 rfl
  have hcw1 := fun ii => (At.mono zv (hU ii)).cell 0 rfl
  have hcw2 := fun ii => (At.mono zv (hU ii)).cell 1 rfl
  have hcw3 := fun ii => (At.mono zv (hU ii)).cell 2 rfl
  go_big_quiet_op
  clear hU hne hcw0 hcw1 hcw2 hcw3 U ι
  show wpAnyM _ _ _ _ _ _ _ _ _
  refine mix_quiet Keeps.ext 8 rfl (by kernel_rfl) rfl ?_
  intro ι U hne hU
  go_big_quiet_op
  clear hU hne U ι
  show wpAnyM _ _ _ _ _ _ _ _ _
  refine mix_any 3 rfl (by kernel_rfl) rfl ?_
  go_wp2_with (first | (at_make; refine Stop.un ?_) | (at_builtin; refine Stop.un ?_) | (with_reducible refine Stop.conv 32 9 ?_) | (with_reducible refine Stop.conv 9 32 ?_))
  refine (HH.out _).mono ?_
  rintro e wq1 ⟨rfl, bq1⟩
  go_wp2_with (first | (at_make; refine Stop.un ?_) | (at_builtin; refine Stop.un ?_) | (with_reducible refine Stop.conv 32 9 ?_) | (with_reducible refine Stop.conv 9 32 ?_))
  refine MixPost.mk bq1 ?_
  replace z := At.mono z bq1
  replace zv := At.mono zv bq1
  replace BB := Below.next BB bq1
  clear bq1
  refine mix_quiet Keeps.ext 9 rfl (by kernel_rfl) rfl ?_
  intro ι U hne hU
  go_big_quiet_op
  clear hU hne U ι
  show wpAnyM _ _ _ _ _ _ _ _ _
  refine mix_quiet Keeps.ext 10 rfl (by kernel_rfl) rfl ?_
  intro ι U hne hU
  go_big_quiet_op
  clear hU hne U ι
  show wpAnyM _ _ _ _ _ _ _ _ _
  refine mix_quiet Keeps.ext 11 rfl (by kernel_rfl) rfl ?_
  intro ι U hne hU
  go_big_quiet_op
  clear hU hne U ι
  show wpAnyM _ _ _ _ _ _ _ _ _
  refine mix_end (by kernel_rfl) ?_
  go_wp2_with (first | (at_make; refine Stop.un ?_) | (at_builtin; refine Stop.un ?_) | (with_reducible refine Stop.conv 32 9 ?_) | (with_reducible refine Stop.conv 9 32 ?_))
  go_ret
  exact ⟨by rw [Int.natCast_emod]; rfl, BB⟩
/-- A bit is made. -/
def setB (bs : List UInt8) (p : Nat) : List UInt8 := bs.set (p / 8) (UInt8.ofNat ((bs.getD (p / 8) 0).toNat ||| 2 ^ (p % 8)))
def tst (bs : List UInt8) (p : Nat) : Bool := (bs.getD (p / 8) 0).toNat.testBit (p % 8)
def addB (bs : List UInt8) (v : V) (M E : Nat) : List UInt8 := (List.range E).foldl (fun l i => setB l (plc v i M)) bs
def mayB (bs : List UInt8) (v : V) (M E : Nat) : Bool := (List.range E).all fun i => tst bs (plc v i M)
theorem setB_length (bs : List UInt8) (p : Nat) : (setB bs p).length = bs.length := by simp [setB]
theorem or_u8 (a b : Nat) (ha : a < 256) (hb : b < 256) : bits .or .u8 (a : Int) (b : Int) = ((a ||| b : Nat) : Int) := by
  have hx : a ||| b < 2 ^ 8 := Nat.or_lt_two_pow (by omega) (by omega)
  have h1 : (BitVec.ofInt 8 (a : Int)).toNat = a := by
    rw [BitVec.ofInt_natCast, BitVec.toNat_ofNat]; exact Nat.mod_eq_of_lt (by omega)
  have h2 : (BitVec.ofInt 8 (b : Int)).toNat = b := by
    rw [BitVec.ofInt_natCast, BitVec.toNat_ofNat]; exact Nat.mod_eq_of_lt (by omega)
  show IntKind.u8.wrap ((BitVec.ofInt 8 (a : Int) ||| BitVec.ofInt 8 (b : Int)).toNat : Int) = _
  rw [BitVec.toNat_or, h1, h2]
  unfold IntKind.wrap
  simp [IntKind.bits, IntKind.signed]
  omega
theorem pow8 (k : Nat) : 2 ^ (k % 8) < 256 := by
  have h : k % 8 < 8 := Nat.mod_lt _ (by decide)
  exact Nat.lt_of_le_of_lt (Nat.pow_le_pow_right (by decide) (by omega : k % 8 ≤ 7)) (by decide)
theorem set_eq (c : UInt8) (k : Nat) : (.int .u8 (bits .or .u8 (c.toNat : Int) (2 ^ (k % 8) % 256)) : Value) = .int .u8 ((UInt8.ofNat (c.toNat ||| 2 ^ (k % 8))).toNat : Int) := by
  have hc : c.toNat < 256 := c.toNat_lt
  have hp := pow8 k
  have hx : c.toNat ||| 2 ^ (k % 8) < 2 ^ 8 := Nat.or_lt_two_pow (by omega) (by omega)
  have e : ((2 : Int) ^ (k % 8) % 256) = ((2 ^ (k % 8) : Nat) : Int) := by
    rw [Int.natCast_pow]
    have : (2 : Int) ^ (k % 8) = ((2 ^ (k % 8) : Nat) : Int) := by rw [Int.natCast_pow]; rfl
    rw [this]
    exact Int.emod_eq_of_lt (Int.natCast_nonneg _) (Int.ofNat_lt.2 hp)
  rw [e, or_u8 _ _ hc hp]
  congr 2
  rw [UInt8.toNat_ofNat']
  exact (Nat.mod_eq_of_lt hx).symm
theorem Flt.put {w : World} {g b M E : Nat} {l : List UInt8} (h : Flt w g b M E l) (p : Nat) (hp : p / 8 < l.length) :
    Flt (w.setCell ⟨b, p / 8, none⟩ (.int .u8 (bits .or .u8 ((l[p / 8]).toNat : Int) (2 ^ (p % 8) % 256)))) g b M E (setB l p) := by
  rw [set_eq]
  refine ⟨?_, ?_, h.ne⟩
  · rw [setB_length]; exact h.head.off h.ne _
  · have hs := h.row.set (p / 8) (.int .u8 ((UInt8.ofNat ((l[p / 8]).toNat ||| 2 ^ (p % 8))).toNat : Int))
    have e : (bcells l).toArray.setIfInBounds (p / 8) (.int .u8 ((UInt8.ofNat ((l[p / 8]).toNat ||| 2 ^ (p % 8))).toNat : Int)) = (bcells (setB l p)).toArray := by
      simp [bcells, setB, List.getD_eq_getElem?_getD, hp, List.map_set]
    rw [e] at hs
    exact hs
theorem add_any (v : V) (M E g b : Nat) (bs : List UInt8) (w : World) (hF : Flt w g b M E bs) (hn : okV v) (hE : E ≤ 8) (hM : 0 < M) (hM2 : M ≤ 8192) (hbl : bs.length = (M + 7) / 8) :
    Calls Try.prog 11 #[.pointer (some ⟨g, 0, none⟩), v.val] w (fun e w' => e = .returned (.tuple #[]) ∧ Flt w' g b M E (addB bs v M E) ∧ RX w.heap.size (some b) w w') := by
  have HP := Lib.hid (fun i bs w hF hi => place_any v i M E g b bs w hF hn hi hM hM2)
  have HPL := Lib.hid (fun i => plc_lt v i hM)
  have hz := hF.head
  obtain ⟨k, n, s⟩ := v
  simp only [V.val] at HP ⊢
  go_enter Try.func11, Try.ntmps11
  go_upto_region 2 with fail
  have zv := At.new w #[.int .u8 k, .int .i64 n, .string s] 30
  have bz := (Below.refl w.heap.size w).alloc (Nat.le_refl _) (.cells #[.int .u8 k, .int .i64 n, .string s] 30)
  have hF1 := hF.mono bz
  have hX := RX.ext (g := some b) bz (Nat.le_refl _)
  have hgl := hF.head.lt
  have hbl2 := hF.row.lt
  clear bz hz hF
  generalize w.alloc (.cells #[.int .u8 k, .int .i64 n, .string s] 30) = w1 at zv hF1 hX ⊢
  have z1 := hF1.head.cell 1 rfl
  go_wp2_with (first | (at_make; refine Stop.un ?_) | (at_builtin; refine Stop.un ?_) | (with_reducible refine Stop.conv 32 9 ?_) | (with_reducible refine Stop.conv 9 32 ?_))
  clear z1
  go_loopw [4, 5, 12] (fun _ _ i wr => ∃ (j : Nat) (l : List UInt8), j ≤ E ∧ i = .int .i64 (j : Int) ∧ Flt wr g b M E l ∧ At wr w.heap.size #[.int .u8 k, .int .i64 n, .string s] 30 ∧ RX w.heap.size (some b) w wr ∧ Hid (l.length = (M + 7) / 8 ∧ l = (List.range j).foldl (fun l i => setB l (plc ⟨k, n, s⟩ i M)) bs)) (fun _ _ i _ => E - (intOf i).toNat)
  case atStart => exact ⟨0, bs, by omega, rfl, hF1, zv, hX, Lib.hid ⟨hbl, rfl⟩⟩
  case round =>
    clear hF1 zv hX
    obtain ⟨j, l, hj, rfl, hF, zv, hX, HL⟩ := hrel
    by_cases hlt : j < E
    · have y0 := zv.cell 0 rfl
      have y1 := zv.cell 1 rfl
      have y2 := zv.cell 2 rfl
      have yl := zv.lt
      go_wp2_with (first | (at_make; refine Stop.un ?_) | (at_builtin; refine Stop.un ?_) | (with_reducible refine Stop.conv 32 9 ?_) | (with_reducible refine Stop.conv 9 32 ?_))
      refine (HP.out j l _ hF (by omega)).mono ?_
      rintro e w2 ⟨rfl, b2⟩
      have hp := HPL.out j
      have hst : (List.range (j + 1)).foldl (fun l i => setB l (plc ⟨k, n, s⟩ i M)) bs = setB l (plc ⟨k, n, s⟩ j M) := by
        rw [List.range_succ, List.foldl_append, ← HL.out.2, List.foldl_cons, List.foldl_nil]
      generalize plc ⟨k, n, s⟩ j M = p at hp hst ⊢
      have HST := Lib.hid hst
      have hpl : p / 8 < l.length := by rw [HL.out.1]; omega
      replace hF := hF.mono b2
      replace zv := zv.mono b2
      replace hX := hX.trans (RX.ext b2 hX.size)
      have hg2 : g < w2.heap.size := hF.head.lt
      clear b2 y0 y1 y2 yl hst
      go_upto_region 6 with fail
      have x1 := hF.head.cell 2 rfl
      have x2 : w2.cell? ⟨b, p / 8, none⟩ = some (.int .u8 ((l.getD (p / 8) 0).toNat : Int)) := hF.row.cell (p / 8) (by simp [bcells, hpl])
      have hh := hF.head
      have hr := hF.row
      have hp8 : ((p : Int) / 8).toNat = p / 8 := by omega
      refine mix_startE 14 rfl (by kernel_rfl) ?_
      intro xq hxq
      replace x1 := Ext.cell hxq x1
      replace x2 := Ext.cell hxq x2
      replace zv := At.mono zv hxq
      replace hh := At.mono hh hxq
      replace hr := At.mono hr hxq
      have hXq := hxq
      clear hxq
      refine mix_quiet Keeps.ext 0 rfl (by kernel_rfl) rfl ?_
      intro ι U hne hU
      go_big_quiet_op
      clear hU hne U ι
      show wpAnyM _ _ _ _ _ _ _ _ _
      refine mix_quiet Keeps.ext 1 rfl (by kernel_rfl) rfl ?_
      intro ι U hne hU
      go_big_quiet_op
      clear hU hne U ι
      show wpAnyM _ _ _ _ _ _ _ _ _
      refine mix_quiet Keeps.ext 2 rfl (by kernel_rfl) rfl ?_
      intro ι U hne hU
      go_big_quiet_op
      clear hU hne U ι
      show wpAnyM _ _ _ _ _ _ _ _ _
      refine mix_quiet Keeps.ext 3 rfl (by kernel_rfl) rfl ?_
      intro ι U hne hU
      have hcw0 := fun ii => (hU ii).cell x1
      have hcw1 := fun ii => (hU ii).cell x2
      go_big_quiet_op
      clear hU hne hcw0 hcw1 U ι
      show wpAnyM _ _ _ _ _ _ _ _ _
      refine mix_quiet Keeps.ext 4 rfl (by kernel_rfl) rfl ?_
      intro ι U hne hU
      go_big_quiet_op
      clear hU hne U ι
      show wpAnyM _ _ _ _ _ _ _ _ _
      refine mix_quiet Keeps.ext 5 rfl (by kernel_rfl) rfl ?_
      intro ι U hne hU
      go_big_quiet_op
      clear hU hne U ι
      show wpAnyM _ _ _ _ _ _ _ _ _
      refine mix_quiet Keeps.ext 6 rfl (by kernel_rfl) rfl ?_
      intro ι U hne hU
      go_big_quiet_op
      clear hU hne U ι
      show wpAnyM _ _ _ _ _ _ _ _ _
      refine mix_quiet Keeps.ext 7 rfl (by kernel_rfl) rfl ?_
      intro ι U hne hU
      have hcw0 := fun ii => (hU ii).cell x1
      have hcw1 := fun ii => (hU ii).cell x2
      go_big_quiet_op
      clear hU hne hcw0 hcw1 U ι
      show wpAnyM _ _ _ _ _ _ _ _ _
      refine mix_quiet Keeps.ext 8 rfl (by kernel_rfl) rfl ?_
      intro ι U hne hU
      go_big_quiet_op
      clear hU hne U ι
      show wpAnyM _ _ _ _ _ _ _ _ _
      refine mix_quiet Keeps.ext 9 rfl (by kernel_rfl) rfl ?_
      intro ι U hne hU
      go_big_quiet_op
      clear hU hne U ι
      show wpAnyM _ _ _ _ _ _ _ _ _
      refine mix_quiet Keeps.ext 10 rfl (by kernel_rfl) rfl ?_
      intro ι U hne hU
      go_big_quiet_op
      clear hU hne U ι
      show wpAnyM _ _ _ _ _ _ _ _ _
      refine mix_quiet Keeps.ext 11 rfl (by kernel_rfl) rfl ?_
      intro ι U hne hU
      go_big_quiet_op
      clear hU hne U ι
      show wpAnyM _ _ _ _ _ _ _ _ _
      refine mix_quiet Keeps.ext 12 rfl (by kernel_rfl) rfl ?_
      intro ι U hne hU
      go_big_quiet_op
      clear hU hne U ι
      show wpAnyM _ _ _ _ _ _ _ _ _
      refine mix_last 13 rfl (by kernel_rfl) (by kernel_rfl) rfl ?_
      have x3 := hr.free (p / 8)
      go_wp2_with (first | (at_make; refine Stop.un ?_) | (at_builtin; refine Stop.un ?_) | (with_reducible refine Stop.conv 32 9 ?_) | (with_reducible refine Stop.conv 9 32 ?_))
      refine MixLast.mk ?_
      refine mix_end (by kernel_rfl) ?_
      have hF3 := (Flt.mk hh hr hF.ne).put p hpl
      have zv3 := zv.off (p := ⟨b, p / 8, none⟩) (by show w.heap.size ≠ b; omega) (.int .u8 (bits .or .u8 ((l[p / 8]).toNat : Int) (2 ^ (p % 8) % 256)))
      have hX3 := hX.trans ((RX.ext (g := some b) hXq hX.size).trans (RX.set xq ⟨b, p / 8, none⟩ (.int .u8 (bits .or .u8 ((l[p / 8]).toNat : Int) (2 ^ (p % 8) % 256))) (.inr rfl)))
      have HL3 : Hid ((setB l p).length = (M + 7) / 8 ∧ setB l p = (List.range (j + 1)).foldl (fun l i => setB l (plc ⟨k, n, s⟩ i M)) bs) := Lib.hid ⟨by rw [setB_length]; exact HL.out.1, HST.out.symm⟩
      clear hF hr hh x1 x2 zv hX hXq
      generalize xq.setCell ⟨b, p / 8, none⟩ (.int .u8 (bits .or .u8 ((l[p / 8]).toNat : Int) (2 ^ (p % 8) % 256))) = w5 at hF3 zv3 hX3 ⊢
      go_wp2_with (first | (at_make; refine Stop.un ?_) | (at_builtin; refine Stop.un ?_) | (with_reducible refine Stop.conv 32 9 ?_) | (with_reducible refine Stop.conv 9 32 ?_))
      go_roundw
      case rel => exact ⟨j + 1, setB l p, by omega, by go_num, hF3, zv3, hX3, HL3⟩
      case measure => simp [intOf]; omega
    · have hjE : j = E := by omega
      subst hjE
      go_wp2_with (first | (at_make; refine Stop.un ?_) | (at_builtin; refine Stop.un ?_) | (with_reducible refine Stop.conv 32 9 ?_) | (with_reducible refine Stop.conv 9 32 ?_))
      go_end0
      refine ⟨rfl, ?_, hX⟩
      unfold addB
      rw [← HL.out.2]
      exact hF
end Go.Proofs.Ytfakpmikflaofaa
