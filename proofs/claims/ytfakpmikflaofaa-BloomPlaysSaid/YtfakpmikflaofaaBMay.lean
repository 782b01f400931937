/- What may be there, and a filter's bits. -/
import Derived.Test.YtfakpmikflaofaaBFilt
import Derived.Laws.ShiftsVar
set_option linter.unusedVariables false
set_option linter.unusedSimpArgs false
namespace Go.Proofs.Ytfakpmikflaofaa
open Go.RowKit
theorem add_nil (v : V) (w : World) : Calls Try.prog 11 #[.pointer none, v.val] w (fun e w' => e = .returned (.tuple #[]) ∧ Below w.heap.size w w') := by
  obtain ⟨k, n, s⟩ := v
  simp only [V.val]
  go_enter Try.func11, Try.ntmps11
  go_wp2_with (first | (at_make; refine Stop.un ?_) | (at_builtin; refine Stop.un ?_) | (with_reducible refine Stop.conv 32 9 ?_) | (with_reducible refine Stop.conv 9 32 ?_))
  exact bodyPost_ret (v := .tuple #[]) (by simp [results, Try.results11, go_sem]) rfl ⟨rfl, (Below.refl _ _).alloc (Nat.le_refl _) _⟩
theorem may_nil (v : V) (w : World) : Calls Try.prog 15 #[.pointer none, v.val] w (fun e w' => e = .returned (.bool true) ∧ Below w.heap.size w w') := by
  obtain ⟨k, n, s⟩ := v
  simp only [V.val]
  go_enter Try.func15, Try.ntmps15
  go_wp2_with (first | (at_make; refine Stop.un ?_) | (at_builtin; refine Stop.un ?_) | (with_reducible refine Stop.conv 32 9 ?_) | (with_reducible refine Stop.conv 9 32 ?_))
  go_ret
  exact ⟨rfl, (Below.refl _ _).alloc (Nat.le_refl _) _⟩
theorem and_u8 (a b : Nat) (ha : a < 256) (hb : b < 256) : bits .and .u8 (a : Int) (b : Int) = ((a &&& b : Nat) : Int) := by
  have hx : a &&& b < 2 ^ 8 := Nat.and_lt_two_pow _ (by omega)
  have h1 : (BitVec.ofInt 8 (a : Int)).toNat = a := by
    rw [BitVec.ofInt_natCast, BitVec.toNat_ofNat]; exact Nat.mod_eq_of_lt (by omega)
  have h2 : (BitVec.ofInt 8 (b : Int)).toNat = b := by
    rw [BitVec.ofInt_natCast, BitVec.toNat_ofNat]; exact Nat.mod_eq_of_lt (by omega)
  show IntKind.u8.wrap ((BitVec.ofInt 8 (a : Int) &&& BitVec.ofInt 8 (b : Int)).toNat : Int) = _
  rw [BitVec.toNat_and, h1, h2]
  unfold IntKind.wrap
  simp [IntKind.bits, IntKind.signed]
  omega
theorem div_pow (c : Nat) (k : Nat) : ((c : Int) / 2 ^ k) = ((c / 2 ^ k : Nat) : Int) := by
  rw [Int.natCast_ediv, Int.natCast_pow]; rfl
theorem tst_eq (bs : List UInt8) (p : Nat) (h : p / 8 < bs.length) : tst bs p = decide ((bs[p / 8]).toNat / 2 ^ (p % 8) % 2 = 1) := by
  unfold tst
  rw [show bs.getD (p / 8) 0 = bs[p / 8] by simp [List.getD_eq_getElem?_getD, h], Nat.testBit_eq_decide_div_mod_eq]
theorem low_bit (bs : List UInt8) (p : Nat) (h : p / 8 < bs.length) : (bits .and .u8 (((bs[p / 8]).toNat : Int) / 2 ^ (p % 8)) 1 == 0) = !tst bs p := by
  have hc : (bs[p / 8]).toNat < 256 := (bs[p / 8]).toNat_lt
  rw [tst_eq bs p h, div_pow]
  have e := and_u8 ((bs[p / 8]).toNat / 2 ^ (p % 8)) 1 (Nat.lt_of_le_of_lt (Nat.div_le_self _ _) hc) (by decide)
  rw [show ((1 : Nat) : Int) = 1 from rfl] at e
  rw [e, Nat.and_one_is_mod]
  generalize (bs[p / 8]).toNat / 2 ^ (p % 8) = y
  have : y % 2 = 0 ∨ y % 2 = 1 := by omega
  rcases this with h | h <;> rw [h] <;> decide
theorem low_bit2 (bs : List UInt8) (p : Nat) (h : p / 8 < bs.length) : ((((bs[p / 8]).toNat : Int) / 2 ^ (p % 8)) % 2 == 0) = !tst bs p := by
  rw [tst_eq bs p h, div_pow]
  generalize (bs[p / 8]).toNat / 2 ^ (p % 8) = y
  rw [show ((y : Int) % 2) = ((y % 2 : Nat) : Int) by omega]
  have : y % 2 = 0 ∨ y % 2 = 1 := by omega
  rcases this with h | h <;> rw [h] <;> decide
set_option maxHeartbeats 2000000 in
theorem may_any (v : V) (M E g b : Nat) (bs : List UInt8) (w : World) (hF : Flt w g b M E bs) (hn : okV v) (hE : E ≤ 8) (hM : 0 < M) (hM2 : M ≤ 8192) (hbl : bs.length = (M + 7) / 8) :
    Calls Try.prog 15 #[.pointer (some ⟨g, 0, none⟩), v.val] w (fun e w' => e = .returned (.bool (mayB bs v M E)) ∧ Below w.heap.size w w') := by
  have HP := Lib.hid (fun i w hF hi => place_any v i M E g b bs w hF hn hi hM hM2)
  have HPL := Lib.hid (fun i => plc_lt v i hM)
  have HBL := Lib.hid hbl
  clear hbl
  obtain ⟨k, n, s⟩ := v
  generalize hR : mayB bs ⟨k, n, s⟩ M E = R
  have HR := Lib.hid hR
  clear hR
  simp only [V.val] at HP ⊢
  go_enter Try.func15, Try.ntmps15
  have zv := At.new w #[.int .u8 k, .int .i64 n, .string s] 30
  have bz := (Below.refl w.heap.size w).alloc (Nat.le_refl _) (.cells #[.int .u8 k, .int .i64 n, .string s] 30)
  have hF1 := hF.mono bz
  go_upto_region 3 with fail
  clear hF
  generalize w.alloc (.cells #[.int .u8 k, .int .i64 n, .string s] 30) = w1 at zv hF1 bz ⊢
  have z1 := hF1.head.cell 1 rfl
  have zl := hF1.head.lt
  go_wp2_with (first | (at_make; refine Stop.un ?_) | (at_builtin; refine Stop.un ?_) | (with_reducible refine Stop.conv 32 9 ?_) | (with_reducible refine Stop.conv 9 32 ?_))
  clear z1 zl
  go_loopw [5, 6, 13] (fun _ _ i wr => ∃ (j : Nat), j ≤ E ∧ i = .int .i64 (j : Int) ∧ Flt wr g b M E bs ∧ At wr w.heap.size #[.int .u8 k, .int .i64 n, .string s] 30 ∧ Below w.heap.size w wr ∧ Hid (∀ i, i < j → tst bs (plc ⟨k, n, s⟩ i M) = true)) (fun _ _ i _ => E - (intOf i).toNat)
  case atStart => exact ⟨0, by omega, rfl, hF1, zv, bz, Lib.hid (fun i hi => by omega)⟩
  case round =>
    clear hF1 zv bz
    obtain ⟨j, hj, rfl, hF, zv, hB, HL⟩ := hrel
    by_cases hlt : j < E
    · have y0 := zv.cell 0 rfl
      have y1 := zv.cell 1 rfl
      have y2 := zv.cell 2 rfl
      have yl := zv.lt
      go_wp2_with (first | (at_make; refine Stop.un ?_) | (at_builtin; refine Stop.un ?_) | (with_reducible refine Stop.conv 32 9 ?_) | (with_reducible refine Stop.conv 9 32 ?_))
      refine (HP.out j _ hF (by omega)).mono ?_
      rintro e w2 ⟨rfl, b2⟩
      have hp := HPL.out j
      have hst : tst bs (plc ⟨k, n, s⟩ j M) = true → ∀ i, i < j + 1 → tst bs (plc ⟨k, n, s⟩ i M) = true := fun h i hi => by
        by_cases e : i = j
        · subst e; exact h
        · exact HL.out i (by omega)
      have hno : tst bs (plc ⟨k, n, s⟩ j M) = false → R = false := fun h => by
        rw [← HR.out]
        exact List.all_eq_false.2 ⟨j, List.mem_range.2 hlt, by rw [h]; decide⟩
      generalize plc ⟨k, n, s⟩ j M = p at hp hst hno ⊢
      have HST := Lib.hid hst
      have HNO := Lib.hid hno
      have hpl : p / 8 < bs.length := by rw [HBL.out]; omega
      replace hF := hF.mono b2
      replace zv := zv.mono b2
      replace hB := hB.next b2
      have hg2 : g < w2.heap.size := hF.head.lt
      have x1 := hF.head.cell 2 rfl
      have x2 : w2.cell? ⟨b, p / 8, none⟩ = some (.int .u8 ((bs[p / 8]).toNat : Int)) := hF.row.cell (p / 8) (by simp [bcells, hpl])
      clear b2 y0 y1 y2 yl hst hno
      have hlow := low_bit bs p hpl
      cases ht : tst bs p with
      | true =>
        rw [ht] at hlow
        have HL3 := Lib.hid (HST.out ht)
        clear ht HL HST HNO
        go_wp2_with (first | (at_make; refine Stop.un ?_) | (at_builtin; refine Stop.un ?_) | (with_reducible refine Stop.conv 32 9 ?_) | (with_reducible refine Stop.conv 9 32 ?_))
        go_roundw
        case rel => exact ⟨j + 1, by omega, by go_num, hF, zv, hB, HL3⟩
        case measure => simp [intOf]; omega
      | false =>
        rw [ht] at hlow
        have hr := HNO.out ht
        subst hr
        clear ht HL HST HNO
        go_wp2_with (first | (at_make; refine Stop.un ?_) | (at_builtin; refine Stop.un ?_) | (with_reducible refine Stop.conv 32 9 ?_) | (with_reducible refine Stop.conv 9 32 ?_))
        go_ret
        exact ⟨rfl, hB⟩
    · have hr : R = true := by
        rw [← HR.out]
        exact List.all_eq_true.2 (fun i hi => HL.out i (by have := List.mem_range.1 hi; omega))
      subst hr
      go_wp2_with (first | (at_make; refine Stop.un ?_) | (at_builtin; refine Stop.un ?_) | (with_reducible refine Stop.conv 32 9 ?_) | (with_reducible refine Stop.conv 9 32 ?_))
      go_ret
      exact ⟨rfl, hB⟩
set_option maxHeartbeats 1000000 in
theorem clone_any (b : Nat) (bs : List UInt8) (w : World) (hc : Cs w (some ⟨b, 0, none⟩) (bcells bs)) (hb : bs.length ≤ 140737488355000) :
    Calls Try.prog 20 #[.slice (some ⟨b, 0, none⟩) bs.length bs.length] w (RetB w bs) := by
  generalize hn : bs.length = n at hb ⊢
  have HN := Lib.hid hn
  clear hn
  have he : ∀ W : World, (binOp .eql 32 (.slice (some ⟨b, 0, none⟩) n n) (.slice none 0 0)).run Try.prog W = .ok (.bool false) W := fun W => by kernel_rfl
  go_enter Try.func20, Try.ntmps20
  go_wp2_with (first | (at_make; refine Stop.un ?_) | (at_builtin; refine Stop.un ?_) | (with_reducible refine Stop.conv 32 9 ?_) | (with_reducible refine Stop.conv 9 32 ?_))
  have hO : OwnB w (w.alloc (.cells #[] 5)) (.slice (some ⟨w.heap.size, 0, none⟩) 0 0) 0 [] := Own.block (Below.refl _ _) rfl (by decide)
  refine Stop.mk (app_bs w _ _ rfl rfl hO rfl rfl HN.out (hc.alloc _) (by omega) ?_)
  intro a1 c1 w1 hO1
  simp only [Nat.zero_add, List.nil_append] at hO1
  clear hO
  go_wp2_with (first | (at_make; refine Stop.un ?_) | (at_builtin; refine Stop.un ?_) | (with_reducible refine Stop.conv 32 9 ?_) | (with_reducible refine Stop.conv 9 32 ?_))
  go_ret
  exact ⟨a1, n, c1, HN.out, rfl, hO1⟩
theorem At.cs {w : World} {g : Nat} {l : List Value} {t : TypeId} (h : At w g l.toArray t) : Cs w (some ⟨g, 0, none⟩) l := by
  intro j v hj
  refine ⟨g, 0, rfl, ?_⟩
  simpa using h.cell j (v := v) (by simpa using hj)
theorem bits_any (M E g b : Nat) (bs : List UInt8) (w : World) (hF : Flt w g b M E bs) (hb : bs.length ≤ 140737488355000) :
    Calls Try.prog 12 #[.pointer (some ⟨g, 0, none⟩)] w (RetB w bs) := by
  have HC := Lib.hid (fun w hc => clone_any b bs w hc hb)
  have x2 := hF.head.cell 2 rfl
  have xl := hF.head.lt
  have hc := At.cs hF.row
  clear hF
  generalize bs.length = n at HC x2
  go_enter Try.func12, Try.ntmps12
  go_wp2_with (first | (at_make; refine Stop.un ?_) | (at_builtin; refine Stop.un ?_) | (with_reducible refine Stop.conv 32 9 ?_) | (with_reducible refine Stop.conv 9 32 ?_))
  refine (HC.out _ hc).mono ?_
  rintro e w1 ⟨a1, n1, c1, h1, rfl, o1⟩
  have H1 := Lib.hid h1
  clear h1
  go_wp2_with (first | (at_make; refine Stop.un ?_) | (at_builtin; refine Stop.un ?_) | (with_reducible refine Stop.conv 32 9 ?_) | (with_reducible refine Stop.conv 9 32 ?_))
  go_ret
  exact ⟨a1, n1, c1, H1.out, rfl, o1⟩
theorem bits_nil (w : World) : Calls Try.prog 12 #[.pointer none] w (fun e w' => e = .returned (.slice none 0 0) ∧ w = w') := by
  go_enter Try.func12, Try.ntmps12
  go_wp2_with (first | (at_make; refine Stop.un ?_) | (at_builtin; refine Stop.un ?_) | (with_reducible refine Stop.conv 32 9 ?_) | (with_reducible refine Stop.conv 9 32 ?_))
  go_ret
  exact ⟨rfl, rfl⟩
end Go.Proofs.Ytfakpmikflaofaa
