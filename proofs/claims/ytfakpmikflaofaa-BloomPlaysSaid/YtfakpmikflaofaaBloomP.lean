/- The bits of a filter: plain laws. -/
import Derived.Test.YtfakpmikflaofaaBShown
set_option linter.unusedVariables false
set_option linter.unusedSimpArgs false
namespace Go.Proofs.Ytfakpmikflaofaa
open Go.RowKit
theorem tst_zeros (M p : Nat) : tst (zeros M) p = false := by
  unfold tst zeros
  rw [List.getD_eq_getElem?_getD, List.getElem?_replicate]
  split <;> simp
theorem tst_setB (bs : List UInt8) (q p : Nat) (hq : q / 8 < bs.length) : tst (setB bs q) p = (tst bs p || decide (p = q)) := by
  unfold tst setB
  by_cases h : p / 8 = q / 8
  · have hc : (bs.getD (q / 8) 0).toNat < 256 := (bs.getD (q / 8) 0).toNat_lt
    have hx : (bs.getD (q / 8) 0).toNat ||| 2 ^ (q % 8) < 2 ^ 8 := Nat.or_lt_two_pow (by omega) (by have := pow8 q; omega)
    rw [h, show (bs.set (q / 8) (UInt8.ofNat ((bs.getD (q / 8) 0).toNat ||| 2 ^ (q % 8)))).getD (q / 8) 0 = UInt8.ofNat ((bs.getD (q / 8) 0).toNat ||| 2 ^ (q % 8)) by rw [List.getD_eq_getElem?_getD, List.getElem?_set_self hq]; rfl,
      UInt8.toNat_ofNat', Nat.mod_eq_of_lt hx, Nat.testBit_or, Nat.testBit_two_pow]
    congr 1
    by_cases e : p = q
    · subst e; simp
    · have : ¬ q % 8 = p % 8 := by omega
      simp [e, this]
  · rw [show (bs.set (q / 8) (UInt8.ofNat ((bs.getD (q / 8) 0).toNat ||| 2 ^ (q % 8)))).getD (p / 8) 0 = bs.getD (p / 8) 0 by rw [List.getD_eq_getElem?_getD, List.getElem?_set_ne (Ne.symm h), List.getD_eq_getElem?_getD]]
    have : p ≠ q := fun e => h (by rw [e])
    simp [this]
def hits (v : V) (M E p : Nat) : Bool := (List.range E).any fun i => decide (p = plc v i M)
theorem fold_set (v : V) (M : Nat) (hM : 0 < M) : ∀ (L : List Nat) (bs : List UInt8), bs.length = (M + 7) / 8 →
    (L.foldl (fun l i => setB l (plc v i M)) bs).length = (M + 7) / 8 ∧ ∀ p, tst (L.foldl (fun l i => setB l (plc v i M)) bs) p = (tst bs p || L.any fun i => decide (p = plc v i M))
  | [], bs, h => ⟨h, fun p => by simp⟩
  | i :: L, bs, h => by
    have h2 := fold_set v M hM L (setB bs (plc v i M)) (by rw [setB_length]; exact h)
    have hp := plc_lt v i hM
    refine ⟨h2.1, fun p => ?_⟩
    rw [List.foldl_cons, h2.2 p, tst_setB _ _ _ (by rw [h]; omega), List.any_cons, Bool.or_assoc]
theorem addB_length (bs : List UInt8) (v : V) (M E : Nat) (hM : 0 < M) (h : bs.length = (M + 7) / 8) : (addB bs v M E).length = (M + 7) / 8 := (fold_set v M hM _ bs h).1
theorem tst_addB (bs : List UInt8) (v : V) (M E p : Nat) (hM : 0 < M) (h : bs.length = (M + 7) / 8) : tst (addB bs v M E) p = (tst bs p || hits v M E p) := (fold_set v M hM _ bs h).2 p
theorem may_zeros (v : V) (M E : Nat) (hE : 1 ≤ E) : mayB (zeros M) v M E = false := by
  unfold mayB
  exact List.all_eq_false.2 ⟨0, List.mem_range.2 (by omega), by rw [tst_zeros]; decide⟩
theorem mayB_iff (bs : List UInt8) (v : V) (M E : Nat) : mayB bs v M E = true ↔ ∀ i, i < E → tst bs (plc v i M) = true := by
  unfold mayB
  rw [List.all_eq_true]
  exact ⟨fun h i hi => h i (List.mem_range.2 hi), fun h i hi => h i (List.mem_range.1 hi)⟩
theorem may_add (bs : List UInt8) (v : V) (M E : Nat) (hM : 0 < M) (h : bs.length = (M + 7) / 8) : mayB (addB bs v M E) v M E = true := by
  rw [mayB_iff]
  intro i hi
  rw [tst_addB _ _ _ _ _ hM h]
  have : hits v M E (plc v i M) = true := List.any_eq_true.2 ⟨i, List.mem_range.2 hi, by simp⟩
  simp [this]
theorem may_mono (bs : List UInt8) (u v : V) (M E : Nat) (hM : 0 < M) (h : bs.length = (M + 7) / 8) (hv : mayB bs v M E = true) : mayB (addB bs u M E) v M E = true := by
  rw [mayB_iff] at hv ⊢
  intro i hi
  rw [tst_addB _ _ _ _ _ hM h, hv i hi]; rfl
/-- All values added. -/
def allB (l : List V) (M E : Nat) : List UInt8 := l.foldl (fun b v => addB b v M E) (zeros M)
theorem allB_snoc (l : List V) (v : V) (M E : Nat) : allB (l ++ [v]) M E = addB (allB l M E) v M E := by unfold allB; rw [List.foldl_append, List.foldl_cons, List.foldl_nil]
theorem fold_add (M E : Nat) (hM : 0 < M) : ∀ (l : List V) (bs : List UInt8), bs.length = (M + 7) / 8 →
    (l.foldl (fun b v => addB b v M E) bs).length = (M + 7) / 8 ∧ ∀ p, tst (l.foldl (fun b v => addB b v M E) bs) p = (tst bs p || l.any fun v => hits v M E p)
  | [], bs, h => ⟨h, fun p => by simp⟩
  | v :: l, bs, h => by
    have h2 := fold_add M E hM l (addB bs v M E) (addB_length bs v M E hM h)
    refine ⟨h2.1, fun p => ?_⟩
    rw [List.foldl_cons, h2.2 p, tst_addB _ _ _ _ _ hM h, List.any_cons, Bool.or_assoc]
theorem allB_length (l : List V) (M E : Nat) (hM : 0 < M) : (allB l M E).length = (M + 7) / 8 := (fold_add M E hM l _ (zeros_length M)).1
theorem tst_allB (l : List V) (M E p : Nat) (hM : 0 < M) : tst (allB l M E) p = l.any fun v => hits v M E p := by
  unfold allB
  rw [(fold_add M E hM l _ (zeros_length M)).2 p, tst_zeros]; rfl
theorem may_all (l : List V) (M E : Nat) (hM : 0 < M) (v : V) (hv : v ∈ l) : mayB (allB l M E) v M E = true := by
  rw [mayB_iff]
  intro i hi
  rw [tst_allB _ _ _ _ hM]
  exact List.any_eq_true.2 ⟨v, hv, List.any_eq_true.2 ⟨i, List.mem_range.2 hi, by simp⟩⟩
/-- Bytes with the same bits are the same. -/
theorem byte_ext {c d : UInt8} (h : ∀ i, i < 8 → c.toNat.testBit i = d.toNat.testBit i) : c = d := by
  apply UInt8.toNat_inj.1
  apply Nat.eq_of_testBit_eq
  intro i
  rcases Nat.lt_or_ge i 8 with h1 | h1
  · exact h i h1
  · have hc : c.toNat < 2 ^ i := Nat.lt_of_lt_of_le c.toNat_lt (Nat.pow_le_pow_right (by decide) h1)
    have hd : d.toNat < 2 ^ i := Nat.lt_of_lt_of_le d.toNat_lt (Nat.pow_le_pow_right (by decide) h1)
    rw [Nat.testBit_lt_two_pow hc, Nat.testBit_lt_two_pow hd]
theorem bits_ext {a b : List UInt8} (hl : a.length = b.length) (h : ∀ p, tst a p = tst b p) : a = b := by
  apply List.ext_getElem hl
  intro j h1 h2
  apply byte_ext
  intro i hi
  have := h (8 * j + i)
  unfold tst at this
  rw [show (8 * j + i) / 8 = j by omega, show (8 * j + i) % 8 = i by omega] at this
  simpa [List.getD_eq_getElem?_getD, h1, h2] using this
theorem all_order (l l' : List V) (M E : Nat) (hM : 0 < M) (h : ∀ v, v ∈ l ↔ v ∈ l') : allB l M E = allB l' M E := by
  refine bits_ext (by rw [allB_length _ _ _ hM, allB_length _ _ _ hM]) (fun p => ?_)
  rw [tst_allB _ _ _ _ hM, tst_allB _ _ _ _ hM]
  cases e : l'.any fun v => hits v M E p with
  | true =>
    obtain ⟨v, hv, h1⟩ := List.any_eq_true.1 e
    exact List.any_eq_true.2 ⟨v, (h v).2 hv, h1⟩
  | false =>
    rw [List.any_eq_false] at e ⊢
    exact fun v hv => e v ((h v).1 hv)
theorem tst_byte (bs : List UInt8) (j i : Nat) (hj : j < bs.length) (hi : i < 8) : tst bs (8 * j + i) = (bs[j]).toNat.testBit i := by
  unfold tst
  rw [show (8 * j + i) / 8 = j by omega, show (8 * j + i) % 8 = i by omega]
  simp [List.getD_eq_getElem?_getD, hj]
theorem andNot_zero (c d : UInt8) (h : ∀ i, i < 8 → c.toNat.testBit i = true → d.toNat.testBit i = true) : bits .andNot .u8 (c.toNat : Int) (d.toNat : Int) = 0 := by
  have h1 : (BitVec.ofInt 8 (c.toNat : Int)) = BitVec.ofNat 8 c.toNat := by rw [BitVec.ofInt_natCast]
  have h2 : (BitVec.ofInt 8 (d.toNat : Int)) = BitVec.ofNat 8 d.toNat := by rw [BitVec.ofInt_natCast]
  show IntKind.u8.wrap ((BitVec.ofInt 8 (c.toNat : Int) &&& ~~~ BitVec.ofInt 8 (d.toNat : Int)).toNat : Int) = 0
  have hz : BitVec.ofInt 8 (c.toNat : Int) &&& ~~~ BitVec.ofInt 8 (d.toNat : Int) = 0#8 := by
    apply BitVec.eq_of_getLsbD_eq
    intro i hi
    rw [h1, h2]
    simp only [BitVec.getLsbD_and, BitVec.getLsbD_not, BitVec.getLsbD_ofNat, BitVec.getLsbD_zero]
    have := h i hi
    cases e : c.toNat.testBit i with
    | false => simp
    | true => simp [this e, hi]
  rw [hz]
  rfl
theorem add_keeps (bs : List UInt8) (v : V) (M E j : Nat) (hM : 0 < M) (h : bs.length = (M + 7) / 8) (h1 : j < bs.length) (h2 : j < (addB bs v M E).length) :
    bits .andNot .u8 ((bs[j]).toNat : Int) (((addB bs v M E)[j]).toNat : Int) = 0 := by
  refine andNot_zero _ _ (fun i hi ht => ?_)
  rw [← tst_byte _ _ _ h2 hi, tst_addB _ _ _ _ _ hM h, tst_byte _ _ _ h1 hi, ht]; rfl
end Go.Proofs.Ytfakpmikflaofaa
