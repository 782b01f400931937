/- Plain mathematics: numbers as bytes. No program stands in it. -/
import Derived.Lib.BitFns
import Derived.Lib.Zigzag
import GoSem.Op.String
import Derived.Laws.Bits64b
import Derived.WalkKit
set_option linter.unusedVariables false
set_option linter.unusedSimpArgs false
namespace Go.Proofs.Ytdpmaocbfmgmlaa

/-- The k lowest bytes of n, the highest first. -/
def be : Nat → Nat → List UInt8
  | 0, _ => []
  | k + 1, n => UInt8.ofNat (n / 256 ^ k % 256) :: be k n

theorem be_length (k n : Nat) : (be k n).length = k := by
  induction k with
  | zero => rfl
  | succ k ih => simp [be, ih]

/-- How many bytes a number needs. -/
def nbytes (n : Nat) : Nat := (Lib.bitLen n + 7) / 8

/-- A number as bytes. -/
def numB (n : Nat) : List UInt8 := if n < 248 then [UInt8.ofNat n] else UInt8.ofNat (247 + nbytes n) :: be (nbytes n) n

theorem bitLen_le64 (n : Nat) : Lib.bitLen n ≤ 64 := by
  unfold Lib.bitLen
  have : ∀ f x, Lib.bitLenAux f x ≤ f := by
    intro f
    induction f with
    | zero => intro x; exact Nat.le_refl _
    | succ f ih => intro x; simp only [Lib.bitLenAux]; split; · omega
                   · have := ih (x / 2); omega
  exact this 64 n

theorem nbytes_le (n : Nat) : nbytes n ≤ 8 := by have := bitLen_le64 n; unfold nbytes; omega

theorem numB_length (n : Nat) : 1 ≤ (numB n).length ∧ (numB n).length ≤ 9 := by
  have := nbytes_le n
  unfold numB; split <;> simp [be_length]; omega
theorem byte_at (n : Int) (h0 : 0 ≤ n) (j : Nat) : (n / 2 ^ (8 * j) % 256).toNat = n.toNat / 256 ^ j % 256 := by
  obtain ⟨m, rfl⟩ := Int.eq_ofNat_of_zero_le h0
  have e : ((2 : Int) ^ (8 * j)) = ((256 ^ j : Nat) : Int) := by
    rw [Int.pow_mul]; simp
  rw [e, ← Int.natCast_ediv, Int.toNat_natCast]
  omega
/-- More than 247 wants at least one byte behind the first. -/
theorem bitLen_ge8 (n : Nat) (h : 248 ≤ n) (h1 : n < 2 ^ 64) : 8 ≤ Lib.bitLen n := by
  have e := Lib.bitLen_shift 7 n (by omega) h1
  have e2 := Lib.bitLen_half (n / 2 ^ 7) (by omega) (by omega)
  omega
theorem zig_xor_pos (n : Int) (h0 : 0 ≤ n) (h1 : n ≤ 9223372036854775807) : bits .xor .u64 (n * 2) (n / 9223372036854775808) = (Lib.zigzag n : Int) := by
  rw [show n / 9223372036854775808 = ((0 : Nat) : Int) by omega, show n * 2 = ((2 * n).toNat : Int) by omega, bits_xor_u64_nat _ _ (by omega) (by omega), Nat.xor_zero]
  unfold Lib.zigzag; rw [if_pos h0]
theorem zig_xor_neg (n : Int) (h0 : n < 0) (h1 : -9223372036854775808 ≤ n) : bits .xor .u64 (IntKind.u64.wrap (IntKind.u64.wrap n * 2)) (IntKind.u64.wrap (n / 9223372036854775808)) = (Lib.zigzag n : Int) := by
  rw [show n / 9223372036854775808 = -1 by omega, ← Lib.zigzag_neg h1 h0]
  have e1 : IntKind.u64.wrap (IntKind.u64.wrap n * 2) = (((2 * n + 18446744073709551616).toNat : Nat) : Int) := by
    rw [IntKind.wrap_u64, IntKind.wrap_u64]
    omega
  have e2 : IntKind.u64.max = ((2 ^ 64 - 1 : Nat) : Int) := by decide
  have e3 : IntKind.u64.wrap (-1) = ((2 ^ 64 - 1 : Nat) : Int) := by decide
  rw [e1, e2, e3, bits_xor_u64_nat _ _ (by omega) (by decide), bits_xor_u64_nat _ _ (by decide) (by omega), Nat.xor_comm]
theorem bitLen_lt (n k : Nat) (h : n < 2 ^ k) : Lib.bitLen n ≤ k := Lib.bitLenAux_le 64 n k h
theorem lt_bitLen : ∀ (k n : Nat), n < 2 ^ 64 → Lib.bitLen n ≤ k → n < 2 ^ k
  | 0, n, h, hk => by
    by_cases h0 : n = 0
    · subst h0; decide
    · have := Lib.bitLen_half n h0 h; omega
  | k + 1, n, h, hk => by
    by_cases h0 : n = 0
    · subst h0; exact Nat.two_pow_pos _
    · have e := Lib.bitLen_half n h0 h
      have := lt_bitLen k (n / 2) (by omega) (by omega)
      rw [Nat.pow_succ]; omega
/-- How many bytes: by the powers of 256. -/
theorem nbytes_eq (n j : Nat) (h : n < 2 ^ 64) (h1 : n / 256 ^ j = 0) (h2 : j = 0 ∨ n / 256 ^ (j - 1) ≠ 0) : nbytes n = j := by
  have p8 : ∀ j, 256 ^ j = 2 ^ (8 * j) := fun j => by rw [Nat.pow_mul]
  have hp : 0 < 256 ^ j := Nat.pow_pos (by omega)
  have lt1 : n < 2 ^ (8 * j) := by
    rw [← p8]; exact (Nat.div_eq_zero_iff_lt hp).1 h1
  have a := bitLen_lt n (8 * j) lt1
  rcases h2 with rfl | h2
  · simp at a; unfold nbytes; omega
  · by_cases hj : j = 0
    · subst hj; simp at a; unfold nbytes; omega
    · have hb : ¬ Lib.bitLen n ≤ 8 * (j - 1) := by
        intro hle
        have := lt_bitLen _ n h hle
        rw [← p8] at this
        exact h2 (Nat.div_eq_of_lt this)
      unfold nbytes; omega
/-! The order of numbers' bytes. -/
/-- The first place at which two lists part, and how. -/
def Parts (x y : List UInt8) (lt : Bool) : Prop := ∃ p c d r s, x = p ++ c :: r ∧ y = p ++ d :: s ∧ c ≠ d ∧ lt = decide (c < d)
theorem Parts.cons {x y : List UInt8} {lt : Bool} (h : Parts x y lt) (b : UInt8) : Parts (b :: x) (b :: y) lt := by
  obtain ⟨p, c, d, r, s, rfl, rfl, hne, hl⟩ := h
  exact ⟨b :: p, c, d, r, s, rfl, rfl, hne, hl⟩
theorem Parts.less {x y : List UInt8} {lt : Bool} (h : Parts x y lt) : Op.bytesLess x y = lt := by
  obtain ⟨p, c, d, r, s, rfl, rfl, hne, rfl⟩ := h
  induction p with
  | nil => simp [Op.bytesLess, hne]
  | cons b p ih =>
    simp only [List.cons_append, Op.bytesLess, ih]
    simp
theorem Parts.take {x y : List UInt8} {lt : Bool} (h : Parts x y lt) : x.take (min x.length y.length) ≠ y.take (min x.length y.length) := by
  obtain ⟨p, c, d, r, s, rfl, rfl, hne, rfl⟩ := h
  intro e
  have h1 := congrArg (fun l => l[p.length]?) e
  simp only [List.getElem?_take] at h1
  have hlt : p.length < min (p ++ c :: r).length (p ++ d :: s).length := by simp
  rw [if_pos hlt, if_pos hlt] at h1
  simp at h1
  exact hne h1
theorem u8_of (a b : Nat) (ha : a < 256) (hb : b < 256) (h : a ≠ b) : UInt8.ofNat a ≠ UInt8.ofNat b ∧ decide (UInt8.ofNat a < UInt8.ofNat b) = decide (a < b) := by
  constructor
  · intro e; have := congrArg UInt8.toNat e; simp [Nat.mod_eq_of_lt ha, Nat.mod_eq_of_lt hb] at this; exact h this
  · congr 1; simp [UInt8.lt_iff_toNat_lt, Nat.mod_eq_of_lt ha, Nat.mod_eq_of_lt hb]
theorem be_parts : ∀ (k a b : Nat), a % 256 ^ k ≠ b % 256 ^ k → Parts (be k a) (be k b) (decide (a % 256 ^ k < b % 256 ^ k))
  | 0, a, b, h => by simp [Nat.mod_one] at h
  | k + 1, a, b, h => by
    have hp : 0 < 256 ^ k := Nat.pow_pos (by omega)
    have ea : a % 256 ^ (k + 1) = a % 256 ^ k + 256 ^ k * (a / 256 ^ k % 256) := by rw [Nat.pow_succ, Nat.mod_mul]
    have eb : b % 256 ^ (k + 1) = b % 256 ^ k + 256 ^ k * (b / 256 ^ k % 256) := by rw [Nat.pow_succ, Nat.mod_mul]
    have la := Nat.mod_lt a hp
    have lb := Nat.mod_lt b hp
    by_cases hd : a / 256 ^ k % 256 = b / 256 ^ k % 256
    · have hk : a % 256 ^ k ≠ b % 256 ^ k := by intro e; apply h; rw [ea, eb, e, hd]
      have := (be_parts k a b hk).cons (UInt8.ofNat (a / 256 ^ k % 256))
      simp only [be]
      rw [← hd]
      have e2 : decide (a % 256 ^ (k + 1) < b % 256 ^ (k + 1)) = decide (a % 256 ^ k < b % 256 ^ k) := by
        rw [ea, eb, hd]; congr 1; apply propext; constructor <;> intro h <;> omega
      rw [e2]; exact this
    · obtain ⟨h1, h2⟩ := u8_of _ _ (Nat.mod_lt (a / 256 ^ k) (by omega : 0 < 256)) (Nat.mod_lt (b / 256 ^ k) (by omega : 0 < 256)) hd
      refine ⟨[], _, _, be k a, be k b, rfl, rfl, h1, ?_⟩
      rw [h2, ea, eb]
      congr 1
      apply propext
      generalize a / 256 ^ k % 256 = u at *
      generalize b / 256 ^ k % 256 = v at *
      generalize 256 ^ k = K at *
      constructor
      · intro hlt
        rcases Nat.lt_or_ge u v with h | h
        · exact h
        · have : v + 1 ≤ u := by omega
          have := Nat.mul_le_mul_left K this
          rw [Nat.mul_add] at this; omega
      · intro hlt
        have := Nat.mul_le_mul_left K (show u + 1 ≤ v from hlt)
        rw [Nat.mul_add] at this; omega
theorem nbytes_mono (a b : Nat) (h : a ≤ b) (hb : b < 2 ^ 64) : nbytes a ≤ nbytes b := by
  have hle : Lib.bitLen a ≤ Lib.bitLen b := bitLen_lt a _ (Nat.lt_of_le_of_lt h (lt_bitLen _ b hb (Nat.le_refl _)))
  unfold nbytes; omega
theorem lt_nbytes (a : Nat) (ha : a < 2 ^ 64) : a < 256 ^ nbytes a := by
  have h := lt_bitLen (8 * nbytes a) a ha (by unfold nbytes; omega)
  rwa [Nat.pow_mul] at h
/-- Of two numbers the less one's bytes stand ahead, and none begins another one. -/
theorem numB_parts (a b : Nat) (ha : a < 2 ^ 64) (hb : b < 2 ^ 64) (h : a ≠ b) : Parts (numB a) (numB b) (decide (a < b)) := by
  have na := nbytes_le a
  have nb := nbytes_le b
  unfold numB
  by_cases h1 : a < 248 <;> by_cases h2 : b < 248
  · rw [if_pos h1, if_pos h2]
    obtain ⟨e1, e2⟩ := u8_of a b (by omega) (by omega) h
    exact ⟨[], _, _, [], [], rfl, rfl, e1, e2.symm⟩
  · rw [if_pos h1, if_neg h2]
    obtain ⟨e1, e2⟩ := u8_of a (247 + nbytes b) (by omega) (by omega) (by have := bitLen_ge8 b (by omega) hb; unfold nbytes; omega)
    have hb1 : 1 ≤ nbytes b := by have := bitLen_ge8 b (by omega) hb; unfold nbytes; omega
    exact ⟨[], _, _, [], _, rfl, rfl, e1, by rw [e2]; congr 1; apply propext; omega⟩
  · rw [if_neg h1, if_pos h2]
    have ha1 : 1 ≤ nbytes a := by have := bitLen_ge8 a (by omega) ha; unfold nbytes; omega
    obtain ⟨e1, e2⟩ := u8_of (247 + nbytes a) b (by omega) (by omega) (by omega)
    exact ⟨[], _, _, _, [], rfl, rfl, e1, by rw [e2]; congr 1; apply propext; omega⟩
  · rw [if_neg h1, if_neg h2]
    by_cases hn : nbytes a = nbytes b
    · rw [← hn]
      have la := lt_nbytes a ha
      have lb := lt_nbytes b hb
      rw [← hn] at lb
      have := be_parts (nbytes a) a b (by rw [Nat.mod_eq_of_lt la, Nat.mod_eq_of_lt lb]; exact h)
      rw [Nat.mod_eq_of_lt la, Nat.mod_eq_of_lt lb] at this
      exact this.cons _
    · obtain ⟨e1, e2⟩ := u8_of (247 + nbytes a) (247 + nbytes b) (by omega) (by omega) (by omega)
      refine ⟨[], _, _, _, _, rfl, rfl, e1, ?_⟩
      rw [e2]; congr 1; apply propext
      constructor
      · intro hlt; have := nbytes_mono a b (by omega) hb; omega
      · intro hlt; rcases Nat.lt_or_ge a b with h' | h'
        · exact h'
        · have := nbytes_mono b a h' ha; omega
/-! What is taken from bytes. -/
/-- The number whose bytes those are, the highest first. -/
def val (l : List UInt8) : Nat := l.foldl (fun n c => n * 256 + c.toNat) 0
/-- A number that bytes begin with, and the bytes behind. -/
def tnum : List UInt8 → Option (Nat × List UInt8)
  | [] => none
  | c :: r =>
    if c.toNat < 248 then some (c.toNat, r)
    else if r.length < c.toNat - 247 then none
    else if val (r.take (c.toNat - 247)) < 248 ∨ Lib.bitLen (val (r.take (c.toNat - 247))) ≤ 8 * (c.toNat - 247 - 1) then none
    else some (val (r.take (c.toNat - 247)), r.drop (c.toNat - 247))
def rdN (l : List UInt8) : Nat := match tnum l with | none => 0 | some p => p.1
def rdRest (l : List UInt8) : List UInt8 := match tnum l with | none => [] | some p => p.2
def rdBad (l : List UInt8) : Bool := (tnum l).isNone
theorem rd_of_none {l : List UInt8} (h : tnum l = none) : rdN l = 0 ∧ rdRest l = [] ∧ rdBad l = true := by simp [rdN, rdRest, rdBad, h]
theorem rd_of_some {l : List UInt8} {n : Nat} {r : List UInt8} (h : tnum l = some (n, r)) : rdN l = n ∧ rdRest l = r ∧ rdBad l = false := by simp [rdN, rdRest, rdBad, h]
theorem val_snoc (l : List UInt8) (c : UInt8) : val (l ++ [c]) = val l * 256 + c.toNat := by simp [val]
theorem val_lt (l : List UInt8) : val l < 256 ^ l.length := by
  have : ∀ (l : List UInt8), val l < 256 ^ l.length := by
    intro l
    rw [← List.reverse_reverse l]
    induction l.reverse with
    | nil => simp [val]
    | cons c r ih =>
      rw [List.reverse_cons, val_snoc]
      have := c.toNat_lt
      simp only [List.length_append, List.length_reverse, List.length_singleton, Nat.pow_succ] at *
      omega
  exact this l
theorem or_byte (N c : Nat) (hN : N ≤ 72057594037927935) (hc : c < 256) : bits .or .u64 ((N : Int) * 256) (c : Int) = ((N * 256 + c : Nat) : Int) := by
  rw [show (N : Int) * 256 = ((N * 256 : Nat) : Int) by simp, bits_or_u64_nat _ _ (by omega) (by omega)]
  congr 1
  rw [show N * 256 = N <<< 8 by rw [Nat.shiftLeft_eq], ← Nat.shiftLeft_add_eq_or_of_lt (by omega)]
theorem rdN_lt (l : List UInt8) : rdN l < 18446744073709551616 := by
  unfold rdN
  cases l with
  | nil => simp [tnum]
  | cons c r =>
    have hc := c.toNat_lt
    simp only [tnum]
    split
    · split at * <;> simp_all
    · rename_i p hp
      split at hp
      · simp at hp; rw [← hp]; simp only; omega
      · split at hp
        · cases hp
        · split at hp
          · cases hp
          · simp at hp
            rw [← hp]
            simp only
            have h1 := val_lt (r.take (c.toNat - 247))
            have h2 : (r.take (c.toNat - 247)).length ≤ 8 := by rw [List.length_take]; omega
            have h3 : 256 ^ (r.take (c.toNat - 247)).length ≤ 256 ^ 8 := Nat.pow_le_pow_right (by omega) h2
            omega
/-- The number whose zig it is. -/
def zag (n : Nat) : Int := if n % 2 = 0 then (n / 2 : Nat) else -((n / 2 : Nat) : Int) - 1
theorem zag_zig (n : Int) : zag (Lib.zigzag n) = n := by unfold zag Lib.zigzag; split <;> split <;> omega
theorem zig_zag (n : Nat) : Lib.zigzag (zag n) = n := by unfold zag Lib.zigzag; split <;> split <;> omega
theorem xor_i64_comm (a b : Int) : bits .xor .i64 a b = bits .xor .i64 b a := by
  show IntKind.i64.wrap ((BitVec.ofInt 64 a ^^^ BitVec.ofInt 64 b).toNat : Int) = IntKind.i64.wrap ((BitVec.ofInt 64 b ^^^ BitVec.ofInt 64 a).toNat : Int)
  rw [BitVec.xor_comm]
theorem xor_i64_zero (x : Nat) (hx : x < 9223372036854775808) : bits .xor .i64 (x : Int) 0 = (x : Int) := by
  show IntKind.i64.wrap ((BitVec.ofInt 64 (x : Int) ^^^ BitVec.ofInt 64 0).toNat : Int) = _
  have h2 : (BitVec.ofInt 64 (x : Int)).toNat = x := by
    rw [BitVec.ofInt_natCast, BitVec.toNat_ofNat]; exact Nat.mod_eq_of_lt (by omega)
  have h1 : (BitVec.ofInt 64 0).toNat = 0 := by decide
  rw [BitVec.toNat_xor, h1, h2, Nat.xor_zero, IntKind.wrap_i64]
  omega
theorem zag_xor (N : Nat) (hN : N < 18446744073709551616) : bits .xor .i64 (RowKit.wrap64 ((N : Int) / 2)) (RowKit.wrap64 (-RowKit.wrap64 (bits .and .u64 (N : Int) 1))) = zag N := by
  rw [Lib.u64_and1 (N : Int) (by omega) (by omega)]
  have e1 : RowKit.wrap64 ((N : Int) / 2) = ((N / 2 : Nat) : Int) := by unfold RowKit.wrap64; omega
  rw [e1]
  by_cases h : N % 2 = 0
  · have e2 : RowKit.wrap64 (-RowKit.wrap64 ((N : Int) % 2)) = 0 := by unfold RowKit.wrap64; omega
    rw [e2, xor_i64_zero _ (by omega)]
    unfold zag; rw [if_pos h]
  · have e2 : RowKit.wrap64 (-RowKit.wrap64 ((N : Int) % 2)) = -1 := by unfold RowKit.wrap64; omega
    rw [e2, xor_i64_comm, Lib.i64_not _ (by omega)]
    unfold zag; rw [if_neg h]
theorem be_add : ∀ (k n m : Nat), n < 256 ^ k → be k (m * 256 ^ k + n) = be k n
  | 0, _, _, _ => rfl
  | k + 1, n, m, h => by
    have hp : 0 < 256 ^ k := Nat.pow_pos (by omega)
    simp only [be]
    have e0 : m * 256 ^ (k + 1) + n = m * 256 * 256 ^ k + n := by rw [Nat.pow_succ, Nat.mul_comm (256 ^ k) 256, ← Nat.mul_assoc]
    rw [e0]
    have e1 : (m * 256 * 256 ^ k + n) / 256 ^ k % 256 = n / 256 ^ k % 256 := by
      rw [Nat.add_comm, Nat.add_mul_div_right _ _ hp]; omega
    rw [e1]
    congr 1
    have h2 : n % 256 ^ k < 256 ^ k := Nat.mod_lt _ hp
    have e2 : m * 256 * 256 ^ k + n = (m * 256 + n / 256 ^ k) * 256 ^ k + n % 256 ^ k := by
      rw [Nat.add_mul, Nat.add_assoc]; congr 1; rw [Nat.mul_comm (n / 256 ^ k)]; exact (Nat.div_add_mod n (256 ^ k)).symm
    have e3 : n = n / 256 ^ k * 256 ^ k + n % 256 ^ k := by rw [Nat.mul_comm]; exact (Nat.div_add_mod n (256 ^ k)).symm
    rw [e2, be_add k _ _ h2]
    conv => rhs; rw [e3]
    rw [be_add k _ _ h2]
theorem val_append (a b : List UInt8) : val (a ++ b) = val a * 256 ^ b.length + val b := by
  rw [← List.reverse_reverse b]
  induction b.reverse with
  | nil => simp [val]
  | cons c r ih =>
    rw [List.reverse_cons, ← List.append_assoc, val_snoc, ih, val_snoc]
    simp only [List.length_append, List.length_reverse, List.length_singleton, Nat.pow_succ]
    rw [Nat.add_mul, Nat.mul_assoc, Nat.add_assoc]
theorem be_val (l : List UInt8) : be l.length (val l) = l := by
  induction l with
  | nil => rfl
  | cons c r ih =>
    have h1 : val (c :: r) = c.toNat * 256 ^ r.length + val r := by
      have := val_append [c] r; simpa [val] using this
    have hlt := val_lt r
    have hp : 0 < 256 ^ r.length := Nat.pow_pos (by omega)
    simp only [List.length_cons, be]
    rw [h1, be_add _ _ _ hlt, ih]
    congr 1
    rw [Nat.add_comm, Nat.add_mul_div_right _ _ hp, Nat.div_eq_of_lt hlt]
    have := c.toNat_lt
    simp [Nat.mod_eq_of_lt (show c.toNat < 256 by omega)]
/-- The reference's test: what was taken is laid so. -/
theorem numB_val (c : UInt8) (bs : List UInt8) (hc : c.toNat = bs.length + 247) (h1 : 1 ≤ bs.length) :
    numB (val bs) = c :: bs ↔ ¬ (val bs < 248 ∨ Lib.bitLen (val bs) ≤ 8 * (bs.length - 1)) := by
  have hlt := val_lt bs
  have hc8 : bs.length ≤ 8 := by have := c.toNat_lt; omega
  have h64 : val bs < 2 ^ 64 := Nat.lt_of_lt_of_le hlt (by have := Nat.pow_le_pow_right (show 0 < 256 by omega) hc8; simpa using this)
  have hb : Lib.bitLen (val bs) ≤ 8 * bs.length := bitLen_lt _ _ (by rw [Nat.pow_mul]; exact hlt)
  constructor
  · intro e h
    have hl := congrArg List.length e
    rcases h with h | h
    · rw [numB, if_pos h] at hl; simp only [List.length_cons, List.length_nil] at hl; omega
    · by_cases h248 : val bs < 248
      · rw [numB, if_pos h248] at hl; simp only [List.length_cons, List.length_nil] at hl; omega
      · rw [numB, if_neg h248] at hl; simp only [List.length_cons, be_length] at hl
        unfold nbytes at hl; omega
  · intro h
    have hn : nbytes (val bs) = bs.length := by unfold nbytes; omega
    have h248 : ¬ val bs < 248 := fun h' => h (.inl h')
    rw [numB, if_neg h248, hn, be_val]
    congr 1
    rw [Nat.add_comm, ← hc]; simp
theorem numB_byte (c : UInt8) (h : c.toNat < 248) : numB c.toNat = [c] := by rw [numB, if_pos h]; simp
/-- What is taken is laid so. -/
theorem tnum_spec {l : List UInt8} {n : Nat} {r : List UInt8} (h : tnum l = some (n, r)) : l = numB n ++ r := by
  cases l with
  | nil => simp [tnum] at h
  | cons c t =>
    simp only [tnum] at h
    split at h
    · rename_i h1
      simp at h
      obtain ⟨rfl, rfl⟩ := h
      rw [numB_byte c h1]; rfl
    · split at h
      · cases h
      · split at h
        · cases h
        · rename_i h1 h2 h3
          simp at h
          obtain ⟨rfl, rfl⟩ := h
          have hl : (t.take (c.toNat - 247)).length = c.toNat - 247 := by rw [List.length_take]; omega
          rw [(numB_val c (t.take (c.toNat - 247)) (by omega) (by omega)).2 (by rw [hl]; exact h3), List.cons_append, List.take_append_drop]
theorem val_be (n k : Nat) (h : n < 256 ^ k) : val (be k n) = n := by
  have : ∀ k n, val (be k n) = n % 256 ^ k := by
    intro k
    induction k with
    | zero => intro n; simp [be, val, Nat.mod_one]
    | succ k ih =>
      intro n
      have h1 : val (UInt8.ofNat (n / 256 ^ k % 256) :: be k n) = (n / 256 ^ k % 256) * 256 ^ k + val (be k n) := by
        have := val_append [UInt8.ofNat (n / 256 ^ k % 256)] (be k n)
        simpa [val, be_length] using this
      rw [be, h1, ih, Nat.pow_succ, Nat.mod_mul, Nat.mul_comm (256 ^ k), Nat.add_comm]
  rw [this, Nat.mod_eq_of_lt h]
/-- What is laid is taken. -/
theorem tnum_numB (n : Nat) (hn : n < 2 ^ 64) (r : List UInt8) : tnum (numB n ++ r) = some (n, r) := by
  by_cases h : n < 248
  · rw [numB, if_pos h]
    have : (UInt8.ofNat n).toNat = n := by simp; omega
    simp [tnum, this, h]
  · have h8 := nbytes_le n
    have hb := bitLen_ge8 n (by omega) hn
    have h1 : 1 ≤ nbytes n := by unfold nbytes; omega
    rw [numB, if_neg h]
    have hc : (UInt8.ofNat (247 + nbytes n)).toNat = 247 + nbytes n := by simp; omega
    have hl : (be (nbytes n) n).length = nbytes n := be_length _ _
    have hv := val_be n (nbytes n) (lt_nbytes n hn)
    have ht : (be (nbytes n) n ++ r).take (nbytes n) = be (nbytes n) n := by rw [List.take_append_of_le_length (by omega)]; exact List.take_of_length_le (by omega)
    have hd : (be (nbytes n) n ++ r).drop (nbytes n) = r := by rw [List.drop_append_of_le_length (by omega), List.drop_of_length_le (by omega)]; rfl
    simp only [List.cons_append, tnum, hc, show 247 + nbytes n - 247 = nbytes n by omega, ht, hd, hv]
    rw [if_neg (by omega), if_neg (by rw [List.length_append]; omega), if_neg (by unfold nbytes at *; omega)]
end Go.Proofs.Ytdpmaocbfmgmlaa
