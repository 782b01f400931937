/- Plain mathematics: numbers as bytes. No program stands in it. -/
import Derived.Lib.BitFns
import Derived.Lib.Zigzag
namespace Go.Proofs.Ytpbcjiabglfihaa

/-- The k lowest bytes of n, the highest first. -/
def be : Nat → Nat → List UInt8
  | 0, _ => []
  | k + 1, n => UInt8.ofNat (n / 256 ^ k % 256) :: be k n

theorem be_length (k n : Nat) : (be k n).length = k := by
  induction k with
  | zero => rfl
  | succ k ih => simp [be, ih]

/-- How many bytes a number needs. -/
def nbytes (n : Nat) : Nat := (Lib.bitLen n + 7) / 8

/-- A number as bytes. -/
def numB (n : Nat) : List UInt8 := if n < 248 then [UInt8.ofNat n] else UInt8.ofNat (247 + nbytes n) :: be (nbytes n) n

theorem bitLen_le64 (n : Nat) : Lib.bitLen n ≤ 64 := by
  unfold Lib.bitLen
  have : ∀ f x, Lib.bitLenAux f x ≤ f := by
    intro f
    induction f with
    | zero => intro x; exact Nat.le_refl _
    | succ f ih => intro x; simp only [Lib.bitLenAux]; split; · omega
                   · have := ih (x / 2); omega
  exact this 64 n

theorem nbytes_le (n : Nat) : nbytes n ≤ 8 := by have := bitLen_le64 n; unfold nbytes; omega

theorem numB_length (n : Nat) : 1 ≤ (numB n).length ∧ (numB n).length ≤ 9 := by
  have := nbytes_le n
  unfold numB; split <;> simp [be_length]; omega
theorem byte_at (n : Int) (h0 : 0 ≤ n) (j : Nat) : (n / 2 ^ (8 * j) % 256).toNat = n.toNat / 256 ^ j % 256 := by
  obtain ⟨m, rfl⟩ := Int.eq_ofNat_of_zero_le h0
  have e : ((2 : Int) ^ (8 * j)) = ((256 ^ j : Nat) : Int) := by
    rw [Int.pow_mul]; simp
  rw [e, ← Int.natCast_ediv, Int.toNat_natCast]
  omega
/-- More than 247 wants at least one byte behind the first. -/
theorem bitLen_ge8 (n : Nat) (h : 248 ≤ n) (h1 : n < 2 ^ 64) : 8 ≤ Lib.bitLen n := by
  have e := Lib.bitLen_shift 7 n (by omega) h1
  have e2 := Lib.bitLen_half (n / 2 ^ 7) (by omega) (by omega)
  omega
theorem zig_xor_pos (n : Int) (h0 : 0 ≤ n) (h1 : n ≤ 9223372036854775807) : bits .xor .u64 (n * 2) (n / 9223372036854775808) = (Lib.zigzag n : Int) := by
  rw [show n / 9223372036854775808 = ((0 : Nat) : Int) by omega, show n * 2 = ((2 * n).toNat : Int) by omega, bits_xor_u64_nat _ _ (by omega) (by omega), Nat.xor_zero]
  unfold Lib.zigzag; rw [if_pos h0]
theorem zig_xor_neg (n : Int) (h0 : n < 0) (h1 : -9223372036854775808 ≤ n) : bits .xor .u64 (IntKind.u64.wrap (IntKind.u64.wrap n * 2)) (IntKind.u64.wrap (n / 9223372036854775808)) = (Lib.zigzag n : Int) := by
  rw [show n / 9223372036854775808 = -1 by omega, ← Lib.zigzag_neg h1 h0]
  have e1 : IntKind.u64.wrap (IntKind.u64.wrap n * 2) = (((2 * n + 18446744073709551616).toNat : Nat) : Int) := by
    rw [IntKind.wrap_u64, IntKind.wrap_u64]
    omega
  have e2 : IntKind.u64.max = ((2 ^ 64 - 1 : Nat) : Int) := by decide
  have e3 : IntKind.u64.wrap (-1) = ((2 ^ 64 - 1 : Nat) : Int) := by decide
  rw [e1, e2, e3, bits_xor_u64_nat _ _ (by omega) (by decide), bits_xor_u64_nat _ _ (by decide) (by omega), Nat.xor_comm]
theorem bitLen_lt (n k : Nat) (h : n < 2 ^ k) : Lib.bitLen n ≤ k := Lib.bitLenAux_le 64 n k h
theorem lt_bitLen : ∀ (k n : Nat), n < 2 ^ 64 → Lib.bitLen n ≤ k → n < 2 ^ k
  | 0, n, h, hk => by
    by_cases h0 : n = 0
    · subst h0; decide
    · have := Lib.bitLen_half n h0 h; omega
  | k + 1, n, h, hk => by
    by_cases h0 : n = 0
    · subst h0; exact Nat.two_pow_pos _
    · have e := Lib.bitLen_half n h0 h
      have := lt_bitLen k (n / 2) (by omega) (by omega)
      rw [Nat.pow_succ]; omega
/-- How many bytes: by the powers of 256. -/
theorem nbytes_eq (n j : Nat) (h : n < 2 ^ 64) (h1 : n / 256 ^ j = 0) (h2 : j = 0 ∨ n / 256 ^ (j - 1) ≠ 0) : nbytes n = j := by
  have p8 : ∀ j, 256 ^ j = 2 ^ (8 * j) := fun j => by rw [Nat.pow_mul]
  have hp : 0 < 256 ^ j := Nat.pow_pos (by omega)
  have lt1 : n < 2 ^ (8 * j) := by
    rw [← p8]; exact (Nat.div_eq_zero_iff_lt hp).1 h1
  have a := bitLen_lt n (8 * j) lt1
  rcases h2 with rfl | h2
  · simp at a; unfold nbytes; omega
  · by_cases hj : j = 0
    · subst hj; simp at a; unfold nbytes; omega
    · have hb : ¬ Lib.bitLen n ≤ 8 * (j - 1) := by
        intro hle
        have := lt_bitLen _ n h hle
        rw [← p8] at this
        exact h2 (Nat.div_eq_of_lt this)
      unfold nbytes; omega
end Go.Proofs.Ytpbcjiabglfihaa
