/- Numbers, bit by bit: plain laws. -/
import Derived.Test.YtcjnehlbkjpgbaaNum
import Derived.Test.YtcjnehlbkjpgbaaAt
set_option linter.unusedVariables false
set_option linter.unusedSimpArgs false
namespace Go.Proofs.Ytcjnehlbkjpgbaa
open Go.RowKit
/-- The number whose first n bits are f's. -/
def nof (f : Nat → Bool) : Nat → Nat
  | 0 => 0
  | n + 1 => nof f n + (f n).toNat * 2 ^ n
theorem nof_lt (f : Nat → Bool) : ∀ n, nof f n < 2 ^ n
  | 0 => by simp [nof]
  | n + 1 => by
    have h := nof_lt f n
    have h1 : (f n).toNat * 2 ^ n ≤ 1 * 2 ^ n := Nat.mul_le_mul_right _ (by cases f n <;> simp)
    simp only [nof, Nat.pow_succ]
    omega
theorem nof_bit (f : Nat → Bool) : ∀ n k, (nof f n).testBit k = (decide (k < n) && f k)
  | 0, k => by simp [nof]
  | n + 1, k => by
    have h := nof_lt f n
    rw [nof, Nat.add_comm, Nat.mul_comm, Nat.testBit_two_pow_mul_add _ h]
    split
    · next h1 => rw [nof_bit f n k]; simp [h1, Nat.lt_succ_of_lt h1]
    · next h1 =>
      by_cases e : k = n
      · subst e; cases f k <;> simp
      · have h2 : ¬ k < n + 1 := by omega
        have h3 : 1 ≤ k - n := by omega
        rw [Nat.testBit_lt_two_pow (Nat.lt_of_lt_of_le (show (f n).toNat < 2 ^ 1 by cases f n <;> simp) (Nat.pow_le_pow_right (by decide) h3))]
        simp [h2]
theorem nof_eq {f : Nat → Bool} {n x : Nat} (hx : x < 2 ^ n) (h : ∀ k, k < n → f k = x.testBit k) : nof f n = x := by
  apply Nat.eq_of_testBit_eq
  intro k
  rw [nof_bit]
  by_cases hk : k < n
  · simp [hk, h k hk]
  · have : x < 2 ^ k := Nat.lt_of_lt_of_le hx (Nat.pow_le_pow_right (by decide) (by omega))
    rw [Nat.testBit_lt_two_pow this]
    simp [hk]
theorem nof_congr {f g : Nat → Bool} {n : Nat} (h : ∀ k, k < n → f k = g k) : nof f n = nof g n := nof_eq (nof_lt g n) (fun k hk => by rw [nof_bit, h k hk]; simp [hk])
/-- A bit of bytes. -/
def tst (bs : List UInt8) (p : Nat) : Bool := (bs.getD (p / 8) 0).toNat.testBit (p % 8)
theorem byte_ext {c d : UInt8} (h : ∀ i, i < 8 → c.toNat.testBit i = d.toNat.testBit i) : c = d := by
  apply UInt8.toNat_inj.1
  apply Nat.eq_of_testBit_eq
  intro i
  rcases Nat.lt_or_ge i 8 with h1 | h1
  · exact h i h1
  · have hc : c.toNat < 2 ^ i := Nat.lt_of_lt_of_le c.toNat_lt (Nat.pow_le_pow_right (by decide) h1)
    have hd : d.toNat < 2 ^ i := Nat.lt_of_lt_of_le d.toNat_lt (Nat.pow_le_pow_right (by decide) h1)
    rw [Nat.testBit_lt_two_pow hc, Nat.testBit_lt_two_pow hd]
theorem bits_ext {a b : List UInt8} (hl : a.length = b.length) (h : ∀ p, tst a p = tst b p) : a = b := by
  apply List.ext_getElem hl
  intro j h1 h2
  apply byte_ext
  intro i hi
  have := h (8 * j + i)
  unfold tst at this
  rw [show (8 * j + i) / 8 = j by omega, show (8 * j + i) % 8 = i by omega] at this
  simpa [List.getD_eq_getElem?_getD, h1, h2] using this
theorem tst_byte (bs : List UInt8) (j i : Nat) (hj : j < bs.length) (hi : i < 8) : tst bs (8 * j + i) = (bs[j]).toNat.testBit i := by
  unfold tst
  rw [show (8 * j + i) / 8 = j by omega, show (8 * j + i) % 8 = i by omega]
  simp [List.getD_eq_getElem?_getD, hj]
theorem tst_out (bs : List UInt8) (p : Nat) (h : bs.length ≤ p / 8) : tst bs p = false := by
  unfold tst
  rw [List.getD_eq_getElem?_getD, List.getElem?_eq_none h]
  simp
/-- Bytes with these bits. -/
def byN (n : Nat) (f : Nat → Bool) : List UInt8 := (List.range n).map fun j => UInt8.ofNat (nof (fun i => f (8 * j + i)) 8)
theorem byN_length (n : Nat) (f : Nat → Bool) : (byN n f).length = n := by simp [byN]
theorem tst_byN (n : Nat) (f : Nat → Bool) (p : Nat) : tst (byN n f) p = (decide (p / 8 < n) && f p) := by
  by_cases h : p / 8 < n
  · have h1 : p / 8 < (byN n f).length := by rw [byN_length]; exact h
    have e := tst_byte (byN n f) (p / 8) (p % 8) h1 (Nat.mod_lt _ (by decide))
    rw [show 8 * (p / 8) + p % 8 = p by omega] at e
    rw [e]
    have hl := nof_lt (fun i => f (8 * (p / 8) + i)) 8
    simp only [byN, List.getElem_map, List.getElem_range, UInt8.toNat_ofNat']
    rw [Nat.mod_eq_of_lt hl, nof_bit]
    simp only [show 8 * (p / 8) + p % 8 = p by omega]
    simp [h, Nat.mod_lt]
  · rw [tst_out _ _ (by rw [byN_length]; omega)]
    simp [h]
/-- The bits of numbers of w bits, one behind the other. -/
def fW (l : List Nat) (w p : Nat) : Bool := (l.getD (p / w) 0).testBit (p % w)
def packB (l : List Nat) (w : Nat) : List UInt8 := byN ((l.length * w + 7) / 8) (fun p => decide (p < l.length * w) && fW l w p)
theorem packB_length (l : List Nat) (w : Nat) : (packB l w).length = (l.length * w + 7) / 8 := byN_length _ _
theorem tst_packB (l : List Nat) (w p : Nat) : tst (packB l w) p = (decide (p < l.length * w) && fW l w p) := by
  unfold packB
  rw [tst_byN]
  by_cases h : p < l.length * w
  · have : p / 8 < (l.length * w + 7) / 8 := by omega
    simp [h, this]
  · simp [h]
theorem fW_at (l : List Nat) (w i j : Nat) (hi : i < l.length) (hj : j < w) : fW l w (i * w + j) = (l[i]).testBit j := by
  unfold fW
  rw [show (i * w + j) / w = i by rw [Nat.mul_comm, Nat.mul_add_div (by omega), Nat.div_eq_of_lt hj]; rfl, show (i * w + j) % w = j by rw [Nat.mul_comm, Nat.mul_add_mod, Nat.mod_eq_of_lt hj]]
  simp [List.getD_eq_getElem?_getD, hi]
def unpN (b : List UInt8) (many w : Nat) : List Nat := (List.range many).map fun i => nof (fun k => tst b (i * w + k)) w
theorem unpN_length (b : List UInt8) (many w : Nat) : (unpN b many w).length = many := by simp [unpN]
theorem unpN_lt (b : List UInt8) (many w : Nat) : ∀ x ∈ unpN b many w, x < 2 ^ w := by
  intro x hx
  obtain ⟨i, _, rfl⟩ := List.mem_map.1 hx
  exact nof_lt _ _
theorem unpN_get (b : List UInt8) (many w i : Nat) (h : i < many) : (unpN b many w)[i]? = some (nof (fun k => tst b (i * w + k)) w) := by simp [unpN, h]
theorem unpN_step (b : List UInt8) (i w : Nat) : unpN b (i + 1) w = unpN b i w ++ [nof (fun k => tst b (i * w + k)) w] := by simp [unpN, List.range_succ]
theorem fW_unp (b : List UInt8) (many w p : Nat) (h : p < many * w) : fW (unpN b many w) w p = tst b p := by
  have hw : 0 < w := by rcases Nat.eq_zero_or_pos w with h0 | h0; · subst h0; simp at h
                        · exact h0
  have hi : p / w < many := Nat.div_lt_of_lt_mul (by rwa [Nat.mul_comm] at h)
  have hj : p % w < w := Nat.mod_lt _ hw
  have e : p / w * w + p % w = p := by rw [Nat.mul_comm]; exact Nat.div_add_mod p w
  unfold fW
  rw [List.getD_eq_getElem?_getD, unpN_get _ _ _ _ hi, Option.getD_some, nof_bit, e]
  simp [hj]
theorem tst_pack_unp (b : List UInt8) (many w p : Nat) : tst (packB (unpN b many w) w) p = (decide (p < many * w) && tst b p) := by
  rw [tst_packB, unpN_length]
  by_cases h : p < many * w
  · rw [fW_unp _ _ _ _ h]
  · simp [h]
/-- Nothing stands behind the last number. -/
theorem pack_unp_iff (b : List UInt8) (many w : Nat) (hb : b.length = (many * w + 7) / 8) : packB (unpN b many w) w = b ↔ ∀ p, many * w ≤ p → tst b p = false := by
  constructor
  · intro h p hp
    rw [← h, tst_pack_unp]
    have : ¬ p < many * w := by omega
    simp [this]
  · intro h
    refine bits_ext (by rw [packB_length, unpN_length, hb]) (fun p => ?_)
    rw [tst_pack_unp]
    by_cases hp : p < many * w
    · simp [hp]
    · rw [h p (by omega)]; simp
theorem unp_pack (l : List Nat) (w : Nat) (h : ∀ x ∈ l, x < 2 ^ w) : unpN (packB l w) l.length w = l := by
  apply List.ext_getElem (by rw [unpN_length])
  intro i h1 h2
  have hg := unpN_get (packB l w) l.length w i h2
  rw [List.getElem?_eq_getElem h1] at hg
  rw [Option.some.inj hg]
  refine nof_eq (h _ (List.getElem_mem h2)) (fun k hk => ?_)
  have hlt : i * w + k < l.length * w := by
    have : (i + 1) * w ≤ l.length * w := Nat.mul_le_mul_right _ h2
    rw [Nat.add_mul] at this
    omega
  rw [tst_packB, fW_at _ _ _ _ h2 hk]
  simp [hlt]
/-- Of n bytes the bits ahead of k are f's, and there are no more. -/
def Bt (bs : List UInt8) (n k : Nat) (f : Nat → Bool) : Prop := bs.length = n ∧ ∀ p, tst bs p = (decide (p < k) && f p)
theorem Bt.zero (n : Nat) (f : Nat → Bool) : Bt (List.replicate n 0) n 0 f := by
  refine ⟨by simp, fun p => ?_⟩
  unfold tst
  rw [List.getD_eq_getElem?_getD, List.getElem?_replicate]
  split <;> simp
theorem Bt.packed {bs : List UInt8} {l : List Nat} {w n k : Nat} (h : Bt bs n k (fW l w)) (hn : n = (l.length * w + 7) / 8) (hk : k = l.length * w) : bs = packB l w := by
  subst hk
  exact bits_ext (by rw [h.1, hn, packB_length]) (fun p => by rw [h.2, tst_packB])
def putM (bs : List UInt8) (k y : Nat) : List UInt8 := bs.set (k / 8) (UInt8.ofNat ((bs.getD (k / 8) 0).toNat ||| y * 2 ^ (k % 8)))
theorem putM_length (bs : List UInt8) (k y : Nat) : (putM bs k y).length = bs.length := by simp [putM]
theorem small_shift {k m y : Nat} (hy : y < 2 ^ m) (hm : k % 8 + m ≤ 8) : y * 2 ^ (k % 8) < 256 := by
  have h1 : y * 2 ^ (k % 8) < 2 ^ m * 2 ^ (k % 8) := Nat.mul_lt_mul_of_pos_right hy (Nat.two_pow_pos _)
  rw [← Nat.pow_add] at h1
  exact Nat.lt_of_lt_of_le h1 (Nat.pow_le_pow_right (by decide) (by omega : m + k % 8 ≤ 8))
theorem tst_putM (bs : List UInt8) (k m y p : Nat) (hy : y < 2 ^ m) (hm : k % 8 + m ≤ 8) (hk : k / 8 < bs.length) :
    tst (putM bs k y) p = (tst bs p || (decide (k ≤ p) && y.testBit (p - k))) := by
  have hs := small_shift hy hm
  unfold tst putM
  by_cases h : p / 8 = k / 8
  · have hc : (bs.getD (k / 8) 0).toNat < 256 := (bs.getD (k / 8) 0).toNat_lt
    have hx : (bs.getD (k / 8) 0).toNat ||| y * 2 ^ (k % 8) < 2 ^ 8 := Nat.or_lt_two_pow (by omega) (by omega)
    rw [h, show (bs.set (k / 8) (UInt8.ofNat ((bs.getD (k / 8) 0).toNat ||| y * 2 ^ (k % 8)))).getD (k / 8) 0 = UInt8.ofNat ((bs.getD (k / 8) 0).toNat ||| y * 2 ^ (k % 8)) by rw [List.getD_eq_getElem?_getD, List.getElem?_set_self hk]; rfl,
      UInt8.toNat_ofNat', Nat.mod_eq_of_lt hx, Nat.testBit_or, Nat.mul_comm, Nat.testBit_two_pow_mul]
    congr 1
    by_cases e : k ≤ p
    · rw [show p % 8 - k % 8 = p - k by omega]
      have : k % 8 ≤ p % 8 := by omega
      simp [e, this]
    · have : ¬ k % 8 ≤ p % 8 := by omega
      simp [e, this]
  · rw [show (bs.set (k / 8) (UInt8.ofNat ((bs.getD (k / 8) 0).toNat ||| y * 2 ^ (k % 8)))).getD (p / 8) 0 = bs.getD (p / 8) 0 by rw [List.getD_eq_getElem?_getD, List.getElem?_set_ne (Ne.symm h), List.getD_eq_getElem?_getD]]
    by_cases e : k ≤ p
    · have h3 : m ≤ p - k := by omega
      rw [Nat.testBit_lt_two_pow (Nat.lt_of_lt_of_le hy (Nat.pow_le_pow_right (by decide) h3))]
      simp
    · simp [e]
theorem Bt.many {bs : List UInt8} {n k m x : Nat} {f : Nat → Bool} (h : Bt bs n k f) (hm : k % 8 + m ≤ 8) (hk : k / 8 < n) (hf : ∀ j, j < m → f (k + j) = x.testBit j) : Bt (putM bs k (x % 2 ^ m)) n (k + m) f := by
  have hy : x % 2 ^ m < 2 ^ m := Nat.mod_lt _ (Nat.two_pow_pos _)
  refine ⟨by rw [putM_length]; exact h.1, fun p => ?_⟩
  rw [tst_putM _ _ _ _ _ hy hm (by rw [h.1]; exact hk), h.2, Nat.testBit_mod_two_pow]
  by_cases h1 : p < k
  · have h2 : ¬ k ≤ p := by omega
    have h3 : p < k + m := by omega
    simp [h1, h2, h3]
  · by_cases h2 : p < k + m
    · have h3 : k ≤ p := by omega
      have h4 : p - k < m := by omega
      have h5 := hf (p - k) h4
      rw [show k + (p - k) = p by omega] at h5
      simp [h1, h2, h3, h4, h5]
    · have h4 : ¬ p - k < m := by omega
      simp [h1, h2, h4]
theorem Bt.skip {bs : List UInt8} {n k : Nat} {f : Nat → Bool} (h : Bt bs n k f) (hk : f k = false) : Bt bs n (k + 1) f := by
  refine ⟨h.1, fun p => ?_⟩
  rw [h.2 p]
  by_cases e : p = k
  · subst e; simp [hk]
  · have : decide (p < k) = decide (p < k + 1) := by by_cases h1 : p < k <;> simp [h1] <;> omega
    rw [this]
theorem Bt.put {bs : List UInt8} {n k : Nat} {f : Nat → Bool} (h : Bt bs n k f) (hk : f k = true) (hn : k / 8 < n) : Bt (putM bs k 1) n (k + 1) f := by
  have := h.many (m := 1) (x := 1) (by omega) hn (fun j hj => by obtain rfl : j = 0 := by omega
                                                                 simpa using hk)
  simpa using this
theorem Bt.low {bs : List UInt8} {n k : Nat} {f : Nat → Bool} (h : Bt bs n k f) (hl : k / 8 < bs.length) : (bs[k / 8]).toNat < 2 ^ (k % 8) := by
  apply Nat.lt_pow_two_of_testBit
  intro i hi
  rcases Nat.lt_or_ge i 8 with h1 | h1
  · rw [← tst_byte bs (k / 8) i hl h1, h.2]
    have : ¬ 8 * (k / 8) + i < k := by omega
    simp [this]
  · exact Nat.testBit_lt_two_pow (Nat.lt_of_lt_of_le (bs[k / 8]).toNat_lt (Nat.pow_le_pow_right (by decide) h1))
/-- How many bits numbers need. -/
def widN (l : List Nat) : Nat := l.foldl (fun w x => max w (Lib.bitLen x)) 0
theorem bitLen_iff (x k : Nat) (h : x < 2 ^ 64) : Lib.bitLen x ≤ k ↔ x < 2 ^ k := ⟨lt_bitLen k x h, bitLen_lt x k⟩
theorem widN_snoc (l : List Nat) (x : Nat) : widN (l ++ [x]) = max (widN l) (Lib.bitLen x) := by simp [widN]
theorem foldmax_le (k : Nat) : ∀ (l : List Nat) (a : Nat), l.foldl (fun w x => max w (Lib.bitLen x)) a ≤ k ↔ a ≤ k ∧ ∀ x ∈ l, Lib.bitLen x ≤ k
  | [], a => by simp
  | x :: l, a => by
    rw [List.foldl_cons, foldmax_le k l]
    simp only [List.mem_cons, forall_eq_or_imp, Nat.max_le, and_assoc]
theorem widN_le (l : List Nat) (k : Nat) (h : ∀ x ∈ l, x < 2 ^ 64) : widN l ≤ k ↔ ∀ x ∈ l, x < 2 ^ k := by
  unfold widN
  rw [foldmax_le]
  constructor
  · intro ⟨_, h1⟩ x hx; exact (bitLen_iff x k (h x hx)).1 (h1 x hx)
  · intro h1; exact ⟨by omega, fun x hx => (bitLen_iff x k (h x hx)).2 (h1 x hx)⟩
theorem widN_le64 (l : List Nat) : widN l ≤ 64 := by
  unfold widN
  rw [foldmax_le]
  exact ⟨by omega, fun x _ => bitLen_le64 x⟩
def orL (l : List Nat) : Nat := l.foldl (· ||| ·) 0
theorem orL_snoc (l : List Nat) (x : Nat) : orL (l ++ [x]) = orL l ||| x := by simp [orL]
theorem foldor_lt (k : Nat) : ∀ (l : List Nat) (a : Nat), l.foldl (· ||| ·) a < 2 ^ k ↔ a < 2 ^ k ∧ ∀ x ∈ l, x < 2 ^ k
  | [], a => by simp
  | x :: l, a => by
    rw [List.foldl_cons, foldor_lt k l]
    simp only [List.mem_cons, forall_eq_or_imp]
    constructor
    · intro ⟨h1, h2⟩
      exact ⟨Nat.lt_of_le_of_lt Nat.left_le_or h1, Nat.lt_of_le_of_lt Nat.right_le_or h1, h2⟩
    · intro ⟨h1, h2, h3⟩
      exact ⟨Nat.or_lt_two_pow h1 h2, h3⟩
theorem orL_lt (l : List Nat) (k : Nat) : orL l < 2 ^ k ↔ ∀ x ∈ l, x < 2 ^ k := by
  unfold orL
  rw [foldor_lt]
  simp [Nat.two_pow_pos]
theorem orL_len (l : List Nat) (h : ∀ x ∈ l, x < 2 ^ 64) : Lib.bitLen (orL l) = widN l := by
  have ho : orL l < 2 ^ 64 := (orL_lt l 64).2 h
  apply Nat.le_antisymm
  · exact (bitLen_iff _ _ ho).2 ((orL_lt l _).2 ((widN_le l _ h).1 (Nat.le_refl _)))
  · exact (widN_le l _ h).2 ((orL_lt l _).1 ((bitLen_iff _ _ ho).1 (Nat.le_refl _)))
/-- What Bytes says. -/
def bytN (many width : Int) : Int := if many < 0 ∨ width < 0 ∨ 64 < width then 0 else if 4096 < many then 0 else (many * width + 7) / 8
def bytE (many width : Int) : Int := if many < 0 ∨ width < 0 ∨ 64 < width then 1 else if 4096 < many then 3 else 0
/-- What Pack says. -/
def packE (l : List Nat) (width : Int) : Int := if bytE l.length width ≠ 0 then bytE l.length width else if width < (widN l : Int) then 8 else 0
def packR (l : List Nat) (width : Int) : List UInt8 := if packE l width = 0 then packB l width.toNat else []
/-- What Unpack says. -/
def unpE (b : List UInt8) (many width : Int) : Int := if bytE many width ≠ 0 then bytE many width else if (b.length : Int) ≠ bytN many width then 6 else if packB (unpN b many.toNat width.toNat) width.toNat = b then 0 else 6
def unpR (b : List UInt8) (many width : Int) : List Nat := if unpE b many width = 0 then unpN b many.toNat width.toNat else []
/-- Numbers as cells. -/
def ucells (l : List Nat) : List Value := l.map fun (n : Nat) => Value.int .u64 (n : Int)
theorem ucells_length (l : List Nat) : (ucells l).length = l.length := by simp [ucells]
theorem ucells_append (a b : List Nat) : ucells (a ++ b) = ucells a ++ ucells b := by simp [ucells]
theorem ucells_one (l : List Nat) : ∀ u ∈ ucells l, u.oneCell' = true := by
  intro u hu; obtain ⟨_, _, rfl⟩ := List.mem_map.1 hu; rfl
def OwnU (w0 w : World) (v : Value) (n : Nat) (l : List Nat) : Prop := Own w0 w 47 1 v n (ucells l)
theorem OwnU.length {w0 w : World} {v : Value} {n : Nat} {l : List Nat} (h : OwnU w0 w v n l) : l.length = n := by
  have := Own.length h; simpa [ucells_length] using this
/-- Bytes of the call's own, and why not. -/
def RetP (w0 : World) (l : List UInt8) (er : Int) (e : Ending) (w : World) : Prop := ∃ ao n cap, l.length = n ∧ e = .returned (.tuple #[.slice ao n cap, .int .i64 er]) ∧ OwnB w0 w (.slice ao n cap) n l
/-- Numbers of the call's own, and why not. -/
def RetU (w0 : World) (l : List Nat) (er : Int) (e : Ending) (w : World) : Prop := ∃ ao n cap, l.length = n ∧ e = .returned (.tuple #[.slice ao n cap, .int .i64 er]) ∧ OwnU w0 w (.slice ao n cap) n l
end Go.Proofs.Ytcjnehlbkjpgbaa
