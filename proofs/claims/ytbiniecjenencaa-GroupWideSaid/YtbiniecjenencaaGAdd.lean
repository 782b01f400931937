/- Wide numbers. -/
import Derived.Test.YtbiniecjenencaaBase
import Derived.Test.YtbiniecjenencaaAt
import Derived.Test.YtbiniecjenencaaVal
import Derived.Laws.Externs
set_option linter.unusedVariables false
set_option linter.unusedSimpArgs false
set_option maxRecDepth 10000
namespace Go.Proofs.Ytbiniecjenencaa
open Go.RowKit
theorem add64 (x y : Int) (hx : 0 ≤ x) (hy : 0 ≤ y) (w : World) : (callFunc 29 #[.int .u64 x, .int .u64 y, .int .u64 0]).run Try.prog w =
    .ok (.value (.tuple #[.int .u64 ((x + y) % 18446744073709551616), .int .u64 ((x + y) / 18446744073709551616)])) w := by
  rw [run_callFunc_extern Try.func29 (by kernel_rfl) (by kernel_rfl) (by kernel_rfl) (e := add64Entry) (by kernel_rfl), run_add64 x y 0 hx hy (by omega) (by omega), Int.add_zero]
  rfl
/-- A number's 64 bits. -/
def u64 (n : Int) : Int := n % 18446744073709551616
theorem u64_wrap (n : Int) : IntKind.u64.wrap n = u64 n := by
  have h1 : (2 : Int) ^ IntKind.u64.bits = 18446744073709551616 := by decide
  unfold IntKind.wrap u64
  rw [h1]
  rfl
theorem u64_lo (n : Int) : 0 ≤ u64 n := by unfold u64; omega
theorem u64_hi (n : Int) : u64 n ≤ 18446744073709551615 := by unfold u64; omega
/-- A wide number and another one. -/
def addH (hi lo n : Int) : Int := wrap64 (wrap64 (hi + n / 9223372036854775808) + wrap64 ((lo + u64 n) / 18446744073709551616))
def addL (lo n : Int) : Int := (lo + u64 n) % 18446744073709551616
set_option maxHeartbeats 1000000 in
theorem gadd_any (hi lo n : Int) (w : World) (l1 : 0 ≤ lo) (l2 : lo ≤ 18446744073709551615) :
    Calls Try.prog 15 #[.agg #[.int .i64 hi, .int .u64 lo], .int .i64 n] w (fun e w' => e = .returned (.agg #[.int .i64 (addH hi lo n), .int .u64 (addL lo n)]) ∧ Below w.heap.size w w') := by
  have hw : 0 ≤ IntKind.u64.wrap n := by rw [u64_wrap]; exact u64_lo n
  unfold addH addL
  rw [← u64_wrap n]
  go_enter Try.func15, Try.ntmps15
  go_wp2_with (simp only [add64 lo (IntKind.u64.wrap n) l1 hw])
  exact bodyPost_ret (v := .agg #[.int .i64 (wrap64 (wrap64 (hi + n / 9223372036854775808) + wrap64 ((lo + IntKind.u64.wrap n) / 18446744073709551616))), .int .u64 ((lo + IntKind.u64.wrap n) % 18446744073709551616)]) (by simp [results, Try.results15, go_sem]) rfl ⟨rfl, ((Below.refl _ _).alloc (Nat.le_refl _) _).alloc (by simp) _⟩
/-- The number that a wide one is. -/
def narN (hi lo : Int) : Int := if hi = wrap64 lo / 9223372036854775808 then wrap64 lo else 0
def narB (hi lo : Int) : Bool := decide (hi = wrap64 lo / 9223372036854775808)
theorem gnarrow_any (hi lo : Int) (w : World) :
    Calls Try.prog 16 #[.agg #[.int .i64 hi, .int .u64 lo]] w (fun e w' => e = .returned (.tuple #[.int .i64 (narN hi lo), .bool (narB hi lo)]) ∧ Below w.heap.size w w') := by
  have b := (Below.refl w.heap.size w).alloc (Nat.le_refl _) (.cells #[.int .i64 hi, .int .u64 lo] 45)
  by_cases h : hi = wrap64 lo / 9223372036854775808
  · have hb : (hi != wrap64 lo / 9223372036854775808) = false := by simp [← h]
    have e1 : narN hi lo = wrap64 lo := if_pos h
    have e2 : narB hi lo = true := decide_eq_true h
    rw [e1, e2]
    clear h e1 e2
    go_enter Try.func16, Try.ntmps16
    go_wp2_with (first | (at_make; refine Stop.un ?_) | (at_builtin; refine Stop.un ?_) | (with_reducible refine Stop.conv 22 9 ?_) | (with_reducible refine Stop.conv 9 22 ?_))
    exact bodyPost_ret (v := .tuple #[.int .i64 (wrap64 lo), .bool true]) (by simp [results, Try.results16, go_sem]) rfl ⟨rfl, b⟩
  · have hb : (hi != wrap64 lo / 9223372036854775808) = true := by simp [h]
    have e1 : narN hi lo = 0 := if_neg h
    have e2 : narB hi lo = false := decide_eq_false h
    rw [e1, e2]
    clear h e1 e2
    go_enter Try.func16, Try.ntmps16
    go_wp2_with (first | (at_make; refine Stop.un ?_) | (at_builtin; refine Stop.un ?_) | (with_reducible refine Stop.conv 22 9 ?_) | (with_reducible refine Stop.conv 9 22 ?_))
    exact bodyPost_ret (v := .tuple #[.int .i64 0, .bool false]) (by simp [results, Try.results16, go_sem]) rfl ⟨rfl, b⟩
set_option maxHeartbeats 1000000 in
theorem radd_any (hi lo n : Int) (w : World) (h1 : -9223372036854775808 ≤ hi) (h2 : hi ≤ 9223372036854775807) (l1 : 0 ≤ lo) (l2 : lo ≤ 18446744073709551615) (n1 : -9223372036854775808 ≤ n) (n2 : n ≤ 9223372036854775807) :
    Calls Try.prog 18 #[.agg #[.int .i64 hi, .int .u64 lo], .int .i64 n] w (fun e w' => e = .returned (.agg #[.int .i64 (addH hi lo n), .int .u64 (addL lo n)]) ∧ Below w.heap.size w w') := by
  have eL : addL lo n = IntKind.u64.wrap (lo + IntKind.u64.wrap n) := by rw [u64_wrap, u64_wrap]; rfl
  have key : ∀ x : Int, addH hi lo n = x → Calls Try.prog 18 #[.agg #[.int .i64 hi, .int .u64 lo], .int .i64 n] w (fun e w' => e = .returned (.agg #[.int .i64 x, .int .u64 (IntKind.u64.wrap (lo + IntKind.u64.wrap n))]) ∧ Below w.heap.size w w') → Calls Try.prog 18 #[.agg #[.int .i64 hi, .int .u64 lo], .int .i64 n] w (fun e w' => e = .returned (.agg #[.int .i64 (addH hi lo n), .int .u64 (addL lo n)]) ∧ Below w.heap.size w w') := fun x hx h => by rw [hx, eL]; exact h
  by_cases hc : IntKind.u64.wrap (lo + IntKind.u64.wrap n) < lo
  ·
    by_cases hn : n < 0
    ·
      refine key (wrap64 (wrap64 (hi + 1) - 1)) (by
        rw [u64_wrap, u64_wrap] at hc
        unfold addH wrap64 u64 at *
        omega) ?_
      have hc2 : decide (IntKind.u64.wrap (lo + IntKind.u64.wrap n) < lo) = true := decide_eq_true hc
      have hn2 : decide (n < 0) = true := decide_eq_true hn
      clear key eL hc hn h1 h2 l1 l2 n1 n2
      go_enter Try.func18, Try.ntmps18
      go_wp2_with (first | (at_make; refine Stop.un ?_) | (at_builtin; refine Stop.un ?_) | (with_reducible refine Stop.conv 22 9 ?_) | (with_reducible refine Stop.conv 9 22 ?_))
      exact bodyPost_ret (v := .agg #[.int .i64 (wrap64 (wrap64 (hi + 1) - 1)), .int .u64 (IntKind.u64.wrap (lo + IntKind.u64.wrap n))]) (by simp [results, Try.results18, go_sem]) rfl ⟨rfl, ((Below.refl _ _).alloc (Nat.le_refl _) _).alloc (by simp) _⟩
    ·
      refine key (wrap64 (hi + 1)) (by
        rw [u64_wrap, u64_wrap] at hc
        unfold addH wrap64 u64 at *
        omega) ?_
      have hc2 : decide (IntKind.u64.wrap (lo + IntKind.u64.wrap n) < lo) = true := decide_eq_true hc
      have hn2 : decide (n < 0) = false := decide_eq_false hn
      clear key eL hc hn h1 h2 l1 l2 n1 n2
      go_enter Try.func18, Try.ntmps18
      go_wp2_with (first | (at_make; refine Stop.un ?_) | (at_builtin; refine Stop.un ?_) | (with_reducible refine Stop.conv 22 9 ?_) | (with_reducible refine Stop.conv 9 22 ?_))
      exact bodyPost_ret (v := .agg #[.int .i64 (wrap64 (hi + 1)), .int .u64 (IntKind.u64.wrap (lo + IntKind.u64.wrap n))]) (by simp [results, Try.results18, go_sem]) rfl ⟨rfl, ((Below.refl _ _).alloc (Nat.le_refl _) _).alloc (by simp) _⟩
  ·
    by_cases hn : n < 0
    ·
      refine key (wrap64 (hi - 1)) (by
        rw [u64_wrap, u64_wrap] at hc
        unfold addH wrap64 u64 at *
        omega) ?_
      have hc2 : decide (IntKind.u64.wrap (lo + IntKind.u64.wrap n) < lo) = false := decide_eq_false hc
      have hn2 : decide (n < 0) = true := decide_eq_true hn
      clear key eL hc hn h1 h2 l1 l2 n1 n2
      go_enter Try.func18, Try.ntmps18
      go_wp2_with (first | (at_make; refine Stop.un ?_) | (at_builtin; refine Stop.un ?_) | (with_reducible refine Stop.conv 22 9 ?_) | (with_reducible refine Stop.conv 9 22 ?_))
      exact bodyPost_ret (v := .agg #[.int .i64 (wrap64 (hi - 1)), .int .u64 (IntKind.u64.wrap (lo + IntKind.u64.wrap n))]) (by simp [results, Try.results18, go_sem]) rfl ⟨rfl, ((Below.refl _ _).alloc (Nat.le_refl _) _).alloc (by simp) _⟩
    ·
      refine key hi (by
        rw [u64_wrap, u64_wrap] at hc
        unfold addH wrap64 u64 at *
        omega) ?_
      have hc2 : decide (IntKind.u64.wrap (lo + IntKind.u64.wrap n) < lo) = false := decide_eq_false hc
      have hn2 : decide (n < 0) = false := decide_eq_false hn
      clear key eL hc hn h1 h2 l1 l2 n1 n2
      go_enter Try.func18, Try.ntmps18
      go_wp2_with (first | (at_make; refine Stop.un ?_) | (at_builtin; refine Stop.un ?_) | (with_reducible refine Stop.conv 22 9 ?_) | (with_reducible refine Stop.conv 9 22 ?_))
      exact bodyPost_ret (v := .agg #[.int .i64 hi, .int .u64 (IntKind.u64.wrap (lo + IntKind.u64.wrap n))]) (by simp [results, Try.results18, go_sem]) rfl ⟨rfl, ((Below.refl _ _).alloc (Nat.le_refl _) _).alloc (by simp) _⟩
set_option maxHeartbeats 1000000 in
theorem rnarrow_any (hi lo : Int) (w : World) (l1 : 0 ≤ lo) (l2 : lo ≤ 18446744073709551615) :
    Calls Try.prog 17 #[.agg #[.int .i64 hi, .int .u64 lo]] w (fun e w' => e = .returned (.tuple #[.int .i64 (narN hi lo), .bool (narB hi lo)]) ∧ Below w.heap.size w w') := by
  have b := (Below.refl w.heap.size w).alloc (Nat.le_refl _) (.cells #[.int .i64 hi, .int .u64 lo] 45)
  have key : ∀ (x : Int) (y : Bool), narN hi lo = x → narB hi lo = y → Calls Try.prog 17 #[.agg #[.int .i64 hi, .int .u64 lo]] w (fun e w' => e = .returned (.tuple #[.int .i64 x, .bool y]) ∧ Below w.heap.size w w') → Calls Try.prog 17 #[.agg #[.int .i64 hi, .int .u64 lo]] w (fun e w' => e = .returned (.tuple #[.int .i64 (narN hi lo), .bool (narB hi lo)]) ∧ Below w.heap.size w w') := fun x y hx hy h => by rw [hx, hy]; exact h
  by_cases h0 : hi = 0
  ·
    subst h0
    by_cases hl : lo < 9223372036854775808
    ·
      refine key (wrap64 lo) true (by unfold narN; exact if_pos (by unfold wrap64; omega)) (decide_eq_true (by unfold wrap64; omega)) ?_
      have hl2 : decide (lo < 9223372036854775808) = true := decide_eq_true hl
      have hl3 : decide (9223372036854775808 ≤ lo) = false := decide_eq_false (by omega)
      clear key hl l1 l2
      go_enter Try.func17, Try.ntmps17
      go_wp2_with (first | (at_make; refine Stop.un ?_) | (at_builtin; refine Stop.un ?_) | (with_reducible refine Stop.conv 22 9 ?_) | (with_reducible refine Stop.conv 9 22 ?_))
      exact bodyPost_ret (v := .tuple #[.int .i64 (wrap64 lo), .bool true]) (by simp [results, Try.results17, go_sem]) rfl ⟨rfl, b⟩
    ·
      refine key 0 false (by unfold narN; exact if_neg (by unfold wrap64; omega)) (decide_eq_false (by unfold wrap64; omega)) ?_
      have hl2 : decide (lo < 9223372036854775808) = false := decide_eq_false hl
      have hl3 : decide (9223372036854775808 ≤ lo) = true := decide_eq_true (by omega)
      clear key hl l1 l2
      go_enter Try.func17, Try.ntmps17
      go_wp2_with (first | (at_make; refine Stop.un ?_) | (at_builtin; refine Stop.un ?_) | (with_reducible refine Stop.conv 22 9 ?_) | (with_reducible refine Stop.conv 9 22 ?_))
      exact bodyPost_ret (v := .tuple #[.int .i64 0, .bool false]) (by simp [results, Try.results17, go_sem]) rfl ⟨rfl, b⟩
  ·
    by_cases h1 : hi = -1
    ·
      subst h1
      clear h0
      by_cases hl : lo < 9223372036854775808
      ·
        refine key 0 false (by unfold narN; exact if_neg (by unfold wrap64; omega)) (decide_eq_false (by unfold wrap64; omega)) ?_
        have hl2 : decide (lo < 9223372036854775808) = true := decide_eq_true hl
        have hl3 : decide (9223372036854775808 ≤ lo) = false := decide_eq_false (by omega)
        clear key hl l1 l2
        go_enter Try.func17, Try.ntmps17
        go_wp2_with (first | (at_make; refine Stop.un ?_) | (at_builtin; refine Stop.un ?_) | (with_reducible refine Stop.conv 22 9 ?_) | (with_reducible refine Stop.conv 9 22 ?_))
        exact bodyPost_ret (v := .tuple #[.int .i64 0, .bool false]) (by simp [results, Try.results17, go_sem]) rfl ⟨rfl, b⟩
      ·
        refine key (wrap64 lo) true (by unfold narN; exact if_pos (by unfold wrap64; omega)) (decide_eq_true (by unfold wrap64; omega)) ?_
        have hl2 : decide (lo < 9223372036854775808) = false := decide_eq_false hl
        have hl3 : decide (9223372036854775808 ≤ lo) = true := decide_eq_true (by omega)
        clear key hl l1 l2
        go_enter Try.func17, Try.ntmps17
        go_wp2_with (first | (at_make; refine Stop.un ?_) | (at_builtin; refine Stop.un ?_) | (with_reducible refine Stop.conv 22 9 ?_) | (with_reducible refine Stop.conv 9 22 ?_))
        exact bodyPost_ret (v := .tuple #[.int .i64 (wrap64 lo), .bool true]) (by simp [results, Try.results17, go_sem]) rfl ⟨rfl, b⟩
    ·
      by_cases hl : lo < 9223372036854775808
      ·
        refine key 0 false (by unfold narN; exact if_neg (by unfold wrap64; omega)) (decide_eq_false (by unfold wrap64; omega)) ?_
        have hl2 : decide (lo < 9223372036854775808) = true := decide_eq_true hl
        have hl3 : decide (9223372036854775808 ≤ lo) = false := decide_eq_false (by omega)
        have hb0 : (hi == 0) = false := by simpa using h0
        have hb1 : (hi == -1) = false := by simpa using h1
        clear key hl l1 l2
        go_enter Try.func17, Try.ntmps17
        go_wp2_with (first | (at_make; refine Stop.un ?_) | (at_builtin; refine Stop.un ?_) | (with_reducible refine Stop.conv 22 9 ?_) | (with_reducible refine Stop.conv 9 22 ?_))
        exact bodyPost_ret (v := .tuple #[.int .i64 0, .bool false]) (by simp [results, Try.results17, go_sem]) rfl ⟨rfl, b⟩
      ·
        refine key 0 false (by unfold narN; exact if_neg (by unfold wrap64; omega)) (decide_eq_false (by unfold wrap64; omega)) ?_
        have hl2 : decide (lo < 9223372036854775808) = false := decide_eq_false hl
        have hl3 : decide (9223372036854775808 ≤ lo) = true := decide_eq_true (by omega)
        have hb0 : (hi == 0) = false := by simpa using h0
        have hb1 : (hi == -1) = false := by simpa using h1
        clear key hl l1 l2
        go_enter Try.func17, Try.ntmps17
        go_wp2_with (first | (at_make; refine Stop.un ?_) | (at_builtin; refine Stop.un ?_) | (with_reducible refine Stop.conv 22 9 ?_) | (with_reducible refine Stop.conv 9 22 ?_))
        exact bodyPost_ret (v := .tuple #[.int .i64 0, .bool false]) (by simp [results, Try.results17, go_sem]) rfl ⟨rfl, b⟩
theorem gnumber_any (n : Int) (w : World) :
    Calls Try.prog 55 #[.int .i64 n] w (fun e w' => e = .returned (.agg #[.int .u8 2, .int .i64 n, .string ⟨#[]⟩]) ∧ Below w.heap.size w w') := by
  go_enter Try.func55, Try.ntmps55
  go_wp2_with (first | (at_make; refine Stop.un ?_) | (at_builtin; refine Stop.un ?_) | (with_reducible refine Stop.conv 22 9 ?_) | (with_reducible refine Stop.conv 9 22 ?_))
  exact bodyPost_ret (v := .agg #[.int .u8 2, .int .i64 n, .string ⟨#[]⟩]) (by simp [results, Try.results55, go_sem]) rfl ⟨rfl, ((Below.refl _ _).alloc (Nat.le_refl _) _)⟩
end Go.Proofs.Ytbiniecjenencaa
