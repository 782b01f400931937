/- Wide numbers. -/
import Derived.Test.YtbiniecjenencaaBase
import Derived.Test.YtbiniecjenencaaAt
import Derived.Test.YtbiniecjenencaaVal
import Derived.Laws.Externs
import Derived.Test.YtbiniecjenencaaRow
import Derived.Test.YtbiniecjenencaaOOwn
import Derived.Test.YtbiniecjenencaaForms
import Derived.Test.YtbiniecjenencaaVAt
import Derived.Test.YtbiniecjenencaaAppK
set_option linter.unusedVariables false
set_option linter.unusedSimpArgs false
set_option maxRecDepth 10000
namespace Go.Proofs.Ytbiniecjenencaa
open Go.RowKit
/-! Wide numbers. -/
theorem add64 (x y : Int) (hx : 0 ≤ x) (hy : 0 ≤ y) (w : World) : (callFunc 29 #[.int .u64 x, .int .u64 y, .int .u64 0]).run Try.prog w =
    .ok (.value (.tuple #[.int .u64 ((x + y) % 18446744073709551616), .int .u64 ((x + y) / 18446744073709551616)])) w := by
  rw [run_callFunc_extern Try.func29 (by kernel_rfl) (by kernel_rfl) (by kernel_rfl) (e := add64Entry) (by kernel_rfl), run_add64 x y 0 hx hy (by omega) (by omega), Int.add_zero]
  rfl
/-- A number's 64 bits. -/
def u64 (n : Int) : Int := n % 18446744073709551616
theorem u64_wrap (n : Int) : IntKind.u64.wrap n = u64 n := by
  have h1 : (2 : Int) ^ IntKind.u64.bits = 18446744073709551616 := by decide
  unfold IntKind.wrap u64
  rw [h1]
  rfl
theorem u64_lo (n : Int) : 0 ≤ u64 n := by unfold u64; omega
theorem u64_hi (n : Int) : u64 n ≤ 18446744073709551615 := by unfold u64; omega
/-- A wide number and another one. -/
def addH (hi lo n : Int) : Int := wrap64 (wrap64 (hi + n / 9223372036854775808) + wrap64 ((lo + u64 n) / 18446744073709551616))
def addL (lo n : Int) : Int := (lo + u64 n) % 18446744073709551616
set_option maxHeartbeats 1000000 in
theorem gadd_any (hi lo n : Int) (w : World) (l1 : 0 ≤ lo) (l2 : lo ≤ 18446744073709551615) :
    Calls Try.prog 15 #[.agg #[.int .i64 hi, .int .u64 lo], .int .i64 n] w (fun e w' => e = .returned (.agg #[.int .i64 (addH hi lo n), .int .u64 (addL lo n)]) ∧ Below w.heap.size w w') := by
  have hw : 0 ≤ IntKind.u64.wrap n := by rw [u64_wrap]; exact u64_lo n
  unfold addH addL
  rw [← u64_wrap n]
  go_enter Try.func15, Try.ntmps15
  go_wp2_with (simp only [add64 lo (IntKind.u64.wrap n) l1 hw])
  exact bodyPost_ret (v := .agg #[.int .i64 (wrap64 (wrap64 (hi + n / 9223372036854775808) + wrap64 ((lo + IntKind.u64.wrap n) / 18446744073709551616))), .int .u64 ((lo + IntKind.u64.wrap n) % 18446744073709551616)]) (by simp [results, Try.results15, go_sem]) rfl ⟨rfl, ((Below.refl _ _).alloc (Nat.le_refl _) _).alloc (by simp) _⟩
/-- The number that a wide one is. -/
def narN (hi lo : Int) : Int := if hi = wrap64 lo / 9223372036854775808 then wrap64 lo else 0
def narB (hi lo : Int) : Bool := decide (hi = wrap64 lo / 9223372036854775808)
theorem gnarrow_any (hi lo : Int) (w : World) :
    Calls Try.prog 16 #[.agg #[.int .i64 hi, .int .u64 lo]] w (fun e w' => e = .returned (.tuple #[.int .i64 (narN hi lo), .bool (narB hi lo)]) ∧ Below w.heap.size w w') := by
  have b := (Below.refl w.heap.size w).alloc (Nat.le_refl _) (.cells #[.int .i64 hi, .int .u64 lo] 45)
  by_cases h : hi = wrap64 lo / 9223372036854775808
  · have hb : (hi != wrap64 lo / 9223372036854775808) = false := by simp [← h]
    have e1 : narN hi lo = wrap64 lo := if_pos h
    have e2 : narB hi lo = true := decide_eq_true h
    rw [e1, e2]
    clear h e1 e2
    go_enter Try.func16, Try.ntmps16
    go_wp2_with (first | (at_make; refine Stop.un ?_) | (at_builtin; refine Stop.un ?_) | (with_reducible refine Stop.conv 22 9 ?_) | (with_reducible refine Stop.conv 9 22 ?_))
    exact bodyPost_ret (v := .tuple #[.int .i64 (wrap64 lo), .bool true]) (by simp [results, Try.results16, go_sem]) rfl ⟨rfl, b⟩
  · have hb : (hi != wrap64 lo / 9223372036854775808) = true := by simp [h]
    have e1 : narN hi lo = 0 := if_neg h
    have e2 : narB hi lo = false := decide_eq_false h
    rw [e1, e2]
    clear h e1 e2
    go_enter Try.func16, Try.ntmps16
    go_wp2_with (first | (at_make; refine Stop.un ?_) | (at_builtin; refine Stop.un ?_) | (with_reducible refine Stop.conv 22 9 ?_) | (with_reducible refine Stop.conv 9 22 ?_))
    exact bodyPost_ret (v := .tuple #[.int .i64 0, .bool false]) (by simp [results, Try.results16, go_sem]) rfl ⟨rfl, b⟩
set_option maxHeartbeats 1000000 in
theorem radd_any (hi lo n : Int) (w : World) (h1 : -9223372036854775808 ≤ hi) (h2 : hi ≤ 9223372036854775807) (l1 : 0 ≤ lo) (l2 : lo ≤ 18446744073709551615) (n1 : -9223372036854775808 ≤ n) (n2 : n ≤ 9223372036854775807) :
    Calls Try.prog 18 #[.agg #[.int .i64 hi, .int .u64 lo], .int .i64 n] w (fun e w' => e = .returned (.agg #[.int .i64 (addH hi lo n), .int .u64 (addL lo n)]) ∧ Below w.heap.size w w') := by
  have eL : addL lo n = IntKind.u64.wrap (lo + IntKind.u64.wrap n) := by rw [u64_wrap, u64_wrap]; rfl
  have key : ∀ x : Int, addH hi lo n = x → Calls Try.prog 18 #[.agg #[.int .i64 hi, .int .u64 lo], .int .i64 n] w (fun e w' => e = .returned (.agg #[.int .i64 x, .int .u64 (IntKind.u64.wrap (lo + IntKind.u64.wrap n))]) ∧ Below w.heap.size w w') → Calls Try.prog 18 #[.agg #[.int .i64 hi, .int .u64 lo], .int .i64 n] w (fun e w' => e = .returned (.agg #[.int .i64 (addH hi lo n), .int .u64 (addL lo n)]) ∧ Below w.heap.size w w') := fun x hx h => by rw [hx, eL]; exact h
  by_cases hc : IntKind.u64.wrap (lo + IntKind.u64.wrap n) < lo
  ·
    by_cases hn : n < 0
    ·
      refine key (wrap64 (wrap64 (hi + 1) - 1)) (by
        rw [u64_wrap, u64_wrap] at hc
        unfold addH wrap64 u64 at *
        omega) ?_
      have hc2 : decide (IntKind.u64.wrap (lo + IntKind.u64.wrap n) < lo) = true := decide_eq_true hc
      have hn2 : decide (n < 0) = true := decide_eq_true hn
      clear key eL hc hn h1 h2 l1 l2 n1 n2
      go_enter Try.func18, Try.ntmps18
      go_wp2_with (first | (at_make; refine Stop.un ?_) | (at_builtin; refine Stop.un ?_) | (with_reducible refine Stop.conv 22 9 ?_) | (with_reducible refine Stop.conv 9 22 ?_))
      exact bodyPost_ret (v := .agg #[.int .i64 (wrap64 (wrap64 (hi + 1) - 1)), .int .u64 (IntKind.u64.wrap (lo + IntKind.u64.wrap n))]) (by simp [results, Try.results18, go_sem]) rfl ⟨rfl, ((Below.refl _ _).alloc (Nat.le_refl _) _).alloc (by simp) _⟩
    ·
      refine key (wrap64 (hi + 1)) (by
        rw [u64_wrap, u64_wrap] at hc
        unfold addH wrap64 u64 at *
        omega) ?_
      have hc2 : decide (IntKind.u64.wrap (lo + IntKind.u64.wrap n) < lo) = true := decide_eq_true hc
      have hn2 : decide (n < 0) = false := decide_eq_false hn
      clear key eL hc hn h1 h2 l1 l2 n1 n2
      go_enter Try.func18, Try.ntmps18
      go_wp2_with (first | (at_make; refine Stop.un ?_) | (at_builtin; refine Stop.un ?_) | (with_reducible refine Stop.conv 22 9 ?_) | (with_reducible refine Stop.conv 9 22 ?_))
      exact bodyPost_ret (v := .agg #[.int .i64 (wrap64 (hi + 1)), .int .u64 (IntKind.u64.wrap (lo + IntKind.u64.wrap n))]) (by simp [results, Try.results18, go_sem]) rfl ⟨rfl, ((Below.refl _ _).alloc (Nat.le_refl _) _).alloc (by simp) _⟩
  ·
    by_cases hn : n < 0
    ·
      refine key (wrap64 (hi - 1)) (by
        rw [u64_wrap, u64_wrap] at hc
        unfold addH wrap64 u64 at *
        omega) ?_
      have hc2 : decide (IntKind.u64.wrap (lo + IntKind.u64.wrap n) < lo) = false := decide_eq_false hc
      have hn2 : decide (n < 0) = true := decide_eq_true hn
      clear key eL hc hn h1 h2 l1 l2 n1 n2
      go_enter Try.func18, Try.ntmps18
      go_wp2_with (first | (at_make; refine Stop.un ?_) | (at_builtin; refine Stop.un ?_) | (with_reducible refine Stop.conv 22 9 ?_) | (with_reducible refine Stop.conv 9 22 ?_))
      exact bodyPost_ret (v := .agg #[.int .i64 (wrap64 (hi - 1)), .int .u64 (IntKind.u64.wrap (lo + IntKind.u64.wrap n))]) (by simp [results, Try.results18, go_sem]) rfl ⟨rfl, ((Below.refl _ _).alloc (Nat.le_refl _) _).alloc (by simp) _⟩
    ·
      refine key hi (by
        rw [u64_wrap, u64_wrap] at hc
        unfold addH wrap64 u64 at *
        omega) ?_
      have hc2 : decide (IntKind.u64.wrap (lo + IntKind.u64.wrap n) < lo) = false := decide_eq_false hc
      have hn2 : decide (n < 0) = false := decide_eq_false hn
      clear key eL hc hn h1 h2 l1 l2 n1 n2
      go_enter Try.func18, Try.ntmps18
      go_wp2_with (first | (at_make; refine Stop.un ?_) | (at_builtin; refine Stop.un ?_) | (with_reducible refine Stop.conv 22 9 ?_) | (with_reducible refine Stop.conv 9 22 ?_))
      exact bodyPost_ret (v := .agg #[.int .i64 hi, .int .u64 (IntKind.u64.wrap (lo + IntKind.u64.wrap n))]) (by simp [results, Try.results18, go_sem]) rfl ⟨rfl, ((Below.refl _ _).alloc (Nat.le_refl _) _).alloc (by simp) _⟩
set_option maxHeartbeats 1000000 in
theorem rnarrow_any (hi lo : Int) (w : World) (l1 : 0 ≤ lo) (l2 : lo ≤ 18446744073709551615) :
    Calls Try.prog 17 #[.agg #[.int .i64 hi, .int .u64 lo]] w (fun e w' => e = .returned (.tuple #[.int .i64 (narN hi lo), .bool (narB hi lo)]) ∧ Below w.heap.size w w') := by
  have b := (Below.refl w.heap.size w).alloc (Nat.le_refl _) (.cells #[.int .i64 hi, .int .u64 lo] 45)
  have key : ∀ (x : Int) (y : Bool), narN hi lo = x → narB hi lo = y → Calls Try.prog 17 #[.agg #[.int .i64 hi, .int .u64 lo]] w (fun e w' => e = .returned (.tuple #[.int .i64 x, .bool y]) ∧ Below w.heap.size w w') → Calls Try.prog 17 #[.agg #[.int .i64 hi, .int .u64 lo]] w (fun e w' => e = .returned (.tuple #[.int .i64 (narN hi lo), .bool (narB hi lo)]) ∧ Below w.heap.size w w') := fun x y hx hy h => by rw [hx, hy]; exact h
  by_cases h0 : hi = 0
  ·
    subst h0
    by_cases hl : lo < 9223372036854775808
    ·
      refine key (wrap64 lo) true (by unfold narN; exact if_pos (by unfold wrap64; omega)) (decide_eq_true (by unfold wrap64; omega)) ?_
      have hl2 : decide (lo < 9223372036854775808) = true := decide_eq_true hl
      have hl3 : decide (9223372036854775808 ≤ lo) = false := decide_eq_false (by omega)
      clear key hl l1 l2
      go_enter Try.func17, Try.ntmps17
      go_wp2_with (first | (at_make; refine Stop.un ?_) | (at_builtin; refine Stop.un ?_) | (with_reducible refine Stop.conv 22 9 ?_) | (with_reducible refine Stop.conv 9 22 ?_))
      exact bodyPost_ret (v := .tuple #[.int .i64 (wrap64 lo), .bool true]) (by simp [results, Try.results17, go_sem]) rfl ⟨rfl, b⟩
    ·
      refine key 0 false (by unfold narN; exact if_neg (by unfold wrap64; omega)) (decide_eq_false (by unfold wrap64; omega)) ?_
      have hl2 : decide (lo < 9223372036854775808) = false := decide_eq_false hl
      have hl3 : decide (9223372036854775808 ≤ lo) = true := decide_eq_true (by omega)
      clear key hl l1 l2
      go_enter Try.func17, Try.ntmps17
      go_wp2_with (first | (at_make; refine Stop.un ?_) | (at_builtin; refine Stop.un ?_) | (with_reducible refine Stop.conv 22 9 ?_) | (with_reducible refine Stop.conv 9 22 ?_))
      exact bodyPost_ret (v := .tuple #[.int .i64 0, .bool false]) (by simp [results, Try.results17, go_sem]) rfl ⟨rfl, b⟩
  ·
    by_cases h1 : hi = -1
    ·
      subst h1
      clear h0
      by_cases hl : lo < 9223372036854775808
      ·
        refine key 0 false (by unfold narN; exact if_neg (by unfold wrap64; omega)) (decide_eq_false (by unfold wrap64; omega)) ?_
        have hl2 : decide (lo < 9223372036854775808) = true := decide_eq_true hl
        have hl3 : decide (9223372036854775808 ≤ lo) = false := decide_eq_false (by omega)
        clear key hl l1 l2
        go_enter Try.func17, Try.ntmps17
        go_wp2_with (first | (at_make; refine Stop.un ?_) | (at_builtin; refine Stop.un ?_) | (with_reducible refine Stop.conv 22 9 ?_) | (with_reducible refine Stop.conv 9 22 ?_))
        exact bodyPost_ret (v := .tuple #[.int .i64 0, .bool false]) (by simp [results, Try.results17, go_sem]) rfl ⟨rfl, b⟩
      ·
        refine key (wrap64 lo) true (by unfold narN; exact if_pos (by unfold wrap64; omega)) (decide_eq_true (by unfold wrap64; omega)) ?_
        have hl2 : decide (lo < 9223372036854775808) = false := decide_eq_false hl
        have hl3 : decide (9223372036854775808 ≤ lo) = true := decide_eq_true (by omega)
        clear key hl l1 l2
        go_enter Try.func17, Try.ntmps17
        go_wp2_with (first | (at_make; refine Stop.un ?_) | (at_builtin; refine Stop.un ?_) | (with_reducible refine Stop.conv 22 9 ?_) | (with_reducible refine Stop.conv 9 22 ?_))
        exact bodyPost_ret (v := .tuple #[.int .i64 (wrap64 lo), .bool true]) (by simp [results, Try.results17, go_sem]) rfl ⟨rfl, b⟩
    ·
      by_cases hl : lo < 9223372036854775808
      ·
        refine key 0 false (by unfold narN; exact if_neg (by unfold wrap64; omega)) (decide_eq_false (by unfold wrap64; omega)) ?_
        have hl2 : decide (lo < 9223372036854775808) = true := decide_eq_true hl
        have hl3 : decide (9223372036854775808 ≤ lo) = false := decide_eq_false (by omega)
        have hb0 : (hi == 0) = false := by simpa using h0
        have hb1 : (hi == -1) = false := by simpa using h1
        clear key hl l1 l2
        go_enter Try.func17, Try.ntmps17
        go_wp2_with (first | (at_make; refine Stop.un ?_) | (at_builtin; refine Stop.un ?_) | (with_reducible refine Stop.conv 22 9 ?_) | (with_reducible refine Stop.conv 9 22 ?_))
        exact bodyPost_ret (v := .tuple #[.int .i64 0, .bool false]) (by simp [results, Try.results17, go_sem]) rfl ⟨rfl, b⟩
      ·
        refine key 0 false (by unfold narN; exact if_neg (by unfold wrap64; omega)) (decide_eq_false (by unfold wrap64; omega)) ?_
        have hl2 : decide (lo < 9223372036854775808) = false := decide_eq_false hl
        have hl3 : decide (9223372036854775808 ≤ lo) = true := decide_eq_true (by omega)
        have hb0 : (hi == 0) = false := by simpa using h0
        have hb1 : (hi == -1) = false := by simpa using h1
        clear key hl l1 l2
        go_enter Try.func17, Try.ntmps17
        go_wp2_with (first | (at_make; refine Stop.un ?_) | (at_builtin; refine Stop.un ?_) | (with_reducible refine Stop.conv 22 9 ?_) | (with_reducible refine Stop.conv 9 22 ?_))
        exact bodyPost_ret (v := .tuple #[.int .i64 0, .bool false]) (by simp [results, Try.results17, go_sem]) rfl ⟨rfl, b⟩
theorem gnumber_any (n : Int) (w : World) :
    Calls Try.prog 55 #[.int .i64 n] w (fun e w' => e = .returned (.agg #[.int .u8 2, .int .i64 n, .string ⟨#[]⟩]) ∧ Below w.heap.size w w') := by
  go_enter Try.func55, Try.ntmps55
  go_wp2_with (first | (at_make; refine Stop.un ?_) | (at_builtin; refine Stop.un ?_) | (with_reducible refine Stop.conv 22 9 ?_) | (with_reducible refine Stop.conv 9 22 ?_))
  exact bodyPost_ret (v := .agg #[.int .u8 2, .int .i64 n, .string ⟨#[]⟩]) (by simp [results, Try.results55, go_sem]) rfl ⟨rfl, ((Below.refl _ _).alloc (Nat.le_refl _) _)⟩
/-! Worlds that are alike but for some blocks. -/
/-- All but blocks of P is as it was. -/
structure Oth (P : Nat → Prop) (w x : World) : Prop where
  os : x.os = w.os
  tape : x.tape = w.tape
  output : x.output = w.output
  size : w.heap.size ≤ x.heap.size
  block : ∀ k, k < w.heap.size → ¬ P k → x.heap[k]? = w.heap[k]?
section
variable {P : Nat → Prop} {w x : World}
theorem Oth.refl (P : Nat → Prop) (w : World) : Oth P w w := ⟨rfl, rfl, rfl, Nat.le_refl _, fun _ _ _ => rfl⟩
theorem Oth.trans {y : World} (h : Oth P w x) (k : Oth P x y) : Oth P w y := ⟨k.os.trans h.os, k.tape.trans h.tape, k.output.trans h.output, Nat.le_trans h.size k.size, fun i hi hn => (k.block i (Nat.lt_of_lt_of_le hi h.size) hn).trans (h.block i hi hn)⟩
theorem Oth.of_below (P : Nat → Prop) (h : Below w.heap.size w x) : Oth P w x := ⟨h.os, h.tape, h.output, h.size, fun k hk _ => h.block k hk⟩
theorem Oth.below {y : World} (h : Oth P w x) (k : Below x.heap.size x y) : Oth P w y := h.trans (Oth.of_below P k)
theorem Oth.set (h : Oth P w x) (a : Addr) (v : Value) (ha : P a.block ∨ w.heap.size ≤ a.block) : Oth P w (x.setCell a v) := by
  refine ⟨h.os, h.tape, h.output, Nat.le_trans h.size (by simp [World.setCell]), fun k hk hn => ?_⟩
  rw [Below.heap_setCell x a v k (fun e => by
    rcases ha with ha | ha
    · exact hn (by rw [e]; exact ha)
    · omega)]
  exact h.block k hk hn
theorem Oth.mono {Q : Nat → Prop} (h : Oth P w x) (hq : ∀ k, k < w.heap.size → P k → Q k) : Oth Q w x := ⟨h.os, h.tape, h.output, h.size, fun k hk hn => h.block k hk (fun hp => hn (hq k hk hp))⟩
/-- A store into blocks that were not there when the call began. -/
theorem Oth.low {B : Nat} (h : Oth P w x) (hp : ∀ k, P k → B ≤ k) (hB : B ≤ w.heap.size) : Below B w x := ⟨h.os, h.tape, h.output, h.size, fun k hk => h.block k (by omega) (fun hpk => by have := hp k hpk; omega)⟩
theorem Oth.at {g : Nat} {cs : Array Value} {t : TypeId} (h : Oth P w x) (z : At w g cs t) (hg : ¬ P g) : At x g cs t := (h.block g z.lt hg).trans z
theorem Oth.cs {ao : Option Addr} {xs : List Value} (h : Oth P w x) (hc : Cs w ao xs) (ha : xs ≠ [] → ∀ a, ao = some a → ¬ P a.block) : Cs x ao xs := by
  intro j u hj
  obtain ⟨b, o, e, hcell⟩ := hc j u hj
  have hne : xs ≠ [] := fun e0 => by rw [e0] at hj; simp at hj
  refine ⟨b, o, e, ?_⟩
  rw [World.cell?_of_block (a := ⟨b, o + j, none⟩) (h.block b (lt_cell hcell) (ha hne _ e))]
  exact hcell
theorem Oth.row {r : Rw} (h : Oth P w x) (o : RowOk w r) (ha : ∀ a, r.a = some a → ¬ P a.block) : RowOk x r := ⟨h.cs o.cs (fun _ => ha), o.len, o.le, o.max, o.kind⟩
theorem Oth.owns {base : Nat} {e : TypeId} {size : Nat} {v : Value} {n : Nat} {xs : List Value} (h : Oth P w x) (o : w.ownsRow base e size v n xs) (ha : ∀ k, v.ownBlock = some k → ¬ P k) : x.ownsRow base e size v n xs := by
  refine ⟨o.1, ?_⟩
  rcases o.2 with hn | ⟨g, cap, cur, rfl, hb, hgg, rest⟩
  · exact .inl hn
  · exact .inr ⟨g, cap, cur, rfl, hb, (h.block g (Array.getElem?_eq_some_iff.1 hgg).1 (ha g rfl)).trans hgg, rest⟩
end
theorem Own.oth {P : Nat → Prop} {w0 w x : World} {e size n : Nat} {v : Value} {xs : List Value} (h : Own w0 w e size v n xs) (o : Oth P w x) (hv : ∀ k, v.ownBlock = some k → ¬ P k) (hP : ∀ k, P k → w0.heap.size ≤ k) : Own w0 x e size v n xs :=
  ⟨o.owns h.1 hv, h.2.trans (o.low hP h.le)⟩
theorem Oth.of_grown {w x : World} {row : Option Nat} (g : w.grownBy x row) : Oth (fun k => row = some k) w x := ⟨g.os, g.tape, g.output, g.size, fun k hk hn => g.block k hk (fun e => hn e.symm)⟩
/-! What is known of a column of a group. -/
/-- What is known of a column of a group so far. -/
structure Kn where
  rows : Int
  some : Int
  hi : Int
  lo : Int
  least : V
  most : V
def Kn.zero : Kn := ⟨0, 0, 0, 0, V.zero, V.zero⟩
def Kn.cells (K : Kn) : Array Value := #[.int .i64 K.rows, .int .i64 K.some, .int .i64 K.hi, .int .u64 K.lo, .int .u8 K.least.k, .int .i64 K.least.n, .string K.least.s, .int .u8 K.most.k, .int .i64 K.most.n, .string K.most.s]
def Kn.add (K : Kn) (v : V) : Kn := if v.k = 0 then ⟨K.rows + 1, K.some, K.hi, K.lo, K.least, K.most⟩ else
  ⟨K.rows + 1, K.some + 1, addH K.hi K.lo v.n, addL K.lo v.n, if K.some = 0 ∨ cmpV v K.least < 0 then v else K.least, if K.some = 0 ∨ 0 < cmpV v K.most then v else K.most⟩
/-- The numbers of it may be. -/
structure Kn.ok (K : Kn) (m : Nat) : Prop where
  r0 : 0 ≤ K.rows
  r1 : K.rows ≤ m
  s0 : 0 ≤ K.some
  s1 : K.some ≤ m
  l0 : 0 ≤ K.lo
  l1 : K.lo ≤ 18446744073709551615
theorem Kn.ok_zero : Kn.zero.ok 0 := ⟨by decide, by decide, by decide, by decide, by decide, by decide⟩
theorem addL_ok (lo n : Int) : 0 ≤ addL lo n ∧ addL lo n ≤ 18446744073709551615 := by unfold addL; omega
theorem Kn.ok_add {K : Kn} {m : Nat} (h : K.ok m) (v : V) : (K.add v).ok (m + 1) := by
  obtain ⟨h1, h2, h3, h4, h5, h6⟩ := h
  have := addL_ok K.lo v.n
  unfold Kn.add
  split
  · exact ⟨by simp only; omega, by simp only; omega, by simp only; omega, by simp only; omega, by simp only; omega, by simp only; omega⟩
  · exact ⟨by simp only; omega, by simp only; omega, by simp only; omega, by simp only; omega, by simp only; omega, by simp only; omega⟩
set_option maxRecDepth 100000 in
set_option maxHeartbeats 8000000 in
theorem kadd_any (K : Kn) (v : V) (g m : Nat) (w : World) (z : At w g K.cells 83) (hK : K.ok m) (hm : m ≤ 1000000) :
    Calls Try.prog 44 #[.pointer (some ⟨g, 0, none⟩), v.val] w (fun e w' => e = .returned (.tuple #[]) ∧ At w' g (K.add v).cells 83 ∧ Oth (fun k => k = g) w w') := by
  obtain ⟨ro, so, hi, lo, ⟨lk, ln, ls⟩, ⟨mk, mn, ms⟩⟩ := K
  obtain ⟨k, n, s⟩ := v
  obtain ⟨h1, h2, h3, h4, h5, h6⟩ := hK
  simp only [Kn.cells] at z h1 h2 h3 h4 h5 h6
  simp only [V.val]
  by_cases hk0 : k = 0
  ·
    subst hk0
    have e0 : Kn.add ⟨ro, so, hi, lo, ⟨lk, ln, ls⟩, ⟨mk, mn, ms⟩⟩ ⟨0, n, s⟩ = ⟨ro + 1, so, hi, lo, ⟨lk, ln, ls⟩, ⟨mk, mn, ms⟩⟩ := if_pos rfl
    rw [e0]
    clear e0
    have zA := z.alloc (.cells #[.int .u8 0, .int .i64 n, .string s] 38)
    have zv := At.new w #[.int .u8 0, .int .i64 n, .string s] 38
    have hgl := z.lt
    clear z
    have z := zA
    clear zA
    have o1 : Oth (fun k => k = g) w (w.alloc (.cells #[.int .u8 0, .int .i64 n, .string s] 38)) := Oth.of_below _ ((Below.refl _ _).alloc (Nat.le_refl _) _)
    go_enter Try.func44, Try.ntmps44
    go_upto_region 1 with fail
    generalize w.alloc (.cells #[.int .u8 0, .int .i64 n, .string s] 38) = wA at z zv o1 ⊢
    have hgv : w.heap.size ≠ g := by omega
    generalize w.heap.size = gv at zv hgv ⊢
    have fq0 := z.free 0
    have gq0 := z.cell 0 rfl
    have lq := z.lt
    go_upto_region 2 with (first | (at_make; refine Stop.un ?_) | (at_builtin; refine Stop.un ?_))
    have zz0 : At (wA.setCell ⟨g, 0, none⟩ (.int .i64 (ro + 1))) g #[.int .i64 (ro + 1), .int .i64 so, .int .i64 hi, .int .u64 lo, .int .u8 lk, .int .i64 ln, .string ls, .int .u8 mk, .int .i64 mn, .string ms] 83 := At.set z 0 (.int .i64 (ro + 1))
    have o2 : Oth (fun k => k = g) w (wA.setCell ⟨g, 0, none⟩ (.int .i64 (ro + 1))) := (o1.set ⟨g, 0, none⟩ (.int .i64 (ro + 1)) (.inl rfl))
    have zv2 : At (wA.setCell ⟨g, 0, none⟩ (.int .i64 (ro + 1))) gv _ 38 := (zv.off (p := ⟨g, 0, none⟩) hgv _)
    clear lq fq0 gq0
    clear z zv o1
    generalize (wA.setCell ⟨g, 0, none⟩ (.int .i64 (ro + 1))) = w_1 at zz0 o2 zv2 ⊢
    have z := zz0
    have o1 := o2
    have zv := zv2
    clear o2 zv2 zz0
    have v0 := zv.cell 0 rfl
    go_wp2_with (first | (at_make; refine Stop.un ?_) | (at_builtin; refine Stop.un ?_) | (with_reducible refine Stop.conv 22 9 ?_) | (with_reducible refine Stop.conv 9 22 ?_))
    exact bodyPost_ret (v := .tuple #[]) (by simp [results, Try.results44, go_sem]) rfl ⟨rfl, z, o1⟩
  ·
    have hkn : (k == 0) = false := by simpa using hk0
    have zA := z.alloc (.cells #[.int .u8 k, .int .i64 n, .string s] 38)
    have zv := At.new w #[.int .u8 k, .int .i64 n, .string s] 38
    have hgl := z.lt
    clear z
    have z := zA
    clear zA
    have o1 : Oth (fun k => k = g) w (w.alloc (.cells #[.int .u8 k, .int .i64 n, .string s] 38)) := Oth.of_below _ ((Below.refl _ _).alloc (Nat.le_refl _) _)
    go_enter Try.func44, Try.ntmps44
    go_upto_region 1 with fail
    generalize w.alloc (.cells #[.int .u8 k, .int .i64 n, .string s] 38) = wA at z zv o1 ⊢
    have hgv : w.heap.size ≠ g := by omega
    generalize w.heap.size = gv at zv hgv ⊢
    have fq0 := z.free 0
    have gq0 := z.cell 0 rfl
    have lq := z.lt
    go_upto_region 2 with (first | (at_make; refine Stop.un ?_) | (at_builtin; refine Stop.un ?_))
    have zz0 : At (wA.setCell ⟨g, 0, none⟩ (.int .i64 (ro + 1))) g #[.int .i64 (ro + 1), .int .i64 so, .int .i64 hi, .int .u64 lo, .int .u8 lk, .int .i64 ln, .string ls, .int .u8 mk, .int .i64 mn, .string ms] 83 := At.set z 0 (.int .i64 (ro + 1))
    have o2 : Oth (fun k => k = g) w (wA.setCell ⟨g, 0, none⟩ (.int .i64 (ro + 1))) := (o1.set ⟨g, 0, none⟩ (.int .i64 (ro + 1)) (.inl rfl))
    have zv2 : At (wA.setCell ⟨g, 0, none⟩ (.int .i64 (ro + 1))) gv _ 38 := (zv.off (p := ⟨g, 0, none⟩) hgv _)
    clear lq fq0 gq0
    clear z zv o1
    generalize (wA.setCell ⟨g, 0, none⟩ (.int .i64 (ro + 1))) = w_2 at zz0 o2 zv2 ⊢
    have z := zz0
    have o1 := o2
    have zv := zv2
    clear o2 zv2 zz0
    have v0 := zv.cell 0 rfl
    go_upto_region 3 with fail
    clear v0
    by_cases hs0 : so = 0
    ·
      subst hs0
      have HE : Hid (Kn.cells (Kn.add ⟨ro, 0, hi, lo, ⟨lk, ln, ls⟩, ⟨mk, mn, ms⟩⟩ ⟨k, n, s⟩) = #[.int .i64 (ro + 1), .int .i64 1, .int .i64 (addH hi lo n), .int .u64 (addL lo n), .int .u8 k, .int .i64 n, .string s, .int .u8 k, .int .i64 n, .string s]) := Lib.hid (by
        unfold Kn.add
        rw [if_neg hk0]
        simp only [Kn.cells, true_or, if_true]
        rfl)
      refine mix_startE 14 rfl (by kernel_rfl) ?_
      intro xq hxq
      replace z := At.mono z hxq
      replace zv := At.mono zv hxq
      replace o1 := Oth.below o1 hxq
      clear hxq
      refine mix_quiet Keeps.ext 0 rfl (by kernel_rfl) rfl ?_
      intro ι U hne hU
      go_big_quiet_op
      clear hU hne U ι
      show wpAnyM _ _ _ _ _ _ _ _ _
      refine mix_quiet Keeps.ext 1 rfl (by kernel_rfl) rfl ?_
      intro ι U hne hU
      go_big_quiet_op
      clear hU hne U ι
      show wpAnyM _ _ _ _ _ _ _ _ _
      refine mix_quiet Keeps.ext 2 rfl (by kernel_rfl) rfl ?_
      intro ι U hne hU
      go_big_quiet_op
      clear hU hne U ι
      show wpAnyM _ _ _ _ _ _ _ _ _
      refine mix_quiet Keeps.ext 3 rfl (by kernel_rfl) rfl ?_
      intro ι U hne hU
      have hcw0 := fun ii => (At.mono z (hU ii)).cell 0 rfl
      have hcw1 := fun ii => (At.mono z (hU ii)).cell 1 rfl
      have hcw2 := fun ii => (At.mono z (hU ii)).cell 2 rfl
      have hcw3 := fun ii => (At.mono z (hU ii)).cell 3 rfl
      have hcw4 := fun ii => (At.mono z (hU ii)).cell 4 rfl
      have hcw5 := fun ii => (At.mono z (hU ii)).cell 5 rfl
      have hcw6 := fun ii => (At.mono z (hU ii)).cell 6 rfl
      have hcw7 := fun ii => (At.mono z (hU ii)).cell 7 rfl
      have hcw8 := fun ii => (At.mono z (hU ii)).cell 8 rfl
      have hcw9 := fun ii => (At.mono z (hU ii)).cell 9 rfl
      have hcw10 := fun ii => (At.mono zv (hU ii)).cell 0 rfl
      have hcw11 := fun ii => (At.mono zv (hU ii)).cell 1 rfl
      have hcw12 := fun ii => (At.mono zv (hU ii)).cell 2 rfl
      go_big_quiet_op
      clear hU hne hcw0 hcw1 hcw2 hcw3 hcw4 hcw5 hcw6 hcw7 hcw8 hcw9 hcw10 hcw11 hcw12 U ι
      show wpAnyM _ _ _ _ _ _ _ _ _
      refine mix_quiet Keeps.ext 4 rfl (by kernel_rfl) rfl ?_
      intro ι U hne hU
      go_big_quiet_op
      clear hU hne U ι
      show wpAnyM _ _ _ _ _ _ _ _ _
      refine mix_quiet Keeps.ext 5 rfl (by kernel_rfl) rfl ?_
      intro ι U hne hU
      go_big_quiet_op
      clear hU hne U ι
      show wpAnyM _ _ _ _ _ _ _ _ _
      refine mix_skip Keeps.ext 6 rfl (by kernel_rfl) rfl ?_
      go_big_quiet_skip
      refine wpQuiet_nil ?_
      show wpAnyM _ _ _ _ _ _ _ _ _
      refine mix_skip Keeps.ext 7 rfl (by kernel_rfl) rfl ?_
      go_big_quiet_skip
      refine wpQuiet_nil ?_
      show wpAnyM _ _ _ _ _ _ _ _ _
      refine mix_skip Keeps.ext 8 rfl (by kernel_rfl) rfl ?_
      go_big_quiet_skip
      refine wpQuiet_nil ?_
      show wpAnyM _ _ _ _ _ _ _ _ _
      refine mix_skip Keeps.ext 9 rfl (by kernel_rfl) rfl ?_
      go_big_quiet_skip
      refine wpQuiet_nil ?_
      show wpAnyM _ _ _ _ _ _ _ _ _
      refine mix_skip Keeps.ext 10 rfl (by kernel_rfl) rfl ?_
      go_big_quiet_skip
      refine wpQuiet_nil ?_
      show wpAnyM _ _ _ _ _ _ _ _ _
      refine mix_skip Keeps.ext 11 rfl (by kernel_rfl) rfl ?_
      go_big_quiet_skip
      refine wpQuiet_nil ?_
      show wpAnyM _ _ _ _ _ _ _ _ _
      refine mix_skip Keeps.ext 12 rfl (by kernel_rfl) rfl ?_
      go_big_quiet_skip
      refine wpQuiet_nil ?_
      show wpAnyM _ _ _ _ _ _ _ _ _
      refine mix_quiet Keeps.ext 13 rfl (by kernel_rfl) rfl ?_
      intro ι U hne hU
      go_big_quiet_op
      clear hU hne U ι
      show wpAnyM _ _ _ _ _ _ _ _ _
      refine mix_end (by kernel_rfl) ?_
      have v0 := zv.cell 0 rfl
      have v1 := zv.cell 1 rfl
      have v2 := zv.cell 2 rfl
      go_upto_region 4 with fail
      have fq4 := z.free 4
      have gq4 := z.cell 4 rfl
      have fq5 := z.free 5
      have gq5 := z.cell 5 rfl
      have fq6 := z.free 6
      have gq6 := z.cell 6 rfl
      have lq := z.lt
      go_upto_region 5 with (first | (at_make; refine Stop.un ?_) | (at_builtin; refine Stop.un ?_))
      have zz0 : At (xq.setCell ⟨g, 4, none⟩ (.int .u8 k)) g #[.int .i64 (ro + 1), .int .i64 0, .int .i64 hi, .int .u64 lo, .int .u8 k, .int .i64 ln, .string ls, .int .u8 mk, .int .i64 mn, .string ms] 83 := At.set z 4 (.int .u8 k)
      have zz1 : At ((xq.setCell ⟨g, 4, none⟩ (.int .u8 k)).setCell ⟨g, 5, none⟩ (.int .i64 n)) g #[.int .i64 (ro + 1), .int .i64 0, .int .i64 hi, .int .u64 lo, .int .u8 k, .int .i64 n, .string ls, .int .u8 mk, .int .i64 mn, .string ms] 83 := At.set zz0 5 (.int .i64 n)
      have zz2 : At (((xq.setCell ⟨g, 4, none⟩ (.int .u8 k)).setCell ⟨g, 5, none⟩ (.int .i64 n)).setCell ⟨g, 6, none⟩ (.string s)) g #[.int .i64 (ro + 1), .int .i64 0, .int .i64 hi, .int .u64 lo, .int .u8 k, .int .i64 n, .string s, .int .u8 mk, .int .i64 mn, .string ms] 83 := At.set zz1 6 (.string s)
      have o2 : Oth (fun k => k = g) w (((xq.setCell ⟨g, 4, none⟩ (.int .u8 k)).setCell ⟨g, 5, none⟩ (.int .i64 n)).setCell ⟨g, 6, none⟩ (.string s)) := (((o1.set ⟨g, 4, none⟩ (.int .u8 k) (.inl rfl)).set ⟨g, 5, none⟩ (.int .i64 n) (.inl rfl)).set ⟨g, 6, none⟩ (.string s) (.inl rfl))
      have zv2 : At (((xq.setCell ⟨g, 4, none⟩ (.int .u8 k)).setCell ⟨g, 5, none⟩ (.int .i64 n)).setCell ⟨g, 6, none⟩ (.string s)) gv _ 38 := (((zv.off (p := ⟨g, 4, none⟩) hgv _).off (p := ⟨g, 5, none⟩) hgv _).off (p := ⟨g, 6, none⟩) hgv _)
      clear lq fq4 gq4 fq5 gq5 fq6 gq6
      clear z zv o1
      generalize (((xq.setCell ⟨g, 4, none⟩ (.int .u8 k)).setCell ⟨g, 5, none⟩ (.int .i64 n)).setCell ⟨g, 6, none⟩ (.string s)) = w_3 at zz2 o2 zv2 ⊢
      have z := zz2
      have o1 := o2
      have zv := zv2
      clear o2 zv2 zz2 zz0 zz1
      clear v0 v1 v2
      refine mix_startE 14 rfl (by kernel_rfl) ?_
      intro xq hxq
      replace z := At.mono z hxq
      replace zv := At.mono zv hxq
      replace o1 := Oth.below o1 hxq
      clear hxq
      refine mix_quiet Keeps.ext 0 rfl (by kernel_rfl) rfl ?_
      intro ι U hne hU
      go_big_quiet_op
      clear hU hne U ι
      show wpAnyM _ _ _ _ _ _ _ _ _
      refine mix_quiet Keeps.ext 1 rfl (by kernel_rfl) rfl ?_
      intro ι U hne hU
      go_big_quiet_op
      clear hU hne U ι
      show wpAnyM _ _ _ _ _ _ _ _ _
      refine mix_quiet Keeps.ext 2 rfl (by kernel_rfl) rfl ?_
      intro ι U hne hU
      go_big_quiet_op
      clear hU hne U ι
      show wpAnyM _ _ _ _ _ _ _ _ _
      refine mix_quiet Keeps.ext 3 rfl (by kernel_rfl) rfl ?_
      intro ι U hne hU
      have hcw0 := fun ii => (At.mono z (hU ii)).cell 0 rfl
      have hcw1 := fun ii => (At.mono z (hU ii)).cell 1 rfl
      have hcw2 := fun ii => (At.mono z (hU ii)).cell 2 rfl
      have hcw3 := fun ii => (At.mono z (hU ii)).cell 3 rfl
      have hcw4 := fun ii => (At.mono z (hU ii)).cell 4 rfl
      have hcw5 := fun ii => (At.mono z (hU ii)).cell 5 rfl
      have hcw6 := fun ii => (At.mono z (hU ii)).cell 6 rfl
      have hcw7 := fun ii => (At.mono z (hU ii)).cell 7 rfl
      have hcw8 := fun ii => (At.mono z (hU ii)).cell 8 rfl
      have hcw9 := fun ii => (At.mono z (hU ii)).cell 9 rfl
      have hcw10 := fun ii => (At.mono zv (hU ii)).cell 0 rfl
      have hcw11 := fun ii => (At.mono zv (hU ii)).cell 1 rfl
      have hcw12 := fun ii => (At.mono zv (hU ii)).cell 2 rfl
      go_big_quiet_op
      clear hU hne hcw0 hcw1 hcw2 hcw3 hcw4 hcw5 hcw6 hcw7 hcw8 hcw9 hcw10 hcw11 hcw12 U ι
      show wpAnyM _ _ _ _ _ _ _ _ _
      refine mix_quiet Keeps.ext 4 rfl (by kernel_rfl) rfl ?_
      intro ι U hne hU
      go_big_quiet_op
      clear hU hne U ι
      show wpAnyM _ _ _ _ _ _ _ _ _
      refine mix_quiet Keeps.ext 5 rfl (by kernel_rfl) rfl ?_
      intro ι U hne hU
      go_big_quiet_op
      clear hU hne U ι
      show wpAnyM _ _ _ _ _ _ _ _ _
      refine mix_skip Keeps.ext 6 rfl (by kernel_rfl) rfl ?_
      go_big_quiet_skip
      refine wpQuiet_nil ?_
      show wpAnyM _ _ _ _ _ _ _ _ _
      refine mix_skip Keeps.ext 7 rfl (by kernel_rfl) rfl ?_
      go_big_quiet_skip
      refine wpQuiet_nil ?_
      show wpAnyM _ _ _ _ _ _ _ _ _
      refine mix_skip Keeps.ext 8 rfl (by kernel_rfl) rfl ?_
      go_big_quiet_skip
      refine wpQuiet_nil ?_
      show wpAnyM _ _ _ _ _ _ _ _ _
      refine mix_skip Keeps.ext 9 rfl (by kernel_rfl) rfl ?_
      go_big_quiet_skip
      refine wpQuiet_nil ?_
      show wpAnyM _ _ _ _ _ _ _ _ _
      refine mix_skip Keeps.ext 10 rfl (by kernel_rfl) rfl ?_
      go_big_quiet_skip
      refine wpQuiet_nil ?_
      show wpAnyM _ _ _ _ _ _ _ _ _
      refine mix_skip Keeps.ext 11 rfl (by kernel_rfl) rfl ?_
      go_big_quiet_skip
      refine wpQuiet_nil ?_
      show wpAnyM _ _ _ _ _ _ _ _ _
      refine mix_skip Keeps.ext 12 rfl (by kernel_rfl) rfl ?_
      go_big_quiet_skip
      refine wpQuiet_nil ?_
      show wpAnyM _ _ _ _ _ _ _ _ _
      refine mix_quiet Keeps.ext 13 rfl (by kernel_rfl) rfl ?_
      intro ι U hne hU
      go_big_quiet_op
      clear hU hne U ι
      show wpAnyM _ _ _ _ _ _ _ _ _
      refine mix_end (by kernel_rfl) ?_
      have v0 := zv.cell 0 rfl
      have v1 := zv.cell 1 rfl
      have v2 := zv.cell 2 rfl
      go_upto_region 6 with fail
      have fq7 := z.free 7
      have gq7 := z.cell 7 rfl
      have fq8 := z.free 8
      have gq8 := z.cell 8 rfl
      have fq9 := z.free 9
      have gq9 := z.cell 9 rfl
      have lq := z.lt
      go_upto_region 7 with (first | (at_make; refine Stop.un ?_) | (at_builtin; refine Stop.un ?_))
      have zz0 : At (xq.setCell ⟨g, 7, none⟩ (.int .u8 k)) g #[.int .i64 (ro + 1), .int .i64 0, .int .i64 hi, .int .u64 lo, .int .u8 k, .int .i64 n, .string s, .int .u8 k, .int .i64 mn, .string ms] 83 := At.set z 7 (.int .u8 k)
      have zz1 : At ((xq.setCell ⟨g, 7, none⟩ (.int .u8 k)).setCell ⟨g, 8, none⟩ (.int .i64 n)) g #[.int .i64 (ro + 1), .int .i64 0, .int .i64 hi, .int .u64 lo, .int .u8 k, .int .i64 n, .string s, .int .u8 k, .int .i64 n, .string ms] 83 := At.set zz0 8 (.int .i64 n)
      have zz2 : At (((xq.setCell ⟨g, 7, none⟩ (.int .u8 k)).setCell ⟨g, 8, none⟩ (.int .i64 n)).setCell ⟨g, 9, none⟩ (.string s)) g #[.int .i64 (ro + 1), .int .i64 0, .int .i64 hi, .int .u64 lo, .int .u8 k, .int .i64 n, .string s, .int .u8 k, .int .i64 n, .string s] 83 := At.set zz1 9 (.string s)
      have o2 : Oth (fun k => k = g) w (((xq.setCell ⟨g, 7, none⟩ (.int .u8 k)).setCell ⟨g, 8, none⟩ (.int .i64 n)).setCell ⟨g, 9, none⟩ (.string s)) := (((o1.set ⟨g, 7, none⟩ (.int .u8 k) (.inl rfl)).set ⟨g, 8, none⟩ (.int .i64 n) (.inl rfl)).set ⟨g, 9, none⟩ (.string s) (.inl rfl))
      have zv2 : At (((xq.setCell ⟨g, 7, none⟩ (.int .u8 k)).setCell ⟨g, 8, none⟩ (.int .i64 n)).setCell ⟨g, 9, none⟩ (.string s)) gv _ 38 := (((zv.off (p := ⟨g, 7, none⟩) hgv _).off (p := ⟨g, 8, none⟩) hgv _).off (p := ⟨g, 9, none⟩) hgv _)
      clear lq fq7 gq7 fq8 gq8 fq9 gq9
      clear z zv o1
      generalize (((xq.setCell ⟨g, 7, none⟩ (.int .u8 k)).setCell ⟨g, 8, none⟩ (.int .i64 n)).setCell ⟨g, 9, none⟩ (.string s)) = w_4 at zz2 o2 zv2 ⊢
      have z := zz2
      have o1 := o2
      have zv := zv2
      clear o2 zv2 zz2 zz0 zz1
      clear v0 v1 v2
      have c1 := z.cell 1 rfl
      go_upto_region 7 with fail
      clear c1
      obtain ⟨W, hW⟩ : ∃ W, W = w_4 := ⟨_, rfl⟩
      rw [← hW] at z zv o1 ⊢
      clear hW
      have fq1 := z.free 1
      have gq1 := z.cell 1 rfl
      have lq := z.lt
      go_upto_region 8 with (first | (at_make; refine Stop.un ?_) | (at_builtin; refine Stop.un ?_))
      have zz0 : At (W.setCell ⟨g, 1, none⟩ (.int .i64 1)) g #[.int .i64 (ro + 1), .int .i64 1, .int .i64 hi, .int .u64 lo, .int .u8 k, .int .i64 n, .string s, .int .u8 k, .int .i64 n, .string s] 83 := At.set z 1 (.int .i64 1)
      have o2 : Oth (fun k => k = g) w (W.setCell ⟨g, 1, none⟩ (.int .i64 1)) := (o1.set ⟨g, 1, none⟩ (.int .i64 1) (.inl rfl))
      have zv2 : At (W.setCell ⟨g, 1, none⟩ (.int .i64 1)) gv _ 38 := (zv.off (p := ⟨g, 1, none⟩) hgv _)
      clear lq fq1 gq1
      clear z zv o1
      generalize (W.setCell ⟨g, 1, none⟩ (.int .i64 1)) = w_5 at zz0 o2 zv2 ⊢
      have z := zz0
      have o1 := o2
      have zv := zv2
      clear o2 zv2 zz0
      refine mix_startN 11 rfl (by kernel_rfl) ?_
      intro xq hxq
      replace z := At.mono z hxq
      replace zv := At.mono zv hxq
      replace o1 := Oth.below o1 hxq
      clear hxq
      refine mix_quiet Keeps.any 0 rfl (by kernel_rfl) rfl ?_
      intro ι U hne hU
      go_big_quiet_op
      clear hU hne U ι
      show wpAnyM _ _ _ _ _ _ _ _ _
      refine mix_quiet Keeps.any 1 rfl (by kernel_rfl) rfl ?_
      intro ι U hne hU
      go_big_quiet_op
      clear hU hne U ι
      show wpAnyM _ _ _ _ _ _ _ _ _
      refine mix_quiet Keeps.any 2 rfl (by kernel_rfl) rfl ?_
      intro ι U hne hU
      go_big_quiet_op
      clear hU hne U ι
      show wpAnyM _ _ _ _ _ _ _ _ _
      refine mix_quiet Keeps.any 3 rfl (by kernel_rfl) rfl ?_
      intro ι U hne hU
      go_big_quiet_op
      clear hU hne U ι
      show wpAnyM _ _ _ _ _ _ _ _ _
      refine mix_quiet Keeps.any 5 rfl (by kernel_rfl) rfl ?_
      intro ι U hne hU
      go_big_quiet_op
      clear hU hne U ι
      show wpAnyM _ _ _ _ _ _ _ _ _
      refine mix_two 4 6 rfl rfl (by kernel_rfl) rfl rfl ?_ ?_
      ·
        have f2 := z.cell 2 rfl
        have f3 := z.cell 3 rfl
        have f4 := zv.cell 1 rfl
        go_wp2_with (first | (at_make; refine Stop.un ?_) | (at_builtin; refine Stop.un ?_) | (with_reducible refine Stop.conv 22 9 ?_) | (with_reducible refine Stop.conv 9 22 ?_))
        refine MixPost.mk (True.intro : AnyW _ _) ?_
        clear f2 f3 f4
        refine mix_any 6 rfl (by kernel_rfl) rfl ?_
        have f2 := z.cell 2 rfl
        have f3 := z.cell 3 rfl
        have f4 := zv.cell 1 rfl
        go_wp2_with (first | (at_make; refine Stop.un ?_) | (at_builtin; refine Stop.un ?_) | (with_reducible refine Stop.conv 22 9 ?_) | (with_reducible refine Stop.conv 9 22 ?_))
        refine MixPost.mk (True.intro : AnyW _ _) ?_
        clear f2 f3 f4
        refine mix_any 7 rfl (by kernel_rfl) rfl ?_
        go_wp2_with (first | (at_make; refine Stop.un ?_) | (at_builtin; refine Stop.un ?_) | (with_reducible refine Stop.conv 22 9 ?_) | (with_reducible refine Stop.conv 9 22 ?_))
        refine (gadd_any _ _ _ _ (by omega) (by omega)).mono ?_
        rintro e wo ⟨rfl, bo⟩
        go_wp2_with (first | (at_make; refine Stop.un ?_) | (at_builtin; refine Stop.un ?_) | (with_reducible refine Stop.conv 22 9 ?_) | (with_reducible refine Stop.conv 9 22 ?_))
        refine MixPost.mk (True.intro : AnyW _ _) ?_
        replace z := At.mono z bo
        replace zv := At.mono zv bo
        replace o1 := Oth.below o1 bo
        clear bo
        refine mix_quiet Keeps.any 8 rfl (by kernel_rfl) rfl ?_
        intro ι U hne hU
        go_big_quiet_op
        clear hU hne U ι
        show wpAnyM _ _ _ _ _ _ _ _ _
        refine mix_quiet Keeps.any 9 rfl (by kernel_rfl) rfl ?_
        intro ι U hne hU
        go_big_quiet_op
        clear hU hne U ι
        show wpAnyM _ _ _ _ _ _ _ _ _
        have fq2 := z.free 2
        have gq2 := z.cell 2 rfl
        have fq3 := z.free 3
        have gq3 := z.cell 3 rfl
        have lq := z.lt
        refine mix_any 10 rfl (by kernel_rfl) rfl ?_
        go_wp2_with (first | (at_make; refine Stop.un ?_) | (at_builtin; refine Stop.un ?_) | (with_reducible refine Stop.conv 22 9 ?_) | (with_reducible refine Stop.conv 9 22 ?_))
        refine MixPost.mk (True.intro : AnyW _ _) ?_
        clear lq fq2 fq3 gq2 gq3
        refine mix_end (by kernel_rfl) ?_
        have zz0 := z.set 2 (.int .i64 (addH hi lo n))
        have zz1 := zz0.set 3 (.int .u64 (addL lo n))
        have o2 := (o1.set ⟨g, 2, none⟩ (.int .i64 (addH hi lo n)) (.inl rfl)).set ⟨g, 3, none⟩ (.int .u64 (addL lo n)) (.inl rfl)
        clear z zz0 o1
        go_wp2_with (first | (at_make; refine Stop.un ?_) | (at_builtin; refine Stop.un ?_) | (with_reducible refine Stop.conv 22 9 ?_) | (with_reducible refine Stop.conv 9 22 ?_))
        go_end0
        refine ⟨rfl, ?_, o2⟩
        rw [HE.out]
        exact zz1
      ·
        have f2 := z.cell 2 rfl
        have f3 := z.cell 3 rfl
        have f4 := zv.cell 1 rfl
        go_wp2_with (first | (at_make; refine Stop.un ?_) | (at_builtin; refine Stop.un ?_) | (with_reducible refine Stop.conv 22 9 ?_) | (with_reducible refine Stop.conv 9 22 ?_))
        refine MixPost.mk (True.intro : AnyW _ _) ?_
        clear f2 f3 f4
        refine mix_any 4 rfl (by kernel_rfl) rfl ?_
        have f2 := z.cell 2 rfl
        have f3 := z.cell 3 rfl
        have f4 := zv.cell 1 rfl
        go_wp2_with (first | (at_make; refine Stop.un ?_) | (at_builtin; refine Stop.un ?_) | (with_reducible refine Stop.conv 22 9 ?_) | (with_reducible refine Stop.conv 9 22 ?_))
        refine MixPost.mk (True.intro : AnyW _ _) ?_
        clear f2 f3 f4
        refine mix_any 7 rfl (by kernel_rfl) rfl ?_
        go_wp2_with (first | (at_make; refine Stop.un ?_) | (at_builtin; refine Stop.un ?_) | (with_reducible refine Stop.conv 22 9 ?_) | (with_reducible refine Stop.conv 9 22 ?_))
        refine (gadd_any _ _ _ _ (by omega) (by omega)).mono ?_
        rintro e wo ⟨rfl, bo⟩
        go_wp2_with (first | (at_make; refine Stop.un ?_) | (at_builtin; refine Stop.un ?_) | (with_reducible refine Stop.conv 22 9 ?_) | (with_reducible refine Stop.conv 9 22 ?_))
        refine MixPost.mk (True.intro : AnyW _ _) ?_
        replace z := At.mono z bo
        replace zv := At.mono zv bo
        replace o1 := Oth.below o1 bo
        clear bo
        refine mix_quiet Keeps.any 8 rfl (by kernel_rfl) rfl ?_
        intro ι U hne hU
        go_big_quiet_op
        clear hU hne U ι
        show wpAnyM _ _ _ _ _ _ _ _ _
        refine mix_quiet Keeps.any 9 rfl (by kernel_rfl) rfl ?_
        intro ι U hne hU
        go_big_quiet_op
        clear hU hne U ι
        show wpAnyM _ _ _ _ _ _ _ _ _
        have fq2 := z.free 2
        have gq2 := z.cell 2 rfl
        have fq3 := z.free 3
        have gq3 := z.cell 3 rfl
        have lq := z.lt
        refine mix_any 10 rfl (by kernel_rfl) rfl ?_
        go_wp2_with (first | (at_make; refine Stop.un ?_) | (at_builtin; refine Stop.un ?_) | (with_reducible refine Stop.conv 22 9 ?_) | (with_reducible refine Stop.conv 9 22 ?_))
        refine MixPost.mk (True.intro : AnyW _ _) ?_
        clear lq fq2 fq3 gq2 gq3
        refine mix_end (by kernel_rfl) ?_
        have zz0 := z.set 2 (.int .i64 (addH hi lo n))
        have zz1 := zz0.set 3 (.int .u64 (addL lo n))
        have o2 := (o1.set ⟨g, 2, none⟩ (.int .i64 (addH hi lo n)) (.inl rfl)).set ⟨g, 3, none⟩ (.int .u64 (addL lo n)) (.inl rfl)
        clear z zz0 o1
        go_wp2_with (first | (at_make; refine Stop.un ?_) | (at_builtin; refine Stop.un ?_) | (with_reducible refine Stop.conv 22 9 ?_) | (with_reducible refine Stop.conv 9 22 ?_))
        go_end0
        refine ⟨rfl, ?_, o2⟩
        rw [HE.out]
        exact zz1
    ·
      have hsn : (so == 0) = false := by simpa using hs0
      refine mix_startE 14 rfl (by kernel_rfl) ?_
      intro xq hxq
      replace z := At.mono z hxq
      replace zv := At.mono zv hxq
      replace o1 := Oth.below o1 hxq
      clear hxq
      refine mix_quiet Keeps.ext 0 rfl (by kernel_rfl) rfl ?_
      intro ι U hne hU
      go_big_quiet_op
      clear hU hne U ι
      show wpAnyM _ _ _ _ _ _ _ _ _
      refine mix_quiet Keeps.ext 1 rfl (by kernel_rfl) rfl ?_
      intro ι U hne hU
      go_big_quiet_op
      clear hU hne U ι
      show wpAnyM _ _ _ _ _ _ _ _ _
      refine mix_quiet Keeps.ext 2 rfl (by kernel_rfl) rfl ?_
      intro ι U hne hU
      go_big_quiet_op
      clear hU hne U ι
      show wpAnyM _ _ _ _ _ _ _ _ _
      refine mix_quiet Keeps.ext 3 rfl (by kernel_rfl) rfl ?_
      intro ι U hne hU
      have hcw0 := fun ii => (At.mono z (hU ii)).cell 0 rfl
      have hcw1 := fun ii => (At.mono z (hU ii)).cell 1 rfl
      have hcw2 := fun ii => (At.mono z (hU ii)).cell 2 rfl
      have hcw3 := fun ii => (At.mono z (hU ii)).cell 3 rfl
      have hcw4 := fun ii => (At.mono z (hU ii)).cell 4 rfl
      have hcw5 := fun ii => (At.mono z (hU ii)).cell 5 rfl
      have hcw6 := fun ii => (At.mono z (hU ii)).cell 6 rfl
      have hcw7 := fun ii => (At.mono z (hU ii)).cell 7 rfl
      have hcw8 := fun ii => (At.mono z (hU ii)).cell 8 rfl
      have hcw9 := fun ii => (At.mono z (hU ii)).cell 9 rfl
      have hcw10 := fun ii => (At.mono zv (hU ii)).cell 0 rfl
      have hcw11 := fun ii => (At.mono zv (hU ii)).cell 1 rfl
      have hcw12 := fun ii => (At.mono zv (hU ii)).cell 2 rfl
      go_big_quiet_op
      clear hU hne hcw0 hcw1 hcw2 hcw3 hcw4 hcw5 hcw6 hcw7 hcw8 hcw9 hcw10 hcw11 hcw12 U ι
      show wpAnyM _ _ _ _ _ _ _ _ _
      refine mix_quiet Keeps.ext 4 rfl (by kernel_rfl) rfl ?_
      intro ι U hne hU
      go_big_quiet_op
      clear hU hne U ι
      show wpAnyM _ _ _ _ _ _ _ _ _
      refine mix_quiet Keeps.ext 5 rfl (by kernel_rfl) rfl ?_
      intro ι U hne hU
      go_big_quiet_op
      clear hU hne U ι
      show wpAnyM _ _ _ _ _ _ _ _ _
      refine mix_quiet Keeps.ext 6 rfl (by kernel_rfl) rfl ?_
      intro ι U hne hU
      have hcw0 := fun ii => (At.mono z (hU ii)).cell 0 rfl
      have hcw1 := fun ii => (At.mono z (hU ii)).cell 1 rfl
      have hcw2 := fun ii => (At.mono z (hU ii)).cell 2 rfl
      have hcw3 := fun ii => (At.mono z (hU ii)).cell 3 rfl
      have hcw4 := fun ii => (At.mono z (hU ii)).cell 4 rfl
      have hcw5 := fun ii => (At.mono z (hU ii)).cell 5 rfl
      have hcw6 := fun ii => (At.mono z (hU ii)).cell 6 rfl
      have hcw7 := fun ii => (At.mono z (hU ii)).cell 7 rfl
      have hcw8 := fun ii => (At.mono z (hU ii)).cell 8 rfl
      have hcw9 := fun ii => (At.mono z (hU ii)).cell 9 rfl
      have hcw10 := fun ii => (At.mono zv (hU ii)).cell 0 rfl
      have hcw11 := fun ii => (At.mono zv (hU ii)).cell 1 rfl
      have hcw12 := fun ii => (At.mono zv (hU ii)).cell 2 rfl
      go_big_quiet_op
      clear hU hne hcw0 hcw1 hcw2 hcw3 hcw4 hcw5 hcw6 hcw7 hcw8 hcw9 hcw10 hcw11 hcw12 U ι
      show wpAnyM _ _ _ _ _ _ _ _ _
      refine mix_quiet Keeps.ext 7 rfl (by kernel_rfl) rfl ?_
      intro ι U hne hU
      go_big_quiet_op
      clear hU hne U ι
      show wpAnyM _ _ _ _ _ _ _ _ _
      refine mix_quiet Keeps.ext 8 rfl (by kernel_rfl) rfl ?_
      intro ι U hne hU
      go_big_quiet_op
      clear hU hne U ι
      show wpAnyM _ _ _ _ _ _ _ _ _
      refine mix_quiet Keeps.ext 9 rfl (by kernel_rfl) rfl ?_
      intro ι U hne hU
      go_big_quiet_op
      clear hU hne U ι
      show wpAnyM _ _ _ _ _ _ _ _ _
      refine mix_quiet Keeps.ext 10 rfl (by kernel_rfl) rfl ?_
      intro ι U hne hU
      have hcw0 := fun ii => (At.mono z (hU ii)).cell 0 rfl
      have hcw1 := fun ii => (At.mono z (hU ii)).cell 1 rfl
      have hcw2 := fun ii => (At.mono z (hU ii)).cell 2 rfl
      have hcw3 := fun ii => (At.mono z (hU ii)).cell 3 rfl
      have hcw4 := fun ii => (At.mono z (hU ii)).cell 4 rfl
      have hcw5 := fun ii => (At.mono z (hU ii)).cell 5 rfl
      have hcw6 := fun ii => (At.mono z (hU ii)).cell 6 rfl
      have hcw7 := fun ii => (At.mono z (hU ii)).cell 7 rfl
      have hcw8 := fun ii => (At.mono z (hU ii)).cell 8 rfl
      have hcw9 := fun ii => (At.mono z (hU ii)).cell 9 rfl
      have hcw10 := fun ii => (At.mono zv (hU ii)).cell 0 rfl
      have hcw11 := fun ii => (At.mono zv (hU ii)).cell 1 rfl
      have hcw12 := fun ii => (At.mono zv (hU ii)).cell 2 rfl
      go_big_quiet_op
      clear hU hne hcw0 hcw1 hcw2 hcw3 hcw4 hcw5 hcw6 hcw7 hcw8 hcw9 hcw10 hcw11 hcw12 U ι
      show wpAnyM _ _ _ _ _ _ _ _ _
      refine mix_any 11 rfl (by kernel_rfl) rfl ?_
      go_wp2_with (first | (at_make; refine Stop.un ?_) | (at_builtin; refine Stop.un ?_) | (with_reducible refine Stop.conv 22 9 ?_) | (with_reducible refine Stop.conv 9 22 ?_))
      refine (compare_x _ _ _ _ _ _ _).mono ?_
      rintro e wq1 ⟨rfl, bq1⟩
      go_wp2_with (first | (at_make; refine Stop.un ?_) | (at_builtin; refine Stop.un ?_) | (with_reducible refine Stop.conv 22 9 ?_) | (with_reducible refine Stop.conv 9 22 ?_))
      refine MixPost.mk bq1 ?_
      replace z := At.mono z bq1
      replace zv := At.mono zv bq1
      replace o1 := Oth.below o1 bq1
      clear bq1
      refine mix_quiet Keeps.ext 12 rfl (by kernel_rfl) rfl ?_
      intro ι U hne hU
      go_big_quiet_op
      clear hU hne U ι
      show wpAnyM _ _ _ _ _ _ _ _ _
      refine mix_quiet Keeps.ext 13 rfl (by kernel_rfl) rfl ?_
      intro ι U hne hU
      go_big_quiet_op
      clear hU hne U ι
      show wpAnyM _ _ _ _ _ _ _ _ _
      refine mix_end (by kernel_rfl) ?_
      generalize wq1 = W3 at z zv o1 ⊢
      by_cases hc : cmpV ⟨k, n, s⟩ ⟨lk, ln, ls⟩ < 0
      ·
        have hcd : decide (cmpV ⟨k, n, s⟩ ⟨lk, ln, ls⟩ < 0) = true := decide_eq_true hc
        have HC := Lib.hid hc
        have v0 := zv.cell 0 rfl
        have v1 := zv.cell 1 rfl
        have v2 := zv.cell 2 rfl
        go_upto_region 4 with fail
        have fq4 := z.free 4
        have gq4 := z.cell 4 rfl
        have fq5 := z.free 5
        have gq5 := z.cell 5 rfl
        have fq6 := z.free 6
        have gq6 := z.cell 6 rfl
        have lq := z.lt
        go_upto_region 5 with (first | (at_make; refine Stop.un ?_) | (at_builtin; refine Stop.un ?_))
        have zz0 : At (W3.setCell ⟨g, 4, none⟩ (.int .u8 k)) g #[.int .i64 (ro + 1), .int .i64 so, .int .i64 hi, .int .u64 lo, .int .u8 k, .int .i64 ln, .string ls, .int .u8 mk, .int .i64 mn, .string ms] 83 := At.set z 4 (.int .u8 k)
        have zz1 : At ((W3.setCell ⟨g, 4, none⟩ (.int .u8 k)).setCell ⟨g, 5, none⟩ (.int .i64 n)) g #[.int .i64 (ro + 1), .int .i64 so, .int .i64 hi, .int .u64 lo, .int .u8 k, .int .i64 n, .string ls, .int .u8 mk, .int .i64 mn, .string ms] 83 := At.set zz0 5 (.int .i64 n)
        have zz2 : At (((W3.setCell ⟨g, 4, none⟩ (.int .u8 k)).setCell ⟨g, 5, none⟩ (.int .i64 n)).setCell ⟨g, 6, none⟩ (.string s)) g #[.int .i64 (ro + 1), .int .i64 so, .int .i64 hi, .int .u64 lo, .int .u8 k, .int .i64 n, .string s, .int .u8 mk, .int .i64 mn, .string ms] 83 := At.set zz1 6 (.string s)
        have o2 : Oth (fun k => k = g) w (((W3.setCell ⟨g, 4, none⟩ (.int .u8 k)).setCell ⟨g, 5, none⟩ (.int .i64 n)).setCell ⟨g, 6, none⟩ (.string s)) := (((o1.set ⟨g, 4, none⟩ (.int .u8 k) (.inl rfl)).set ⟨g, 5, none⟩ (.int .i64 n) (.inl rfl)).set ⟨g, 6, none⟩ (.string s) (.inl rfl))
        have zv2 : At (((W3.setCell ⟨g, 4, none⟩ (.int .u8 k)).setCell ⟨g, 5, none⟩ (.int .i64 n)).setCell ⟨g, 6, none⟩ (.string s)) gv _ 38 := (((zv.off (p := ⟨g, 4, none⟩) hgv _).off (p := ⟨g, 5, none⟩) hgv _).off (p := ⟨g, 6, none⟩) hgv _)
        clear lq fq4 gq4 fq5 gq5 fq6 gq6
        clear z zv o1
        generalize (((W3.setCell ⟨g, 4, none⟩ (.int .u8 k)).setCell ⟨g, 5, none⟩ (.int .i64 n)).setCell ⟨g, 6, none⟩ (.string s)) = w_6 at zz2 o2 zv2 ⊢
        have z := zz2
        have o1 := o2
        have zv := zv2
        clear o2 zv2 zz2 zz0 zz1
        clear v0 v1 v2
        refine mix_startE 14 rfl (by kernel_rfl) ?_
        intro xq hxq
        replace z := At.mono z hxq
        replace zv := At.mono zv hxq
        replace o1 := Oth.below o1 hxq
        clear hxq
        refine mix_quiet Keeps.ext 0 rfl (by kernel_rfl) rfl ?_
        intro ι U hne hU
        go_big_quiet_op
        clear hU hne U ι
        show wpAnyM _ _ _ _ _ _ _ _ _
        refine mix_quiet Keeps.ext 1 rfl (by kernel_rfl) rfl ?_
        intro ι U hne hU
        go_big_quiet_op
        clear hU hne U ι
        show wpAnyM _ _ _ _ _ _ _ _ _
        refine mix_quiet Keeps.ext 2 rfl (by kernel_rfl) rfl ?_
        intro ι U hne hU
        go_big_quiet_op
        clear hU hne U ι
        show wpAnyM _ _ _ _ _ _ _ _ _
        refine mix_quiet Keeps.ext 3 rfl (by kernel_rfl) rfl ?_
        intro ι U hne hU
        have hcw0 := fun ii => (At.mono z (hU ii)).cell 0 rfl
        have hcw1 := fun ii => (At.mono z (hU ii)).cell 1 rfl
        have hcw2 := fun ii => (At.mono z (hU ii)).cell 2 rfl
        have hcw3 := fun ii => (At.mono z (hU ii)).cell 3 rfl
        have hcw4 := fun ii => (At.mono z (hU ii)).cell 4 rfl
        have hcw5 := fun ii => (At.mono z (hU ii)).cell 5 rfl
        have hcw6 := fun ii => (At.mono z (hU ii)).cell 6 rfl
        have hcw7 := fun ii => (At.mono z (hU ii)).cell 7 rfl
        have hcw8 := fun ii => (At.mono z (hU ii)).cell 8 rfl
        have hcw9 := fun ii => (At.mono z (hU ii)).cell 9 rfl
        have hcw10 := fun ii => (At.mono zv (hU ii)).cell 0 rfl
        have hcw11 := fun ii => (At.mono zv (hU ii)).cell 1 rfl
        have hcw12 := fun ii => (At.mono zv (hU ii)).cell 2 rfl
        go_big_quiet_op
        clear hU hne hcw0 hcw1 hcw2 hcw3 hcw4 hcw5 hcw6 hcw7 hcw8 hcw9 hcw10 hcw11 hcw12 U ι
        show wpAnyM _ _ _ _ _ _ _ _ _
        refine mix_quiet Keeps.ext 4 rfl (by kernel_rfl) rfl ?_
        intro ι U hne hU
        go_big_quiet_op
        clear hU hne U ι
        show wpAnyM _ _ _ _ _ _ _ _ _
        refine mix_quiet Keeps.ext 5 rfl (by kernel_rfl) rfl ?_
        intro ι U hne hU
        go_big_quiet_op
        clear hU hne U ι
        show wpAnyM _ _ _ _ _ _ _ _ _
        refine mix_quiet Keeps.ext 6 rfl (by kernel_rfl) rfl ?_
        intro ι U hne hU
        have hcw0 := fun ii => (At.mono z (hU ii)).cell 0 rfl
        have hcw1 := fun ii => (At.mono z (hU ii)).cell 1 rfl
        have hcw2 := fun ii => (At.mono z (hU ii)).cell 2 rfl
        have hcw3 := fun ii => (At.mono z (hU ii)).cell 3 rfl
        have hcw4 := fun ii => (At.mono z (hU ii)).cell 4 rfl
        have hcw5 := fun ii => (At.mono z (hU ii)).cell 5 rfl
        have hcw6 := fun ii => (At.mono z (hU ii)).cell 6 rfl
        have hcw7 := fun ii => (At.mono z (hU ii)).cell 7 rfl
        have hcw8 := fun ii => (At.mono z (hU ii)).cell 8 rfl
        have hcw9 := fun ii => (At.mono z (hU ii)).cell 9 rfl
        have hcw10 := fun ii => (At.mono zv (hU ii)).cell 0 rfl
        have hcw11 := fun ii => (At.mono zv (hU ii)).cell 1 rfl
        have hcw12 := fun ii => (At.mono zv (hU ii)).cell 2 rfl
        go_big_quiet_op
        clear hU hne hcw0 hcw1 hcw2 hcw3 hcw4 hcw5 hcw6 hcw7 hcw8 hcw9 hcw10 hcw11 hcw12 U ι
        show wpAnyM _ _ _ _ _ _ _ _ _
        refine mix_quiet Keeps.ext 7 rfl (by kernel_rfl) rfl ?_
        intro ι U hne hU
        go_big_quiet_op
        clear hU hne U ι
        show wpAnyM _ _ _ _ _ _ _ _ _
        refine mix_quiet Keeps.ext 8 rfl (by kernel_rfl) rfl ?_
        intro ι U hne hU
        go_big_quiet_op
        clear hU hne U ι
        show wpAnyM _ _ _ _ _ _ _ _ _
        refine mix_quiet Keeps.ext 9 rfl (by kernel_rfl) rfl ?_
        intro ι U hne hU
        go_big_quiet_op
        clear hU hne U ι
        show wpAnyM _ _ _ _ _ _ _ _ _
        refine mix_quiet Keeps.ext 10 rfl (by kernel_rfl) rfl ?_
        intro ι U hne hU
        have hcw0 := fun ii => (At.mono z (hU ii)).cell 0 rfl
        have hcw1 := fun ii => (At.mono z (hU ii)).cell 1 rfl
        have hcw2 := fun ii => (At.mono z (hU ii)).cell 2 rfl
        have hcw3 := fun ii => (At.mono z (hU ii)).cell 3 rfl
        have hcw4 := fun ii => (At.mono z (hU ii)).cell 4 rfl
        have hcw5 := fun ii => (At.mono z (hU ii)).cell 5 rfl
        have hcw6 := fun ii => (At.mono z (hU ii)).cell 6 rfl
        have hcw7 := fun ii => (At.mono z (hU ii)).cell 7 rfl
        have hcw8 := fun ii => (At.mono z (hU ii)).cell 8 rfl
        have hcw9 := fun ii => (At.mono z (hU ii)).cell 9 rfl
        have hcw10 := fun ii => (At.mono zv (hU ii)).cell 0 rfl
        have hcw11 := fun ii => (At.mono zv (hU ii)).cell 1 rfl
        have hcw12 := fun ii => (At.mono zv (hU ii)).cell 2 rfl
        go_big_quiet_op
        clear hU hne hcw0 hcw1 hcw2 hcw3 hcw4 hcw5 hcw6 hcw7 hcw8 hcw9 hcw10 hcw11 hcw12 U ι
        show wpAnyM _ _ _ _ _ _ _ _ _
        refine mix_any 11 rfl (by kernel_rfl) rfl ?_
        go_wp2_with (first | (at_make; refine Stop.un ?_) | (at_builtin; refine Stop.un ?_) | (with_reducible refine Stop.conv 22 9 ?_) | (with_reducible refine Stop.conv 9 22 ?_))
        refine (compare_x _ _ _ _ _ _ _).mono ?_
        rintro e wq2 ⟨rfl, bq2⟩
        go_wp2_with (first | (at_make; refine Stop.un ?_) | (at_builtin; refine Stop.un ?_) | (with_reducible refine Stop.conv 22 9 ?_) | (with_reducible refine Stop.conv 9 22 ?_))
        refine MixPost.mk bq2 ?_
        replace z := At.mono z bq2
        replace zv := At.mono zv bq2
        replace o1 := Oth.below o1 bq2
        clear bq2
        refine mix_quiet Keeps.ext 12 rfl (by kernel_rfl) rfl ?_
        intro ι U hne hU
        go_big_quiet_op
        clear hU hne U ι
        show wpAnyM _ _ _ _ _ _ _ _ _
        refine mix_quiet Keeps.ext 13 rfl (by kernel_rfl) rfl ?_
        intro ι U hne hU
        go_big_quiet_op
        clear hU hne U ι
        show wpAnyM _ _ _ _ _ _ _ _ _
        refine mix_end (by kernel_rfl) ?_
        generalize wq2 = W5 at z zv o1 ⊢
        by_cases hc2 : 0 < cmpV ⟨k, n, s⟩ ⟨mk, mn, ms⟩
        ·
          have hcd2 : decide (0 < cmpV ⟨k, n, s⟩ ⟨mk, mn, ms⟩) = true := decide_eq_true hc2
          have HC2 := Lib.hid hc2
          have v0 := zv.cell 0 rfl
          have v1 := zv.cell 1 rfl
          have v2 := zv.cell 2 rfl
          go_upto_region 6 with fail
          have fq7 := z.free 7
          have gq7 := z.cell 7 rfl
          have fq8 := z.free 8
          have gq8 := z.cell 8 rfl
          have fq9 := z.free 9
          have gq9 := z.cell 9 rfl
          have lq := z.lt
          go_upto_region 7 with (first | (at_make; refine Stop.un ?_) | (at_builtin; refine Stop.un ?_))
          have zz0 : At (W5.setCell ⟨g, 7, none⟩ (.int .u8 k)) g #[.int .i64 (ro + 1), .int .i64 so, .int .i64 hi, .int .u64 lo, .int .u8 k, .int .i64 n, .string s, .int .u8 k, .int .i64 mn, .string ms] 83 := At.set z 7 (.int .u8 k)
          have zz1 : At ((W5.setCell ⟨g, 7, none⟩ (.int .u8 k)).setCell ⟨g, 8, none⟩ (.int .i64 n)) g #[.int .i64 (ro + 1), .int .i64 so, .int .i64 hi, .int .u64 lo, .int .u8 k, .int .i64 n, .string s, .int .u8 k, .int .i64 n, .string ms] 83 := At.set zz0 8 (.int .i64 n)
          have zz2 : At (((W5.setCell ⟨g, 7, none⟩ (.int .u8 k)).setCell ⟨g, 8, none⟩ (.int .i64 n)).setCell ⟨g, 9, none⟩ (.string s)) g #[.int .i64 (ro + 1), .int .i64 so, .int .i64 hi, .int .u64 lo, .int .u8 k, .int .i64 n, .string s, .int .u8 k, .int .i64 n, .string s] 83 := At.set zz1 9 (.string s)
          have o2 : Oth (fun k => k = g) w (((W5.setCell ⟨g, 7, none⟩ (.int .u8 k)).setCell ⟨g, 8, none⟩ (.int .i64 n)).setCell ⟨g, 9, none⟩ (.string s)) := (((o1.set ⟨g, 7, none⟩ (.int .u8 k) (.inl rfl)).set ⟨g, 8, none⟩ (.int .i64 n) (.inl rfl)).set ⟨g, 9, none⟩ (.string s) (.inl rfl))
          have zv2 : At (((W5.setCell ⟨g, 7, none⟩ (.int .u8 k)).setCell ⟨g, 8, none⟩ (.int .i64 n)).setCell ⟨g, 9, none⟩ (.string s)) gv _ 38 := (((zv.off (p := ⟨g, 7, none⟩) hgv _).off (p := ⟨g, 8, none⟩) hgv _).off (p := ⟨g, 9, none⟩) hgv _)
          clear lq fq7 gq7 fq8 gq8 fq9 gq9
          clear z zv o1
          generalize (((W5.setCell ⟨g, 7, none⟩ (.int .u8 k)).setCell ⟨g, 8, none⟩ (.int .i64 n)).setCell ⟨g, 9, none⟩ (.string s)) = w_7 at zz2 o2 zv2 ⊢
          have z := zz2
          have o1 := o2
          have zv := zv2
          clear o2 zv2 zz2 zz0 zz1
          clear v0 v1 v2
          have HE : Hid (Kn.cells (Kn.add ⟨ro, so, hi, lo, ⟨lk, ln, ls⟩, ⟨mk, mn, ms⟩⟩ ⟨k, n, s⟩) = #[.int .i64 (ro + 1), .int .i64 (so + 1), .int .i64 (addH hi lo n), .int .u64 (addL lo n), .int .u8 k, .int .i64 n, .string s, .int .u8 k, .int .i64 n, .string s]) := Lib.hid (by
            unfold Kn.add
            rw [if_neg hk0]
            simp only [Kn.cells, hs0, false_or]
            have e1 := HC.out
            have e2 := HC2.out
            rw [if_pos (by omega), if_pos (by omega)])
          have c1 := z.cell 1 rfl
          go_upto_region 7 with fail
          clear c1
          obtain ⟨W, hW⟩ : ∃ W, W = w_7 := ⟨_, rfl⟩
          rw [← hW] at z zv o1 ⊢
          clear hW
          have fq1 := z.free 1
          have gq1 := z.cell 1 rfl
          have lq := z.lt
          go_upto_region 8 with (first | (at_make; refine Stop.un ?_) | (at_builtin; refine Stop.un ?_))
          have zz0 : At (W.setCell ⟨g, 1, none⟩ (.int .i64 (so + 1))) g #[.int .i64 (ro + 1), .int .i64 (so + 1), .int .i64 hi, .int .u64 lo, .int .u8 k, .int .i64 n, .string s, .int .u8 k, .int .i64 n, .string s] 83 := At.set z 1 (.int .i64 (so + 1))
          have o2 : Oth (fun k => k = g) w (W.setCell ⟨g, 1, none⟩ (.int .i64 (so + 1))) := (o1.set ⟨g, 1, none⟩ (.int .i64 (so + 1)) (.inl rfl))
          have zv2 : At (W.setCell ⟨g, 1, none⟩ (.int .i64 (so + 1))) gv _ 38 := (zv.off (p := ⟨g, 1, none⟩) hgv _)
          clear lq fq1 gq1
          clear z zv o1
          generalize (W.setCell ⟨g, 1, none⟩ (.int .i64 (so + 1))) = w_8 at zz0 o2 zv2 ⊢
          have z := zz0
          have o1 := o2
          have zv := zv2
          clear o2 zv2 zz0
          refine mix_startN 11 rfl (by kernel_rfl) ?_
          intro xq hxq
          replace z := At.mono z hxq
          replace zv := At.mono zv hxq
          replace o1 := Oth.below o1 hxq
          clear hxq
          refine mix_quiet Keeps.any 0 rfl (by kernel_rfl) rfl ?_
          intro ι U hne hU
          go_big_quiet_op
          clear hU hne U ι
          show wpAnyM _ _ _ _ _ _ _ _ _
          refine mix_quiet Keeps.any 1 rfl (by kernel_rfl) rfl ?_
          intro ι U hne hU
          go_big_quiet_op
          clear hU hne U ι
          show wpAnyM _ _ _ _ _ _ _ _ _
          refine mix_quiet Keeps.any 2 rfl (by kernel_rfl) rfl ?_
          intro ι U hne hU
          go_big_quiet_op
          clear hU hne U ι
          show wpAnyM _ _ _ _ _ _ _ _ _
          refine mix_quiet Keeps.any 3 rfl (by kernel_rfl) rfl ?_
          intro ι U hne hU
          go_big_quiet_op
          clear hU hne U ι
          show wpAnyM _ _ _ _ _ _ _ _ _
          refine mix_quiet Keeps.any 5 rfl (by kernel_rfl) rfl ?_
          intro ι U hne hU
          go_big_quiet_op
          clear hU hne U ι
          show wpAnyM _ _ _ _ _ _ _ _ _
          refine mix_two 4 6 rfl rfl (by kernel_rfl) rfl rfl ?_ ?_
          ·
            have f2 := z.cell 2 rfl
            have f3 := z.cell 3 rfl
            have f4 := zv.cell 1 rfl
            go_wp2_with (first | (at_make; refine Stop.un ?_) | (at_builtin; refine Stop.un ?_) | (with_reducible refine Stop.conv 22 9 ?_) | (with_reducible refine Stop.conv 9 22 ?_))
            refine MixPost.mk (True.intro : AnyW _ _) ?_
            clear f2 f3 f4
            refine mix_any 6 rfl (by kernel_rfl) rfl ?_
            have f2 := z.cell 2 rfl
            have f3 := z.cell 3 rfl
            have f4 := zv.cell 1 rfl
            go_wp2_with (first | (at_make; refine Stop.un ?_) | (at_builtin; refine Stop.un ?_) | (with_reducible refine Stop.conv 22 9 ?_) | (with_reducible refine Stop.conv 9 22 ?_))
            refine MixPost.mk (True.intro : AnyW _ _) ?_
            clear f2 f3 f4
            refine mix_any 7 rfl (by kernel_rfl) rfl ?_
            go_wp2_with (first | (at_make; refine Stop.un ?_) | (at_builtin; refine Stop.un ?_) | (with_reducible refine Stop.conv 22 9 ?_) | (with_reducible refine Stop.conv 9 22 ?_))
            refine (gadd_any _ _ _ _ (by omega) (by omega)).mono ?_
            rintro e wo ⟨rfl, bo⟩
            go_wp2_with (first | (at_make; refine Stop.un ?_) | (at_builtin; refine Stop.un ?_) | (with_reducible refine Stop.conv 22 9 ?_) | (with_reducible refine Stop.conv 9 22 ?_))
            refine MixPost.mk (True.intro : AnyW _ _) ?_
            replace z := At.mono z bo
            replace zv := At.mono zv bo
            replace o1 := Oth.below o1 bo
            clear bo
            refine mix_quiet Keeps.any 8 rfl (by kernel_rfl) rfl ?_
            intro ι U hne hU
            go_big_quiet_op
            clear hU hne U ι
            show wpAnyM _ _ _ _ _ _ _ _ _
            refine mix_quiet Keeps.any 9 rfl (by kernel_rfl) rfl ?_
            intro ι U hne hU
            go_big_quiet_op
            clear hU hne U ι
            show wpAnyM _ _ _ _ _ _ _ _ _
            have fq2 := z.free 2
            have gq2 := z.cell 2 rfl
            have fq3 := z.free 3
            have gq3 := z.cell 3 rfl
            have lq := z.lt
            refine mix_any 10 rfl (by kernel_rfl) rfl ?_
            go_wp2_with (first | (at_make; refine Stop.un ?_) | (at_builtin; refine Stop.un ?_) | (with_reducible refine Stop.conv 22 9 ?_) | (with_reducible refine Stop.conv 9 22 ?_))
            refine MixPost.mk (True.intro : AnyW _ _) ?_
            clear lq fq2 fq3 gq2 gq3
            refine mix_end (by kernel_rfl) ?_
            have zz0 := z.set 2 (.int .i64 (addH hi lo n))
            have zz1 := zz0.set 3 (.int .u64 (addL lo n))
            have o2 := (o1.set ⟨g, 2, none⟩ (.int .i64 (addH hi lo n)) (.inl rfl)).set ⟨g, 3, none⟩ (.int .u64 (addL lo n)) (.inl rfl)
            clear z zz0 o1
            go_wp2_with (first | (at_make; refine Stop.un ?_) | (at_builtin; refine Stop.un ?_) | (with_reducible refine Stop.conv 22 9 ?_) | (with_reducible refine Stop.conv 9 22 ?_))
            go_end0
            refine ⟨rfl, ?_, o2⟩
            rw [HE.out]
            exact zz1
          ·
            have f2 := z.cell 2 rfl
            have f3 := z.cell 3 rfl
            have f4 := zv.cell 1 rfl
            go_wp2_with (first | (at_make; refine Stop.un ?_) | (at_builtin; refine Stop.un ?_) | (with_reducible refine Stop.conv 22 9 ?_) | (with_reducible refine Stop.conv 9 22 ?_))
            refine MixPost.mk (True.intro : AnyW _ _) ?_
            clear f2 f3 f4
            refine mix_any 4 rfl (by kernel_rfl) rfl ?_
            have f2 := z.cell 2 rfl
            have f3 := z.cell 3 rfl
            have f4 := zv.cell 1 rfl
            go_wp2_with (first | (at_make; refine Stop.un ?_) | (at_builtin; refine Stop.un ?_) | (with_reducible refine Stop.conv 22 9 ?_) | (with_reducible refine Stop.conv 9 22 ?_))
            refine MixPost.mk (True.intro : AnyW _ _) ?_
            clear f2 f3 f4
            refine mix_any 7 rfl (by kernel_rfl) rfl ?_
            go_wp2_with (first | (at_make; refine Stop.un ?_) | (at_builtin; refine Stop.un ?_) | (with_reducible refine Stop.conv 22 9 ?_) | (with_reducible refine Stop.conv 9 22 ?_))
            refine (gadd_any _ _ _ _ (by omega) (by omega)).mono ?_
            rintro e wo ⟨rfl, bo⟩
            go_wp2_with (first | (at_make; refine Stop.un ?_) | (at_builtin; refine Stop.un ?_) | (with_reducible refine Stop.conv 22 9 ?_) | (with_reducible refine Stop.conv 9 22 ?_))
            refine MixPost.mk (True.intro : AnyW _ _) ?_
            replace z := At.mono z bo
            replace zv := At.mono zv bo
            replace o1 := Oth.below o1 bo
            clear bo
            refine mix_quiet Keeps.any 8 rfl (by kernel_rfl) rfl ?_
            intro ι U hne hU
            go_big_quiet_op
            clear hU hne U ι
            show wpAnyM _ _ _ _ _ _ _ _ _
            refine mix_quiet Keeps.any 9 rfl (by kernel_rfl) rfl ?_
            intro ι U hne hU
            go_big_quiet_op
            clear hU hne U ι
            show wpAnyM _ _ _ _ _ _ _ _ _
            have fq2 := z.free 2
            have gq2 := z.cell 2 rfl
            have fq3 := z.free 3
            have gq3 := z.cell 3 rfl
            have lq := z.lt
            refine mix_any 10 rfl (by kernel_rfl) rfl ?_
            go_wp2_with (first | (at_make; refine Stop.un ?_) | (at_builtin; refine Stop.un ?_) | (with_reducible refine Stop.conv 22 9 ?_) | (with_reducible refine Stop.conv 9 22 ?_))
            refine MixPost.mk (True.intro : AnyW _ _) ?_
            clear lq fq2 fq3 gq2 gq3
            refine mix_end (by kernel_rfl) ?_
            have zz0 := z.set 2 (.int .i64 (addH hi lo n))
            have zz1 := zz0.set 3 (.int .u64 (addL lo n))
            have o2 := (o1.set ⟨g, 2, none⟩ (.int .i64 (addH hi lo n)) (.inl rfl)).set ⟨g, 3, none⟩ (.int .u64 (addL lo n)) (.inl rfl)
            clear z zz0 o1
            go_wp2_with (first | (at_make; refine Stop.un ?_) | (at_builtin; refine Stop.un ?_) | (with_reducible refine Stop.conv 22 9 ?_) | (with_reducible refine Stop.conv 9 22 ?_))
            go_end0
            refine ⟨rfl, ?_, o2⟩
            rw [HE.out]
            exact zz1
        ·
          have hcd2 : decide (0 < cmpV ⟨k, n, s⟩ ⟨mk, mn, ms⟩) = false := decide_eq_false hc2
          have HC2 := Lib.hid hc2
          have HE : Hid (Kn.cells (Kn.add ⟨ro, so, hi, lo, ⟨lk, ln, ls⟩, ⟨mk, mn, ms⟩⟩ ⟨k, n, s⟩) = #[.int .i64 (ro + 1), .int .i64 (so + 1), .int .i64 (addH hi lo n), .int .u64 (addL lo n), .int .u8 k, .int .i64 n, .string s, .int .u8 mk, .int .i64 mn, .string ms]) := Lib.hid (by
            unfold Kn.add
            rw [if_neg hk0]
            simp only [Kn.cells, hs0, false_or]
            have e1 := HC.out
            have e2 := HC2.out
            rw [if_pos (by omega), if_neg (by omega)])
          have c1 := z.cell 1 rfl
          go_upto_region 7 with fail
          clear c1
          obtain ⟨W, hW⟩ : ∃ W, W = W5 := ⟨_, rfl⟩
          rw [← hW] at z zv o1 ⊢
          clear hW
          have fq1 := z.free 1
          have gq1 := z.cell 1 rfl
          have lq := z.lt
          go_upto_region 8 with (first | (at_make; refine Stop.un ?_) | (at_builtin; refine Stop.un ?_))
          have zz0 : At (W.setCell ⟨g, 1, none⟩ (.int .i64 (so + 1))) g #[.int .i64 (ro + 1), .int .i64 (so + 1), .int .i64 hi, .int .u64 lo, .int .u8 k, .int .i64 n, .string s, .int .u8 mk, .int .i64 mn, .string ms] 83 := At.set z 1 (.int .i64 (so + 1))
          have o2 : Oth (fun k => k = g) w (W.setCell ⟨g, 1, none⟩ (.int .i64 (so + 1))) := (o1.set ⟨g, 1, none⟩ (.int .i64 (so + 1)) (.inl rfl))
          have zv2 : At (W.setCell ⟨g, 1, none⟩ (.int .i64 (so + 1))) gv _ 38 := (zv.off (p := ⟨g, 1, none⟩) hgv _)
          clear lq fq1 gq1
          clear z zv o1
          generalize (W.setCell ⟨g, 1, none⟩ (.int .i64 (so + 1))) = w_9 at zz0 o2 zv2 ⊢
          have z := zz0
          have o1 := o2
          have zv := zv2
          clear o2 zv2 zz0
          refine mix_startN 11 rfl (by kernel_rfl) ?_
          intro xq hxq
          replace z := At.mono z hxq
          replace zv := At.mono zv hxq
          replace o1 := Oth.below o1 hxq
          clear hxq
          refine mix_quiet Keeps.any 0 rfl (by kernel_rfl) rfl ?_
          intro ι U hne hU
          go_big_quiet_op
          clear hU hne U ι
          show wpAnyM _ _ _ _ _ _ _ _ _
          refine mix_quiet Keeps.any 1 rfl (by kernel_rfl) rfl ?_
          intro ι U hne hU
          go_big_quiet_op
          clear hU hne U ι
          show wpAnyM _ _ _ _ _ _ _ _ _
          refine mix_quiet Keeps.any 2 rfl (by kernel_rfl) rfl ?_
          intro ι U hne hU
          go_big_quiet_op
          clear hU hne U ι
          show wpAnyM _ _ _ _ _ _ _ _ _
          refine mix_quiet Keeps.any 3 rfl (by kernel_rfl) rfl ?_
          intro ι U hne hU
          go_big_quiet_op
          clear hU hne U ι
          show wpAnyM _ _ _ _ _ _ _ _ _
          refine mix_quiet Keeps.any 5 rfl (by kernel_rfl) rfl ?_
          intro ι U hne hU
          go_big_quiet_op
          clear hU hne U ι
          show wpAnyM _ _ _ _ _ _ _ _ _
          refine mix_two 4 6 rfl rfl (by kernel_rfl) rfl rfl ?_ ?_
          ·
            have f2 := z.cell 2 rfl
            have f3 := z.cell 3 rfl
            have f4 := zv.cell 1 rfl
            go_wp2_with (first | (at_make; refine Stop.un ?_) | (at_builtin; refine Stop.un ?_) | (with_reducible refine Stop.conv 22 9 ?_) | (with_reducible refine Stop.conv 9 22 ?_))
            refine MixPost.mk (True.intro : AnyW _ _) ?_
            clear f2 f3 f4
            refine mix_any 6 rfl (by kernel_rfl) rfl ?_
            have f2 := z.cell 2 rfl
            have f3 := z.cell 3 rfl
            have f4 := zv.cell 1 rfl
            go_wp2_with (first | (at_make; refine Stop.un ?_) | (at_builtin; refine Stop.un ?_) | (with_reducible refine Stop.conv 22 9 ?_) | (with_reducible refine Stop.conv 9 22 ?_))
            refine MixPost.mk (True.intro : AnyW _ _) ?_
            clear f2 f3 f4
            refine mix_any 7 rfl (by kernel_rfl) rfl ?_
            go_wp2_with (first | (at_make; refine Stop.un ?_) | (at_builtin; refine Stop.un ?_) | (with_reducible refine Stop.conv 22 9 ?_) | (with_reducible refine Stop.conv 9 22 ?_))
            refine (gadd_any _ _ _ _ (by omega) (by omega)).mono ?_
            rintro e wo ⟨rfl, bo⟩
            go_wp2_with (first | (at_make; refine Stop.un ?_) | (at_builtin; refine Stop.un ?_) | (with_reducible refine Stop.conv 22 9 ?_) | (with_reducible refine Stop.conv 9 22 ?_))
            refine MixPost.mk (True.intro : AnyW _ _) ?_
            replace z := At.mono z bo
            replace zv := At.mono zv bo
            replace o1 := Oth.below o1 bo
            clear bo
            refine mix_quiet Keeps.any 8 rfl (by kernel_rfl) rfl ?_
            intro ι U hne hU
            go_big_quiet_op
            clear hU hne U ι
            show wpAnyM _ _ _ _ _ _ _ _ _
            refine mix_quiet Keeps.any 9 rfl (by kernel_rfl) rfl ?_
            intro ι U hne hU
            go_big_quiet_op
            clear hU hne U ι
            show wpAnyM _ _ _ _ _ _ _ _ _
            have fq2 := z.free 2
            have gq2 := z.cell 2 rfl
            have fq3 := z.free 3
            have gq3 := z.cell 3 rfl
            have lq := z.lt
            refine mix_any 10 rfl (by kernel_rfl) rfl ?_
            go_wp2_with (first | (at_make; refine Stop.un ?_) | (at_builtin; refine Stop.un ?_) | (with_reducible refine Stop.conv 22 9 ?_) | (with_reducible refine Stop.conv 9 22 ?_))
            refine MixPost.mk (True.intro : AnyW _ _) ?_
            clear lq fq2 fq3 gq2 gq3
            refine mix_end (by kernel_rfl) ?_
            have zz0 := z.set 2 (.int .i64 (addH hi lo n))
            have zz1 := zz0.set 3 (.int .u64 (addL lo n))
            have o2 := (o1.set ⟨g, 2, none⟩ (.int .i64 (addH hi lo n)) (.inl rfl)).set ⟨g, 3, none⟩ (.int .u64 (addL lo n)) (.inl rfl)
            clear z zz0 o1
            go_wp2_with (first | (at_make; refine Stop.un ?_) | (at_builtin; refine Stop.un ?_) | (with_reducible refine Stop.conv 22 9 ?_) | (with_reducible refine Stop.conv 9 22 ?_))
            go_end0
            refine ⟨rfl, ?_, o2⟩
            rw [HE.out]
            exact zz1
          ·
            have f2 := z.cell 2 rfl
            have f3 := z.cell 3 rfl
            have f4 := zv.cell 1 rfl
            go_wp2_with (first | (at_make; refine Stop.un ?_) | (at_builtin; refine Stop.un ?_) | (with_reducible refine Stop.conv 22 9 ?_) | (with_reducible refine Stop.conv 9 22 ?_))
            refine MixPost.mk (True.intro : AnyW _ _) ?_
            clear f2 f3 f4
            refine mix_any 4 rfl (by kernel_rfl) rfl ?_
            have f2 := z.cell 2 rfl
            have f3 := z.cell 3 rfl
            have f4 := zv.cell 1 rfl
            go_wp2_with (first | (at_make; refine Stop.un ?_) | (at_builtin; refine Stop.un ?_) | (with_reducible refine Stop.conv 22 9 ?_) | (with_reducible refine Stop.conv 9 22 ?_))
            refine MixPost.mk (True.intro : AnyW _ _) ?_
            clear f2 f3 f4
            refine mix_any 7 rfl (by kernel_rfl) rfl ?_
            go_wp2_with (first | (at_make; refine Stop.un ?_) | (at_builtin; refine Stop.un ?_) | (with_reducible refine Stop.conv 22 9 ?_) | (with_reducible refine Stop.conv 9 22 ?_))
            refine (gadd_any _ _ _ _ (by omega) (by omega)).mono ?_
            rintro e wo ⟨rfl, bo⟩
            go_wp2_with (first | (at_make; refine Stop.un ?_) | (at_builtin; refine Stop.un ?_) | (with_reducible refine Stop.conv 22 9 ?_) | (with_reducible refine Stop.conv 9 22 ?_))
            refine MixPost.mk (True.intro : AnyW _ _) ?_
            replace z := At.mono z bo
            replace zv := At.mono zv bo
            replace o1 := Oth.below o1 bo
            clear bo
            refine mix_quiet Keeps.any 8 rfl (by kernel_rfl) rfl ?_
            intro ι U hne hU
            go_big_quiet_op
            clear hU hne U ι
            show wpAnyM _ _ _ _ _ _ _ _ _
            refine mix_quiet Keeps.any 9 rfl (by kernel_rfl) rfl ?_
            intro ι U hne hU
            go_big_quiet_op
            clear hU hne U ι
            show wpAnyM _ _ _ _ _ _ _ _ _
            have fq2 := z.free 2
            have gq2 := z.cell 2 rfl
            have fq3 := z.free 3
            have gq3 := z.cell 3 rfl
            have lq := z.lt
            refine mix_any 10 rfl (by kernel_rfl) rfl ?_
            go_wp2_with (first | (at_make; refine Stop.un ?_) | (at_builtin; refine Stop.un ?_) | (with_reducible refine Stop.conv 22 9 ?_) | (with_reducible refine Stop.conv 9 22 ?_))
            refine MixPost.mk (True.intro : AnyW _ _) ?_
            clear lq fq2 fq3 gq2 gq3
            refine mix_end (by kernel_rfl) ?_
            have zz0 := z.set 2 (.int .i64 (addH hi lo n))
            have zz1 := zz0.set 3 (.int .u64 (addL lo n))
            have o2 := (o1.set ⟨g, 2, none⟩ (.int .i64 (addH hi lo n)) (.inl rfl)).set ⟨g, 3, none⟩ (.int .u64 (addL lo n)) (.inl rfl)
            clear z zz0 o1
            go_wp2_with (first | (at_make; refine Stop.un ?_) | (at_builtin; refine Stop.un ?_) | (with_reducible refine Stop.conv 22 9 ?_) | (with_reducible refine Stop.conv 9 22 ?_))
            go_end0
            refine ⟨rfl, ?_, o2⟩
            rw [HE.out]
            exact zz1
      ·
        have hcd : decide (cmpV ⟨k, n, s⟩ ⟨lk, ln, ls⟩ < 0) = false := decide_eq_false hc
        have HC := Lib.hid hc
        go_upto_region 5 with fail
        refine mix_startE 14 rfl (by kernel_rfl) ?_
        intro xq hxq
        replace z := At.mono z hxq
        replace zv := At.mono zv hxq
        replace o1 := Oth.below o1 hxq
        clear hxq
        refine mix_quiet Keeps.ext 0 rfl (by kernel_rfl) rfl ?_
        intro ι U hne hU
        go_big_quiet_op
        clear hU hne U ι
        show wpAnyM _ _ _ _ _ _ _ _ _
        refine mix_quiet Keeps.ext 1 rfl (by kernel_rfl) rfl ?_
        intro ι U hne hU
        go_big_quiet_op
        clear hU hne U ι
        show wpAnyM _ _ _ _ _ _ _ _ _
        refine mix_quiet Keeps.ext 2 rfl (by kernel_rfl) rfl ?_
        intro ι U hne hU
        go_big_quiet_op
        clear hU hne U ι
        show wpAnyM _ _ _ _ _ _ _ _ _
        refine mix_quiet Keeps.ext 3 rfl (by kernel_rfl) rfl ?_
        intro ι U hne hU
        have hcw0 := fun ii => (At.mono z (hU ii)).cell 0 rfl
        have hcw1 := fun ii => (At.mono z (hU ii)).cell 1 rfl
        have hcw2 := fun ii => (At.mono z (hU ii)).cell 2 rfl
        have hcw3 := fun ii => (At.mono z (hU ii)).cell 3 rfl
        have hcw4 := fun ii => (At.mono z (hU ii)).cell 4 rfl
        have hcw5 := fun ii => (At.mono z (hU ii)).cell 5 rfl
        have hcw6 := fun ii => (At.mono z (hU ii)).cell 6 rfl
        have hcw7 := fun ii => (At.mono z (hU ii)).cell 7 rfl
        have hcw8 := fun ii => (At.mono z (hU ii)).cell 8 rfl
        have hcw9 := fun ii => (At.mono z (hU ii)).cell 9 rfl
        have hcw10 := fun ii => (At.mono zv (hU ii)).cell 0 rfl
        have hcw11 := fun ii => (At.mono zv (hU ii)).cell 1 rfl
        have hcw12 := fun ii => (At.mono zv (hU ii)).cell 2 rfl
        go_big_quiet_op
        clear hU hne hcw0 hcw1 hcw2 hcw3 hcw4 hcw5 hcw6 hcw7 hcw8 hcw9 hcw10 hcw11 hcw12 U ι
        show wpAnyM _ _ _ _ _ _ _ _ _
        refine mix_quiet Keeps.ext 4 rfl (by kernel_rfl) rfl ?_
        intro ι U hne hU
        go_big_quiet_op
        clear hU hne U ι
        show wpAnyM _ _ _ _ _ _ _ _ _
        refine mix_quiet Keeps.ext 5 rfl (by kernel_rfl) rfl ?_
        intro ι U hne hU
        go_big_quiet_op
        clear hU hne U ι
        show wpAnyM _ _ _ _ _ _ _ _ _
        refine mix_quiet Keeps.ext 6 rfl (by kernel_rfl) rfl ?_
        intro ι U hne hU
        have hcw0 := fun ii => (At.mono z (hU ii)).cell 0 rfl
        have hcw1 := fun ii => (At.mono z (hU ii)).cell 1 rfl
        have hcw2 := fun ii => (At.mono z (hU ii)).cell 2 rfl
        have hcw3 := fun ii => (At.mono z (hU ii)).cell 3 rfl
        have hcw4 := fun ii => (At.mono z (hU ii)).cell 4 rfl
        have hcw5 := fun ii => (At.mono z (hU ii)).cell 5 rfl
        have hcw6 := fun ii => (At.mono z (hU ii)).cell 6 rfl
        have hcw7 := fun ii => (At.mono z (hU ii)).cell 7 rfl
        have hcw8 := fun ii => (At.mono z (hU ii)).cell 8 rfl
        have hcw9 := fun ii => (At.mono z (hU ii)).cell 9 rfl
        have hcw10 := fun ii => (At.mono zv (hU ii)).cell 0 rfl
        have hcw11 := fun ii => (At.mono zv (hU ii)).cell 1 rfl
        have hcw12 := fun ii => (At.mono zv (hU ii)).cell 2 rfl
        go_big_quiet_op
        clear hU hne hcw0 hcw1 hcw2 hcw3 hcw4 hcw5 hcw6 hcw7 hcw8 hcw9 hcw10 hcw11 hcw12 U ι
        show wpAnyM _ _ _ _ _ _ _ _ _
        refine mix_quiet Keeps.ext 7 rfl (by kernel_rfl) rfl ?_
        intro ι U hne hU
        go_big_quiet_op
        clear hU hne U ι
        show wpAnyM _ _ _ _ _ _ _ _ _
        refine mix_quiet Keeps.ext 8 rfl (by kernel_rfl) rfl ?_
        intro ι U hne hU
        go_big_quiet_op
        clear hU hne U ι
        show wpAnyM _ _ _ _ _ _ _ _ _
        refine mix_quiet Keeps.ext 9 rfl (by kernel_rfl) rfl ?_
        intro ι U hne hU
        go_big_quiet_op
        clear hU hne U ι
        show wpAnyM _ _ _ _ _ _ _ _ _
        refine mix_quiet Keeps.ext 10 rfl (by kernel_rfl) rfl ?_
        intro ι U hne hU
        have hcw0 := fun ii => (At.mono z (hU ii)).cell 0 rfl
        have hcw1 := fun ii => (At.mono z (hU ii)).cell 1 rfl
        have hcw2 := fun ii => (At.mono z (hU ii)).cell 2 rfl
        have hcw3 := fun ii => (At.mono z (hU ii)).cell 3 rfl
        have hcw4 := fun ii => (At.mono z (hU ii)).cell 4 rfl
        have hcw5 := fun ii => (At.mono z (hU ii)).cell 5 rfl
        have hcw6 := fun ii => (At.mono z (hU ii)).cell 6 rfl
        have hcw7 := fun ii => (At.mono z (hU ii)).cell 7 rfl
        have hcw8 := fun ii => (At.mono z (hU ii)).cell 8 rfl
        have hcw9 := fun ii => (At.mono z (hU ii)).cell 9 rfl
        have hcw10 := fun ii => (At.mono zv (hU ii)).cell 0 rfl
        have hcw11 := fun ii => (At.mono zv (hU ii)).cell 1 rfl
        have hcw12 := fun ii => (At.mono zv (hU ii)).cell 2 rfl
        go_big_quiet_op
        clear hU hne hcw0 hcw1 hcw2 hcw3 hcw4 hcw5 hcw6 hcw7 hcw8 hcw9 hcw10 hcw11 hcw12 U ι
        show wpAnyM _ _ _ _ _ _ _ _ _
        refine mix_any 11 rfl (by kernel_rfl) rfl ?_
        go_wp2_with (first | (at_make; refine Stop.un ?_) | (at_builtin; refine Stop.un ?_) | (with_reducible refine Stop.conv 22 9 ?_) | (with_reducible refine Stop.conv 9 22 ?_))
        refine (compare_x _ _ _ _ _ _ _).mono ?_
        rintro e wq3 ⟨rfl, bq3⟩
        go_wp2_with (first | (at_make; refine Stop.un ?_) | (at_builtin; refine Stop.un ?_) | (with_reducible refine Stop.conv 22 9 ?_) | (with_reducible refine Stop.conv 9 22 ?_))
        refine MixPost.mk bq3 ?_
        replace z := At.mono z bq3
        replace zv := At.mono zv bq3
        replace o1 := Oth.below o1 bq3
        clear bq3
        refine mix_quiet Keeps.ext 12 rfl (by kernel_rfl) rfl ?_
        intro ι U hne hU
        go_big_quiet_op
        clear hU hne U ι
        show wpAnyM _ _ _ _ _ _ _ _ _
        refine mix_quiet Keeps.ext 13 rfl (by kernel_rfl) rfl ?_
        intro ι U hne hU
        go_big_quiet_op
        clear hU hne U ι
        show wpAnyM _ _ _ _ _ _ _ _ _
        refine mix_end (by kernel_rfl) ?_
        generalize wq3 = W5 at z zv o1 ⊢
        by_cases hc2 : 0 < cmpV ⟨k, n, s⟩ ⟨mk, mn, ms⟩
        ·
          have hcd2 : decide (0 < cmpV ⟨k, n, s⟩ ⟨mk, mn, ms⟩) = true := decide_eq_true hc2
          have HC2 := Lib.hid hc2
          have v0 := zv.cell 0 rfl
          have v1 := zv.cell 1 rfl
          have v2 := zv.cell 2 rfl
          go_upto_region 6 with fail
          have fq7 := z.free 7
          have gq7 := z.cell 7 rfl
          have fq8 := z.free 8
          have gq8 := z.cell 8 rfl
          have fq9 := z.free 9
          have gq9 := z.cell 9 rfl
          have lq := z.lt
          go_upto_region 7 with (first | (at_make; refine Stop.un ?_) | (at_builtin; refine Stop.un ?_))
          have zz0 : At (W5.setCell ⟨g, 7, none⟩ (.int .u8 k)) g #[.int .i64 (ro + 1), .int .i64 so, .int .i64 hi, .int .u64 lo, .int .u8 lk, .int .i64 ln, .string ls, .int .u8 k, .int .i64 mn, .string ms] 83 := At.set z 7 (.int .u8 k)
          have zz1 : At ((W5.setCell ⟨g, 7, none⟩ (.int .u8 k)).setCell ⟨g, 8, none⟩ (.int .i64 n)) g #[.int .i64 (ro + 1), .int .i64 so, .int .i64 hi, .int .u64 lo, .int .u8 lk, .int .i64 ln, .string ls, .int .u8 k, .int .i64 n, .string ms] 83 := At.set zz0 8 (.int .i64 n)
          have zz2 : At (((W5.setCell ⟨g, 7, none⟩ (.int .u8 k)).setCell ⟨g, 8, none⟩ (.int .i64 n)).setCell ⟨g, 9, none⟩ (.string s)) g #[.int .i64 (ro + 1), .int .i64 so, .int .i64 hi, .int .u64 lo, .int .u8 lk, .int .i64 ln, .string ls, .int .u8 k, .int .i64 n, .string s] 83 := At.set zz1 9 (.string s)
          have o2 : Oth (fun k => k = g) w (((W5.setCell ⟨g, 7, none⟩ (.int .u8 k)).setCell ⟨g, 8, none⟩ (.int .i64 n)).setCell ⟨g, 9, none⟩ (.string s)) := (((o1.set ⟨g, 7, none⟩ (.int .u8 k) (.inl rfl)).set ⟨g, 8, none⟩ (.int .i64 n) (.inl rfl)).set ⟨g, 9, none⟩ (.string s) (.inl rfl))
          have zv2 : At (((W5.setCell ⟨g, 7, none⟩ (.int .u8 k)).setCell ⟨g, 8, none⟩ (.int .i64 n)).setCell ⟨g, 9, none⟩ (.string s)) gv _ 38 := (((zv.off (p := ⟨g, 7, none⟩) hgv _).off (p := ⟨g, 8, none⟩) hgv _).off (p := ⟨g, 9, none⟩) hgv _)
          clear lq fq7 gq7 fq8 gq8 fq9 gq9
          clear z zv o1
          generalize (((W5.setCell ⟨g, 7, none⟩ (.int .u8 k)).setCell ⟨g, 8, none⟩ (.int .i64 n)).setCell ⟨g, 9, none⟩ (.string s)) = w_10 at zz2 o2 zv2 ⊢
          have z := zz2
          have o1 := o2
          have zv := zv2
          clear o2 zv2 zz2 zz0 zz1
          clear v0 v1 v2
          have HE : Hid (Kn.cells (Kn.add ⟨ro, so, hi, lo, ⟨lk, ln, ls⟩, ⟨mk, mn, ms⟩⟩ ⟨k, n, s⟩) = #[.int .i64 (ro + 1), .int .i64 (so + 1), .int .i64 (addH hi lo n), .int .u64 (addL lo n), .int .u8 lk, .int .i64 ln, .string ls, .int .u8 k, .int .i64 n, .string s]) := Lib.hid (by
            unfold Kn.add
            rw [if_neg hk0]
            simp only [Kn.cells, hs0, false_or]
            have e1 := HC.out
            have e2 := HC2.out
            rw [if_neg (by omega), if_pos (by omega)])
          have c1 := z.cell 1 rfl
          go_upto_region 7 with fail
          clear c1
          obtain ⟨W, hW⟩ : ∃ W, W = w_10 := ⟨_, rfl⟩
          rw [← hW] at z zv o1 ⊢
          clear hW
          have fq1 := z.free 1
          have gq1 := z.cell 1 rfl
          have lq := z.lt
          go_upto_region 8 with (first | (at_make; refine Stop.un ?_) | (at_builtin; refine Stop.un ?_))
          have zz0 : At (W.setCell ⟨g, 1, none⟩ (.int .i64 (so + 1))) g #[.int .i64 (ro + 1), .int .i64 (so + 1), .int .i64 hi, .int .u64 lo, .int .u8 lk, .int .i64 ln, .string ls, .int .u8 k, .int .i64 n, .string s] 83 := At.set z 1 (.int .i64 (so + 1))
          have o2 : Oth (fun k => k = g) w (W.setCell ⟨g, 1, none⟩ (.int .i64 (so + 1))) := (o1.set ⟨g, 1, none⟩ (.int .i64 (so + 1)) (.inl rfl))
          have zv2 : At (W.setCell ⟨g, 1, none⟩ (.int .i64 (so + 1))) gv _ 38 := (zv.off (p := ⟨g, 1, none⟩) hgv _)
          clear lq fq1 gq1
          clear z zv o1
          generalize (W.setCell ⟨g, 1, none⟩ (.int .i64 (so + 1))) = w_11 at zz0 o2 zv2 ⊢
          have z := zz0
          have o1 := o2
          have zv := zv2
          clear o2 zv2 zz0
          refine mix_startN 11 rfl (by kernel_rfl) ?_
          intro xq hxq
          replace z := At.mono z hxq
          replace zv := At.mono zv hxq
          replace o1 := Oth.below o1 hxq
          clear hxq
          refine mix_quiet Keeps.any 0 rfl (by kernel_rfl) rfl ?_
          intro ι U hne hU
          go_big_quiet_op
          clear hU hne U ι
          show wpAnyM _ _ _ _ _ _ _ _ _
          refine mix_quiet Keeps.any 1 rfl (by kernel_rfl) rfl ?_
          intro ι U hne hU
          go_big_quiet_op
          clear hU hne U ι
          show wpAnyM _ _ _ _ _ _ _ _ _
          refine mix_quiet Keeps.any 2 rfl (by kernel_rfl) rfl ?_
          intro ι U hne hU
          go_big_quiet_op
          clear hU hne U ι
          show wpAnyM _ _ _ _ _ _ _ _ _
          refine mix_quiet Keeps.any 3 rfl (by kernel_rfl) rfl ?_
          intro ι U hne hU
          go_big_quiet_op
          clear hU hne U ι
          show wpAnyM _ _ _ _ _ _ _ _ _
          refine mix_quiet Keeps.any 5 rfl (by kernel_rfl) rfl ?_
          intro ι U hne hU
          go_big_quiet_op
          clear hU hne U ι
          show wpAnyM _ _ _ _ _ _ _ _ _
          refine mix_two 4 6 rfl rfl (by kernel_rfl) rfl rfl ?_ ?_
          ·
            have f2 := z.cell 2 rfl
            have f3 := z.cell 3 rfl
            have f4 := zv.cell 1 rfl
            go_wp2_with (first | (at_make; refine Stop.un ?_) | (at_builtin; refine Stop.un ?_) | (with_reducible refine Stop.conv 22 9 ?_) | (with_reducible refine Stop.conv 9 22 ?_))
            refine MixPost.mk (True.intro : AnyW _ _) ?_
            clear f2 f3 f4
            refine mix_any 6 rfl (by kernel_rfl) rfl ?_
            have f2 := z.cell 2 rfl
            have f3 := z.cell 3 rfl
            have f4 := zv.cell 1 rfl
            go_wp2_with (first | (at_make; refine Stop.un ?_) | (at_builtin; refine Stop.un ?_) | (with_reducible refine Stop.conv 22 9 ?_) | (with_reducible refine Stop.conv 9 22 ?_))
            refine MixPost.mk (True.intro : AnyW _ _) ?_
            clear f2 f3 f4
            refine mix_any 7 rfl (by kernel_rfl) rfl ?_
            go_wp2_with (first | (at_make; refine Stop.un ?_) | (at_builtin; refine Stop.un ?_) | (with_reducible refine Stop.conv 22 9 ?_) | (with_reducible refine Stop.conv 9 22 ?_))
            refine (gadd_any _ _ _ _ (by omega) (by omega)).mono ?_
            rintro e wo ⟨rfl, bo⟩
            go_wp2_with (first | (at_make; refine Stop.un ?_) | (at_builtin; refine Stop.un ?_) | (with_reducible refine Stop.conv 22 9 ?_) | (with_reducible refine Stop.conv 9 22 ?_))
            refine MixPost.mk (True.intro : AnyW _ _) ?_
            replace z := At.mono z bo
            replace zv := At.mono zv bo
            replace o1 := Oth.below o1 bo
            clear bo
            refine mix_quiet Keeps.any 8 rfl (by kernel_rfl) rfl ?_
            intro ι U hne hU
            go_big_quiet_op
            clear hU hne U ι
            show wpAnyM _ _ _ _ _ _ _ _ _
            refine mix_quiet Keeps.any 9 rfl (by kernel_rfl) rfl ?_
            intro ι U hne hU
            go_big_quiet_op
            clear hU hne U ι
            show wpAnyM _ _ _ _ _ _ _ _ _
            have fq2 := z.free 2
            have gq2 := z.cell 2 rfl
            have fq3 := z.free 3
            have gq3 := z.cell 3 rfl
            have lq := z.lt
            refine mix_any 10 rfl (by kernel_rfl) rfl ?_
            go_wp2_with (first | (at_make; refine Stop.un ?_) | (at_builtin; refine Stop.un ?_) | (with_reducible refine Stop.conv 22 9 ?_) | (with_reducible refine Stop.conv 9 22 ?_))
            refine MixPost.mk (True.intro : AnyW _ _) ?_
            clear lq fq2 fq3 gq2 gq3
            refine mix_end (by kernel_rfl) ?_
            have zz0 := z.set 2 (.int .i64 (addH hi lo n))
            have zz1 := zz0.set 3 (.int .u64 (addL lo n))
            have o2 := (o1.set ⟨g, 2, none⟩ (.int .i64 (addH hi lo n)) (.inl rfl)).set ⟨g, 3, none⟩ (.int .u64 (addL lo n)) (.inl rfl)
            clear z zz0 o1
            go_wp2_with (first | (at_make; refine Stop.un ?_) | (at_builtin; refine Stop.un ?_) | (with_reducible refine Stop.conv 22 9 ?_) | (with_reducible refine Stop.conv 9 22 ?_))
            go_end0
            refine ⟨rfl, ?_, o2⟩
            rw [HE.out]
            exact zz1
          ·
            have f2 := z.cell 2 rfl
            have f3 := z.cell 3 rfl
            have f4 := zv.cell 1 rfl
            go_wp2_with (first | (at_make; refine Stop.un ?_) | (at_builtin; refine Stop.un ?_) | (with_reducible refine Stop.conv 22 9 ?_) | (with_reducible refine Stop.conv 9 22 ?_))
            refine MixPost.mk (True.intro : AnyW _ _) ?_
            clear f2 f3 f4
            refine mix_any 4 rfl (by kernel_rfl) rfl ?_
            have f2 := z.cell 2 rfl
            have f3 := z.cell 3 rfl
            have f4 := zv.cell 1 rfl
            go_wp2_with (first | (at_make; refine Stop.un ?_) | (at_builtin; refine Stop.un ?_) | (with_reducible refine Stop.conv 22 9 ?_) | (with_reducible refine Stop.conv 9 22 ?_))
            refine MixPost.mk (True.intro : AnyW _ _) ?_
            clear f2 f3 f4
            refine mix_any 7 rfl (by kernel_rfl) rfl ?_
            go_wp2_with (first | (at_make; refine Stop.un ?_) | (at_builtin; refine Stop.un ?_) | (with_reducible refine Stop.conv 22 9 ?_) | (with_reducible refine Stop.conv 9 22 ?_))
            refine (gadd_any _ _ _ _ (by omega) (by omega)).mono ?_
            rintro e wo ⟨rfl, bo⟩
            go_wp2_with (first | (at_make; refine Stop.un ?_) | (at_builtin; refine Stop.un ?_) | (with_reducible refine Stop.conv 22 9 ?_) | (with_reducible refine Stop.conv 9 22 ?_))
            refine MixPost.mk (True.intro : AnyW _ _) ?_
            replace z := At.mono z bo
            replace zv := At.mono zv bo
            replace o1 := Oth.below o1 bo
            clear bo
            refine mix_quiet Keeps.any 8 rfl (by kernel_rfl) rfl ?_
            intro ι U hne hU
            go_big_quiet_op
            clear hU hne U ι
            show wpAnyM _ _ _ _ _ _ _ _ _
            refine mix_quiet Keeps.any 9 rfl (by kernel_rfl) rfl ?_
            intro ι U hne hU
            go_big_quiet_op
            clear hU hne U ι
            show wpAnyM _ _ _ _ _ _ _ _ _
            have fq2 := z.free 2
            have gq2 := z.cell 2 rfl
            have fq3 := z.free 3
            have gq3 := z.cell 3 rfl
            have lq := z.lt
            refine mix_any 10 rfl (by kernel_rfl) rfl ?_
            go_wp2_with (first | (at_make; refine Stop.un ?_) | (at_builtin; refine Stop.un ?_) | (with_reducible refine Stop.conv 22 9 ?_) | (with_reducible refine Stop.conv 9 22 ?_))
            refine MixPost.mk (True.intro : AnyW _ _) ?_
            clear lq fq2 fq3 gq2 gq3
            refine mix_end (by kernel_rfl) ?_
            have zz0 := z.set 2 (.int .i64 (addH hi lo n))
            have zz1 := zz0.set 3 (.int .u64 (addL lo n))
            have o2 := (o1.set ⟨g, 2, none⟩ (.int .i64 (addH hi lo n)) (.inl rfl)).set ⟨g, 3, none⟩ (.int .u64 (addL lo n)) (.inl rfl)
            clear z zz0 o1
            go_wp2_with (first | (at_make; refine Stop.un ?_) | (at_builtin; refine Stop.un ?_) | (with_reducible refine Stop.conv 22 9 ?_) | (with_reducible refine Stop.conv 9 22 ?_))
            go_end0
            refine ⟨rfl, ?_, o2⟩
            rw [HE.out]
            exact zz1
        ·
          have hcd2 : decide (0 < cmpV ⟨k, n, s⟩ ⟨mk, mn, ms⟩) = false := decide_eq_false hc2
          have HC2 := Lib.hid hc2
          have HE : Hid (Kn.cells (Kn.add ⟨ro, so, hi, lo, ⟨lk, ln, ls⟩, ⟨mk, mn, ms⟩⟩ ⟨k, n, s⟩) = #[.int .i64 (ro + 1), .int .i64 (so + 1), .int .i64 (addH hi lo n), .int .u64 (addL lo n), .int .u8 lk, .int .i64 ln, .string ls, .int .u8 mk, .int .i64 mn, .string ms]) := Lib.hid (by
            unfold Kn.add
            rw [if_neg hk0]
            simp only [Kn.cells, hs0, false_or]
            have e1 := HC.out
            have e2 := HC2.out
            rw [if_neg (by omega), if_neg (by omega)])
          have c1 := z.cell 1 rfl
          go_upto_region 7 with fail
          clear c1
          obtain ⟨W, hW⟩ : ∃ W, W = W5 := ⟨_, rfl⟩
          rw [← hW] at z zv o1 ⊢
          clear hW
          have fq1 := z.free 1
          have gq1 := z.cell 1 rfl
          have lq := z.lt
          go_upto_region 8 with (first | (at_make; refine Stop.un ?_) | (at_builtin; refine Stop.un ?_))
          have zz0 : At (W.setCell ⟨g, 1, none⟩ (.int .i64 (so + 1))) g #[.int .i64 (ro + 1), .int .i64 (so + 1), .int .i64 hi, .int .u64 lo, .int .u8 lk, .int .i64 ln, .string ls, .int .u8 mk, .int .i64 mn, .string ms] 83 := At.set z 1 (.int .i64 (so + 1))
          have o2 : Oth (fun k => k = g) w (W.setCell ⟨g, 1, none⟩ (.int .i64 (so + 1))) := (o1.set ⟨g, 1, none⟩ (.int .i64 (so + 1)) (.inl rfl))
          have zv2 : At (W.setCell ⟨g, 1, none⟩ (.int .i64 (so + 1))) gv _ 38 := (zv.off (p := ⟨g, 1, none⟩) hgv _)
          clear lq fq1 gq1
          clear z zv o1
          generalize (W.setCell ⟨g, 1, none⟩ (.int .i64 (so + 1))) = w_12 at zz0 o2 zv2 ⊢
          have z := zz0
          have o1 := o2
          have zv := zv2
          clear o2 zv2 zz0
          refine mix_startN 11 rfl (by kernel_rfl) ?_
          intro xq hxq
          replace z := At.mono z hxq
          replace zv := At.mono zv hxq
          replace o1 := Oth.below o1 hxq
          clear hxq
          refine mix_quiet Keeps.any 0 rfl (by kernel_rfl) rfl ?_
          intro ι U hne hU
          go_big_quiet_op
          clear hU hne U ι
          show wpAnyM _ _ _ _ _ _ _ _ _
          refine mix_quiet Keeps.any 1 rfl (by kernel_rfl) rfl ?_
          intro ι U hne hU
          go_big_quiet_op
          clear hU hne U ι
          show wpAnyM _ _ _ _ _ _ _ _ _
          refine mix_quiet Keeps.any 2 rfl (by kernel_rfl) rfl ?_
          intro ι U hne hU
          go_big_quiet_op
          clear hU hne U ι
          show wpAnyM _ _ _ _ _ _ _ _ _
          refine mix_quiet Keeps.any 3 rfl (by kernel_rfl) rfl ?_
          intro ι U hne hU
          go_big_quiet_op
          clear hU hne U ι
          show wpAnyM _ _ _ _ _ _ _ _ _
          refine mix_quiet Keeps.any 5 rfl (by kernel_rfl) rfl ?_
          intro ι U hne hU
          go_big_quiet_op
          clear hU hne U ι
          show wpAnyM _ _ _ _ _ _ _ _ _
          refine mix_two 4 6 rfl rfl (by kernel_rfl) rfl rfl ?_ ?_
          ·
            have f2 := z.cell 2 rfl
            have f3 := z.cell 3 rfl
            have f4 := zv.cell 1 rfl
            go_wp2_with (first | (at_make; refine Stop.un ?_) | (at_builtin; refine Stop.un ?_) | (with_reducible refine Stop.conv 22 9 ?_) | (with_reducible refine Stop.conv 9 22 ?_))
            refine MixPost.mk (True.intro : AnyW _ _) ?_
            clear f2 f3 f4
            refine mix_any 6 rfl (by kernel_rfl) rfl ?_
            have f2 := z.cell 2 rfl
            have f3 := z.cell 3 rfl
            have f4 := zv.cell 1 rfl
            go_wp2_with (first | (at_make; refine Stop.un ?_) | (at_builtin; refine Stop.un ?_) | (with_reducible refine Stop.conv 22 9 ?_) | (with_reducible refine Stop.conv 9 22 ?_))
            refine MixPost.mk (True.intro : AnyW _ _) ?_
            clear f2 f3 f4
            refine mix_any 7 rfl (by kernel_rfl) rfl ?_
            go_wp2_with (first | (at_make; refine Stop.un ?_) | (at_builtin; refine Stop.un ?_) | (with_reducible refine Stop.conv 22 9 ?_) | (with_reducible refine Stop.conv 9 22 ?_))
            refine (gadd_any _ _ _ _ (by omega) (by omega)).mono ?_
            rintro e wo ⟨rfl, bo⟩
            go_wp2_with (first | (at_make; refine Stop.un ?_) | (at_builtin; refine Stop.un ?_) | (with_reducible refine Stop.conv 22 9 ?_) | (with_reducible refine Stop.conv 9 22 ?_))
            refine MixPost.mk (True.intro : AnyW _ _) ?_
            replace z := At.mono z bo
            replace zv := At.mono zv bo
            replace o1 := Oth.below o1 bo
            clear bo
            refine mix_quiet Keeps.any 8 rfl (by kernel_rfl) rfl ?_
            intro ι U hne hU
            go_big_quiet_op
            clear hU hne U ι
            show wpAnyM _ _ _ _ _ _ _ _ _
            refine mix_quiet Keeps.any 9 rfl (by kernel_rfl) rfl ?_
            intro ι U hne hU
            go_big_quiet_op
            clear hU hne U ι
            show wpAnyM _ _ _ _ _ _ _ _ _
            have fq2 := z.free 2
            have gq2 := z.cell 2 rfl
            have fq3 := z.free 3
            have gq3 := z.cell 3 rfl
            have lq := z.lt
            refine mix_any 10 rfl (by kernel_rfl) rfl ?_
            go_wp2_with (first | (at_make; refine Stop.un ?_) | (at_builtin; refine Stop.un ?_) | (with_reducible refine Stop.conv 22 9 ?_) | (with_reducible refine Stop.conv 9 22 ?_))
            refine MixPost.mk (True.intro : AnyW _ _) ?_
            clear lq fq2 fq3 gq2 gq3
            refine mix_end (by kernel_rfl) ?_
            have zz0 := z.set 2 (.int .i64 (addH hi lo n))
            have zz1 := zz0.set 3 (.int .u64 (addL lo n))
            have o2 := (o1.set ⟨g, 2, none⟩ (.int .i64 (addH hi lo n)) (.inl rfl)).set ⟨g, 3, none⟩ (.int .u64 (addL lo n)) (.inl rfl)
            clear z zz0 o1
            go_wp2_with (first | (at_make; refine Stop.un ?_) | (at_builtin; refine Stop.un ?_) | (with_reducible refine Stop.conv 22 9 ?_) | (with_reducible refine Stop.conv 9 22 ?_))
            go_end0
            refine ⟨rfl, ?_, o2⟩
            rw [HE.out]
            exact zz1
          ·
            have f2 := z.cell 2 rfl
            have f3 := z.cell 3 rfl
            have f4 := zv.cell 1 rfl
            go_wp2_with (first | (at_make; refine Stop.un ?_) | (at_builtin; refine Stop.un ?_) | (with_reducible refine Stop.conv 22 9 ?_) | (with_reducible refine Stop.conv 9 22 ?_))
            refine MixPost.mk (True.intro : AnyW _ _) ?_
            clear f2 f3 f4
            refine mix_any 4 rfl (by kernel_rfl) rfl ?_
            have f2 := z.cell 2 rfl
            have f3 := z.cell 3 rfl
            have f4 := zv.cell 1 rfl
            go_wp2_with (first | (at_make; refine Stop.un ?_) | (at_builtin; refine Stop.un ?_) | (with_reducible refine Stop.conv 22 9 ?_) | (with_reducible refine Stop.conv 9 22 ?_))
            refine MixPost.mk (True.intro : AnyW _ _) ?_
            clear f2 f3 f4
            refine mix_any 7 rfl (by kernel_rfl) rfl ?_
            go_wp2_with (first | (at_make; refine Stop.un ?_) | (at_builtin; refine Stop.un ?_) | (with_reducible refine Stop.conv 22 9 ?_) | (with_reducible refine Stop.conv 9 22 ?_))
            refine (gadd_any _ _ _ _ (by omega) (by omega)).mono ?_
            rintro e wo ⟨rfl, bo⟩
            go_wp2_with (first | (at_make; refine Stop.un ?_) | (at_builtin; refine Stop.un ?_) | (with_reducible refine Stop.conv 22 9 ?_) | (with_reducible refine Stop.conv 9 22 ?_))
            refine MixPost.mk (True.intro : AnyW _ _) ?_
            replace z := At.mono z bo
            replace zv := At.mono zv bo
            replace o1 := Oth.below o1 bo
            clear bo
            refine mix_quiet Keeps.any 8 rfl (by kernel_rfl) rfl ?_
            intro ι U hne hU
            go_big_quiet_op
            clear hU hne U ι
            show wpAnyM _ _ _ _ _ _ _ _ _
            refine mix_quiet Keeps.any 9 rfl (by kernel_rfl) rfl ?_
            intro ι U hne hU
            go_big_quiet_op
            clear hU hne U ι
            show wpAnyM _ _ _ _ _ _ _ _ _
            have fq2 := z.free 2
            have gq2 := z.cell 2 rfl
            have fq3 := z.free 3
            have gq3 := z.cell 3 rfl
            have lq := z.lt
            refine mix_any 10 rfl (by kernel_rfl) rfl ?_
            go_wp2_with (first | (at_make; refine Stop.un ?_) | (at_builtin; refine Stop.un ?_) | (with_reducible refine Stop.conv 22 9 ?_) | (with_reducible refine Stop.conv 9 22 ?_))
            refine MixPost.mk (True.intro : AnyW _ _) ?_
            clear lq fq2 fq3 gq2 gq3
            refine mix_end (by kernel_rfl) ?_
            have zz0 := z.set 2 (.int .i64 (addH hi lo n))
            have zz1 := zz0.set 3 (.int .u64 (addL lo n))
            have o2 := (o1.set ⟨g, 2, none⟩ (.int .i64 (addH hi lo n)) (.inl rfl)).set ⟨g, 3, none⟩ (.int .u64 (addL lo n)) (.inl rfl)
            clear z zz0 o1
            go_wp2_with (first | (at_make; refine Stop.un ?_) | (at_builtin; refine Stop.un ?_) | (with_reducible refine Stop.conv 22 9 ?_) | (with_reducible refine Stop.conv 9 22 ?_))
            go_end0
            refine ⟨rfl, ?_, o2⟩
            rw [HE.out]
            exact zz1
/-! What is told of what is known. -/
def numG (n : Int) : V := ⟨2, n, ⟨#[]⟩⟩
/-- What is told, and the error. -/
def Kn.told (K : Kn) (op : Int) : V × Int :=
  if op = 1 then (numG K.rows, 0) else if op = 2 then (numG K.some, 0) else if op = 4 then (K.least, 0) else if op = 5 then (K.most, 0) else
  if K.some = 0 then (V.zero, 0) else if narB K.hi K.lo = true then (numG (narN K.hi K.lo), 0) else (V.zero, 220)
theorem told_err (K : Kn) (op : Int) : (K.told op).2 = 0 ∨ (K.told op).2 = 220 := by
  unfold Kn.told
  repeat' split
  all_goals first | exact .inl rfl | exact .inr rfl
set_option maxRecDepth 100000 in
set_option maxHeartbeats 8000000 in
theorem ktold_any (K : Kn) (op : Int) (g m : Nat) (w : World) (z : At w g K.cells 83) (hK : K.ok m) (hm : m ≤ 1000000) :
    Calls Try.prog 45 #[.pointer (some ⟨g, 0, none⟩), .int .u8 op] w (fun e w' => e = .returned (.tuple #[(K.told op).1.val, .int .i64 (K.told op).2]) ∧ Below w.heap.size w w') := by
  obtain ⟨ro, so, hi, lo, ⟨lk, ln, ls⟩, ⟨mk, mn, ms⟩⟩ := K
  obtain ⟨h1, h2, h3, h4, h5, h6⟩ := hK
  simp only [Kn.cells] at z h1 h2 h3 h4 h5 h6
  by_cases o1 : op = 1
  ·
    subst o1
    have e0 : Kn.told ⟨ro, so, hi, lo, ⟨lk, ln, ls⟩, ⟨mk, mn, ms⟩⟩ 1 = (numG (ro), 0) := by
      unfold Kn.told
      exact if_pos rfl
    rw [e0]
    clear e0
    simp only [V.val, numG, V.zero]
    have z2 := z.alloc (.cells #[.int .u8 0, .int .i64 0, .string ⟨#[]⟩] 38)
    have zr := At.new w #[.int .u8 0, .int .i64 0, .string ⟨#[]⟩] 38
    have b1 := (Below.refl w.heap.size w).alloc (Nat.le_refl _) (.cells #[.int .u8 0, .int .i64 0, .string ⟨#[]⟩] 38)
    clear z
    go_enter Try.func45, Try.ntmps45
    go_upto_region 1 with fail
    generalize w.alloc (.cells #[.int .u8 0, .int .i64 0, .string ⟨#[]⟩] 38) = wA at z2 zr b1 ⊢
    have hgr : w.heap.size ≤ w.heap.size := Nat.le_refl _
    skip
    have c0 := z2.cell 0 rfl
    go_wp2_with (first | (at_make; refine Stop.un ?_) | (at_builtin; refine Stop.un ?_) | (with_reducible refine Stop.conv 22 9 ?_) | (with_reducible refine Stop.conv 9 22 ?_))
    refine (gnumber_any _ _).mono ?_
    rintro e wo ⟨rfl, bo⟩
    replace zr := zr.mono bo
    replace z2 := z2.mono bo
    replace b1 := b1.next bo
    clear bo
    have fq0 := zr.free 0
    have gq0 := zr.cell 0 rfl
    have fq1 := zr.free 1
    have gq1 := zr.cell 1 rfl
    have fq2 := zr.free 2
    have gq2 := zr.cell 2 rfl
    have lq := zr.lt
    go_wp2_with (first | (at_make; refine Stop.un ?_) | (at_builtin; refine Stop.un ?_) | (with_reducible refine Stop.conv 22 9 ?_) | (with_reducible refine Stop.conv 9 22 ?_))
    have RQ := zr.set3 (.int .u8 2) (.int .i64 (ro)) (.string ⟨#[]⟩)
    have rq0 := RQ.cell 0 rfl
    have rq1 := RQ.cell 1 rfl
    have rq2 := RQ.cell 2 rfl
    have rql := RQ.lt
    exact bodyPost_ret (v := .tuple #[.agg #[.int .u8 2, .int .i64 (ro), .string ⟨#[]⟩], .int .i64 0]) (by simp [results, Try.results45, go_sem, rq0, rq1, rq2]) rfl ⟨by first | rfl | simp, below_set3 b1 _ _ _ (Nat.le_refl _)⟩
  · by_cases o2 : op = 2
    ·
      subst o2
      have e0 : Kn.told ⟨ro, so, hi, lo, ⟨lk, ln, ls⟩, ⟨mk, mn, ms⟩⟩ 2 = (numG (so), 0) := by
        unfold Kn.told
        rfl
      rw [e0]
      clear e0
      simp only [V.val, numG, V.zero]
      have z2 := z.alloc (.cells #[.int .u8 0, .int .i64 0, .string ⟨#[]⟩] 38)
      have zr := At.new w #[.int .u8 0, .int .i64 0, .string ⟨#[]⟩] 38
      have b1 := (Below.refl w.heap.size w).alloc (Nat.le_refl _) (.cells #[.int .u8 0, .int .i64 0, .string ⟨#[]⟩] 38)
      clear z
      go_enter Try.func45, Try.ntmps45
      go_upto_region 1 with fail
      generalize w.alloc (.cells #[.int .u8 0, .int .i64 0, .string ⟨#[]⟩] 38) = wA at z2 zr b1 ⊢
      have hgr : w.heap.size ≤ w.heap.size := Nat.le_refl _
      skip
      have c1 := z2.cell 1 rfl
      go_wp2_with (first | (at_make; refine Stop.un ?_) | (at_builtin; refine Stop.un ?_) | (with_reducible refine Stop.conv 22 9 ?_) | (with_reducible refine Stop.conv 9 22 ?_))
      refine (gnumber_any _ _).mono ?_
      rintro e wo ⟨rfl, bo⟩
      replace zr := zr.mono bo
      replace z2 := z2.mono bo
      replace b1 := b1.next bo
      clear bo
      have fq0 := zr.free 0
      have gq0 := zr.cell 0 rfl
      have fq1 := zr.free 1
      have gq1 := zr.cell 1 rfl
      have fq2 := zr.free 2
      have gq2 := zr.cell 2 rfl
      have lq := zr.lt
      go_wp2_with (first | (at_make; refine Stop.un ?_) | (at_builtin; refine Stop.un ?_) | (with_reducible refine Stop.conv 22 9 ?_) | (with_reducible refine Stop.conv 9 22 ?_))
      have RQ := zr.set3 (.int .u8 2) (.int .i64 (so)) (.string ⟨#[]⟩)
      have rq0 := RQ.cell 0 rfl
      have rq1 := RQ.cell 1 rfl
      have rq2 := RQ.cell 2 rfl
      have rql := RQ.lt
      exact bodyPost_ret (v := .tuple #[.agg #[.int .u8 2, .int .i64 (so), .string ⟨#[]⟩], .int .i64 0]) (by simp [results, Try.results45, go_sem, rq0, rq1, rq2]) rfl ⟨by first | rfl | simp, below_set3 b1 _ _ _ (Nat.le_refl _)⟩
    · by_cases o4 : op = 4
      ·
        subst o4
        have e0 : Kn.told ⟨ro, so, hi, lo, ⟨lk, ln, ls⟩, ⟨mk, mn, ms⟩⟩ 4 = (⟨lk, ln, ls⟩, 0) := by
          unfold Kn.told
          rfl
        rw [e0]
        clear e0
        simp only [V.val, numG, V.zero]
        have z2 := z.alloc (.cells #[.int .u8 0, .int .i64 0, .string ⟨#[]⟩] 38)
        have zr := At.new w #[.int .u8 0, .int .i64 0, .string ⟨#[]⟩] 38
        have b1 := (Below.refl w.heap.size w).alloc (Nat.le_refl _) (.cells #[.int .u8 0, .int .i64 0, .string ⟨#[]⟩] 38)
        clear z
        go_enter Try.func45, Try.ntmps45
        go_upto_region 1 with fail
        generalize w.alloc (.cells #[.int .u8 0, .int .i64 0, .string ⟨#[]⟩] 38) = wA at z2 zr b1 ⊢
        have hgr : w.heap.size ≤ w.heap.size := Nat.le_refl _
        skip
        have c4 := z2.cell 4 rfl
        have c5 := z2.cell 5 rfl
        have c6 := z2.cell 6 rfl
        have fq0 := zr.free 0
        have gq0 := zr.cell 0 rfl
        have fq1 := zr.free 1
        have gq1 := zr.cell 1 rfl
        have fq2 := zr.free 2
        have gq2 := zr.cell 2 rfl
        have lq := zr.lt
        go_wp2_with (first | (at_make; refine Stop.un ?_) | (at_builtin; refine Stop.un ?_) | (with_reducible refine Stop.conv 22 9 ?_) | (with_reducible refine Stop.conv 9 22 ?_))
        have RQ := zr.set3 (.int .u8 lk) (.int .i64 ln) (.string ls)
        have rq0 := RQ.cell 0 rfl
        have rq1 := RQ.cell 1 rfl
        have rq2 := RQ.cell 2 rfl
        have rql := RQ.lt
        exact bodyPost_ret (v := .tuple #[.agg #[.int .u8 lk, .int .i64 ln, .string ls], .int .i64 0]) (by simp [results, Try.results45, go_sem, rq0, rq1, rq2]) rfl ⟨by first | rfl | simp, below_set3 b1 _ _ _ (Nat.le_refl _)⟩
      · by_cases o5 : op = 5
        ·
          subst o5
          have e0 : Kn.told ⟨ro, so, hi, lo, ⟨lk, ln, ls⟩, ⟨mk, mn, ms⟩⟩ 5 = (⟨mk, mn, ms⟩, 0) := by
            unfold Kn.told
            rfl
          rw [e0]
          clear e0
          simp only [V.val, numG, V.zero]
          have z2 := z.alloc (.cells #[.int .u8 0, .int .i64 0, .string ⟨#[]⟩] 38)
          have zr := At.new w #[.int .u8 0, .int .i64 0, .string ⟨#[]⟩] 38
          have b1 := (Below.refl w.heap.size w).alloc (Nat.le_refl _) (.cells #[.int .u8 0, .int .i64 0, .string ⟨#[]⟩] 38)
          clear z
          go_enter Try.func45, Try.ntmps45
          go_upto_region 1 with fail
          generalize w.alloc (.cells #[.int .u8 0, .int .i64 0, .string ⟨#[]⟩] 38) = wA at z2 zr b1 ⊢
          have hgr : w.heap.size ≤ w.heap.size := Nat.le_refl _
          skip
          have c7 := z2.cell 7 rfl
          have c8 := z2.cell 8 rfl
          have c9 := z2.cell 9 rfl
          have fq0 := zr.free 0
          have gq0 := zr.cell 0 rfl
          have fq1 := zr.free 1
          have gq1 := zr.cell 1 rfl
          have fq2 := zr.free 2
          have gq2 := zr.cell 2 rfl
          have lq := zr.lt
          go_wp2_with (first | (at_make; refine Stop.un ?_) | (at_builtin; refine Stop.un ?_) | (with_reducible refine Stop.conv 22 9 ?_) | (with_reducible refine Stop.conv 9 22 ?_))
          have RQ := zr.set3 (.int .u8 mk) (.int .i64 mn) (.string ms)
          have rq0 := RQ.cell 0 rfl
          have rq1 := RQ.cell 1 rfl
          have rq2 := RQ.cell 2 rfl
          have rql := RQ.lt
          exact bodyPost_ret (v := .tuple #[.agg #[.int .u8 mk, .int .i64 mn, .string ms], .int .i64 0]) (by simp [results, Try.results45, go_sem, rq0, rq1, rq2]) rfl ⟨by first | rfl | simp, below_set3 b1 _ _ _ (Nat.le_refl _)⟩
        · have q1 : (op == 1) = false := by simpa using o1
          have q2 : (op == 2) = false := by simpa using o2
          have q4 : (op == 4) = false := by simpa using o4
          have q5 : (op == 5) = false := by simpa using o5
          by_cases s0 : so = 0
          ·
            subst s0
            have e0 : Kn.told ⟨ro, 0, hi, lo, ⟨lk, ln, ls⟩, ⟨mk, mn, ms⟩⟩ op = (V.zero, 0) := by
              unfold Kn.told
              rw [if_neg o1, if_neg o2, if_neg o4, if_neg o5]; rfl
            rw [e0]
            clear e0
            simp only [V.val, numG, V.zero]
            have z2 := z.alloc (.cells #[.int .u8 0, .int .i64 0, .string ⟨#[]⟩] 38)
            have zr := At.new w #[.int .u8 0, .int .i64 0, .string ⟨#[]⟩] 38
            have b1 := (Below.refl w.heap.size w).alloc (Nat.le_refl _) (.cells #[.int .u8 0, .int .i64 0, .string ⟨#[]⟩] 38)
            clear z
            go_enter Try.func45, Try.ntmps45
            go_upto_region 1 with fail
            generalize w.alloc (.cells #[.int .u8 0, .int .i64 0, .string ⟨#[]⟩] 38) = wA at z2 zr b1 ⊢
            have hgr : w.heap.size ≤ w.heap.size := Nat.le_refl _
            skip
            have c1 := z2.cell 1 rfl
            have fq0 := zr.free 0
            have gq0 := zr.cell 0 rfl
            have fq1 := zr.free 1
            have gq1 := zr.cell 1 rfl
            have fq2 := zr.free 2
            have gq2 := zr.cell 2 rfl
            have lq := zr.lt
            go_wp2_with (first | (at_make; refine Stop.un ?_) | (at_builtin; refine Stop.un ?_) | (with_reducible refine Stop.conv 22 9 ?_) | (with_reducible refine Stop.conv 9 22 ?_))
            have RQ := zr.set3 (.int .u8 0) (.int .i64 0) (.string ⟨#[]⟩)
            have rq0 := RQ.cell 0 rfl
            have rq1 := RQ.cell 1 rfl
            have rq2 := RQ.cell 2 rfl
            have rql := RQ.lt
            exact bodyPost_ret (v := .tuple #[.agg #[.int .u8 0, .int .i64 0, .string ⟨#[]⟩], .int .i64 0]) (by simp [results, Try.results45, go_sem, rq0, rq1, rq2]) rfl ⟨by first | rfl | simp, below_set3 b1 _ _ _ (Nat.le_refl _)⟩
          · have hs : (so == 0) = false := by simpa using s0
            cases hB : narB hi lo with
            | true =>
              have e0 : Kn.told ⟨ro, so, hi, lo, ⟨lk, ln, ls⟩, ⟨mk, mn, ms⟩⟩ op = (numG (narN hi lo), 0) := by
                unfold Kn.told
                rw [if_neg o1, if_neg o2, if_neg o4, if_neg o5, if_neg s0, if_pos hB]
              rw [e0]
              clear e0
              simp only [V.val, numG, V.zero]
              have z2 := z.alloc (.cells #[.int .u8 0, .int .i64 0, .string ⟨#[]⟩] 38)
              have zr := At.new w #[.int .u8 0, .int .i64 0, .string ⟨#[]⟩] 38
              have b1 := (Below.refl w.heap.size w).alloc (Nat.le_refl _) (.cells #[.int .u8 0, .int .i64 0, .string ⟨#[]⟩] 38)
              clear z
              go_enter Try.func45, Try.ntmps45
              go_upto_region 1 with fail
              generalize w.alloc (.cells #[.int .u8 0, .int .i64 0, .string ⟨#[]⟩] 38) = wA at z2 zr b1 ⊢
              have hgr : w.heap.size ≤ w.heap.size := Nat.le_refl _
              skip
              have c1 := z2.cell 1 rfl
              have c2 := z2.cell 2 rfl
              have c3 := z2.cell 3 rfl
              go_wp2_with (first | (at_make; refine Stop.un ?_) | (at_builtin; refine Stop.un ?_) | (with_reducible refine Stop.conv 22 9 ?_) | (with_reducible refine Stop.conv 9 22 ?_))
              refine ((gnarrow_any hi lo _)).mono ?_
              rintro e wo ⟨rfl, bo⟩
              replace zr := zr.mono bo
              replace z2 := z2.mono bo
              replace b1 := b1.next bo
              clear bo
              have fq0 := zr.free 0
              have gq0 := zr.cell 0 rfl
              have fq1 := zr.free 1
              have gq1 := zr.cell 1 rfl
              have fq2 := zr.free 2
              have gq2 := zr.cell 2 rfl
              have lq := zr.lt
              go_wp2_with (first | (at_make; refine Stop.un ?_) | (at_builtin; refine Stop.un ?_) | (with_reducible refine Stop.conv 22 9 ?_) | (with_reducible refine Stop.conv 9 22 ?_))
              refine (gnumber_any _ _).mono ?_
              rintro e wo ⟨rfl, bo⟩
              replace zr := zr.mono bo
              replace z2 := z2.mono bo
              replace b1 := b1.next bo
              clear bo
              have fq0 := zr.free 0
              have gq0 := zr.cell 0 rfl
              have fq1 := zr.free 1
              have gq1 := zr.cell 1 rfl
              have fq2 := zr.free 2
              have gq2 := zr.cell 2 rfl
              have lq := zr.lt
              go_wp2_with (first | (at_make; refine Stop.un ?_) | (at_builtin; refine Stop.un ?_) | (with_reducible refine Stop.conv 22 9 ?_) | (with_reducible refine Stop.conv 9 22 ?_))
              have RQ := zr.set3 (.int .u8 2) (.int .i64 (narN hi lo)) (.string ⟨#[]⟩)
              have rq0 := RQ.cell 0 rfl
              have rq1 := RQ.cell 1 rfl
              have rq2 := RQ.cell 2 rfl
              have rql := RQ.lt
              exact bodyPost_ret (v := .tuple #[.agg #[.int .u8 2, .int .i64 (narN hi lo), .string ⟨#[]⟩], .int .i64 0]) (by simp [results, Try.results45, go_sem, rq0, rq1, rq2]) rfl ⟨by first | rfl | simp, below_set3 b1 _ _ _ (Nat.le_refl _)⟩
            | false =>
              have e0 : Kn.told ⟨ro, so, hi, lo, ⟨lk, ln, ls⟩, ⟨mk, mn, ms⟩⟩ op = (V.zero, 220) := by
                unfold Kn.told
                rw [if_neg o1, if_neg o2, if_neg o4, if_neg o5, if_neg s0, if_neg (by rw [hB]; decide)]
              rw [e0]
              clear e0
              simp only [V.val, numG, V.zero]
              have z2 := z.alloc (.cells #[.int .u8 0, .int .i64 0, .string ⟨#[]⟩] 38)
              have zr := At.new w #[.int .u8 0, .int .i64 0, .string ⟨#[]⟩] 38
              have b1 := (Below.refl w.heap.size w).alloc (Nat.le_refl _) (.cells #[.int .u8 0, .int .i64 0, .string ⟨#[]⟩] 38)
              clear z
              go_enter Try.func45, Try.ntmps45
              go_upto_region 1 with fail
              generalize w.alloc (.cells #[.int .u8 0, .int .i64 0, .string ⟨#[]⟩] 38) = wA at z2 zr b1 ⊢
              have hgr : w.heap.size ≤ w.heap.size := Nat.le_refl _
              skip
              have c1 := z2.cell 1 rfl
              have c2 := z2.cell 2 rfl
              have c3 := z2.cell 3 rfl
              go_wp2_with (first | (at_make; refine Stop.un ?_) | (at_builtin; refine Stop.un ?_) | (with_reducible refine Stop.conv 22 9 ?_) | (with_reducible refine Stop.conv 9 22 ?_))
              refine ((gnarrow_any hi lo _)).mono ?_
              rintro e wo ⟨rfl, bo⟩
              replace zr := zr.mono bo
              replace z2 := z2.mono bo
              replace b1 := b1.next bo
              clear bo
              have fq0 := zr.free 0
              have gq0 := zr.cell 0 rfl
              have fq1 := zr.free 1
              have gq1 := zr.cell 1 rfl
              have fq2 := zr.free 2
              have gq2 := zr.cell 2 rfl
              have lq := zr.lt
              go_wp2_with (first | (at_make; refine Stop.un ?_) | (at_builtin; refine Stop.un ?_) | (with_reducible refine Stop.conv 22 9 ?_) | (with_reducible refine Stop.conv 9 22 ?_))
              have RQ := zr.set3 (.int .u8 0) (.int .i64 0) (.string ⟨#[]⟩)
              have rq0 := RQ.cell 0 rfl
              have rq1 := RQ.cell 1 rfl
              have rq2 := RQ.cell 2 rfl
              have rql := RQ.lt
              exact bodyPost_ret (v := .tuple #[.agg #[.int .u8 0, .int .i64 0, .string ⟨#[]⟩], .int .i64 220]) (by simp [results, Try.results45, go_sem, rq0, rq1, rq2]) rfl ⟨by first | rfl | simp, below_set3 b1 _ _ _ (Nat.le_refl _)⟩
/-! A group's row. -/
/-- What is told of a column. -/
structure Ag where
  op : Int
  col : Int
def agcells : List Ag → List Value
  | [] => []
  | x :: l => .int .u8 x.op :: .int .i64 x.col :: agcells l
theorem agcells_length : ∀ l : List Ag, (agcells l).length = l.length * 2
  | [] => rfl
  | v :: l => by simp only [agcells, List.length_cons, agcells_length l]; omega
theorem agcells_get : ∀ (l : List Ag) (i : Nat) (h : i < l.length), (agcells l)[i * 2]? = some (.int .u8 l[i].op) ∧ (agcells l)[i * 2 + 1]? = some (.int .i64 l[i].col)
  | [], i, h => absurd h (by simp)
  | v :: l, 0, h => ⟨rfl, rfl⟩
  | v :: l, i + 1, h => by
    have ih := agcells_get l i (by simpa using h)
    simp only [agcells, List.getElem_cons_succ]
    rw [show (i + 1) * 2 = i * 2 + 2 by omega]
    exact ih
theorem Cs.agat {w : World} {b o : Nat} {l : List Ag} (h : Cs w (some ⟨b, o, none⟩) (agcells l)) {i : Nat} (hi : i < l.length) :
    w.cell? ⟨b, o + i * 2, none⟩ = some (.int .u8 l[i].op) ∧ w.cell? ⟨b, o + i * 2 + 1, none⟩ = some (.int .i64 l[i].col) := by
  obtain ⟨h0, h1⟩ := agcells_get l i hi
  exact ⟨h.at h0, h.at h1⟩
/-- The value of a row that counts. -/
def vOf (x : Ag) (r : List V) : V := if x.op = 1 then V.zero else atV r x.col
/-- What is known of rows. -/
def knOf (x : Ag) (rows : List (List V)) : Kn := (rows.map (vOf x)).foldl Kn.add Kn.zero
theorem knOf_snoc (x : Ag) (rows : List (List V)) (r : List V) : knOf x (rows ++ [r]) = (knOf x rows).add (vOf x r) := by simp [knOf]
theorem knOf_ok (x : Ag) (rows : List (List V)) : (knOf x rows).ok rows.length := by
  have : ∀ (l : List V) (K : Kn) (m : Nat), K.ok m → (l.foldl Kn.add K).ok (m + l.length) := by
    intro l
    induction l with
    | nil => intro K m h; exact h
    | cons v l ih =>
      intro K m h
      have := ih _ _ (Kn.ok_add h v)
      rw [List.foldl_cons, List.length_cons, show m + (l.length + 1) = m + 1 + l.length by omega]
      exact this
  have h := this (rows.map (vOf x)) Kn.zero 0 Kn.ok_zero
  rw [List.length_map, Nat.zero_add] at h
  exact h
def aggB (rows : List (List V)) (x : Ag) : V × Int := (knOf x rows).told x.op
/-- What is told behind out: the error, and the row. -/
def tldB (rows : List (List V)) : List V → List Ag → Int × List V
  | out, [] => (0, out)
  | out, x :: l => if (aggB rows x).2 = 0 then tldB rows (out ++ [(aggB rows x).1]) l else ((aggB rows x).2, [])
/-- May columns be read? -/
def colOk (x : Ag) (r : Rw) : Prop := x.op = 1 ∨ (0 ≤ x.col ∧ x.col < r.n)
/-- A row of the call's own, or none and an error. -/
def RetRow (w : World) (res : Int × List V) : Ending → World → Prop := fun e w' =>
  (∃ g n c, e = .returned (.tuple #[.slice (some ⟨g, 0, none⟩) n c, .int .i64 0]) ∧ res.1 = 0 ∧ OwnV w w' (.slice (some ⟨g, 0, none⟩) n c) n res.2) ∨
  (∃ er, e = .returned (.tuple #[.slice none 0 0, .int .i64 er]) ∧ res.1 = er ∧ er ≠ 0 ∧ Below w.heap.size w w')
set_option maxRecDepth 100000 in
set_option maxHeartbeats 8000000 in
theorem gtold_any (ha : Option Addr) (hn hc : Nat) (hl : List V) (ra : Option Addr) (rn rc : Nat) (rows : List Rw) (ga : Option Addr) (gn gc : Nat) (ags : List Ag) (w : World)
    (h1 : Cs w ha (vcells hl)) (e1 : hl.length = hn) (m1 : hn ≤ 1000) (t : Tab w ra rows) (e2 : rows.length = rn) (m2 : rn ≤ rc) (cm2 : rc ≤ maxLen) (s2 : rn ≤ 100000)
    (h3 : Cs w ga (agcells ags)) (e3 : ags.length = gn) (m3 : gn ≤ gc) (cm3 : gc ≤ maxLen) (s3 : gn ≤ 1000) (hok : ∀ x ∈ ags, ∀ r ∈ rows, colOk x r) :
    Calls Try.prog 28 #[.slice ha hn hc, .slice ra rn rc, .slice ga gn gc] w (RetRow w (tldB (rows.map (·.l)) hl ags)) := by
  unfold maxLen at cm2 cm3
  have HN := Lib.hid (And.intro e1 (And.intro e2 (And.intro e3 hok)))
  clear e1 e2 e3 hok
  have HTH := Lib.hid (And.intro h1 (And.intro t h3))
  have hS : OwnV w (w.alloc (.cells #[] 38)) (.slice (some ⟨w.heap.size, 0, none⟩) 0 0) 0 [] := Own.block (Below.refl _ _) rfl (by decide)
  have hcs := h1.alloc (.cells #[] 38)
  clear h1 t h3
  go_enter Try.func28, Try.ntmps28
  go_wp2_with (first | (at_make; refine Stop.un ?_) | (at_builtin; refine Stop.un ?_) | (with_reducible refine Stop.conv 22 9 ?_) | (with_reducible refine Stop.conv 9 22 ?_))
  refine Stop.mk (app_rsk w _ _ rfl rfl hS rfl rfl HN.out.1 hcs (by omega) ?_)
  intro g0 c0 w0 O0 g4 k4
  simp only [Nat.zero_add, List.nil_append] at O0 ⊢
  clear hS hcs g4 k4
  go_wp2_with (first | (at_make; refine Stop.un ?_) | (at_builtin; refine Stop.un ?_) | (with_reducible refine Stop.conv 22 9 ?_) | (with_reducible refine Stop.conv 9 22 ?_))
  go_loopw [22, 8] (fun i v wr => ∃ (j g c : Nat) (out : List V), j ≤ gn ∧ i = .int .i64 (j : Int) ∧ v = .slice (some ⟨g, 0, none⟩) (hn + j) c ∧ OwnV w wr (.slice (some ⟨g, 0, none⟩) (hn + j) c) (hn + j) out ∧ Hid (tldB (rows.map (·.l)) hl ags = tldB (rows.map (·.l)) out (ags.drop j))) (fun i _ _ => gn - (intOf i).toNat)
  case atStart => exact ⟨0, g0, c0, hl, Nat.zero_le _, rfl, rfl, O0, Lib.hid rfl⟩
  case round =>
    clear O0
    obtain ⟨j, g, c, out, hj, rfl, rfl, O, HD⟩ := hrel
    by_cases hlt : j < gn
    · have hjl : j < ags.length := by have := HN.out.2.2.1; omega
      have bb := Own.below O
      have h3 := HTH.out.2.2.mono bb (Nat.le_refl _)
      obtain ⟨b, o, rfl⟩ := h3.addr (by rw [agcells_length]; omega)
      obtain ⟨x0, x1⟩ := h3.agat hjl
      have HD2 : Hid (ags.drop j = ags[j] :: ags.drop (j + 1)) := Lib.hid (List.drop_eq_getElem_cons hjl)
      have HCK := Lib.hid (HN.out.2.2.2 ags[j] (List.getElem_mem _))
      generalize ags[j] = x at x0 x1 HD2 HCK
      obtain ⟨op, col⟩ := x
      simp only at x0 x1
      have xb := lt_cell x0
      clear hjl h3 bb
      go_upto_region 6 with fail
      have zx := (At.new wr #[.int .u8 op, .int .i64 col] 34).alloc (.cells #[.int .i64 0, .int .i64 0, .int .i64 0, .int .u64 0, .int .u8 0, .int .i64 0, .string ⟨#[]⟩, .int .u8 0, .int .i64 0, .string ⟨#[]⟩] 83)
      have zk0 := At.new (wr.alloc (.cells #[.int .u8 op, .int .i64 col] 34)) #[.int .i64 0, .int .i64 0, .int .i64 0, .int .u64 0, .int .u8 0, .int .i64 0, .string ⟨#[]⟩, .int .u8 0, .int .i64 0, .string ⟨#[]⟩] 83
      have zk : At ((wr.alloc (.cells #[.int .u8 op, .int .i64 col] 34)).alloc (.cells #[.int .i64 0, .int .i64 0, .int .i64 0, .int .u64 0, .int .u8 0, .int .i64 0, .string ⟨#[]⟩, .int .u8 0, .int .i64 0, .string ⟨#[]⟩] 83)) (wr.heap.size + 1) #[.int .i64 0, .int .i64 0, .int .i64 0, .int .u64 0, .int .u8 0, .int .i64 0, .string ⟨#[]⟩, .int .u8 0, .int .i64 0, .string ⟨#[]⟩] 83 := by simpa only [World.size_alloc] using zk0
      have OA := Own.alloc (Own.alloc O (.cells #[.int .u8 op, .int .i64 col] 34)) (.cells #[.int .i64 0, .int .i64 0, .int .i64 0, .int .u64 0, .int .u8 0, .int .i64 0, .string ⟨#[]⟩, .int .u8 0, .int .i64 0, .string ⟨#[]⟩] 83)
      have HG : Hid (wr.heap.size + 1 ≠ g ∧ w.heap.size ≤ wr.heap.size + 1 ∧ wr.heap.size ≠ wr.heap.size + 1) := Lib.hid ⟨by have := Own.lt O g rfl; omega, by have := Own.le O; omega, by omega⟩
      clear zk0 O x0 x1 xb
      generalize (wr.alloc (.cells #[.int .u8 op, .int .i64 col] 34)).alloc (.cells #[.int .i64 0, .int .i64 0, .int .i64 0, .int .u64 0, .int .u8 0, .int .i64 0, .string ⟨#[]⟩, .int .u8 0, .int .i64 0, .string ⟨#[]⟩] 83) = wA at zx zk OA ⊢
      generalize wr.heap.size + 1 = gk at zk HG ⊢
      generalize wr.heap.size = gx at zx HG ⊢
      have zk : At wA gk (knOf ⟨op, col⟩ ((rows.take 0).map (·.l))).cells 83 := zk
      go_wp2_with (first | (at_make; refine Stop.un ?_) | (at_builtin; refine Stop.un ?_) | (with_reducible refine Stop.conv 22 9 ?_) | (with_reducible refine Stop.conv 9 22 ?_))
      go_loopw [28] (fun iv wr => ∃ (i : Nat), i ≤ rn ∧ iv = .int .i64 (i : Int) ∧ At wr gx #[.int .u8 op, .int .i64 col] 34 ∧ At wr gk (knOf ⟨op, col⟩ ((rows.take i).map (·.l))).cells 83 ∧ OwnV w wr (.slice (some ⟨g, 0, none⟩) (hn + j) c) (hn + j) out) (fun iv _ => rn - (intOf iv).toNat)
      case atStart => exact ⟨0, Nat.zero_le _, rfl, zx, zk, OA⟩
      case round =>
        clear zx zk OA
        obtain ⟨i, hi, rfl, zx, zk, O⟩ := hrel
        by_cases hli : i < rn
        · have hil : i < rows.length := by have := HN.out.2.1; omega
          have t2 := HTH.out.2.1.mono (Own.below O)
          obtain ⟨rb, ro, rfl⟩ := t2.cs.addr (by rw [rwcells_length]; omega)
          have y0 := t2.at hil
          have rk := t2.ok rows[i] (List.getElem_mem _)
          have hck := HCK.out rows[i] (List.getElem_mem _)
          have HTK : Hid ((rows.take (i + 1)).map (·.l) = (rows.take i).map (·.l) ++ [rows[i].l]) := Lib.hid (by rw [List.take_succ_eq_append_getElem hil, List.map_append]; rfl)
          have HOK : Hid ((knOf ⟨op, col⟩ ((rows.take i).map (·.l))).ok i) := Lib.hid (by
            have := knOf_ok ⟨op, col⟩ ((rows.take i).map (·.l))
            rwa [List.length_map, List.length_take, Nat.min_eq_left (by omega)] at this)
          have HK2 : Hid (∀ v, v = vOf ⟨op, col⟩ rows[i].l → (knOf ⟨op, col⟩ ((rows.take i).map (·.l))).add v = knOf ⟨op, col⟩ ((rows.take (i + 1)).map (·.l))) := Lib.hid (fun v hv => by rw [HTK.out, knOf_snoc, hv])
          generalize knOf ⟨op, col⟩ ((rows.take i).map (·.l)) = K at zk HOK HK2
          generalize rows[i] = r at y0 rk hck HK2
          clear HTK hil t2
          have hrle := rk.le
          have hrmx : r.cap ≤ 9223372036854775807 := rk.max
          by_cases hop : op = 1
          ·
            have HGV : Hid (gx ≠ wr.heap.size ∧ gk ≠ wr.heap.size ∧ g ≠ wr.heap.size ∧ w.heap.size ≤ wr.heap.size) := Lib.hid ⟨by have := zx.lt; omega, by have := zk.lt; omega, by have := Own.lt O g rfl; omega, Own.le O⟩
            have zx2 := zx.alloc (.cells #[.int .u8 0, .int .i64 0, .string ⟨#[]⟩] 38)
            have zk2 := zk.alloc (.cells #[.int .u8 0, .int .i64 0, .string ⟨#[]⟩] 38)
            have O2 := Own.alloc O (.cells #[.int .u8 0, .int .i64 0, .string ⟨#[]⟩] 38)
            have zv := At.new wr #[.int .u8 0, .int .i64 0, .string ⟨#[]⟩] 38
            subst hop
            clear hck rk
            have hv : Hid (K.add ⟨0, 0, ⟨#[]⟩⟩ = knOf ⟨1, col⟩ ((rows.take (i + 1)).map (·.l))) := Lib.hid (HK2.out _ rfl)
            clear HK2
            go_upto_region 10 with fail
            clear zx zk O y0
            generalize wr.alloc (.cells #[.int .u8 0, .int .i64 0, .string ⟨#[]⟩] 38) = wB at zx2 zk2 O2 zv ⊢
            generalize wr.heap.size = gv at zv HGV ⊢
            have d0 := zx2.cell 0 rfl
            have d1 := zv.cell 0 rfl
            have d2 := zv.cell 1 rfl
            have d3 := zv.cell 2 rfl
            go_wp2_with (first | (at_make; refine Stop.un ?_) | (at_builtin; refine Stop.un ?_) | (with_reducible refine Stop.conv 22 9 ?_) | (with_reducible refine Stop.conv 9 22 ?_))
            clear d0 d1 d2 d3
            refine (kadd_any K ⟨0, 0, ⟨#[]⟩⟩ gk i wB zk2 HOK.out (by omega)).mono ?_
            rintro e9 wC ⟨rfl, zk3, o3⟩
            have zx3 := o3.at zx2 HG.out.2.2
            have O3 := Own.oth O2 o3 (fun k hk e => by have h1 : g = k := Option.some.inj hk; exact HG.out.1 (e.symm.trans h1.symm)) (fun k hk => by rw [hk]; exact HG.out.2.1)
            rw [hv.out] at zk3
            clear zx2 zk2 O2 zv o3 hv HOK
            go_wp2_with (first | (at_make; refine Stop.un ?_) | (at_builtin; refine Stop.un ?_) | (with_reducible refine Stop.conv 22 9 ?_) | (with_reducible refine Stop.conv 9 22 ?_))
            go_roundw
            case rel => exact ⟨i + 1, by omega, by go_num, zx3, zk3, O3⟩
            case measure => simp [intOf]; omega
          ·
            have HGV : Hid (gx ≠ wr.heap.size ∧ gk ≠ wr.heap.size ∧ g ≠ wr.heap.size ∧ w.heap.size ≤ wr.heap.size) := Lib.hid ⟨by have := zx.lt; omega, by have := zk.lt; omega, by have := Own.lt O g rfl; omega, Own.le O⟩
            have zx2 := zx.alloc (.cells #[.int .u8 0, .int .i64 0, .string ⟨#[]⟩] 38)
            have zk2 := zk.alloc (.cells #[.int .u8 0, .int .i64 0, .string ⟨#[]⟩] 38)
            have O2 := Own.alloc O (.cells #[.int .u8 0, .int .i64 0, .string ⟨#[]⟩] 38)
            have zv := At.new wr #[.int .u8 0, .int .i64 0, .string ⟨#[]⟩] 38
            have hopn : (op != 1) = true := by simpa using hop
            obtain ⟨hc0, hc1⟩ := hck.resolve_left hop
            obtain ⟨cc, hcc⟩ := Int.eq_ofNat_of_zero_le hc0
            simp only at hcc hc1
            subst hcc
            have hcr : cc < r.l.length := by have := rk.len; omega
            have hcn : cc < r.n := by omega
            obtain ⟨ar, nr, cr, lr⟩ := r
            simp only at y0 hrle hrmx hcn hcr
            obtain ⟨vb, vo, rfl⟩ := rk.cs.addr (by rw [vcells_length]; show 0 < lr.length * 3; omega)
            obtain ⟨q0, q1, q2⟩ := rk.cs.vat hcr
            have hv : Hid (K.add lr[cc] = knOf ⟨op, (cc : Int)⟩ ((rows.take (i + 1)).map (·.l))) := Lib.hid (HK2.out _ (by
              unfold vOf
              rw [if_neg hop]
              exact (atV_in hcr).symm))
            simp only at q0 q1 q2
            generalize lr[cc] = v at q0 q1 q2 hv
            obtain ⟨vk, vn, vs⟩ := v
            simp only at q0 q1 q2
            clear hck rk HK2 hc0 hc1 hcr hop
            replace q0 := Ext.cell ((Below.refl wr.heap.size wr).alloc (Nat.le_refl _) (.cells #[.int .u8 0, .int .i64 0, .string ⟨#[]⟩] 38)) q0
            replace q1 := Ext.cell ((Below.refl wr.heap.size wr).alloc (Nat.le_refl _) (.cells #[.int .u8 0, .int .i64 0, .string ⟨#[]⟩] 38)) q1
            replace q2 := Ext.cell ((Below.refl wr.heap.size wr).alloc (Nat.le_refl _) (.cells #[.int .u8 0, .int .i64 0, .string ⟨#[]⟩] 38)) q2
            go_upto_region 10 with fail
            clear zx zk O y0
            generalize wr.alloc (.cells #[.int .u8 0, .int .i64 0, .string ⟨#[]⟩] 38) = wB at zx2 zk2 O2 zv q0 q1 q2 ⊢
            generalize wr.heap.size = gv at zv HGV ⊢
            have d0 := zx2.cell 0 rfl
            have d4 := zx2.cell 1 rfl
            have fq0 := zv.free 0
            have gq0 := zv.cell 0 rfl
            have fq1 := zv.free 1
            have gq1 := zv.cell 1 rfl
            have fq2 := zv.free 2
            have gq2 := zv.cell 2 rfl
            have lq := zv.lt
            go_upto_region 12 with fail
            replace zv := zv.set3 (.int .u8 vk) (.int .i64 vn) (.string vs)
            replace zx2 := zx2.off3 (.int .u8 vk) (.int .i64 vn) (.string vs) HGV.out.1
            replace zk2 := zk2.off3 (.int .u8 vk) (.int .i64 vn) (.string vs) HGV.out.2.1
            replace O2 := Own.cs_put O2 vk vn vs HGV.out.2.2.2 (fun e => HGV.out.2.2.1 (Option.some.inj e))
            clear d0 d4 fq0 fq1 fq2 gq0 gq1 gq2 lq q0 q1 q2
            generalize (((wB.setCell ⟨gv, 0, none⟩ (.int .u8 vk)).setCell ⟨gv, 1, none⟩ (.int .i64 vn)).setCell ⟨gv, 2, none⟩ (.string vs)) = wD at zv zx2 zk2 O2 ⊢
            have d1 := zv.cell 0 rfl
            have d2 := zv.cell 1 rfl
            have d3 := zv.cell 2 rfl
            go_wp2_with (first | (at_make; refine Stop.un ?_) | (at_builtin; refine Stop.un ?_) | (with_reducible refine Stop.conv 22 9 ?_) | (with_reducible refine Stop.conv 9 22 ?_))
            clear d1 d2 d3
            refine (kadd_any K ⟨vk, vn, vs⟩ gk i wD zk2 HOK.out (by omega)).mono ?_
            rintro e9 wC ⟨rfl, zk3, o3⟩
            have zx3 := o3.at zx2 HG.out.2.2
            have O3 := Own.oth O2 o3 (fun k hk e => by have h1 : g = k := Option.some.inj hk; exact HG.out.1 (e.symm.trans h1.symm)) (fun k hk => by rw [hk]; exact HG.out.2.1)
            rw [hv.out] at zk3
            clear zx2 zk2 O2 zv o3 hv HOK
            go_wp2_with (first | (at_make; refine Stop.un ?_) | (at_builtin; refine Stop.un ?_) | (with_reducible refine Stop.conv 22 9 ?_) | (with_reducible refine Stop.conv 9 22 ?_))
            go_roundw
            case rel => exact ⟨i + 1, by omega, by go_num, zx3, zk3, O3⟩
            case measure => simp [intOf]; omega
        · obtain rfl : i = rn := by omega
          have HTL : Hid ((rows.take i).map (·.l) = rows.map (·.l)) := Lib.hid (by rw [List.take_of_length_le (by have := HN.out.2.1; omega)])
          rw [HTL.out] at zk
          have HOK : Hid ((knOf ⟨op, col⟩ (rows.map (·.l))).ok i) := Lib.hid (by
            have := knOf_ok ⟨op, col⟩ (rows.map (·.l))
            rwa [List.length_map, HN.out.2.1] at this)
          have HA : Hid (aggB (rows.map (·.l)) ⟨op, col⟩ = (knOf ⟨op, col⟩ (rows.map (·.l))).told op) := Lib.hid rfl
          have HE := Lib.hid (told_err (knOf ⟨op, col⟩ (rows.map (·.l))) op)
          generalize knOf ⟨op, col⟩ (rows.map (·.l)) = K at zk HOK HA HE
          have d0 := zx.cell 0 rfl
          clear HTL HCK hli
          go_wp2_with (first | (at_make; refine Stop.un ?_) | (at_builtin; refine Stop.un ?_) | (with_reducible refine Stop.conv 22 9 ?_) | (with_reducible refine Stop.conv 9 22 ?_))
          refine (ktold_any K op gk i wr zk HOK.out (by omega)).mono ?_
          rintro e9 wC ⟨rfl, bC⟩
          replace O := Own.keep O bC
          clear zx zk d0 bC HOK
          generalize K.told op = T at HA HE
          obtain ⟨⟨vk, vn, vs⟩, er⟩ := T
          simp only at HE
          simp only [V.val]
          rcases HE.out with rfl | rfl
          · have zv := At.new wC #[.int .u8 vk, .int .i64 vn, .string vs] 38
            have O2 := Own.alloc O (.cells #[.int .u8 vk, .int .i64 vn, .string vs] 38)
            have HD3 : Hid (tldB (rows.map (·.l)) hl ags = tldB (rows.map (·.l)) (out ++ [⟨vk, vn, vs⟩]) (ags.drop (j + 1))) := Lib.hid (by
              rw [HD.out, HD2.out]
              rw [tldB, HA.out, if_pos rfl])
            clear HD HD2 HA HE O
            go_upto_region 15 with fail
            generalize wC.alloc (.cells #[.int .u8 vk, .int .i64 vn, .string vs] 38) = wD at zv O2 ⊢
            have d1 := zv.cell 0 rfl
            have d2 := zv.cell 1 rfl
            have d3 := zv.cell 2 rfl
            go_wp2_with (first | (at_make; refine Stop.un ?_) | (at_builtin; refine Stop.un ?_) | (with_reducible refine Stop.conv 22 9 ?_) | (with_reducible refine Stop.conv 9 22 ?_))
            refine Stop.mk (app_rv1 (c := ⟨vk, vn, vs⟩) w _ _ rfl rfl O2 rfl rfl (by omega) ?_)
            intro g5 c5 w5 O5 _ _
            clear d1 d2 d3 zv O2
            rw [Nat.add_assoc] at O5
            go_wp2_with (first | (at_make; refine Stop.un ?_) | (at_builtin; refine Stop.un ?_) | (with_reducible refine Stop.conv 22 9 ?_) | (with_reducible refine Stop.conv 9 22 ?_))
            go_roundw
            case rel => exact ⟨j + 1, g5, c5, _, by omega, by go_num, rfl, O5, HD3⟩
            case measure => simp [intOf]; omega
          · have HD3 : Hid ((tldB (rows.map (·.l)) hl ags).1 = 220) := Lib.hid (by
              rw [HD.out, HD2.out]
              rw [tldB, HA.out, if_neg (show ¬ (220 : Int) = 0 by decide)])
            have bw := (Own.below O).alloc (Own.le O) (.cells #[.int .u8 vk, .int .i64 vn, .string vs] 38)
            clear HD HD2 HA HE O
            go_wp2_with (first | (at_make; refine Stop.un ?_) | (at_builtin; refine Stop.un ?_) | (with_reducible refine Stop.conv 22 9 ?_) | (with_reducible refine Stop.conv 9 22 ?_))
            exact bodyPost_ret (v := .tuple #[.slice none 0 0, .int .i64 220]) (by simp [results, Try.results28, go_sem]) rfl (.inr ⟨220, rfl, HD3.out, by decide, bw⟩)
    · obtain rfl : j = gn := by omega
      have HDX : Hid (tldB (rows.map (·.l)) hl ags = (0, out)) := Lib.hid (by
        rw [HD.out, List.drop_of_length_le (by have := HN.out.2.2.1; omega)]
        rfl)
      clear HD
      go_wp2_with (first | (at_make; refine Stop.un ?_) | (at_builtin; refine Stop.un ?_) | (with_reducible refine Stop.conv 22 9 ?_) | (with_reducible refine Stop.conv 9 22 ?_))
      exact bodyPost_ret (v := .tuple #[.slice (some ⟨g, 0, none⟩) (hn + j) c, .int .i64 0]) (by simp [results, Try.results28, go_sem]) rfl (.inl ⟨g, hn + j, c, rfl, by rw [HDX.out], by rw [HDX.out]; exact O⟩)
end Go.Proofs.Ytbiniecjenencaa
