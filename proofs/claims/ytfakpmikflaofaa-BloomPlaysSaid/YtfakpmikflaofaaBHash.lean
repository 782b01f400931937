/- A value's number: what the program and the reference return. -/
import Derived.Test.YtfakpmikflaofaaCRPut
import Derived.Laws.Bits64
set_option linter.unusedVariables false
set_option linter.unusedSimpArgs false
namespace Go.Proofs.Ytfakpmikflaofaa
open Go.RowKit
def stepH (x : Nat) (c : UInt8) : Nat := (x ^^^ c.toNat) * 1099511628211 % 18446744073709551616
def hashN (bs : List UInt8) (seed : Nat) : Nat := bs.foldl stepH (14695981039346656037 ^^^ seed) ^^^ (bs.foldl stepH (14695981039346656037 ^^^ seed)) / 4294967296
/-- A value's number. -/
def hashV (v : V) (seed : Nat) : Nat := hashN (putV v) seed
theorem stepH_lt (x : Nat) (c : UInt8) : stepH x c < 18446744073709551616 := Nat.mod_lt _ (by decide)
theorem foldH_lt (bs : List UInt8) : ∀ x, x < 18446744073709551616 → bs.foldl stepH x < 18446744073709551616 := by
  induction bs with
  | nil => intro x h; exact h
  | cons c bs ih => intro x _; exact ih _ (stepH_lt _ _)
theorem xor_lt64 {a b : Nat} (ha : a < 18446744073709551616) (hb : b < 18446744073709551616) : a ^^^ b < 18446744073709551616 := Nat.xor_lt_two_pow (n := 64) ha hb
theorem hashN_lt (bs : List UInt8) (seed : Nat) (h : seed < 18446744073709551616) : hashN bs seed < 18446744073709551616 := by
  have h1 := foldH_lt bs _ (xor_lt64 (by decide : 14695981039346656037 < 18446744073709551616) h)
  exact xor_lt64 h1 (Nat.lt_of_le_of_lt (Nat.div_le_self _ _) h1)
theorem xor_u64 (a : Nat) (b : Int) (ha : a < 18446744073709551616) (h0 : 0 ≤ b) (hb : b < 18446744073709551616) : bits .xor .u64 (a : Int) b = ((a ^^^ b.toNat : Nat) : Int) := by
  obtain ⟨c, rfl⟩ := Int.eq_ofNat_of_zero_le h0
  rw [bits_xor_u64_nat a c ha (by omega)]; rfl
theorem step_eq (x : Nat) (c : UInt8) (hx : x < 18446744073709551616) : IntKind.u64.wrap (bits .xor .u64 (x : Int) (IntKind.u64.wrap (c.toNat : Int)) * 1099511628211) = (stepH x c : Int) := by
  have hc : c.toNat < 256 := c.toNat_lt
  rw [IntKind.wrap_u64 (c.toNat : Int), show ((c.toNat : Int) % 18446744073709551616) = (c.toNat : Int) by omega, bits_xor_u64_nat _ _ hx (by omega), IntKind.wrap_u64]
  unfold stepH
  omega
theorem step_eq2 (x : Nat) (c : UInt8) (hx : x < 18446744073709551616) : IntKind.u64.wrap (bits .xor .u64 (x : Int) (c.toNat : Int) * 1099511628211) = (stepH x c : Int) := by
  have hc : c.toNat < 256 := c.toNat_lt
  rw [bits_xor_u64_nat _ _ hx (by omega), IntKind.wrap_u64]
  unfold stepH
  omega
theorem first_eq (seed : Nat) (hs : seed < 18446744073709551616) : bits .xor .u64 14695981039346656037 (seed : Int) = ((14695981039346656037 ^^^ seed : Nat) : Int) := bits_xor_u64_nat 14695981039346656037 seed (by decide) hs
theorem last_eq (x : Nat) (hx : x < 18446744073709551616) : bits .xor .u64 (x : Int) ((x : Int) / 4294967296) = ((x ^^^ x / 4294967296 : Nat) : Int) := xorShift_u64 x 4294967296 hx
set_option maxHeartbeats 2000000 in
theorem hash_any (v : V) (seed : Nat) (w : World) (hn : -9223372036854775808 ≤ v.n ∧ v.n ≤ 9223372036854775807) (hs : seed < 18446744073709551616) :
    Calls Try.prog 17 #[v.val, .int .u64 (seed : Int)] w (fun e w' => e = .returned (.int .u64 (hashV v seed : Int)) ∧ Below w.heap.size w w') := by
  have HP := Lib.hid (fun w => put_any none 0 0 [] v w (Cs.nil _ _) rfl (by omega) hn)
  have hh : hashV v seed = hashN (putV v) seed := rfl
  rw [hh]
  clear hh
  generalize putV v = bs at HP ⊢
  have hf := first_eq seed hs
  have hz := xor_lt64 (by decide : 14695981039346656037 < 18446744073709551616) hs
  generalize hR : hashN bs seed = R
  unfold hashN at hR
  generalize 14695981039346656037 ^^^ seed = z at hf hz hR
  have HR := Lib.hid hR
  have HF := Lib.hid hf
  have HS := Lib.hid hz
  clear hR hf hz
  obtain ⟨k, n, s⟩ := v
  simp only [V.val] at HP ⊢
  go_enter Try.func17, Try.ntmps17
  go_wp2_with (first | (at_make; refine Stop.un ?_) | (at_builtin; refine Stop.un ?_) | (with_reducible refine Stop.conv 32 9 ?_) | (with_reducible refine Stop.conv 9 32 ?_))
  refine (HP.out _).mono ?_
  rintro e w1 ⟨a1, n1, c1, h1, rfl, o1⟩
  rw [List.nil_append] at h1 o1
  have cs1 := Own.cs o1
  have le1 := owns_le o1.1
  have mx1 := owns_max o1.1
  unfold maxLen at mx1
  have B1 : Below w.heap.size w w1 := ((Below.refl _ _).alloc (Nat.le_refl _) _).next (Own.below o1)
  have H1 := Lib.hid h1
  clear h1 o1
  go_wp2_with (first | (at_make; refine Stop.un ?_) | (at_builtin; refine Stop.un ?_) | (with_reducible refine Stop.conv 32 9 ?_) | (with_reducible refine Stop.conv 9 32 ?_))
  go_loopw [5, 7, 13] (fun h _ i wr => ∃ (j x : Nat), j ≤ n1 ∧ x < 18446744073709551616 ∧ i = .int .i64 (j : Int) ∧ h = .int .u64 (x : Int) ∧ w1 = wr ∧ Hid (x = (bs.take j).foldl stepH z)) (fun _ _ i _ => n1 - (intOf i).toNat)
  case atStart => exact ⟨0, z, by omega, HS.out, rfl, by rw [HF.out], rfl, Lib.hid rfl⟩
  case round =>
    obtain ⟨j, x, hj, hx, rfl, rfl, rfl, HX⟩ := hrel
    by_cases hlt : j < n1
    · have hjl : j < bs.length := by have := H1.out; omega
      obtain ⟨b, o, rfl⟩ := cs1.addr (by rw [bcells_length]; omega)
      have hc1 := cs1.at (j := j) (u := .int .u8 (bs[j].toNat : Int)) (by simp [bcells, hjl])
      have ht : (bs.take (j + 1)).foldl stepH z = stepH x bs[j] := by rw [List.take_succ_eq_append_getElem hjl, List.foldl_append, ← HX.out, List.foldl_cons, List.foldl_nil]
      generalize bs[j] = c at hc1 ht
      have HT := Lib.hid ht
      clear ht hjl
      go_wp2_with (first | (at_make; refine Stop.un ?_) | (at_builtin; refine Stop.un ?_) | (with_reducible refine Stop.conv 32 9 ?_) | (with_reducible refine Stop.conv 9 32 ?_))
      go_roundw
      case rel => exact ⟨j + 1, stepH x c, by omega, stepH_lt _ _, by go_num, by first | rw [step_eq x c hx] | rw [step_eq2 x c hx], trivial, Lib.hid HT.out.symm⟩
      case measure => simp [intOf]; omega
    · have hjn : j = n1 := by omega
      have hxx := HX.out
      rw [List.take_of_length_le (by have := H1.out; omega)] at hxx
      have hr : R = x ^^^ x / 4294967296 := by rw [← HR.out, ← hxx]
      have HRR := Lib.hid hr
      have HLA := Lib.hid (last_eq x hx)
      clear hxx hr HX
      go_wp2_with (first | (at_make; refine Stop.un ?_) | (at_builtin; refine Stop.un ?_) | (with_reducible refine Stop.conv 32 9 ?_) | (with_reducible refine Stop.conv 9 32 ?_))
      go_ret
      exact ⟨by rw [HRR.out, ← HLA.out]; first | rfl | simp, B1⟩
set_option maxHeartbeats 2000000 in
theorem rhash_any (v : V) (seed : Nat) (w : World) (hn : -9223372036854775808 ≤ v.n ∧ v.n ≤ 9223372036854775807) (hs : seed < 18446744073709551616) :
    Calls Try.prog 18 #[v.val, .int .u64 (seed : Int)] w (fun e w' => e = .returned (.int .u64 (hashV v seed : Int)) ∧ Below w.heap.size w w') := by
  have HP := Lib.hid (fun w => rput_any none 0 0 [] v w (Cs.nil _ _) rfl (by omega) hn)
  have hh : hashV v seed = hashN (putV v) seed := rfl
  rw [hh]
  clear hh
  generalize putV v = bs at HP ⊢
  have hf := first_eq seed hs
  have hz := xor_lt64 (by decide : 14695981039346656037 < 18446744073709551616) hs
  generalize hR : hashN bs seed = R
  unfold hashN at hR
  generalize 14695981039346656037 ^^^ seed = z at hf hz hR
  have HR := Lib.hid hR
  have HF := Lib.hid hf
  have HS := Lib.hid hz
  clear hR hf hz
  obtain ⟨k, n, s⟩ := v
  simp only [V.val] at HP ⊢
  go_enter Try.func18, Try.ntmps18
  go_wp2_with (first | (at_make; refine Stop.un ?_) | (at_builtin; refine Stop.un ?_) | (with_reducible refine Stop.conv 32 9 ?_) | (with_reducible refine Stop.conv 9 32 ?_))
  refine (HP.out _).mono ?_
  rintro e w1 ⟨a1, n1, c1, h1, rfl, o1⟩
  rw [List.nil_append] at h1 o1
  have cs1 := Own.cs o1
  have le1 := owns_le o1.1
  have mx1 := owns_max o1.1
  unfold maxLen at mx1
  have B1 : Below w.heap.size w w1 := ((Below.refl _ _).alloc (Nat.le_refl _) _).next (Own.below o1)
  have H1 := Lib.hid h1
  clear h1 o1
  go_wp2_with (first | (at_make; refine Stop.un ?_) | (at_builtin; refine Stop.un ?_) | (with_reducible refine Stop.conv 32 9 ?_) | (with_reducible refine Stop.conv 9 32 ?_))
  go_loopw [5, 7] (fun h i wr => ∃ (j x : Nat), j ≤ n1 ∧ x < 18446744073709551616 ∧ i = .int .i64 (j : Int) ∧ h = .int .u64 (x : Int) ∧ w1 = wr ∧ Hid (x = (bs.take j).foldl stepH z)) (fun _ i _ => n1 - (intOf i).toNat)
  case atStart => exact ⟨0, z, by omega, HS.out, rfl, by rw [HF.out], rfl, Lib.hid rfl⟩
  case round =>
    obtain ⟨j, x, hj, hx, rfl, rfl, rfl, HX⟩ := hrel
    by_cases hlt : j < n1
    · have hjl : j < bs.length := by have := H1.out; omega
      obtain ⟨b, o, rfl⟩ := cs1.addr (by rw [bcells_length]; omega)
      have hc1 := cs1.at (j := j) (u := .int .u8 (bs[j].toNat : Int)) (by simp [bcells, hjl])
      have ht : (bs.take (j + 1)).foldl stepH z = stepH x bs[j] := by rw [List.take_succ_eq_append_getElem hjl, List.foldl_append, ← HX.out, List.foldl_cons, List.foldl_nil]
      generalize bs[j] = c at hc1 ht
      have HT := Lib.hid ht
      clear ht hjl
      go_wp2_with (first | (at_make; refine Stop.un ?_) | (at_builtin; refine Stop.un ?_) | (with_reducible refine Stop.conv 32 9 ?_) | (with_reducible refine Stop.conv 9 32 ?_))
      go_roundw
      case rel => exact ⟨j + 1, stepH x c, by omega, stepH_lt _ _, by go_num, by first | rw [step_eq x c hx] | rw [step_eq2 x c hx], trivial, Lib.hid HT.out.symm⟩
      case measure => simp [intOf]; omega
    · have hjn : j = n1 := by omega
      have hxx := HX.out
      rw [List.take_of_length_le (by have := H1.out; omega)] at hxx
      have hr : R = x ^^^ x / 4294967296 := by rw [← HR.out, ← hxx]
      have HRR := Lib.hid hr
      have HLA := Lib.hid (last_eq x hx)
      clear hxx hr HX
      go_wp2_with (first | (at_make; refine Stop.un ?_) | (at_builtin; refine Stop.un ?_) | (with_reducible refine Stop.conv 32 9 ?_) | (with_reducible refine Stop.conv 9 32 ?_))
      go_ret
      exact ⟨by rw [HRR.out, ← HLA.out]; first | rfl | simp, B1⟩
def sizeN (bits : Int) : Int := if bits < 1 ∨ 8192 < bits then 0 else (bits + 7) / 8
theorem size_any (bits : Int) (w : World) : Calls Try.prog 14 #[.int .i64 bits] w (fun e w' => e = .returned (.int .i64 (sizeN bits)) ∧ w = w') := by
  by_cases h1 : bits < 1
  · have hs : sizeN bits = 0 := if_pos (.inl h1)
    rw [hs]; clear hs
    go_enter Try.func14, Try.ntmps14
    go_wp2_with (first | (at_make; refine Stop.un ?_) | (at_builtin; refine Stop.un ?_) | (with_reducible refine Stop.conv 32 9 ?_) | (with_reducible refine Stop.conv 9 32 ?_))
    go_ret
    exact ⟨rfl, rfl⟩
  · by_cases h2 : 8192 < bits
    · have hs : sizeN bits = 0 := if_pos (.inr h2)
      rw [hs]; clear hs
      go_enter Try.func14, Try.ntmps14
      go_wp2_with (first | (at_make; refine Stop.un ?_) | (at_builtin; refine Stop.un ?_) | (with_reducible refine Stop.conv 32 9 ?_) | (with_reducible refine Stop.conv 9 32 ?_))
      go_ret
      exact ⟨rfl, rfl⟩
    · have hs : sizeN bits = (bits + 7) / 8 := if_neg (fun h => h.elim h1 h2)
      rw [hs]; clear hs
      go_enter Try.func14, Try.ntmps14
      go_wp2_with (first | (at_make; refine Stop.un ?_) | (at_builtin; refine Stop.un ?_) | (with_reducible refine Stop.conv 32 9 ?_) | (with_reducible refine Stop.conv 9 32 ?_))
      go_ret
      exact ⟨by first | rfl | (congr 2; simp; omega), rfl⟩
end Go.Proofs.Ytfakpmikflaofaa
