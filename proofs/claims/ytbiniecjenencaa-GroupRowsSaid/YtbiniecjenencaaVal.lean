/- Values: how two of them stand to each other; what cmp.Compare, cmp.Or and cell.Compare return. -/
import Derived.Test.YtbiniecjenencaaBase
import Derived.Test.YtbiniecjenencaaMix
import Derived.Test.YtbiniecjenencaaProg
import Derived.WalkLawsBesides
set_option linter.unusedVariables false
set_option linter.unusedSimpArgs false
set_option maxRecDepth 10000
namespace Go.Proofs.Ytbiniecjenencaa
open Go.RowKit
/-- A value: its kind, its number, its text. -/
structure V where
  k : Int
  n : Int
  s : ByteArray
def V.val (a : V) : Value := .agg #[.int .u8 a.k, .int .i64 a.n, .string a.s]
def cmpI (a b : Int) : Int := if a < b then -1 else if b < a then 1 else 0
def cmpS (a b : ByteArray) : Int := if Op.bytesLess a.toList b.toList = true then -1 else if a.toList = b.toList then 0 else 1
def or3 (a b c : Int) : Int := if a = 0 then (if b = 0 then c else b) else a
def cmpV (a b : V) : Int := or3 (cmpI a.k b.k) (cmpI a.n b.n) (cmpS a.s b.s)

set_option maxHeartbeats 400000 in
theorem cmpU8_any (a b : Int) (w : World) : Calls Try.prog 60 #[.int .u8 a, .int .u8 b] w (fun e w' => e = .returned (.int .i64 (cmpI a b)) ∧ w = w') := by
  have hn : (a != a) = false := by simp
  have hn' : (b != b) = false := by simp
  have hn2 : (!a == a) = false := by simp
  have hn3 : (!b == b) = false := by simp
  unfold cmpI
  by_cases h1 : a < b
  · rw [if_pos h1]
    go_enter Try.func60, Try.ntmps60
    go_wp2
    go_ret
    exact ⟨rfl, rfl⟩
  · rw [if_neg h1]
    by_cases h2 : b < a
    · rw [if_pos h2]
      go_enter Try.func60, Try.ntmps60
      go_wp2
      go_ret
      exact ⟨rfl, rfl⟩
    · rw [if_neg h2]
      go_enter Try.func60, Try.ntmps60
      go_wp2
      go_ret
      exact ⟨rfl, rfl⟩
set_option maxHeartbeats 400000 in
theorem cmpInt_any (a b : Int) (w : World) : Calls Try.prog 61 #[.int .i64 a, .int .i64 b] w (fun e w' => e = .returned (.int .i64 (cmpI a b)) ∧ w = w') := by
  have hn : (a != a) = false := by simp
  have hn' : (b != b) = false := by simp
  have hn2 : (!a == a) = false := by simp
  have hn3 : (!b == b) = false := by simp
  unfold cmpI
  by_cases h1 : a < b
  · rw [if_pos h1]
    go_enter Try.func61, Try.ntmps61
    go_wp2
    go_ret
    exact ⟨rfl, rfl⟩
  · rw [if_neg h1]
    by_cases h2 : b < a
    · rw [if_pos h2]
      go_enter Try.func61, Try.ntmps61
      go_wp2
      go_ret
      exact ⟨rfl, rfl⟩
    · rw [if_neg h2]
      go_enter Try.func61, Try.ntmps61
      go_wp2
      go_ret
      exact ⟨rfl, rfl⟩

set_option maxHeartbeats 400000 in
theorem cmpStr_any (a b : ByteArray) (w : World) : Calls Try.prog 62 #[.string a, .string b] w (fun e w' => e = .returned (.int .i64 (cmpS a b)) ∧ w = w') := by
  have hn : (!a.toList == a.toList) = false := by simp
  have hn' : (!b.toList == b.toList) = false := by simp
  unfold cmpS
  cases h1 : Op.bytesLess a.toList b.toList with
  | true =>
    rw [if_pos rfl]
    go_enter Try.func62, Try.ntmps62
    go_wp2
    go_ret
    exact ⟨rfl, rfl⟩
  | false =>
    rw [if_neg (by decide)]
    by_cases h2 : a.toList = b.toList
    · rw [if_pos h2]
      have h3 : (a.toList == b.toList) = true := by simpa using h2
      clear h2
      go_enter Try.func62, Try.ntmps62
      go_wp2
      go_ret
      exact ⟨rfl, rfl⟩
    · rw [if_neg h2]
      have h3 : (a.toList == b.toList) = false := by simpa using h2
      clear h2
      go_enter Try.func62, Try.ntmps62
      go_wp2
      go_ret
      exact ⟨rfl, rfl⟩
/-- The first of numbers that is not 0. -/
def orL : List Int → Int
  | [] => 0
  | x :: l => if x = 0 then orL l else x
theorem orL3 (a b c : Int) : orL [a, b, c] = or3 a b c := by
  unfold or3 orL orL orL orL
  by_cases h : c = 0
  · rw [if_pos h, h]
  · rw [if_neg h]
set_option maxHeartbeats 400000 in
theorem or_any (ao : Option Addr) (m cap : Nat) (zs : List Int) (w : World) (hc : Cs w ao (zs.map (Value.int .i64))) (hm : zs.length = m) (hl : m ≤ 9223372036854775807) :
    Calls Try.prog 59 #[.slice ao m cap] w (fun e w' => e = .returned (.int .i64 (orL zs)) ∧ w = w') := by
  have HM := Lib.hid hm
  clear hm
  go_enter Try.func59, Try.ntmps59
  go_wp2
  go_loop [8] (fun i => ∃ k : Nat, k ≤ m ∧ i = .int .i64 k ∧ Hid (orL zs = orL (zs.drop k))) (fun i => m - (intOf i).toNat)
  case atStart => exact ⟨0, Nat.zero_le _, rfl, Lib.hid rfl⟩
  case round =>
    obtain ⟨k, hk, rfl, HO⟩ := hrel
    by_cases hlt : k < m
    · have hkl : k < zs.length := by have := HM.out; omega
      obtain ⟨b, o, rfl⟩ := hc.addr (by rw [List.length_map]; omega)
      have hcell := hc.at (j := k) (u := .int .i64 zs[k]) (by simp [hkl])
      have ho := HO.out
      rw [List.drop_eq_getElem_cons hkl] at ho
      generalize zs[k] = z at hcell ho
      have HO2 := Lib.hid ho
      clear ho HO hkl
      by_cases hz : z = 0
      · subst hz
        go_wp2
        go_round
        case rel => exact ⟨k + 1, by omega, by go_num, Lib.hid (by rw [HO2.out, orL, if_pos rfl])⟩
        case measure => simp [intOf]; omega
      · have hz1 : (z != 0) = true := by simpa using hz
        have hz2 : (!z == 0) = true := by simpa using hz
        have HZ := Lib.hid hz
        clear hz
        go_wp2
        go_ret
        exact ⟨by rw [HO2.out, orL, if_neg HZ.out]; rfl, rfl⟩
    · have ho := HO.out
      rw [List.drop_of_length_le (by have := HM.out; omega), orL] at ho
      have HO2 := Lib.hid ho
      clear ho HO
      go_wp2
      go_ret
      exact ⟨by rw [HO2.out]; rfl, rfl⟩
set_option maxHeartbeats 1000000 in
theorem compare_any (a b : V) (w : World) : Calls Try.prog 54 #[a.val, b.val] w (fun e w' => e = .returned (.int .i64 (cmpV a b)) ∧ Below w.heap.size w w') := by
  obtain ⟨k, n, s⟩ := a
  obtain ⟨k', n', s'⟩ := b
  have hC : cmpV ⟨k, n, s⟩ ⟨k', n', s'⟩ = orL [cmpI k k', cmpI n n', cmpS s s'] := (orL3 _ _ _).symm
  rw [hC]
  clear hC
  simp only [V.val]
  go_enter Try.func54, Try.ntmps54
  go_wp2_with (first | (at_make; refine Stop.un ?_) | (at_builtin; refine Stop.un ?_) | (with_reducible refine Stop.conv 22 9 ?_) | (with_reducible refine Stop.conv 9 22 ?_))
  refine mix_startE 18 rfl (by kernel_rfl) ?_
  intro x1 hx1
  have e0 : x1.cell? ⟨w.heap.size, 0, none⟩ = some (.int .u8 k) := hx1.cell (by simp)
  have e1 : x1.cell? ⟨w.heap.size, 1, none⟩ = some (.int .i64 n) := hx1.cell (by simp)
  have e2 : x1.cell? ⟨w.heap.size, 2, none⟩ = some (.string s) := hx1.cell (by simp)
  have e3 : x1.cell? ⟨w.heap.size + 1, 0, none⟩ = some (.int .u8 k') := hx1.cell (by simp)
  have e4 : x1.cell? ⟨w.heap.size + 1, 1, none⟩ = some (.int .i64 n') := hx1.cell (by simp)
  have e5 : x1.cell? ⟨w.heap.size + 1, 2, none⟩ = some (.string s') := hx1.cell (by simp)
  refine mix_quiet Keeps.ext 0 rfl (by kernel_rfl) rfl ?_
  intro ι U hne hU
  go_big_quiet_op
  clear hU hne U ι
  show wpAnyM _ _ _ _ _ _ _ _ _
  refine mix_quiet Keeps.ext 1 rfl (by kernel_rfl) rfl ?_
  intro ι U hne hU
  have hcv := fun k => (hU k).cell e0
  go_big_quiet_op
  clear hU hne hcv U ι
  show wpAnyM _ _ _ _ _ _ _ _ _
  refine mix_quiet Keeps.ext 2 rfl (by kernel_rfl) rfl ?_
  intro ι U hne hU
  go_big_quiet_op
  clear hU hne U ι
  show wpAnyM _ _ _ _ _ _ _ _ _
  refine mix_quiet Keeps.ext 3 rfl (by kernel_rfl) rfl ?_
  intro ι U hne hU
  have hcv := fun k => (hU k).cell e3
  go_big_quiet_op
  clear hU hne hcv U ι
  show wpAnyM _ _ _ _ _ _ _ _ _
  refine mix_quiet Keeps.ext 5 rfl (by kernel_rfl) rfl ?_
  intro ι U hne hU
  go_big_quiet_op
  clear hU hne U ι
  show wpAnyM _ _ _ _ _ _ _ _ _
  refine mix_quiet Keeps.ext 6 rfl (by kernel_rfl) rfl ?_
  intro ι U hne hU
  have hcv := fun k => (hU k).cell e1
  go_big_quiet_op
  clear hU hne hcv U ι
  show wpAnyM _ _ _ _ _ _ _ _ _
  refine mix_quiet Keeps.ext 7 rfl (by kernel_rfl) rfl ?_
  intro ι U hne hU
  go_big_quiet_op
  clear hU hne U ι
  show wpAnyM _ _ _ _ _ _ _ _ _
  refine mix_quiet Keeps.ext 8 rfl (by kernel_rfl) rfl ?_
  intro ι U hne hU
  have hcv := fun k => (hU k).cell e4
  go_big_quiet_op
  clear hU hne hcv U ι
  show wpAnyM _ _ _ _ _ _ _ _ _
  refine mix_quiet Keeps.ext 10 rfl (by kernel_rfl) rfl ?_
  intro ι U hne hU
  go_big_quiet_op
  clear hU hne U ι
  show wpAnyM _ _ _ _ _ _ _ _ _
  refine mix_quiet Keeps.ext 11 rfl (by kernel_rfl) rfl ?_
  intro ι U hne hU
  have hcv := fun k => (hU k).cell e2
  go_big_quiet_op
  clear hU hne hcv U ι
  show wpAnyM _ _ _ _ _ _ _ _ _
  refine mix_quiet Keeps.ext 12 rfl (by kernel_rfl) rfl ?_
  intro ι U hne hU
  go_big_quiet_op
  clear hU hne U ι
  show wpAnyM _ _ _ _ _ _ _ _ _
  refine mix_quiet Keeps.ext 13 rfl (by kernel_rfl) rfl ?_
  intro ι U hne hU
  have hcv := fun k => (hU k).cell e5
  go_big_quiet_op
  clear hU hne hcv U ι
  show wpAnyM _ _ _ _ _ _ _ _ _
  clear e0 e1 e2 e3 e4 e5
  refine mix_any 4 rfl (by kernel_rfl) rfl ?_
  go_wp2_with (first | (at_make; refine Stop.un ?_) | (at_builtin; refine Stop.un ?_) | (with_reducible refine Stop.conv 22 9 ?_) | (with_reducible refine Stop.conv 9 22 ?_))
  refine (cmpU8_any _ _ _).mono ?_
  rintro e w1 ⟨rfl, rfl⟩
  go_wp2_with (first | (at_make; refine Stop.un ?_) | (at_builtin; refine Stop.un ?_) | (with_reducible refine Stop.conv 22 9 ?_) | (with_reducible refine Stop.conv 9 22 ?_))
  refine MixPost.mk (Ext.refl _) ?_
  refine mix_any 9 rfl (by kernel_rfl) rfl ?_
  go_wp2_with (first | (at_make; refine Stop.un ?_) | (at_builtin; refine Stop.un ?_) | (with_reducible refine Stop.conv 22 9 ?_) | (with_reducible refine Stop.conv 9 22 ?_))
  refine (cmpInt_any _ _ _).mono ?_
  rintro e w1 ⟨rfl, rfl⟩
  go_wp2_with (first | (at_make; refine Stop.un ?_) | (at_builtin; refine Stop.un ?_) | (with_reducible refine Stop.conv 22 9 ?_) | (with_reducible refine Stop.conv 9 22 ?_))
  refine MixPost.mk (Ext.refl _) ?_
  refine mix_any 14 rfl (by kernel_rfl) rfl ?_
  go_wp2_with (first | (at_make; refine Stop.un ?_) | (at_builtin; refine Stop.un ?_) | (with_reducible refine Stop.conv 22 9 ?_) | (with_reducible refine Stop.conv 9 22 ?_))
  refine (cmpStr_any _ _ _).mono ?_
  rintro e w1 ⟨rfl, rfl⟩
  go_wp2_with (first | (at_make; refine Stop.un ?_) | (at_builtin; refine Stop.un ?_) | (with_reducible refine Stop.conv 22 9 ?_) | (with_reducible refine Stop.conv 9 22 ?_))
  refine MixPost.mk (Ext.refl _) ?_
  refine mix_any 15 rfl (by kernel_rfl) rfl ?_
  go_wp2_with (first | (at_make; refine Stop.un ?_) | (at_builtin; refine Stop.un ?_) | (with_reducible refine Stop.conv 22 9 ?_) | (with_reducible refine Stop.conv 9 22 ?_))
  refine MixPost.mk ((Below.refl _ _).alloc (Nat.le_refl _) _) ?_
  refine mix_any 16 rfl (by kernel_rfl) rfl ?_
  go_wp2_with (first | (at_make; refine Stop.un ?_) | (at_builtin; refine Stop.un ?_) | (with_reducible refine Stop.conv 22 9 ?_) | (with_reducible refine Stop.conv 9 22 ?_))
  refine (or_any _ 3 3 [cmpI k k', cmpI n n', cmpS s s'] _ ?_ rfl (by decide)).mono ?_
  · exact Own.cs (Own.block (w0 := x1) (w := x1) (Below.refl _ _) rfl (by decide) : Own x1 _ 3 1 _ 3 _)
  rintro e w1 ⟨rfl, rfl⟩
  go_wp2_with (first | (at_make; refine Stop.un ?_) | (at_builtin; refine Stop.un ?_) | (with_reducible refine Stop.conv 22 9 ?_) | (with_reducible refine Stop.conv 9 22 ?_))
  refine MixPost.mk (Ext.refl _) ?_
  refine mix_quiet Keeps.ext 17 rfl (by kernel_rfl) rfl ?_
  intro ι U hne hU
  go_big_quiet_op
  clear hU hne U ι
  show wpAnyM _ _ _ _ _ _ _ _ _
  refine mix_end (by kernel_rfl) ?_
  have hb : Below w.heap.size w x1 := (((Below.refl _ _).alloc (Nat.le_refl _) _).alloc (by simp) _).next hx1
  clear hx1
  go_wp2_with (first | (at_make; refine Stop.un ?_) | (at_builtin; refine Stop.un ?_) | (with_reducible refine Stop.conv 22 9 ?_) | (with_reducible refine Stop.conv 9 22 ?_))
  go_ret
  exact ⟨rfl, hb.next ((Below.refl _ _).alloc (Nat.le_refl _) _)⟩
end Go.Proofs.Ytbiniecjenencaa
