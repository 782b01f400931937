/- What is known of a column of a group. -/
import Derived.Test.YtbiniecjenencaaGAdd
import Derived.Test.YtbiniecjenencaaForms
import Derived.Test.YtbiniecjenencaaVAt
import Derived.Test.YtbiniecjenencaaRow
import Derived.Test.YtbiniecjenencaaOth
set_option linter.unusedVariables false
set_option linter.unusedSimpArgs false
set_option maxRecDepth 10000
namespace Go.Proofs.Ytbiniecjenencaa
open Go.RowKit
/-- What is known of a column of a group so far. -/
structure Kn where
  rows : Int
  some : Int
  hi : Int
  lo : Int
  least : V
  most : V
def Kn.zero : Kn := ⟨0, 0, 0, 0, V.zero, V.zero⟩
def Kn.cells (K : Kn) : Array Value := #[.int .i64 K.rows, .int .i64 K.some, .int .i64 K.hi, .int .u64 K.lo, .int .u8 K.least.k, .int .i64 K.least.n, .string K.least.s, .int .u8 K.most.k, .int .i64 K.most.n, .string K.most.s]
def Kn.add (K : Kn) (v : V) : Kn := if v.k = 0 then ⟨K.rows + 1, K.some, K.hi, K.lo, K.least, K.most⟩ else
  ⟨K.rows + 1, K.some + 1, addH K.hi K.lo v.n, addL K.lo v.n, if K.some = 0 ∨ cmpV v K.least < 0 then v else K.least, if K.some = 0 ∨ 0 < cmpV v K.most then v else K.most⟩
/-- The numbers of it may be. -/
structure Kn.ok (K : Kn) (m : Nat) : Prop where
  r0 : 0 ≤ K.rows
  r1 : K.rows ≤ m
  s0 : 0 ≤ K.some
  s1 : K.some ≤ m
  l0 : 0 ≤ K.lo
  l1 : K.lo ≤ 18446744073709551615
theorem Kn.ok_zero : Kn.zero.ok 0 := ⟨by decide, by decide, by decide, by decide, by decide, by decide⟩
theorem addL_ok (lo n : Int) : 0 ≤ addL lo n ∧ addL lo n ≤ 18446744073709551615 := by unfold addL; omega
theorem Kn.ok_add {K : Kn} {m : Nat} (h : K.ok m) (v : V) : (K.add v).ok (m + 1) := by
  obtain ⟨h1, h2, h3, h4, h5, h6⟩ := h
  have := addL_ok K.lo v.n
  unfold Kn.add
  split
  · exact ⟨by simp only; omega, by simp only; omega, by simp only; omega, by simp only; omega, by simp only; omega, by simp only; omega⟩
  · exact ⟨by simp only; omega, by simp only; omega, by simp only; omega, by simp only; omega, by simp only; omega, by simp only; omega⟩
set_option maxRecDepth 100000 in
set_option maxHeartbeats 8000000 in
theorem kadd_any (K : Kn) (v : V) (g m : Nat) (w : World) (z : At w g K.cells 83) (hK : K.ok m) (hm : m ≤ 1000000) :
    Calls Try.prog 44 #[.pointer (some ⟨g, 0, none⟩), v.val] w (fun e w' => e = .returned (.tuple #[]) ∧ At w' g (K.add v).cells 83 ∧ Oth (fun k => k = g) w w') := by
  obtain ⟨ro, so, hi, lo, ⟨lk, ln, ls⟩, ⟨mk, mn, ms⟩⟩ := K
  obtain ⟨k, n, s⟩ := v
  obtain ⟨h1, h2, h3, h4, h5, h6⟩ := hK
  simp only [Kn.cells] at z h1 h2 h3 h4 h5 h6
  simp only [V.val]
  by_cases hk0 : k = 0
  ·
    subst hk0
    have e0 : Kn.add ⟨ro, so, hi, lo, ⟨lk, ln, ls⟩, ⟨mk, mn, ms⟩⟩ ⟨0, n, s⟩ = ⟨ro + 1, so, hi, lo, ⟨lk, ln, ls⟩, ⟨mk, mn, ms⟩⟩ := if_pos rfl
    rw [e0]
    clear e0
    have zA := z.alloc (.cells #[.int .u8 0, .int .i64 n, .string s] 38)
    have zv := At.new w #[.int .u8 0, .int .i64 n, .string s] 38
    have hgl := z.lt
    clear z
    have z := zA
    clear zA
    have o1 : Oth (fun k => k = g) w (w.alloc (.cells #[.int .u8 0, .int .i64 n, .string s] 38)) := Oth.of_below _ ((Below.refl _ _).alloc (Nat.le_refl _) _)
    go_enter Try.func44, Try.ntmps44
    go_upto_region 1 with fail
    generalize w.alloc (.cells #[.int .u8 0, .int .i64 n, .string s] 38) = wA at z zv o1 ⊢
    have hgv : w.heap.size ≠ g := by omega
    generalize w.heap.size = gv at zv hgv ⊢
    have fq0 := z.free 0
    have gq0 := z.cell 0 rfl
    have lq := z.lt
    go_upto_region 2 with (first | (at_make; refine Stop.un ?_) | (at_builtin; refine Stop.un ?_))
    have zz0 : At (wA.setCell ⟨g, 0, none⟩ (.int .i64 (ro + 1))) g #[.int .i64 (ro + 1), .int .i64 so, .int .i64 hi, .int .u64 lo, .int .u8 lk, .int .i64 ln, .string ls, .int .u8 mk, .int .i64 mn, .string ms] 83 := At.set z 0 (.int .i64 (ro + 1))
    have o2 : Oth (fun k => k = g) w (wA.setCell ⟨g, 0, none⟩ (.int .i64 (ro + 1))) := (o1.set ⟨g, 0, none⟩ (.int .i64 (ro + 1)) (.inl rfl))
    have zv2 : At (wA.setCell ⟨g, 0, none⟩ (.int .i64 (ro + 1))) gv _ 38 := (zv.off (p := ⟨g, 0, none⟩) hgv _)
    clear lq fq0 gq0
    clear z zv o1
    generalize (wA.setCell ⟨g, 0, none⟩ (.int .i64 (ro + 1))) = w_1 at zz0 o2 zv2 ⊢
    have z := zz0
    have o1 := o2
    have zv := zv2
    clear o2 zv2 zz0
    have v0 := zv.cell 0 rfl
    go_wp2_with (first | (at_make; refine Stop.un ?_) | (at_builtin; refine Stop.un ?_) | (with_reducible refine Stop.conv 22 9 ?_) | (with_reducible refine Stop.conv 9 22 ?_))
    exact bodyPost_ret (v := .tuple #[]) (by simp [results, Try.results44, go_sem]) rfl ⟨rfl, z, o1⟩
  ·
    have hkn : (k == 0) = false := by simpa using hk0
    have zA := z.alloc (.cells #[.int .u8 k, .int .i64 n, .string s] 38)
    have zv := At.new w #[.int .u8 k, .int .i64 n, .string s] 38
    have hgl := z.lt
    clear z
    have z := zA
    clear zA
    have o1 : Oth (fun k => k = g) w (w.alloc (.cells #[.int .u8 k, .int .i64 n, .string s] 38)) := Oth.of_below _ ((Below.refl _ _).alloc (Nat.le_refl _) _)
    go_enter Try.func44, Try.ntmps44
    go_upto_region 1 with fail
    generalize w.alloc (.cells #[.int .u8 k, .int .i64 n, .string s] 38) = wA at z zv o1 ⊢
    have hgv : w.heap.size ≠ g := by omega
    generalize w.heap.size = gv at zv hgv ⊢
    have fq0 := z.free 0
    have gq0 := z.cell 0 rfl
    have lq := z.lt
    go_upto_region 2 with (first | (at_make; refine Stop.un ?_) | (at_builtin; refine Stop.un ?_))
    have zz0 : At (wA.setCell ⟨g, 0, none⟩ (.int .i64 (ro + 1))) g #[.int .i64 (ro + 1), .int .i64 so, .int .i64 hi, .int .u64 lo, .int .u8 lk, .int .i64 ln, .string ls, .int .u8 mk, .int .i64 mn, .string ms] 83 := At.set z 0 (.int .i64 (ro + 1))
    have o2 : Oth (fun k => k = g) w (wA.setCell ⟨g, 0, none⟩ (.int .i64 (ro + 1))) := (o1.set ⟨g, 0, none⟩ (.int .i64 (ro + 1)) (.inl rfl))
    have zv2 : At (wA.setCell ⟨g, 0, none⟩ (.int .i64 (ro + 1))) gv _ 38 := (zv.off (p := ⟨g, 0, none⟩) hgv _)
    clear lq fq0 gq0
    clear z zv o1
    generalize (wA.setCell ⟨g, 0, none⟩ (.int .i64 (ro + 1))) = w_2 at zz0 o2 zv2 ⊢
    have z := zz0
    have o1 := o2
    have zv := zv2
    clear o2 zv2 zz0
    have v0 := zv.cell 0 rfl
    go_upto_region 3 with fail
    clear v0
    by_cases hs0 : so = 0
    ·
      subst hs0
      have HE : Hid (Kn.cells (Kn.add ⟨ro, 0, hi, lo, ⟨lk, ln, ls⟩, ⟨mk, mn, ms⟩⟩ ⟨k, n, s⟩) = #[.int .i64 (ro + 1), .int .i64 1, .int .i64 (addH hi lo n), .int .u64 (addL lo n), .int .u8 k, .int .i64 n, .string s, .int .u8 k, .int .i64 n, .string s]) := Lib.hid (by
        unfold Kn.add
        rw [if_neg hk0]
        simp only [Kn.cells, true_or, if_true]
        rfl)
      refine mix_startE 14 rfl (by kernel_rfl) ?_
      intro xq hxq
      replace z := At.mono z hxq
      replace zv := At.mono zv hxq
      replace o1 := Oth.below o1 hxq
      clear hxq
      refine mix_quiet Keeps.ext 0 rfl (by kernel_rfl) rfl ?_
      intro ι U hne hU
      go_big_quiet_op
      clear hU hne U ι
      show wpAnyM _ _ _ _ _ _ _ _ _
      refine mix_quiet Keeps.ext 1 rfl (by kernel_rfl) rfl ?_
      intro ι U hne hU
      go_big_quiet_op
      clear hU hne U ι
      show wpAnyM _ _ _ _ _ _ _ _ _
      refine mix_quiet Keeps.ext 2 rfl (by kernel_rfl) rfl ?_
      intro ι U hne hU
      go_big_quiet_op
      clear hU hne U ι
      show wpAnyM _ _ _ _ _ _ _ _ _
      refine mix_quiet Keeps.ext 3 rfl (by kernel_rfl) rfl ?_
      intro ι U hne hU
      have hcw0 := fun ii => (At.mono z (hU ii)).cell 0 rfl
      have hcw1 := fun ii => (At.mono z (hU ii)).cell 1 rfl
      have hcw2 := fun ii => (At.mono z (hU ii)).cell 2 rfl
      have hcw3 := fun ii => (At.mono z (hU ii)).cell 3 rfl
      have hcw4 := fun ii => (At.mono z (hU ii)).cell 4 rfl
      have hcw5 := fun ii => (At.mono z (hU ii)).cell 5 rfl
      have hcw6 := fun ii => (At.mono z (hU ii)).cell 6 rfl
      have hcw7 := fun ii => (At.mono z (hU ii)).cell 7 rfl
      have hcw8 := fun ii => (At.mono z (hU ii)).cell 8 rfl
      have hcw9 := fun ii => (At.mono z (hU ii)).cell 9 rfl
      have hcw10 := fun ii => (At.mono zv (hU ii)).cell 0 rfl
      have hcw11 := fun ii => (At.mono zv (hU ii)).cell 1 rfl
      have hcw12 := fun ii => (At.mono zv (hU ii)).cell 2 rfl
      go_big_quiet_op
      clear hU hne hcw0 hcw1 hcw2 hcw3 hcw4 hcw5 hcw6 hcw7 hcw8 hcw9 hcw10 hcw11 hcw12 U ι
      show wpAnyM _ _ _ _ _ _ _ _ _
      refine mix_quiet Keeps.ext 4 rfl (by kernel_rfl) rfl ?_
      intro ι U hne hU
      go_big_quiet_op
      clear hU hne U ι
      show wpAnyM _ _ _ _ _ _ _ _ _
      refine mix_quiet Keeps.ext 5 rfl (by kernel_rfl) rfl ?_
      intro ι U hne hU
      go_big_quiet_op
      clear hU hne U ι
      show wpAnyM _ _ _ _ _ _ _ _ _
      refine mix_skip Keeps.ext 6 rfl (by kernel_rfl) rfl ?_
      go_big_quiet_skip
      refine wpQuiet_nil ?_
      show wpAnyM _ _ _ _ _ _ _ _ _
      refine mix_skip Keeps.ext 7 rfl (by kernel_rfl) rfl ?_
      go_big_quiet_skip
      refine wpQuiet_nil ?_
      show wpAnyM _ _ _ _ _ _ _ _ _
      refine mix_skip Keeps.ext 8 rfl (by kernel_rfl) rfl ?_
      go_big_quiet_skip
      refine wpQuiet_nil ?_
      show wpAnyM _ _ _ _ _ _ _ _ _
      refine mix_skip Keeps.ext 9 rfl (by kernel_rfl) rfl ?_
      go_big_quiet_skip
      refine wpQuiet_nil ?_
      show wpAnyM _ _ _ _ _ _ _ _ _
      refine mix_skip Keeps.ext 10 rfl (by kernel_rfl) rfl ?_
      go_big_quiet_skip
      refine wpQuiet_nil ?_
      show wpAnyM _ _ _ _ _ _ _ _ _
      refine mix_skip Keeps.ext 11 rfl (by kernel_rfl) rfl ?_
      go_big_quiet_skip
      refine wpQuiet_nil ?_
      show wpAnyM _ _ _ _ _ _ _ _ _
      refine mix_skip Keeps.ext 12 rfl (by kernel_rfl) rfl ?_
      go_big_quiet_skip
      refine wpQuiet_nil ?_
      show wpAnyM _ _ _ _ _ _ _ _ _
      refine mix_quiet Keeps.ext 13 rfl (by kernel_rfl) rfl ?_
      intro ι U hne hU
      go_big_quiet_op
      clear hU hne U ι
      show wpAnyM _ _ _ _ _ _ _ _ _
      refine mix_end (by kernel_rfl) ?_
      have v0 := zv.cell 0 rfl
      have v1 := zv.cell 1 rfl
      have v2 := zv.cell 2 rfl
      go_upto_region 4 with fail
      have fq4 := z.free 4
      have gq4 := z.cell 4 rfl
      have fq5 := z.free 5
      have gq5 := z.cell 5 rfl
      have fq6 := z.free 6
      have gq6 := z.cell 6 rfl
      have lq := z.lt
      go_upto_region 5 with (first | (at_make; refine Stop.un ?_) | (at_builtin; refine Stop.un ?_))
      have zz0 : At (xq.setCell ⟨g, 4, none⟩ (.int .u8 k)) g #[.int .i64 (ro + 1), .int .i64 0, .int .i64 hi, .int .u64 lo, .int .u8 k, .int .i64 ln, .string ls, .int .u8 mk, .int .i64 mn, .string ms] 83 := At.set z 4 (.int .u8 k)
      have zz1 : At ((xq.setCell ⟨g, 4, none⟩ (.int .u8 k)).setCell ⟨g, 5, none⟩ (.int .i64 n)) g #[.int .i64 (ro + 1), .int .i64 0, .int .i64 hi, .int .u64 lo, .int .u8 k, .int .i64 n, .string ls, .int .u8 mk, .int .i64 mn, .string ms] 83 := At.set zz0 5 (.int .i64 n)
      have zz2 : At (((xq.setCell ⟨g, 4, none⟩ (.int .u8 k)).setCell ⟨g, 5, none⟩ (.int .i64 n)).setCell ⟨g, 6, none⟩ (.string s)) g #[.int .i64 (ro + 1), .int .i64 0, .int .i64 hi, .int .u64 lo, .int .u8 k, .int .i64 n, .string s, .int .u8 mk, .int .i64 mn, .string ms] 83 := At.set zz1 6 (.string s)
      have o2 : Oth (fun k => k = g) w (((xq.setCell ⟨g, 4, none⟩ (.int .u8 k)).setCell ⟨g, 5, none⟩ (.int .i64 n)).setCell ⟨g, 6, none⟩ (.string s)) := (((o1.set ⟨g, 4, none⟩ (.int .u8 k) (.inl rfl)).set ⟨g, 5, none⟩ (.int .i64 n) (.inl rfl)).set ⟨g, 6, none⟩ (.string s) (.inl rfl))
      have zv2 : At (((xq.setCell ⟨g, 4, none⟩ (.int .u8 k)).setCell ⟨g, 5, none⟩ (.int .i64 n)).setCell ⟨g, 6, none⟩ (.string s)) gv _ 38 := (((zv.off (p := ⟨g, 4, none⟩) hgv _).off (p := ⟨g, 5, none⟩) hgv _).off (p := ⟨g, 6, none⟩) hgv _)
      clear lq fq4 gq4 fq5 gq5 fq6 gq6
      clear z zv o1
      generalize (((xq.setCell ⟨g, 4, none⟩ (.int .u8 k)).setCell ⟨g, 5, none⟩ (.int .i64 n)).setCell ⟨g, 6, none⟩ (.string s)) = w_3 at zz2 o2 zv2 ⊢
      have z := zz2
      have o1 := o2
      have zv := zv2
      clear o2 zv2 zz2 zz0 zz1
      clear v0 v1 v2
      refine mix_startE 14 rfl (by kernel_rfl) ?_
      intro xq hxq
      replace z := At.mono z hxq
      replace zv := At.mono zv hxq
      replace o1 := Oth.below o1 hxq
      clear hxq
      refine mix_quiet Keeps.ext 0 rfl (by kernel_rfl) rfl ?_
      intro ι U hne hU
      go_big_quiet_op
      clear hU hne U ι
      show wpAnyM _ _ _ _ _ _ _ _ _
      refine mix_quiet Keeps.ext 1 rfl (by kernel_rfl) rfl ?_
      intro ι U hne hU
      go_big_quiet_op
      clear hU hne U ι
      show wpAnyM _ _ _ _ _ _ _ _ _
      refine mix_quiet Keeps.ext 2 rfl (by kernel_rfl) rfl ?_
      intro ι U hne hU
      go_big_quiet_op
      clear hU hne U ι
      show wpAnyM _ _ _ _ _ _ _ _ _
      refine mix_quiet Keeps.ext 3 rfl (by kernel_rfl) rfl ?_
      intro ι U hne hU
      have hcw0 := fun ii => (At.mono z (hU ii)).cell 0 rfl
      have hcw1 := fun ii => (At.mono z (hU ii)).cell 1 rfl
      have hcw2 := fun ii => (At.mono z (hU ii)).cell 2 rfl
      have hcw3 := fun ii => (At.mono z (hU ii)).cell 3 rfl
      have hcw4 := fun ii => (At.mono z (hU ii)).cell 4 rfl
      have hcw5 := fun ii => (At.mono z (hU ii)).cell 5 rfl
      have hcw6 := fun ii => (At.mono z (hU ii)).cell 6 rfl
      have hcw7 := fun ii => (At.mono z (hU ii)).cell 7 rfl
      have hcw8 := fun ii => (At.mono z (hU ii)).cell 8 rfl
      have hcw9 := fun ii => (At.mono z (hU ii)).cell 9 rfl
      have hcw10 := fun ii => (At.mono zv (hU ii)).cell 0 rfl
      have hcw11 := fun ii => (At.mono zv (hU ii)).cell 1 rfl
      have hcw12 := fun ii => (At.mono zv (hU ii)).cell 2 rfl
      go_big_quiet_op
      clear hU hne hcw0 hcw1 hcw2 hcw3 hcw4 hcw5 hcw6 hcw7 hcw8 hcw9 hcw10 hcw11 hcw12 U ι
      show wpAnyM _ _ _ _ _ _ _ _ _
      refine mix_quiet Keeps.ext 4 rfl (by kernel_rfl) rfl ?_
      intro ι U hne hU
      go_big_quiet_op
      clear hU hne U ι
      show wpAnyM _ _ _ _ _ _ _ _ _
      refine mix_quiet Keeps.ext 5 rfl (by kernel_rfl) rfl ?_
      intro ι U hne hU
      go_big_quiet_op
      clear hU hne U ι
      show wpAnyM _ _ _ _ _ _ _ _ _
      refine mix_skip Keeps.ext 6 rfl (by kernel_rfl) rfl ?_
      go_big_quiet_skip
      refine wpQuiet_nil ?_
      show wpAnyM _ _ _ _ _ _ _ _ _
      refine mix_skip Keeps.ext 7 rfl (by kernel_rfl) rfl ?_
      go_big_quiet_skip
      refine wpQuiet_nil ?_
      show wpAnyM _ _ _ _ _ _ _ _ _
      refine mix_skip Keeps.ext 8 rfl (by kernel_rfl) rfl ?_
      go_big_quiet_skip
      refine wpQuiet_nil ?_
      show wpAnyM _ _ _ _ _ _ _ _ _
      refine mix_skip Keeps.ext 9 rfl (by kernel_rfl) rfl ?_
      go_big_quiet_skip
      refine wpQuiet_nil ?_
      show wpAnyM _ _ _ _ _ _ _ _ _
      refine mix_skip Keeps.ext 10 rfl (by kernel_rfl) rfl ?_
      go_big_quiet_skip
      refine wpQuiet_nil ?_
      show wpAnyM _ _ _ _ _ _ _ _ _
      refine mix_skip Keeps.ext 11 rfl (by kernel_rfl) rfl ?_
      go_big_quiet_skip
      refine wpQuiet_nil ?_
      show wpAnyM _ _ _ _ _ _ _ _ _
      refine mix_skip Keeps.ext 12 rfl (by kernel_rfl) rfl ?_
      go_big_quiet_skip
      refine wpQuiet_nil ?_
      show wpAnyM _ _ _ _ _ _ _ _ _
      refine mix_quiet Keeps.ext 13 rfl (by kernel_rfl) rfl ?_
      intro ι U hne hU
      go_big_quiet_op
      clear hU hne U ι
      show wpAnyM _ _ _ _ _ _ _ _ _
      refine mix_end (by kernel_rfl) ?_
      have v0 := zv.cell 0 rfl
      have v1 := zv.cell 1 rfl
      have v2 := zv.cell 2 rfl
      go_upto_region 6 with fail
      have fq7 := z.free 7
      have gq7 := z.cell 7 rfl
      have fq8 := z.free 8
      have gq8 := z.cell 8 rfl
      have fq9 := z.free 9
      have gq9 := z.cell 9 rfl
      have lq := z.lt
      go_upto_region 7 with (first | (at_make; refine Stop.un ?_) | (at_builtin; refine Stop.un ?_))
      have zz0 : At (xq.setCell ⟨g, 7, none⟩ (.int .u8 k)) g #[.int .i64 (ro + 1), .int .i64 0, .int .i64 hi, .int .u64 lo, .int .u8 k, .int .i64 n, .string s, .int .u8 k, .int .i64 mn, .string ms] 83 := At.set z 7 (.int .u8 k)
      have zz1 : At ((xq.setCell ⟨g, 7, none⟩ (.int .u8 k)).setCell ⟨g, 8, none⟩ (.int .i64 n)) g #[.int .i64 (ro + 1), .int .i64 0, .int .i64 hi, .int .u64 lo, .int .u8 k, .int .i64 n, .string s, .int .u8 k, .int .i64 n, .string ms] 83 := At.set zz0 8 (.int .i64 n)
      have zz2 : At (((xq.setCell ⟨g, 7, none⟩ (.int .u8 k)).setCell ⟨g, 8, none⟩ (.int .i64 n)).setCell ⟨g, 9, none⟩ (.string s)) g #[.int .i64 (ro + 1), .int .i64 0, .int .i64 hi, .int .u64 lo, .int .u8 k, .int .i64 n, .string s, .int .u8 k, .int .i64 n, .string s] 83 := At.set zz1 9 (.string s)
      have o2 : Oth (fun k => k = g) w (((xq.setCell ⟨g, 7, none⟩ (.int .u8 k)).setCell ⟨g, 8, none⟩ (.int .i64 n)).setCell ⟨g, 9, none⟩ (.string s)) := (((o1.set ⟨g, 7, none⟩ (.int .u8 k) (.inl rfl)).set ⟨g, 8, none⟩ (.int .i64 n) (.inl rfl)).set ⟨g, 9, none⟩ (.string s) (.inl rfl))
      have zv2 : At (((xq.setCell ⟨g, 7, none⟩ (.int .u8 k)).setCell ⟨g, 8, none⟩ (.int .i64 n)).setCell ⟨g, 9, none⟩ (.string s)) gv _ 38 := (((zv.off (p := ⟨g, 7, none⟩) hgv _).off (p := ⟨g, 8, none⟩) hgv _).off (p := ⟨g, 9, none⟩) hgv _)
      clear lq fq7 gq7 fq8 gq8 fq9 gq9
      clear z zv o1
      generalize (((xq.setCell ⟨g, 7, none⟩ (.int .u8 k)).setCell ⟨g, 8, none⟩ (.int .i64 n)).setCell ⟨g, 9, none⟩ (.string s)) = w_4 at zz2 o2 zv2 ⊢
      have z := zz2
      have o1 := o2
      have zv := zv2
      clear o2 zv2 zz2 zz0 zz1
      clear v0 v1 v2
      have c1 := z.cell 1 rfl
      go_upto_region 7 with fail
      clear c1
      obtain ⟨W, hW⟩ : ∃ W, W = w_4 := ⟨_, rfl⟩
      rw [← hW] at z zv o1 ⊢
      clear hW
      have fq1 := z.free 1
      have gq1 := z.cell 1 rfl
      have lq := z.lt
      go_upto_region 8 with (first | (at_make; refine Stop.un ?_) | (at_builtin; refine Stop.un ?_))
      have zz0 : At (W.setCell ⟨g, 1, none⟩ (.int .i64 1)) g #[.int .i64 (ro + 1), .int .i64 1, .int .i64 hi, .int .u64 lo, .int .u8 k, .int .i64 n, .string s, .int .u8 k, .int .i64 n, .string s] 83 := At.set z 1 (.int .i64 1)
      have o2 : Oth (fun k => k = g) w (W.setCell ⟨g, 1, none⟩ (.int .i64 1)) := (o1.set ⟨g, 1, none⟩ (.int .i64 1) (.inl rfl))
      have zv2 : At (W.setCell ⟨g, 1, none⟩ (.int .i64 1)) gv _ 38 := (zv.off (p := ⟨g, 1, none⟩) hgv _)
      clear lq fq1 gq1
      clear z zv o1
      generalize (W.setCell ⟨g, 1, none⟩ (.int .i64 1)) = w_5 at zz0 o2 zv2 ⊢
      have z := zz0
      have o1 := o2
      have zv := zv2
      clear o2 zv2 zz0
      refine mix_startN 11 rfl (by kernel_rfl) ?_
      intro xq hxq
      replace z := At.mono z hxq
      replace zv := At.mono zv hxq
      replace o1 := Oth.below o1 hxq
      clear hxq
      refine mix_quiet Keeps.any 0 rfl (by kernel_rfl) rfl ?_
      intro ι U hne hU
      go_big_quiet_op
      clear hU hne U ι
      show wpAnyM _ _ _ _ _ _ _ _ _
      refine mix_quiet Keeps.any 1 rfl (by kernel_rfl) rfl ?_
      intro ι U hne hU
      go_big_quiet_op
      clear hU hne U ι
      show wpAnyM _ _ _ _ _ _ _ _ _
      refine mix_quiet Keeps.any 2 rfl (by kernel_rfl) rfl ?_
      intro ι U hne hU
      go_big_quiet_op
      clear hU hne U ι
      show wpAnyM _ _ _ _ _ _ _ _ _
      refine mix_quiet Keeps.any 3 rfl (by kernel_rfl) rfl ?_
      intro ι U hne hU
      go_big_quiet_op
      clear hU hne U ι
      show wpAnyM _ _ _ _ _ _ _ _ _
      refine mix_quiet Keeps.any 5 rfl (by kernel_rfl) rfl ?_
      intro ι U hne hU
      go_big_quiet_op
      clear hU hne U ι
      show wpAnyM _ _ _ _ _ _ _ _ _
      refine mix_two 4 6 rfl rfl (by kernel_rfl) rfl rfl ?_ ?_
      ·
        have f2 := z.cell 2 rfl
        have f3 := z.cell 3 rfl
        have f4 := zv.cell 1 rfl
        go_wp2_with (first | (at_make; refine Stop.un ?_) | (at_builtin; refine Stop.un ?_) | (with_reducible refine Stop.conv 22 9 ?_) | (with_reducible refine Stop.conv 9 22 ?_))
        refine MixPost.mk (True.intro : AnyW _ _) ?_
        clear f2 f3 f4
        refine mix_any 6 rfl (by kernel_rfl) rfl ?_
        have f2 := z.cell 2 rfl
        have f3 := z.cell 3 rfl
        have f4 := zv.cell 1 rfl
        go_wp2_with (first | (at_make; refine Stop.un ?_) | (at_builtin; refine Stop.un ?_) | (with_reducible refine Stop.conv 22 9 ?_) | (with_reducible refine Stop.conv 9 22 ?_))
        refine MixPost.mk (True.intro : AnyW _ _) ?_
        clear f2 f3 f4
        refine mix_any 7 rfl (by kernel_rfl) rfl ?_
        go_wp2_with (first | (at_make; refine Stop.un ?_) | (at_builtin; refine Stop.un ?_) | (with_reducible refine Stop.conv 22 9 ?_) | (with_reducible refine Stop.conv 9 22 ?_))
        refine (gadd_any _ _ _ _ (by omega) (by omega)).mono ?_
        rintro e wo ⟨rfl, bo⟩
        go_wp2_with (first | (at_make; refine Stop.un ?_) | (at_builtin; refine Stop.un ?_) | (with_reducible refine Stop.conv 22 9 ?_) | (with_reducible refine Stop.conv 9 22 ?_))
        refine MixPost.mk (True.intro : AnyW _ _) ?_
        replace z := At.mono z bo
        replace zv := At.mono zv bo
        replace o1 := Oth.below o1 bo
        clear bo
        refine mix_quiet Keeps.any 8 rfl (by kernel_rfl) rfl ?_
        intro ι U hne hU
        go_big_quiet_op
        clear hU hne U ι
        show wpAnyM _ _ _ _ _ _ _ _ _
        refine mix_quiet Keeps.any 9 rfl (by kernel_rfl) rfl ?_
        intro ι U hne hU
        go_big_quiet_op
        clear hU hne U ι
        show wpAnyM _ _ _ _ _ _ _ _ _
        have fq2 := z.free 2
        have gq2 := z.cell 2 rfl
        have fq3 := z.free 3
        have gq3 := z.cell 3 rfl
        have lq := z.lt
        refine mix_any 10 rfl (by kernel_rfl) rfl ?_
        go_wp2_with (first | (at_make; refine Stop.un ?_) | (at_builtin; refine Stop.un ?_) | (with_reducible refine Stop.conv 22 9 ?_) | (with_reducible refine Stop.conv 9 22 ?_))
        refine MixPost.mk (True.intro : AnyW _ _) ?_
        clear lq fq2 fq3 gq2 gq3
        refine mix_end (by kernel_rfl) ?_
        have zz0 := z.set 2 (.int .i64 (addH hi lo n))
        have zz1 := zz0.set 3 (.int .u64 (addL lo n))
        have o2 := (o1.set ⟨g, 2, none⟩ (.int .i64 (addH hi lo n)) (.inl rfl)).set ⟨g, 3, none⟩ (.int .u64 (addL lo n)) (.inl rfl)
        clear z zz0 o1
        go_wp2_with (first | (at_make; refine Stop.un ?_) | (at_builtin; refine Stop.un ?_) | (with_reducible refine Stop.conv 22 9 ?_) | (with_reducible refine Stop.conv 9 22 ?_))
        go_end0
        refine ⟨rfl, ?_, o2⟩
        rw [HE.out]
        exact zz1
      ·
        have f2 := z.cell 2 rfl
        have f3 := z.cell 3 rfl
        have f4 := zv.cell 1 rfl
        go_wp2_with (first | (at_make; refine Stop.un ?_) | (at_builtin; refine Stop.un ?_) | (with_reducible refine Stop.conv 22 9 ?_) | (with_reducible refine Stop.conv 9 22 ?_))
        refine MixPost.mk (True.intro : AnyW _ _) ?_
        clear f2 f3 f4
        refine mix_any 4 rfl (by kernel_rfl) rfl ?_
        have f2 := z.cell 2 rfl
        have f3 := z.cell 3 rfl
        have f4 := zv.cell 1 rfl
        go_wp2_with (first | (at_make; refine Stop.un ?_) | (at_builtin; refine Stop.un ?_) | (with_reducible refine Stop.conv 22 9 ?_) | (with_reducible refine Stop.conv 9 22 ?_))
        refine MixPost.mk (True.intro : AnyW _ _) ?_
        clear f2 f3 f4
        refine mix_any 7 rfl (by kernel_rfl) rfl ?_
        go_wp2_with (first | (at_make; refine Stop.un ?_) | (at_builtin; refine Stop.un ?_) | (with_reducible refine Stop.conv 22 9 ?_) | (with_reducible refine Stop.conv 9 22 ?_))
        refine (gadd_any _ _ _ _ (by omega) (by omega)).mono ?_
        rintro e wo ⟨rfl, bo⟩
        go_wp2_with (first | (at_make; refine Stop.un ?_) | (at_builtin; refine Stop.un ?_) | (with_reducible refine Stop.conv 22 9 ?_) | (with_reducible refine Stop.conv 9 22 ?_))
        refine MixPost.mk (True.intro : AnyW _ _) ?_
        replace z := At.mono z bo
        replace zv := At.mono zv bo
        replace o1 := Oth.below o1 bo
        clear bo
        refine mix_quiet Keeps.any 8 rfl (by kernel_rfl) rfl ?_
        intro ι U hne hU
        go_big_quiet_op
        clear hU hne U ι
        show wpAnyM _ _ _ _ _ _ _ _ _
        refine mix_quiet Keeps.any 9 rfl (by kernel_rfl) rfl ?_
        intro ι U hne hU
        go_big_quiet_op
        clear hU hne U ι
        show wpAnyM _ _ _ _ _ _ _ _ _
        have fq2 := z.free 2
        have gq2 := z.cell 2 rfl
        have fq3 := z.free 3
        have gq3 := z.cell 3 rfl
        have lq := z.lt
        refine mix_any 10 rfl (by kernel_rfl) rfl ?_
        go_wp2_with (first | (at_make; refine Stop.un ?_) | (at_builtin; refine Stop.un ?_) | (with_reducible refine Stop.conv 22 9 ?_) | (with_reducible refine Stop.conv 9 22 ?_))
        refine MixPost.mk (True.intro : AnyW _ _) ?_
        clear lq fq2 fq3 gq2 gq3
        refine mix_end (by kernel_rfl) ?_
        have zz0 := z.set 2 (.int .i64 (addH hi lo n))
        have zz1 := zz0.set 3 (.int .u64 (addL lo n))
        have o2 := (o1.set ⟨g, 2, none⟩ (.int .i64 (addH hi lo n)) (.inl rfl)).set ⟨g, 3, none⟩ (.int .u64 (addL lo n)) (.inl rfl)
        clear z zz0 o1
        go_wp2_with (first | (at_make; refine Stop.un ?_) | (at_builtin; refine Stop.un ?_) | (with_reducible refine Stop.conv 22 9 ?_) | (with_reducible refine Stop.conv 9 22 ?_))
        go_end0
        refine ⟨rfl, ?_, o2⟩
        rw [HE.out]
        exact zz1
    ·
      have hsn : (so == 0) = false := by simpa using hs0
      refine mix_startE 14 rfl (by kernel_rfl) ?_
      intro xq hxq
      replace z := At.mono z hxq
      replace zv := At.mono zv hxq
      replace o1 := Oth.below o1 hxq
      clear hxq
      refine mix_quiet Keeps.ext 0 rfl (by kernel_rfl) rfl ?_
      intro ι U hne hU
      go_big_quiet_op
      clear hU hne U ι
      show wpAnyM _ _ _ _ _ _ _ _ _
      refine mix_quiet Keeps.ext 1 rfl (by kernel_rfl) rfl ?_
      intro ι U hne hU
      go_big_quiet_op
      clear hU hne U ι
      show wpAnyM _ _ _ _ _ _ _ _ _
      refine mix_quiet Keeps.ext 2 rfl (by kernel_rfl) rfl ?_
      intro ι U hne hU
      go_big_quiet_op
      clear hU hne U ι
      show wpAnyM _ _ _ _ _ _ _ _ _
      refine mix_quiet Keeps.ext 3 rfl (by kernel_rfl) rfl ?_
      intro ι U hne hU
      have hcw0 := fun ii => (At.mono z (hU ii)).cell 0 rfl
      have hcw1 := fun ii => (At.mono z (hU ii)).cell 1 rfl
      have hcw2 := fun ii => (At.mono z (hU ii)).cell 2 rfl
      have hcw3 := fun ii => (At.mono z (hU ii)).cell 3 rfl
      have hcw4 := fun ii => (At.mono z (hU ii)).cell 4 rfl
      have hcw5 := fun ii => (At.mono z (hU ii)).cell 5 rfl
      have hcw6 := fun ii => (At.mono z (hU ii)).cell 6 rfl
      have hcw7 := fun ii => (At.mono z (hU ii)).cell 7 rfl
      have hcw8 := fun ii => (At.mono z (hU ii)).cell 8 rfl
      have hcw9 := fun ii => (At.mono z (hU ii)).cell 9 rfl
      have hcw10 := fun ii => (At.mono zv (hU ii)).cell 0 rfl
      have hcw11 := fun ii => (At.mono zv (hU ii)).cell 1 rfl
      have hcw12 := fun ii => (At.mono zv (hU ii)).cell 2 rfl
      go_big_quiet_op
      clear hU hne hcw0 hcw1 hcw2 hcw3 hcw4 hcw5 hcw6 hcw7 hcw8 hcw9 hcw10 hcw11 hcw12 U ι
      show wpAnyM _ _ _ _ _ _ _ _ _
      refine mix_quiet Keeps.ext 4 rfl (by kernel_rfl) rfl ?_
      intro ι U hne hU
      go_big_quiet_op
      clear hU hne U ι
      show wpAnyM _ _ _ _ _ _ _ _ _
      refine mix_quiet Keeps.ext 5 rfl (by kernel_rfl) rfl ?_
      intro ι U hne hU
      go_big_quiet_op
      clear hU hne U ι
      show wpAnyM _ _ _ _ _ _ _ _ _
      refine mix_quiet Keeps.ext 6 rfl (by kernel_rfl) rfl ?_
      intro ι U hne hU
      have hcw0 := fun ii => (At.mono z (hU ii)).cell 0 rfl
      have hcw1 := fun ii => (At.mono z (hU ii)).cell 1 rfl
      have hcw2 := fun ii => (At.mono z (hU ii)).cell 2 rfl
      have hcw3 := fun ii => (At.mono z (hU ii)).cell 3 rfl
      have hcw4 := fun ii => (At.mono z (hU ii)).cell 4 rfl
      have hcw5 := fun ii => (At.mono z (hU ii)).cell 5 rfl
      have hcw6 := fun ii => (At.mono z (hU ii)).cell 6 rfl
      have hcw7 := fun ii => (At.mono z (hU ii)).cell 7 rfl
      have hcw8 := fun ii => (At.mono z (hU ii)).cell 8 rfl
      have hcw9 := fun ii => (At.mono z (hU ii)).cell 9 rfl
      have hcw10 := fun ii => (At.mono zv (hU ii)).cell 0 rfl
      have hcw11 := fun ii => (At.mono zv (hU ii)).cell 1 rfl
      have hcw12 := fun ii => (At.mono zv (hU ii)).cell 2 rfl
      go_big_quiet_op
      clear hU hne hcw0 hcw1 hcw2 hcw3 hcw4 hcw5 hcw6 hcw7 hcw8 hcw9 hcw10 hcw11 hcw12 U ι
      show wpAnyM _ _ _ _ _ _ _ _ _
      refine mix_quiet Keeps.ext 7 rfl (by kernel_rfl) rfl ?_
      intro ι U hne hU
      go_big_quiet_op
      clear hU hne U ι
      show wpAnyM _ _ _ _ _ _ _ _ _
      refine mix_quiet Keeps.ext 8 rfl (by kernel_rfl) rfl ?_
      intro ι U hne hU
      go_big_quiet_op
      clear hU hne U ι
      show wpAnyM _ _ _ _ _ _ _ _ _
      refine mix_quiet Keeps.ext 9 rfl (by kernel_rfl) rfl ?_
      intro ι U hne hU
      go_big_quiet_op
      clear hU hne U ι
      show wpAnyM _ _ _ _ _ _ _ _ _
      refine mix_quiet Keeps.ext 10 rfl (by kernel_rfl) rfl ?_
      intro ι U hne hU
      have hcw0 := fun ii => (At.mono z (hU ii)).cell 0 rfl
      have hcw1 := fun ii => (At.mono z (hU ii)).cell 1 rfl
      have hcw2 := fun ii => (At.mono z (hU ii)).cell 2 rfl
      have hcw3 := fun ii => (At.mono z (hU ii)).cell 3 rfl
      have hcw4 := fun ii => (At.mono z (hU ii)).cell 4 rfl
      have hcw5 := fun ii => (At.mono z (hU ii)).cell 5 rfl
      have hcw6 := fun ii => (At.mono z (hU ii)).cell 6 rfl
      have hcw7 := fun ii => (At.mono z (hU ii)).cell 7 rfl
      have hcw8 := fun ii => (At.mono z (hU ii)).cell 8 rfl
      have hcw9 := fun ii => (At.mono z (hU ii)).cell 9 rfl
      have hcw10 := fun ii => (At.mono zv (hU ii)).cell 0 rfl
      have hcw11 := fun ii => (At.mono zv (hU ii)).cell 1 rfl
      have hcw12 := fun ii => (At.mono zv (hU ii)).cell 2 rfl
      go_big_quiet_op
      clear hU hne hcw0 hcw1 hcw2 hcw3 hcw4 hcw5 hcw6 hcw7 hcw8 hcw9 hcw10 hcw11 hcw12 U ι
      show wpAnyM _ _ _ _ _ _ _ _ _
      refine mix_any 11 rfl (by kernel_rfl) rfl ?_
      go_wp2_with (first | (at_make; refine Stop.un ?_) | (at_builtin; refine Stop.un ?_) | (with_reducible refine Stop.conv 22 9 ?_) | (with_reducible refine Stop.conv 9 22 ?_))
      refine (compare_x _ _ _ _ _ _ _).mono ?_
      rintro e wq1 ⟨rfl, bq1⟩
      go_wp2_with (first | (at_make; refine Stop.un ?_) | (at_builtin; refine Stop.un ?_) | (with_reducible refine Stop.conv 22 9 ?_) | (with_reducible refine Stop.conv 9 22 ?_))
      refine MixPost.mk bq1 ?_
      replace z := At.mono z bq1
      replace zv := At.mono zv bq1
      replace o1 := Oth.below o1 bq1
      clear bq1
      refine mix_quiet Keeps.ext 12 rfl (by kernel_rfl) rfl ?_
      intro ι U hne hU
      go_big_quiet_op
      clear hU hne U ι
      show wpAnyM _ _ _ _ _ _ _ _ _
      refine mix_quiet Keeps.ext 13 rfl (by kernel_rfl) rfl ?_
      intro ι U hne hU
      go_big_quiet_op
      clear hU hne U ι
      show wpAnyM _ _ _ _ _ _ _ _ _
      refine mix_end (by kernel_rfl) ?_
      generalize wq1 = W3 at z zv o1 ⊢
      by_cases hc : cmpV ⟨k, n, s⟩ ⟨lk, ln, ls⟩ < 0
      ·
        have hcd : decide (cmpV ⟨k, n, s⟩ ⟨lk, ln, ls⟩ < 0) = true := decide_eq_true hc
        have HC := Lib.hid hc
        have v0 := zv.cell 0 rfl
        have v1 := zv.cell 1 rfl
        have v2 := zv.cell 2 rfl
        go_upto_region 4 with fail
        have fq4 := z.free 4
        have gq4 := z.cell 4 rfl
        have fq5 := z.free 5
        have gq5 := z.cell 5 rfl
        have fq6 := z.free 6
        have gq6 := z.cell 6 rfl
        have lq := z.lt
        go_upto_region 5 with (first | (at_make; refine Stop.un ?_) | (at_builtin; refine Stop.un ?_))
        have zz0 : At (W3.setCell ⟨g, 4, none⟩ (.int .u8 k)) g #[.int .i64 (ro + 1), .int .i64 so, .int .i64 hi, .int .u64 lo, .int .u8 k, .int .i64 ln, .string ls, .int .u8 mk, .int .i64 mn, .string ms] 83 := At.set z 4 (.int .u8 k)
        have zz1 : At ((W3.setCell ⟨g, 4, none⟩ (.int .u8 k)).setCell ⟨g, 5, none⟩ (.int .i64 n)) g #[.int .i64 (ro + 1), .int .i64 so, .int .i64 hi, .int .u64 lo, .int .u8 k, .int .i64 n, .string ls, .int .u8 mk, .int .i64 mn, .string ms] 83 := At.set zz0 5 (.int .i64 n)
        have zz2 : At (((W3.setCell ⟨g, 4, none⟩ (.int .u8 k)).setCell ⟨g, 5, none⟩ (.int .i64 n)).setCell ⟨g, 6, none⟩ (.string s)) g #[.int .i64 (ro + 1), .int .i64 so, .int .i64 hi, .int .u64 lo, .int .u8 k, .int .i64 n, .string s, .int .u8 mk, .int .i64 mn, .string ms] 83 := At.set zz1 6 (.string s)
        have o2 : Oth (fun k => k = g) w (((W3.setCell ⟨g, 4, none⟩ (.int .u8 k)).setCell ⟨g, 5, none⟩ (.int .i64 n)).setCell ⟨g, 6, none⟩ (.string s)) := (((o1.set ⟨g, 4, none⟩ (.int .u8 k) (.inl rfl)).set ⟨g, 5, none⟩ (.int .i64 n) (.inl rfl)).set ⟨g, 6, none⟩ (.string s) (.inl rfl))
        have zv2 : At (((W3.setCell ⟨g, 4, none⟩ (.int .u8 k)).setCell ⟨g, 5, none⟩ (.int .i64 n)).setCell ⟨g, 6, none⟩ (.string s)) gv _ 38 := (((zv.off (p := ⟨g, 4, none⟩) hgv _).off (p := ⟨g, 5, none⟩) hgv _).off (p := ⟨g, 6, none⟩) hgv _)
        clear lq fq4 gq4 fq5 gq5 fq6 gq6
        clear z zv o1
        generalize (((W3.setCell ⟨g, 4, none⟩ (.int .u8 k)).setCell ⟨g, 5, none⟩ (.int .i64 n)).setCell ⟨g, 6, none⟩ (.string s)) = w_6 at zz2 o2 zv2 ⊢
        have z := zz2
        have o1 := o2
        have zv := zv2
        clear o2 zv2 zz2 zz0 zz1
        clear v0 v1 v2
        refine mix_startE 14 rfl (by kernel_rfl) ?_
        intro xq hxq
        replace z := At.mono z hxq
        replace zv := At.mono zv hxq
        replace o1 := Oth.below o1 hxq
        clear hxq
        refine mix_quiet Keeps.ext 0 rfl (by kernel_rfl) rfl ?_
        intro ι U hne hU
        go_big_quiet_op
        clear hU hne U ι
        show wpAnyM _ _ _ _ _ _ _ _ _
        refine mix_quiet Keeps.ext 1 rfl (by kernel_rfl) rfl ?_
        intro ι U hne hU
        go_big_quiet_op
        clear hU hne U ι
        show wpAnyM _ _ _ _ _ _ _ _ _
        refine mix_quiet Keeps.ext 2 rfl (by kernel_rfl) rfl ?_
        intro ι U hne hU
        go_big_quiet_op
        clear hU hne U ι
        show wpAnyM _ _ _ _ _ _ _ _ _
        refine mix_quiet Keeps.ext 3 rfl (by kernel_rfl) rfl ?_
        intro ι U hne hU
        have hcw0 := fun ii => (At.mono z (hU ii)).cell 0 rfl
        have hcw1 := fun ii => (At.mono z (hU ii)).cell 1 rfl
        have hcw2 := fun ii => (At.mono z (hU ii)).cell 2 rfl
        have hcw3 := fun ii => (At.mono z (hU ii)).cell 3 rfl
        have hcw4 := fun ii => (At.mono z (hU ii)).cell 4 rfl
        have hcw5 := fun ii => (At.mono z (hU ii)).cell 5 rfl
        have hcw6 := fun ii => (At.mono z (hU ii)).cell 6 rfl
        have hcw7 := fun ii => (At.mono z (hU ii)).cell 7 rfl
        have hcw8 := fun ii => (At.mono z (hU ii)).cell 8 rfl
        have hcw9 := fun ii => (At.mono z (hU ii)).cell 9 rfl
        have hcw10 := fun ii => (At.mono zv (hU ii)).cell 0 rfl
        have hcw11 := fun ii => (At.mono zv (hU ii)).cell 1 rfl
        have hcw12 := fun ii => (At.mono zv (hU ii)).cell 2 rfl
        go_big_quiet_op
        clear hU hne hcw0 hcw1 hcw2 hcw3 hcw4 hcw5 hcw6 hcw7 hcw8 hcw9 hcw10 hcw11 hcw12 U ι
        show wpAnyM _ _ _ _ _ _ _ _ _
        refine mix_quiet Keeps.ext 4 rfl (by kernel_rfl) rfl ?_
        intro ι U hne hU
        go_big_quiet_op
        clear hU hne U ι
        show wpAnyM _ _ _ _ _ _ _ _ _
        refine mix_quiet Keeps.ext 5 rfl (by kernel_rfl) rfl ?_
        intro ι U hne hU
        go_big_quiet_op
        clear hU hne U ι
        show wpAnyM _ _ _ _ _ _ _ _ _
        refine mix_quiet Keeps.ext 6 rfl (by kernel_rfl) rfl ?_
        intro ι U hne hU
        have hcw0 := fun ii => (At.mono z (hU ii)).cell 0 rfl
        have hcw1 := fun ii => (At.mono z (hU ii)).cell 1 rfl
        have hcw2 := fun ii => (At.mono z (hU ii)).cell 2 rfl
        have hcw3 := fun ii => (At.mono z (hU ii)).cell 3 rfl
        have hcw4 := fun ii => (At.mono z (hU ii)).cell 4 rfl
        have hcw5 := fun ii => (At.mono z (hU ii)).cell 5 rfl
        have hcw6 := fun ii => (At.mono z (hU ii)).cell 6 rfl
        have hcw7 := fun ii => (At.mono z (hU ii)).cell 7 rfl
        have hcw8 := fun ii => (At.mono z (hU ii)).cell 8 rfl
        have hcw9 := fun ii => (At.mono z (hU ii)).cell 9 rfl
        have hcw10 := fun ii => (At.mono zv (hU ii)).cell 0 rfl
        have hcw11 := fun ii => (At.mono zv (hU ii)).cell 1 rfl
        have hcw12 := fun ii => (At.mono zv (hU ii)).cell 2 rfl
        go_big_quiet_op
        clear hU hne hcw0 hcw1 hcw2 hcw3 hcw4 hcw5 hcw6 hcw7 hcw8 hcw9 hcw10 hcw11 hcw12 U ι
        show wpAnyM _ _ _ _ _ _ _ _ _
        refine mix_quiet Keeps.ext 7 rfl (by kernel_rfl) rfl ?_
        intro ι U hne hU
        go_big_quiet_op
        clear hU hne U ι
        show wpAnyM _ _ _ _ _ _ _ _ _
        refine mix_quiet Keeps.ext 8 rfl (by kernel_rfl) rfl ?_
        intro ι U hne hU
        go_big_quiet_op
        clear hU hne U ι
        show wpAnyM _ _ _ _ _ _ _ _ _
        refine mix_quiet Keeps.ext 9 rfl (by kernel_rfl) rfl ?_
        intro ι U hne hU
        go_big_quiet_op
        clear hU hne U ι
        show wpAnyM _ _ _ _ _ _ _ _ _
        refine mix_quiet Keeps.ext 10 rfl (by kernel_rfl) rfl ?_
        intro ι U hne hU
        have hcw0 := fun ii => (At.mono z (hU ii)).cell 0 rfl
        have hcw1 := fun ii => (At.mono z (hU ii)).cell 1 rfl
        have hcw2 := fun ii => (At.mono z (hU ii)).cell 2 rfl
        have hcw3 := fun ii => (At.mono z (hU ii)).cell 3 rfl
        have hcw4 := fun ii => (At.mono z (hU ii)).cell 4 rfl
        have hcw5 := fun ii => (At.mono z (hU ii)).cell 5 rfl
        have hcw6 := fun ii => (At.mono z (hU ii)).cell 6 rfl
        have hcw7 := fun ii => (At.mono z (hU ii)).cell 7 rfl
        have hcw8 := fun ii => (At.mono z (hU ii)).cell 8 rfl
        have hcw9 := fun ii => (At.mono z (hU ii)).cell 9 rfl
        have hcw10 := fun ii => (At.mono zv (hU ii)).cell 0 rfl
        have hcw11 := fun ii => (At.mono zv (hU ii)).cell 1 rfl
        have hcw12 := fun ii => (At.mono zv (hU ii)).cell 2 rfl
        go_big_quiet_op
        clear hU hne hcw0 hcw1 hcw2 hcw3 hcw4 hcw5 hcw6 hcw7 hcw8 hcw9 hcw10 hcw11 hcw12 U ι
        show wpAnyM _ _ _ _ _ _ _ _ _
        refine mix_any 11 rfl (by kernel_rfl) rfl ?_
        go_wp2_with (first | (at_make; refine Stop.un ?_) | (at_builtin; refine Stop.un ?_) | (with_reducible refine Stop.conv 22 9 ?_) | (with_reducible refine Stop.conv 9 22 ?_))
        refine (compare_x _ _ _ _ _ _ _).mono ?_
        rintro e wq2 ⟨rfl, bq2⟩
        go_wp2_with (first | (at_make; refine Stop.un ?_) | (at_builtin; refine Stop.un ?_) | (with_reducible refine Stop.conv 22 9 ?_) | (with_reducible refine Stop.conv 9 22 ?_))
        refine MixPost.mk bq2 ?_
        replace z := At.mono z bq2
        replace zv := At.mono zv bq2
        replace o1 := Oth.below o1 bq2
        clear bq2
        refine mix_quiet Keeps.ext 12 rfl (by kernel_rfl) rfl ?_
        intro ι U hne hU
        go_big_quiet_op
        clear hU hne U ι
        show wpAnyM _ _ _ _ _ _ _ _ _
        refine mix_quiet Keeps.ext 13 rfl (by kernel_rfl) rfl ?_
        intro ι U hne hU
        go_big_quiet_op
        clear hU hne U ι
        show wpAnyM _ _ _ _ _ _ _ _ _
        refine mix_end (by kernel_rfl) ?_
        generalize wq2 = W5 at z zv o1 ⊢
        by_cases hc2 : 0 < cmpV ⟨k, n, s⟩ ⟨mk, mn, ms⟩
        ·
          have hcd2 : decide (0 < cmpV ⟨k, n, s⟩ ⟨mk, mn, ms⟩) = true := decide_eq_true hc2
          have HC2 := Lib.hid hc2
          have v0 := zv.cell 0 rfl
          have v1 := zv.cell 1 rfl
          have v2 := zv.cell 2 rfl
          go_upto_region 6 with fail
          have fq7 := z.free 7
          have gq7 := z.cell 7 rfl
          have fq8 := z.free 8
          have gq8 := z.cell 8 rfl
          have fq9 := z.free 9
          have gq9 := z.cell 9 rfl
          have lq := z.lt
          go_upto_region 7 with (first | (at_make; refine Stop.un ?_) | (at_builtin; refine Stop.un ?_))
          have zz0 : At (W5.setCell ⟨g, 7, none⟩ (.int .u8 k)) g #[.int .i64 (ro + 1), .int .i64 so, .int .i64 hi, .int .u64 lo, .int .u8 k, .int .i64 n, .string s, .int .u8 k, .int .i64 mn, .string ms] 83 := At.set z 7 (.int .u8 k)
          have zz1 : At ((W5.setCell ⟨g, 7, none⟩ (.int .u8 k)).setCell ⟨g, 8, none⟩ (.int .i64 n)) g #[.int .i64 (ro + 1), .int .i64 so, .int .i64 hi, .int .u64 lo, .int .u8 k, .int .i64 n, .string s, .int .u8 k, .int .i64 n, .string ms] 83 := At.set zz0 8 (.int .i64 n)
          have zz2 : At (((W5.setCell ⟨g, 7, none⟩ (.int .u8 k)).setCell ⟨g, 8, none⟩ (.int .i64 n)).setCell ⟨g, 9, none⟩ (.string s)) g #[.int .i64 (ro + 1), .int .i64 so, .int .i64 hi, .int .u64 lo, .int .u8 k, .int .i64 n, .string s, .int .u8 k, .int .i64 n, .string s] 83 := At.set zz1 9 (.string s)
          have o2 : Oth (fun k => k = g) w (((W5.setCell ⟨g, 7, none⟩ (.int .u8 k)).setCell ⟨g, 8, none⟩ (.int .i64 n)).setCell ⟨g, 9, none⟩ (.string s)) := (((o1.set ⟨g, 7, none⟩ (.int .u8 k) (.inl rfl)).set ⟨g, 8, none⟩ (.int .i64 n) (.inl rfl)).set ⟨g, 9, none⟩ (.string s) (.inl rfl))
          have zv2 : At (((W5.setCell ⟨g, 7, none⟩ (.int .u8 k)).setCell ⟨g, 8, none⟩ (.int .i64 n)).setCell ⟨g, 9, none⟩ (.string s)) gv _ 38 := (((zv.off (p := ⟨g, 7, none⟩) hgv _).off (p := ⟨g, 8, none⟩) hgv _).off (p := ⟨g, 9, none⟩) hgv _)
          clear lq fq7 gq7 fq8 gq8 fq9 gq9
          clear z zv o1
          generalize (((W5.setCell ⟨g, 7, none⟩ (.int .u8 k)).setCell ⟨g, 8, none⟩ (.int .i64 n)).setCell ⟨g, 9, none⟩ (.string s)) = w_7 at zz2 o2 zv2 ⊢
          have z := zz2
          have o1 := o2
          have zv := zv2
          clear o2 zv2 zz2 zz0 zz1
          clear v0 v1 v2
          have HE : Hid (Kn.cells (Kn.add ⟨ro, so, hi, lo, ⟨lk, ln, ls⟩, ⟨mk, mn, ms⟩⟩ ⟨k, n, s⟩) = #[.int .i64 (ro + 1), .int .i64 (so + 1), .int .i64 (addH hi lo n), .int .u64 (addL lo n), .int .u8 k, .int .i64 n, .string s, .int .u8 k, .int .i64 n, .string s]) := Lib.hid (by
            unfold Kn.add
            rw [if_neg hk0]
            simp only [Kn.cells, hs0, false_or]
            have e1 := HC.out
            have e2 := HC2.out
            rw [if_pos (by omega), if_pos (by omega)])
          have c1 := z.cell 1 rfl
          go_upto_region 7 with fail
          clear c1
          obtain ⟨W, hW⟩ : ∃ W, W = w_7 := ⟨_, rfl⟩
          rw [← hW] at z zv o1 ⊢
          clear hW
          have fq1 := z.free 1
          have gq1 := z.cell 1 rfl
          have lq := z.lt
          go_upto_region 8 with (first | (at_make; refine Stop.un ?_) | (at_builtin; refine Stop.un ?_))
          have zz0 : At (W.setCell ⟨g, 1, none⟩ (.int .i64 (so + 1))) g #[.int .i64 (ro + 1), .int .i64 (so + 1), .int .i64 hi, .int .u64 lo, .int .u8 k, .int .i64 n, .string s, .int .u8 k, .int .i64 n, .string s] 83 := At.set z 1 (.int .i64 (so + 1))
          have o2 : Oth (fun k => k = g) w (W.setCell ⟨g, 1, none⟩ (.int .i64 (so + 1))) := (o1.set ⟨g, 1, none⟩ (.int .i64 (so + 1)) (.inl rfl))
          have zv2 : At (W.setCell ⟨g, 1, none⟩ (.int .i64 (so + 1))) gv _ 38 := (zv.off (p := ⟨g, 1, none⟩) hgv _)
          clear lq fq1 gq1
          clear z zv o1
          generalize (W.setCell ⟨g, 1, none⟩ (.int .i64 (so + 1))) = w_8 at zz0 o2 zv2 ⊢
          have z := zz0
          have o1 := o2
          have zv := zv2
          clear o2 zv2 zz0
          refine mix_startN 11 rfl (by kernel_rfl) ?_
          intro xq hxq
          replace z := At.mono z hxq
          replace zv := At.mono zv hxq
          replace o1 := Oth.below o1 hxq
          clear hxq
          refine mix_quiet Keeps.any 0 rfl (by kernel_rfl) rfl ?_
          intro ι U hne hU
          go_big_quiet_op
          clear hU hne U ι
          show wpAnyM _ _ _ _ _ _ _ _ _
          refine mix_quiet Keeps.any 1 rfl (by kernel_rfl) rfl ?_
          intro ι U hne hU
          go_big_quiet_op
          clear hU hne U ι
          show wpAnyM _ _ _ _ _ _ _ _ _
          refine mix_quiet Keeps.any 2 rfl (by kernel_rfl) rfl ?_
          intro ι U hne hU
          go_big_quiet_op
          clear hU hne U ι
          show wpAnyM _ _ _ _ _ _ _ _ _
          refine mix_quiet Keeps.any 3 rfl (by kernel_rfl) rfl ?_
          intro ι U hne hU
          go_big_quiet_op
          clear hU hne U ι
          show wpAnyM _ _ _ _ _ _ _ _ _
          refine mix_quiet Keeps.any 5 rfl (by kernel_rfl) rfl ?_
          intro ι U hne hU
          go_big_quiet_op
          clear hU hne U ι
          show wpAnyM _ _ _ _ _ _ _ _ _
          refine mix_two 4 6 rfl rfl (by kernel_rfl) rfl rfl ?_ ?_
          ·
            have f2 := z.cell 2 rfl
            have f3 := z.cell 3 rfl
            have f4 := zv.cell 1 rfl
            go_wp2_with (first | (at_make; refine Stop.un ?_) | (at_builtin; refine Stop.un ?_) | (with_reducible refine Stop.conv 22 9 ?_) | (with_reducible refine Stop.conv 9 22 ?_))
            refine MixPost.mk (True.intro : AnyW _ _) ?_
            clear f2 f3 f4
            refine mix_any 6 rfl (by kernel_rfl) rfl ?_
            have f2 := z.cell 2 rfl
            have f3 := z.cell 3 rfl
            have f4 := zv.cell 1 rfl
            go_wp2_with (first | (at_make; refine Stop.un ?_) | (at_builtin; refine Stop.un ?_) | (with_reducible refine Stop.conv 22 9 ?_) | (with_reducible refine Stop.conv 9 22 ?_))
            refine MixPost.mk (True.intro : AnyW _ _) ?_
            clear f2 f3 f4
            refine mix_any 7 rfl (by kernel_rfl) rfl ?_
            go_wp2_with (first | (at_make; refine Stop.un ?_) | (at_builtin; refine Stop.un ?_) | (with_reducible refine Stop.conv 22 9 ?_) | (with_reducible refine Stop.conv 9 22 ?_))
            refine (gadd_any _ _ _ _ (by omega) (by omega)).mono ?_
            rintro e wo ⟨rfl, bo⟩
            go_wp2_with (first | (at_make; refine Stop.un ?_) | (at_builtin; refine Stop.un ?_) | (with_reducible refine Stop.conv 22 9 ?_) | (with_reducible refine Stop.conv 9 22 ?_))
            refine MixPost.mk (True.intro : AnyW _ _) ?_
            replace z := At.mono z bo
            replace zv := At.mono zv bo
            replace o1 := Oth.below o1 bo
            clear bo
            refine mix_quiet Keeps.any 8 rfl (by kernel_rfl) rfl ?_
            intro ι U hne hU
            go_big_quiet_op
            clear hU hne U ι
            show wpAnyM _ _ _ _ _ _ _ _ _
            refine mix_quiet Keeps.any 9 rfl (by kernel_rfl) rfl ?_
            intro ι U hne hU
            go_big_quiet_op
            clear hU hne U ι
            show wpAnyM _ _ _ _ _ _ _ _ _
            have fq2 := z.free 2
            have gq2 := z.cell 2 rfl
            have fq3 := z.free 3
            have gq3 := z.cell 3 rfl
            have lq := z.lt
            refine mix_any 10 rfl (by kernel_rfl) rfl ?_
            go_wp2_with (first | (at_make; refine Stop.un ?_) | (at_builtin; refine Stop.un ?_) | (with_reducible refine Stop.conv 22 9 ?_) | (with_reducible refine Stop.conv 9 22 ?_))
            refine MixPost.mk (True.intro : AnyW _ _) ?_
            clear lq fq2 fq3 gq2 gq3
            refine mix_end (by kernel_rfl) ?_
            have zz0 := z.set 2 (.int .i64 (addH hi lo n))
            have zz1 := zz0.set 3 (.int .u64 (addL lo n))
            have o2 := (o1.set ⟨g, 2, none⟩ (.int .i64 (addH hi lo n)) (.inl rfl)).set ⟨g, 3, none⟩ (.int .u64 (addL lo n)) (.inl rfl)
            clear z zz0 o1
            go_wp2_with (first | (at_make; refine Stop.un ?_) | (at_builtin; refine Stop.un ?_) | (with_reducible refine Stop.conv 22 9 ?_) | (with_reducible refine Stop.conv 9 22 ?_))
            go_end0
            refine ⟨rfl, ?_, o2⟩
            rw [HE.out]
            exact zz1
          ·
            have f2 := z.cell 2 rfl
            have f3 := z.cell 3 rfl
            have f4 := zv.cell 1 rfl
            go_wp2_with (first | (at_make; refine Stop.un ?_) | (at_builtin; refine Stop.un ?_) | (with_reducible refine Stop.conv 22 9 ?_) | (with_reducible refine Stop.conv 9 22 ?_))
            refine MixPost.mk (True.intro : AnyW _ _) ?_
            clear f2 f3 f4
            refine mix_any 4 rfl (by kernel_rfl) rfl ?_
            have f2 := z.cell 2 rfl
            have f3 := z.cell 3 rfl
            have f4 := zv.cell 1 rfl
            go_wp2_with (first | (at_make; refine Stop.un ?_) | (at_builtin; refine Stop.un ?_) | (with_reducible refine Stop.conv 22 9 ?_) | (with_reducible refine Stop.conv 9 22 ?_))
            refine MixPost.mk (True.intro : AnyW _ _) ?_
            clear f2 f3 f4
            refine mix_any 7 rfl (by kernel_rfl) rfl ?_
            go_wp2_with (first | (at_make; refine Stop.un ?_) | (at_builtin; refine Stop.un ?_) | (with_reducible refine Stop.conv 22 9 ?_) | (with_reducible refine Stop.conv 9 22 ?_))
            refine (gadd_any _ _ _ _ (by omega) (by omega)).mono ?_
            rintro e wo ⟨rfl, bo⟩
            go_wp2_with (first | (at_make; refine Stop.un ?_) | (at_builtin; refine Stop.un ?_) | (with_reducible refine Stop.conv 22 9 ?_) | (with_reducible refine Stop.conv 9 22 ?_))
            refine MixPost.mk (True.intro : AnyW _ _) ?_
            replace z := At.mono z bo
            replace zv := At.mono zv bo
            replace o1 := Oth.below o1 bo
            clear bo
            refine mix_quiet Keeps.any 8 rfl (by kernel_rfl) rfl ?_
            intro ι U hne hU
            go_big_quiet_op
            clear hU hne U ι
            show wpAnyM _ _ _ _ _ _ _ _ _
            refine mix_quiet Keeps.any 9 rfl (by kernel_rfl) rfl ?_
            intro ι U hne hU
            go_big_quiet_op
            clear hU hne U ι
            show wpAnyM _ _ _ _ _ _ _ _ _
            have fq2 := z.free 2
            have gq2 := z.cell 2 rfl
            have fq3 := z.free 3
            have gq3 := z.cell 3 rfl
            have lq := z.lt
            refine mix_any 10 rfl (by kernel_rfl) rfl ?_
            go_wp2_with (first | (at_make; refine Stop.un ?_) | (at_builtin; refine Stop.un ?_) | (with_reducible refine Stop.conv 22 9 ?_) | (with_reducible refine Stop.conv 9 22 ?_))
            refine MixPost.mk (True.intro : AnyW _ _) ?_
            clear lq fq2 fq3 gq2 gq3
            refine mix_end (by kernel_rfl) ?_
            have zz0 := z.set 2 (.int .i64 (addH hi lo n))
            have zz1 := zz0.set 3 (.int .u64 (addL lo n))
            have o2 := (o1.set ⟨g, 2, none⟩ (.int .i64 (addH hi lo n)) (.inl rfl)).set ⟨g, 3, none⟩ (.int .u64 (addL lo n)) (.inl rfl)
            clear z zz0 o1
            go_wp2_with (first | (at_make; refine Stop.un ?_) | (at_builtin; refine Stop.un ?_) | (with_reducible refine Stop.conv 22 9 ?_) | (with_reducible refine Stop.conv 9 22 ?_))
            go_end0
            refine ⟨rfl, ?_, o2⟩
            rw [HE.out]
            exact zz1
        ·
          have hcd2 : decide (0 < cmpV ⟨k, n, s⟩ ⟨mk, mn, ms⟩) = false := decide_eq_false hc2
          have HC2 := Lib.hid hc2
          have HE : Hid (Kn.cells (Kn.add ⟨ro, so, hi, lo, ⟨lk, ln, ls⟩, ⟨mk, mn, ms⟩⟩ ⟨k, n, s⟩) = #[.int .i64 (ro + 1), .int .i64 (so + 1), .int .i64 (addH hi lo n), .int .u64 (addL lo n), .int .u8 k, .int .i64 n, .string s, .int .u8 mk, .int .i64 mn, .string ms]) := Lib.hid (by
            unfold Kn.add
            rw [if_neg hk0]
            simp only [Kn.cells, hs0, false_or]
            have e1 := HC.out
            have e2 := HC2.out
            rw [if_pos (by omega), if_neg (by omega)])
          have c1 := z.cell 1 rfl
          go_upto_region 7 with fail
          clear c1
          obtain ⟨W, hW⟩ : ∃ W, W = W5 := ⟨_, rfl⟩
          rw [← hW] at z zv o1 ⊢
          clear hW
          have fq1 := z.free 1
          have gq1 := z.cell 1 rfl
          have lq := z.lt
          go_upto_region 8 with (first | (at_make; refine Stop.un ?_) | (at_builtin; refine Stop.un ?_))
          have zz0 : At (W.setCell ⟨g, 1, none⟩ (.int .i64 (so + 1))) g #[.int .i64 (ro + 1), .int .i64 (so + 1), .int .i64 hi, .int .u64 lo, .int .u8 k, .int .i64 n, .string s, .int .u8 mk, .int .i64 mn, .string ms] 83 := At.set z 1 (.int .i64 (so + 1))
          have o2 : Oth (fun k => k = g) w (W.setCell ⟨g, 1, none⟩ (.int .i64 (so + 1))) := (o1.set ⟨g, 1, none⟩ (.int .i64 (so + 1)) (.inl rfl))
          have zv2 : At (W.setCell ⟨g, 1, none⟩ (.int .i64 (so + 1))) gv _ 38 := (zv.off (p := ⟨g, 1, none⟩) hgv _)
          clear lq fq1 gq1
          clear z zv o1
          generalize (W.setCell ⟨g, 1, none⟩ (.int .i64 (so + 1))) = w_9 at zz0 o2 zv2 ⊢
          have z := zz0
          have o1 := o2
          have zv := zv2
          clear o2 zv2 zz0
          refine mix_startN 11 rfl (by kernel_rfl) ?_
          intro xq hxq
          replace z := At.mono z hxq
          replace zv := At.mono zv hxq
          replace o1 := Oth.below o1 hxq
          clear hxq
          refine mix_quiet Keeps.any 0 rfl (by kernel_rfl) rfl ?_
          intro ι U hne hU
          go_big_quiet_op
          clear hU hne U ι
          show wpAnyM _ _ _ _ _ _ _ _ _
          refine mix_quiet Keeps.any 1 rfl (by kernel_rfl) rfl ?_
          intro ι U hne hU
          go_big_quiet_op
          clear hU hne U ι
          show wpAnyM _ _ _ _ _ _ _ _ _
          refine mix_quiet Keeps.any 2 rfl (by kernel_rfl) rfl ?_
          intro ι U hne hU
          go_big_quiet_op
          clear hU hne U ι
          show wpAnyM _ _ _ _ _ _ _ _ _
          refine mix_quiet Keeps.any 3 rfl (by kernel_rfl) rfl ?_
          intro ι U hne hU
          go_big_quiet_op
          clear hU hne U ι
          show wpAnyM _ _ _ _ _ _ _ _ _
          refine mix_quiet Keeps.any 5 rfl (by kernel_rfl) rfl ?_
          intro ι U hne hU
          go_big_quiet_op
          clear hU hne U ι
          show wpAnyM _ _ _ _ _ _ _ _ _
          refine mix_two 4 6 rfl rfl (by kernel_rfl) rfl rfl ?_ ?_
          ·
            have f2 := z.cell 2 rfl
            have f3 := z.cell 3 rfl
            have f4 := zv.cell 1 rfl
            go_wp2_with (first | (at_make; refine Stop.un ?_) | (at_builtin; refine Stop.un ?_) | (with_reducible refine Stop.conv 22 9 ?_) | (with_reducible refine Stop.conv 9 22 ?_))
            refine MixPost.mk (True.intro : AnyW _ _) ?_
            clear f2 f3 f4
            refine mix_any 6 rfl (by kernel_rfl) rfl ?_
            have f2 := z.cell 2 rfl
            have f3 := z.cell 3 rfl
            have f4 := zv.cell 1 rfl
            go_wp2_with (first | (at_make; refine Stop.un ?_) | (at_builtin; refine Stop.un ?_) | (with_reducible refine Stop.conv 22 9 ?_) | (with_reducible refine Stop.conv 9 22 ?_))
            refine MixPost.mk (True.intro : AnyW _ _) ?_
            clear f2 f3 f4
            refine mix_any 7 rfl (by kernel_rfl) rfl ?_
            go_wp2_with (first | (at_make; refine Stop.un ?_) | (at_builtin; refine Stop.un ?_) | (with_reducible refine Stop.conv 22 9 ?_) | (with_reducible refine Stop.conv 9 22 ?_))
            refine (gadd_any _ _ _ _ (by omega) (by omega)).mono ?_
            rintro e wo ⟨rfl, bo⟩
            go_wp2_with (first | (at_make; refine Stop.un ?_) | (at_builtin; refine Stop.un ?_) | (with_reducible refine Stop.conv 22 9 ?_) | (with_reducible refine Stop.conv 9 22 ?_))
            refine MixPost.mk (True.intro : AnyW _ _) ?_
            replace z := At.mono z bo
            replace zv := At.mono zv bo
            replace o1 := Oth.below o1 bo
            clear bo
            refine mix_quiet Keeps.any 8 rfl (by kernel_rfl) rfl ?_
            intro ι U hne hU
            go_big_quiet_op
            clear hU hne U ι
            show wpAnyM _ _ _ _ _ _ _ _ _
            refine mix_quiet Keeps.any 9 rfl (by kernel_rfl) rfl ?_
            intro ι U hne hU
            go_big_quiet_op
            clear hU hne U ι
            show wpAnyM _ _ _ _ _ _ _ _ _
            have fq2 := z.free 2
            have gq2 := z.cell 2 rfl
            have fq3 := z.free 3
            have gq3 := z.cell 3 rfl
            have lq := z.lt
            refine mix_any 10 rfl (by kernel_rfl) rfl ?_
            go_wp2_with (first | (at_make; refine Stop.un ?_) | (at_builtin; refine Stop.un ?_) | (with_reducible refine Stop.conv 22 9 ?_) | (with_reducible refine Stop.conv 9 22 ?_))
            refine MixPost.mk (True.intro : AnyW _ _) ?_
            clear lq fq2 fq3 gq2 gq3
            refine mix_end (by kernel_rfl) ?_
            have zz0 := z.set 2 (.int .i64 (addH hi lo n))
            have zz1 := zz0.set 3 (.int .u64 (addL lo n))
            have o2 := (o1.set ⟨g, 2, none⟩ (.int .i64 (addH hi lo n)) (.inl rfl)).set ⟨g, 3, none⟩ (.int .u64 (addL lo n)) (.inl rfl)
            clear z zz0 o1
            go_wp2_with (first | (at_make; refine Stop.un ?_) | (at_builtin; refine Stop.un ?_) | (with_reducible refine Stop.conv 22 9 ?_) | (with_reducible refine Stop.conv 9 22 ?_))
            go_end0
            refine ⟨rfl, ?_, o2⟩
            rw [HE.out]
            exact zz1
          ·
            have f2 := z.cell 2 rfl
            have f3 := z.cell 3 rfl
            have f4 := zv.cell 1 rfl
            go_wp2_with (first | (at_make; refine Stop.un ?_) | (at_builtin; refine Stop.un ?_) | (with_reducible refine Stop.conv 22 9 ?_) | (with_reducible refine Stop.conv 9 22 ?_))
            refine MixPost.mk (True.intro : AnyW _ _) ?_
            clear f2 f3 f4
            refine mix_any 4 rfl (by kernel_rfl) rfl ?_
            have f2 := z.cell 2 rfl
            have f3 := z.cell 3 rfl
            have f4 := zv.cell 1 rfl
            go_wp2_with (first | (at_make; refine Stop.un ?_) | (at_builtin; refine Stop.un ?_) | (with_reducible refine Stop.conv 22 9 ?_) | (with_reducible refine Stop.conv 9 22 ?_))
            refine MixPost.mk (True.intro : AnyW _ _) ?_
            clear f2 f3 f4
            refine mix_any 7 rfl (by kernel_rfl) rfl ?_
            go_wp2_with (first | (at_make; refine Stop.un ?_) | (at_builtin; refine Stop.un ?_) | (with_reducible refine Stop.conv 22 9 ?_) | (with_reducible refine Stop.conv 9 22 ?_))
            refine (gadd_any _ _ _ _ (by omega) (by omega)).mono ?_
            rintro e wo ⟨rfl, bo⟩
            go_wp2_with (first | (at_make; refine Stop.un ?_) | (at_builtin; refine Stop.un ?_) | (with_reducible refine Stop.conv 22 9 ?_) | (with_reducible refine Stop.conv 9 22 ?_))
            refine MixPost.mk (True.intro : AnyW _ _) ?_
            replace z := At.mono z bo
            replace zv := At.mono zv bo
            replace o1 := Oth.below o1 bo
            clear bo
            refine mix_quiet Keeps.any 8 rfl (by kernel_rfl) rfl ?_
            intro ι U hne hU
            go_big_quiet_op
            clear hU hne U ι
            show wpAnyM _ _ _ _ _ _ _ _ _
            refine mix_quiet Keeps.any 9 rfl (by kernel_rfl) rfl ?_
            intro ι U hne hU
            go_big_quiet_op
            clear hU hne U ι
            show wpAnyM _ _ _ _ _ _ _ _ _
            have fq2 := z.free 2
            have gq2 := z.cell 2 rfl
            have fq3 := z.free 3
            have gq3 := z.cell 3 rfl
            have lq := z.lt
            refine mix_any 10 rfl (by kernel_rfl) rfl ?_
            go_wp2_with (first | (at_make; refine Stop.un ?_) | (at_builtin; refine Stop.un ?_) | (with_reducible refine Stop.conv 22 9 ?_) | (with_reducible refine Stop.conv 9 22 ?_))
            refine MixPost.mk (True.intro : AnyW _ _) ?_
            clear lq fq2 fq3 gq2 gq3
            refine mix_end (by kernel_rfl) ?_
            have zz0 := z.set 2 (.int .i64 (addH hi lo n))
            have zz1 := zz0.set 3 (.int .u64 (addL lo n))
            have o2 := (o1.set ⟨g, 2, none⟩ (.int .i64 (addH hi lo n)) (.inl rfl)).set ⟨g, 3, none⟩ (.int .u64 (addL lo n)) (.inl rfl)
            clear z zz0 o1
            go_wp2_with (first | (at_make; refine Stop.un ?_) | (at_builtin; refine Stop.un ?_) | (with_reducible refine Stop.conv 22 9 ?_) | (with_reducible refine Stop.conv 9 22 ?_))
            go_end0
            refine ⟨rfl, ?_, o2⟩
            rw [HE.out]
            exact zz1
      ·
        have hcd : decide (cmpV ⟨k, n, s⟩ ⟨lk, ln, ls⟩ < 0) = false := decide_eq_false hc
        have HC := Lib.hid hc
        go_upto_region 5 with fail
        refine mix_startE 14 rfl (by kernel_rfl) ?_
        intro xq hxq
        replace z := At.mono z hxq
        replace zv := At.mono zv hxq
        replace o1 := Oth.below o1 hxq
        clear hxq
        refine mix_quiet Keeps.ext 0 rfl (by kernel_rfl) rfl ?_
        intro ι U hne hU
        go_big_quiet_op
        clear hU hne U ι
        show wpAnyM _ _ _ _ _ _ _ _ _
        refine mix_quiet Keeps.ext 1 rfl (by kernel_rfl) rfl ?_
        intro ι U hne hU
        go_big_quiet_op
        clear hU hne U ι
        show wpAnyM _ _ _ _ _ _ _ _ _
        refine mix_quiet Keeps.ext 2 rfl (by kernel_rfl) rfl ?_
        intro ι U hne hU
        go_big_quiet_op
        clear hU hne U ι
        show wpAnyM _ _ _ _ _ _ _ _ _
        refine mix_quiet Keeps.ext 3 rfl (by kernel_rfl) rfl ?_
        intro ι U hne hU
        have hcw0 := fun ii => (At.mono z (hU ii)).cell 0 rfl
        have hcw1 := fun ii => (At.mono z (hU ii)).cell 1 rfl
        have hcw2 := fun ii => (At.mono z (hU ii)).cell 2 rfl
        have hcw3 := fun ii => (At.mono z (hU ii)).cell 3 rfl
        have hcw4 := fun ii => (At.mono z (hU ii)).cell 4 rfl
        have hcw5 := fun ii => (At.mono z (hU ii)).cell 5 rfl
        have hcw6 := fun ii => (At.mono z (hU ii)).cell 6 rfl
        have hcw7 := fun ii => (At.mono z (hU ii)).cell 7 rfl
        have hcw8 := fun ii => (At.mono z (hU ii)).cell 8 rfl
        have hcw9 := fun ii => (At.mono z (hU ii)).cell 9 rfl
        have hcw10 := fun ii => (At.mono zv (hU ii)).cell 0 rfl
        have hcw11 := fun ii => (At.mono zv (hU ii)).cell 1 rfl
        have hcw12 := fun ii => (At.mono zv (hU ii)).cell 2 rfl
        go_big_quiet_op
        clear hU hne hcw0 hcw1 hcw2 hcw3 hcw4 hcw5 hcw6 hcw7 hcw8 hcw9 hcw10 hcw11 hcw12 U ι
        show wpAnyM _ _ _ _ _ _ _ _ _
        refine mix_quiet Keeps.ext 4 rfl (by kernel_rfl) rfl ?_
        intro ι U hne hU
        go_big_quiet_op
        clear hU hne U ι
        show wpAnyM _ _ _ _ _ _ _ _ _
        refine mix_quiet Keeps.ext 5 rfl (by kernel_rfl) rfl ?_
        intro ι U hne hU
        go_big_quiet_op
        clear hU hne U ι
        show wpAnyM _ _ _ _ _ _ _ _ _
        refine mix_quiet Keeps.ext 6 rfl (by kernel_rfl) rfl ?_
        intro ι U hne hU
        have hcw0 := fun ii => (At.mono z (hU ii)).cell 0 rfl
        have hcw1 := fun ii => (At.mono z (hU ii)).cell 1 rfl
        have hcw2 := fun ii => (At.mono z (hU ii)).cell 2 rfl
        have hcw3 := fun ii => (At.mono z (hU ii)).cell 3 rfl
        have hcw4 := fun ii => (At.mono z (hU ii)).cell 4 rfl
        have hcw5 := fun ii => (At.mono z (hU ii)).cell 5 rfl
        have hcw6 := fun ii => (At.mono z (hU ii)).cell 6 rfl
        have hcw7 := fun ii => (At.mono z (hU ii)).cell 7 rfl
        have hcw8 := fun ii => (At.mono z (hU ii)).cell 8 rfl
        have hcw9 := fun ii => (At.mono z (hU ii)).cell 9 rfl
        have hcw10 := fun ii => (At.mono zv (hU ii)).cell 0 rfl
        have hcw11 := fun ii => (At.mono zv (hU ii)).cell 1 rfl
        have hcw12 := fun ii => (At.mono zv (hU ii)).cell 2 rfl
        go_big_quiet_op
        clear hU hne hcw0 hcw1 hcw2 hcw3 hcw4 hcw5 hcw6 hcw7 hcw8 hcw9 hcw10 hcw11 hcw12 U ι
        show wpAnyM _ _ _ _ _ _ _ _ _
        refine mix_quiet Keeps.ext 7 rfl (by kernel_rfl) rfl ?_
        intro ι U hne hU
        go_big_quiet_op
        clear hU hne U ι
        show wpAnyM _ _ _ _ _ _ _ _ _
        refine mix_quiet Keeps.ext 8 rfl (by kernel_rfl) rfl ?_
        intro ι U hne hU
        go_big_quiet_op
        clear hU hne U ι
        show wpAnyM _ _ _ _ _ _ _ _ _
        refine mix_quiet Keeps.ext 9 rfl (by kernel_rfl) rfl ?_
        intro ι U hne hU
        go_big_quiet_op
        clear hU hne U ι
        show wpAnyM _ _ _ _ _ _ _ _ _
        refine mix_quiet Keeps.ext 10 rfl (by kernel_rfl) rfl ?_
        intro ι U hne hU
        have hcw0 := fun ii => (At.mono z (hU ii)).cell 0 rfl
        have hcw1 := fun ii => (At.mono z (hU ii)).cell 1 rfl
        have hcw2 := fun ii => (At.mono z (hU ii)).cell 2 rfl
        have hcw3 := fun ii => (At.mono z (hU ii)).cell 3 rfl
        have hcw4 := fun ii => (At.mono z (hU ii)).cell 4 rfl
        have hcw5 := fun ii => (At.mono z (hU ii)).cell 5 rfl
        have hcw6 := fun ii => (At.mono z (hU ii)).cell 6 rfl
        have hcw7 := fun ii => (At.mono z (hU ii)).cell 7 rfl
        have hcw8 := fun ii => (At.mono z (hU ii)).cell 8 rfl
        have hcw9 := fun ii => (At.mono z (hU ii)).cell 9 rfl
        have hcw10 := fun ii => (At.mono zv (hU ii)).cell 0 rfl
        have hcw11 := fun ii => (At.mono zv (hU ii)).cell 1 rfl
        have hcw12 := fun ii => (At.mono zv (hU ii)).cell 2 rfl
        go_big_quiet_op
        clear hU hne hcw0 hcw1 hcw2 hcw3 hcw4 hcw5 hcw6 hcw7 hcw8 hcw9 hcw10 hcw11 hcw12 U ι
        show wpAnyM _ _ _ _ _ _ _ _ _
        refine mix_any 11 rfl (by kernel_rfl) rfl ?_
        go_wp2_with (first | (at_make; refine Stop.un ?_) | (at_builtin; refine Stop.un ?_) | (with_reducible refine Stop.conv 22 9 ?_) | (with_reducible refine Stop.conv 9 22 ?_))
        refine (compare_x _ _ _ _ _ _ _).mono ?_
        rintro e wq3 ⟨rfl, bq3⟩
        go_wp2_with (first | (at_make; refine Stop.un ?_) | (at_builtin; refine Stop.un ?_) | (with_reducible refine Stop.conv 22 9 ?_) | (with_reducible refine Stop.conv 9 22 ?_))
        refine MixPost.mk bq3 ?_
        replace z := At.mono z bq3
        replace zv := At.mono zv bq3
        replace o1 := Oth.below o1 bq3
        clear bq3
        refine mix_quiet Keeps.ext 12 rfl (by kernel_rfl) rfl ?_
        intro ι U hne hU
        go_big_quiet_op
        clear hU hne U ι
        show wpAnyM _ _ _ _ _ _ _ _ _
        refine mix_quiet Keeps.ext 13 rfl (by kernel_rfl) rfl ?_
        intro ι U hne hU
        go_big_quiet_op
        clear hU hne U ι
        show wpAnyM _ _ _ _ _ _ _ _ _
        refine mix_end (by kernel_rfl) ?_
        generalize wq3 = W5 at z zv o1 ⊢
        by_cases hc2 : 0 < cmpV ⟨k, n, s⟩ ⟨mk, mn, ms⟩
        ·
          have hcd2 : decide (0 < cmpV ⟨k, n, s⟩ ⟨mk, mn, ms⟩) = true := decide_eq_true hc2
          have HC2 := Lib.hid hc2
          have v0 := zv.cell 0 rfl
          have v1 := zv.cell 1 rfl
          have v2 := zv.cell 2 rfl
          go_upto_region 6 with fail
          have fq7 := z.free 7
          have gq7 := z.cell 7 rfl
          have fq8 := z.free 8
          have gq8 := z.cell 8 rfl
          have fq9 := z.free 9
          have gq9 := z.cell 9 rfl
          have lq := z.lt
          go_upto_region 7 with (first | (at_make; refine Stop.un ?_) | (at_builtin; refine Stop.un ?_))
          have zz0 : At (W5.setCell ⟨g, 7, none⟩ (.int .u8 k)) g #[.int .i64 (ro + 1), .int .i64 so, .int .i64 hi, .int .u64 lo, .int .u8 lk, .int .i64 ln, .string ls, .int .u8 k, .int .i64 mn, .string ms] 83 := At.set z 7 (.int .u8 k)
          have zz1 : At ((W5.setCell ⟨g, 7, none⟩ (.int .u8 k)).setCell ⟨g, 8, none⟩ (.int .i64 n)) g #[.int .i64 (ro + 1), .int .i64 so, .int .i64 hi, .int .u64 lo, .int .u8 lk, .int .i64 ln, .string ls, .int .u8 k, .int .i64 n, .string ms] 83 := At.set zz0 8 (.int .i64 n)
          have zz2 : At (((W5.setCell ⟨g, 7, none⟩ (.int .u8 k)).setCell ⟨g, 8, none⟩ (.int .i64 n)).setCell ⟨g, 9, none⟩ (.string s)) g #[.int .i64 (ro + 1), .int .i64 so, .int .i64 hi, .int .u64 lo, .int .u8 lk, .int .i64 ln, .string ls, .int .u8 k, .int .i64 n, .string s] 83 := At.set zz1 9 (.string s)
          have o2 : Oth (fun k => k = g) w (((W5.setCell ⟨g, 7, none⟩ (.int .u8 k)).setCell ⟨g, 8, none⟩ (.int .i64 n)).setCell ⟨g, 9, none⟩ (.string s)) := (((o1.set ⟨g, 7, none⟩ (.int .u8 k) (.inl rfl)).set ⟨g, 8, none⟩ (.int .i64 n) (.inl rfl)).set ⟨g, 9, none⟩ (.string s) (.inl rfl))
          have zv2 : At (((W5.setCell ⟨g, 7, none⟩ (.int .u8 k)).setCell ⟨g, 8, none⟩ (.int .i64 n)).setCell ⟨g, 9, none⟩ (.string s)) gv _ 38 := (((zv.off (p := ⟨g, 7, none⟩) hgv _).off (p := ⟨g, 8, none⟩) hgv _).off (p := ⟨g, 9, none⟩) hgv _)
          clear lq fq7 gq7 fq8 gq8 fq9 gq9
          clear z zv o1
          generalize (((W5.setCell ⟨g, 7, none⟩ (.int .u8 k)).setCell ⟨g, 8, none⟩ (.int .i64 n)).setCell ⟨g, 9, none⟩ (.string s)) = w_10 at zz2 o2 zv2 ⊢
          have z := zz2
          have o1 := o2
          have zv := zv2
          clear o2 zv2 zz2 zz0 zz1
          clear v0 v1 v2
          have HE : Hid (Kn.cells (Kn.add ⟨ro, so, hi, lo, ⟨lk, ln, ls⟩, ⟨mk, mn, ms⟩⟩ ⟨k, n, s⟩) = #[.int .i64 (ro + 1), .int .i64 (so + 1), .int .i64 (addH hi lo n), .int .u64 (addL lo n), .int .u8 lk, .int .i64 ln, .string ls, .int .u8 k, .int .i64 n, .string s]) := Lib.hid (by
            unfold Kn.add
            rw [if_neg hk0]
            simp only [Kn.cells, hs0, false_or]
            have e1 := HC.out
            have e2 := HC2.out
            rw [if_neg (by omega), if_pos (by omega)])
          have c1 := z.cell 1 rfl
          go_upto_region 7 with fail
          clear c1
          obtain ⟨W, hW⟩ : ∃ W, W = w_10 := ⟨_, rfl⟩
          rw [← hW] at z zv o1 ⊢
          clear hW
          have fq1 := z.free 1
          have gq1 := z.cell 1 rfl
          have lq := z.lt
          go_upto_region 8 with (first | (at_make; refine Stop.un ?_) | (at_builtin; refine Stop.un ?_))
          have zz0 : At (W.setCell ⟨g, 1, none⟩ (.int .i64 (so + 1))) g #[.int .i64 (ro + 1), .int .i64 (so + 1), .int .i64 hi, .int .u64 lo, .int .u8 lk, .int .i64 ln, .string ls, .int .u8 k, .int .i64 n, .string s] 83 := At.set z 1 (.int .i64 (so + 1))
          have o2 : Oth (fun k => k = g) w (W.setCell ⟨g, 1, none⟩ (.int .i64 (so + 1))) := (o1.set ⟨g, 1, none⟩ (.int .i64 (so + 1)) (.inl rfl))
          have zv2 : At (W.setCell ⟨g, 1, none⟩ (.int .i64 (so + 1))) gv _ 38 := (zv.off (p := ⟨g, 1, none⟩) hgv _)
          clear lq fq1 gq1
          clear z zv o1
          generalize (W.setCell ⟨g, 1, none⟩ (.int .i64 (so + 1))) = w_11 at zz0 o2 zv2 ⊢
          have z := zz0
          have o1 := o2
          have zv := zv2
          clear o2 zv2 zz0
          refine mix_startN 11 rfl (by kernel_rfl) ?_
          intro xq hxq
          replace z := At.mono z hxq
          replace zv := At.mono zv hxq
          replace o1 := Oth.below o1 hxq
          clear hxq
          refine mix_quiet Keeps.any 0 rfl (by kernel_rfl) rfl ?_
          intro ι U hne hU
          go_big_quiet_op
          clear hU hne U ι
          show wpAnyM _ _ _ _ _ _ _ _ _
          refine mix_quiet Keeps.any 1 rfl (by kernel_rfl) rfl ?_
          intro ι U hne hU
          go_big_quiet_op
          clear hU hne U ι
          show wpAnyM _ _ _ _ _ _ _ _ _
          refine mix_quiet Keeps.any 2 rfl (by kernel_rfl) rfl ?_
          intro ι U hne hU
          go_big_quiet_op
          clear hU hne U ι
          show wpAnyM _ _ _ _ _ _ _ _ _
          refine mix_quiet Keeps.any 3 rfl (by kernel_rfl) rfl ?_
          intro ι U hne hU
          go_big_quiet_op
          clear hU hne U ι
          show wpAnyM _ _ _ _ _ _ _ _ _
          refine mix_quiet Keeps.any 5 rfl (by kernel_rfl) rfl ?_
          intro ι U hne hU
          go_big_quiet_op
          clear hU hne U ι
          show wpAnyM _ _ _ _ _ _ _ _ _
          refine mix_two 4 6 rfl rfl (by kernel_rfl) rfl rfl ?_ ?_
          ·
            have f2 := z.cell 2 rfl
            have f3 := z.cell 3 rfl
            have f4 := zv.cell 1 rfl
            go_wp2_with (first | (at_make; refine Stop.un ?_) | (at_builtin; refine Stop.un ?_) | (with_reducible refine Stop.conv 22 9 ?_) | (with_reducible refine Stop.conv 9 22 ?_))
            refine MixPost.mk (True.intro : AnyW _ _) ?_
            clear f2 f3 f4
            refine mix_any 6 rfl (by kernel_rfl) rfl ?_
            have f2 := z.cell 2 rfl
            have f3 := z.cell 3 rfl
            have f4 := zv.cell 1 rfl
            go_wp2_with (first | (at_make; refine Stop.un ?_) | (at_builtin; refine Stop.un ?_) | (with_reducible refine Stop.conv 22 9 ?_) | (with_reducible refine Stop.conv 9 22 ?_))
            refine MixPost.mk (True.intro : AnyW _ _) ?_
            clear f2 f3 f4
            refine mix_any 7 rfl (by kernel_rfl) rfl ?_
            go_wp2_with (first | (at_make; refine Stop.un ?_) | (at_builtin; refine Stop.un ?_) | (with_reducible refine Stop.conv 22 9 ?_) | (with_reducible refine Stop.conv 9 22 ?_))
            refine (gadd_any _ _ _ _ (by omega) (by omega)).mono ?_
            rintro e wo ⟨rfl, bo⟩
            go_wp2_with (first | (at_make; refine Stop.un ?_) | (at_builtin; refine Stop.un ?_) | (with_reducible refine Stop.conv 22 9 ?_) | (with_reducible refine Stop.conv 9 22 ?_))
            refine MixPost.mk (True.intro : AnyW _ _) ?_
            replace z := At.mono z bo
            replace zv := At.mono zv bo
            replace o1 := Oth.below o1 bo
            clear bo
            refine mix_quiet Keeps.any 8 rfl (by kernel_rfl) rfl ?_
            intro ι U hne hU
            go_big_quiet_op
            clear hU hne U ι
            show wpAnyM _ _ _ _ _ _ _ _ _
            refine mix_quiet Keeps.any 9 rfl (by kernel_rfl) rfl ?_
            intro ι U hne hU
            go_big_quiet_op
            clear hU hne U ι
            show wpAnyM _ _ _ _ _ _ _ _ _
            have fq2 := z.free 2
            have gq2 := z.cell 2 rfl
            have fq3 := z.free 3
            have gq3 := z.cell 3 rfl
            have lq := z.lt
            refine mix_any 10 rfl (by kernel_rfl) rfl ?_
            go_wp2_with (first | (at_make; refine Stop.un ?_) | (at_builtin; refine Stop.un ?_) | (with_reducible refine Stop.conv 22 9 ?_) | (with_reducible refine Stop.conv 9 22 ?_))
            refine MixPost.mk (True.intro : AnyW _ _) ?_
            clear lq fq2 fq3 gq2 gq3
            refine mix_end (by kernel_rfl) ?_
            have zz0 := z.set 2 (.int .i64 (addH hi lo n))
            have zz1 := zz0.set 3 (.int .u64 (addL lo n))
            have o2 := (o1.set ⟨g, 2, none⟩ (.int .i64 (addH hi lo n)) (.inl rfl)).set ⟨g, 3, none⟩ (.int .u64 (addL lo n)) (.inl rfl)
            clear z zz0 o1
            go_wp2_with (first | (at_make; refine Stop.un ?_) | (at_builtin; refine Stop.un ?_) | (with_reducible refine Stop.conv 22 9 ?_) | (with_reducible refine Stop.conv 9 22 ?_))
            go_end0
            refine ⟨rfl, ?_, o2⟩
            rw [HE.out]
            exact zz1
          ·
            have f2 := z.cell 2 rfl
            have f3 := z.cell 3 rfl
            have f4 := zv.cell 1 rfl
            go_wp2_with (first | (at_make; refine Stop.un ?_) | (at_builtin; refine Stop.un ?_) | (with_reducible refine Stop.conv 22 9 ?_) | (with_reducible refine Stop.conv 9 22 ?_))
            refine MixPost.mk (True.intro : AnyW _ _) ?_
            clear f2 f3 f4
            refine mix_any 4 rfl (by kernel_rfl) rfl ?_
            have f2 := z.cell 2 rfl
            have f3 := z.cell 3 rfl
            have f4 := zv.cell 1 rfl
            go_wp2_with (first | (at_make; refine Stop.un ?_) | (at_builtin; refine Stop.un ?_) | (with_reducible refine Stop.conv 22 9 ?_) | (with_reducible refine Stop.conv 9 22 ?_))
            refine MixPost.mk (True.intro : AnyW _ _) ?_
            clear f2 f3 f4
            refine mix_any 7 rfl (by kernel_rfl) rfl ?_
            go_wp2_with (first | (at_make; refine Stop.un ?_) | (at_builtin; refine Stop.un ?_) | (with_reducible refine Stop.conv 22 9 ?_) | (with_reducible refine Stop.conv 9 22 ?_))
            refine (gadd_any _ _ _ _ (by omega) (by omega)).mono ?_
            rintro e wo ⟨rfl, bo⟩
            go_wp2_with (first | (at_make; refine Stop.un ?_) | (at_builtin; refine Stop.un ?_) | (with_reducible refine Stop.conv 22 9 ?_) | (with_reducible refine Stop.conv 9 22 ?_))
            refine MixPost.mk (True.intro : AnyW _ _) ?_
            replace z := At.mono z bo
            replace zv := At.mono zv bo
            replace o1 := Oth.below o1 bo
            clear bo
            refine mix_quiet Keeps.any 8 rfl (by kernel_rfl) rfl ?_
            intro ι U hne hU
            go_big_quiet_op
            clear hU hne U ι
            show wpAnyM _ _ _ _ _ _ _ _ _
            refine mix_quiet Keeps.any 9 rfl (by kernel_rfl) rfl ?_
            intro ι U hne hU
            go_big_quiet_op
            clear hU hne U ι
            show wpAnyM _ _ _ _ _ _ _ _ _
            have fq2 := z.free 2
            have gq2 := z.cell 2 rfl
            have fq3 := z.free 3
            have gq3 := z.cell 3 rfl
            have lq := z.lt
            refine mix_any 10 rfl (by kernel_rfl) rfl ?_
            go_wp2_with (first | (at_make; refine Stop.un ?_) | (at_builtin; refine Stop.un ?_) | (with_reducible refine Stop.conv 22 9 ?_) | (with_reducible refine Stop.conv 9 22 ?_))
            refine MixPost.mk (True.intro : AnyW _ _) ?_
            clear lq fq2 fq3 gq2 gq3
            refine mix_end (by kernel_rfl) ?_
            have zz0 := z.set 2 (.int .i64 (addH hi lo n))
            have zz1 := zz0.set 3 (.int .u64 (addL lo n))
            have o2 := (o1.set ⟨g, 2, none⟩ (.int .i64 (addH hi lo n)) (.inl rfl)).set ⟨g, 3, none⟩ (.int .u64 (addL lo n)) (.inl rfl)
            clear z zz0 o1
            go_wp2_with (first | (at_make; refine Stop.un ?_) | (at_builtin; refine Stop.un ?_) | (with_reducible refine Stop.conv 22 9 ?_) | (with_reducible refine Stop.conv 9 22 ?_))
            go_end0
            refine ⟨rfl, ?_, o2⟩
            rw [HE.out]
            exact zz1
        ·
          have hcd2 : decide (0 < cmpV ⟨k, n, s⟩ ⟨mk, mn, ms⟩) = false := decide_eq_false hc2
          have HC2 := Lib.hid hc2
          have HE : Hid (Kn.cells (Kn.add ⟨ro, so, hi, lo, ⟨lk, ln, ls⟩, ⟨mk, mn, ms⟩⟩ ⟨k, n, s⟩) = #[.int .i64 (ro + 1), .int .i64 (so + 1), .int .i64 (addH hi lo n), .int .u64 (addL lo n), .int .u8 lk, .int .i64 ln, .string ls, .int .u8 mk, .int .i64 mn, .string ms]) := Lib.hid (by
            unfold Kn.add
            rw [if_neg hk0]
            simp only [Kn.cells, hs0, false_or]
            have e1 := HC.out
            have e2 := HC2.out
            rw [if_neg (by omega), if_neg (by omega)])
          have c1 := z.cell 1 rfl
          go_upto_region 7 with fail
          clear c1
          obtain ⟨W, hW⟩ : ∃ W, W = W5 := ⟨_, rfl⟩
          rw [← hW] at z zv o1 ⊢
          clear hW
          have fq1 := z.free 1
          have gq1 := z.cell 1 rfl
          have lq := z.lt
          go_upto_region 8 with (first | (at_make; refine Stop.un ?_) | (at_builtin; refine Stop.un ?_))
          have zz0 : At (W.setCell ⟨g, 1, none⟩ (.int .i64 (so + 1))) g #[.int .i64 (ro + 1), .int .i64 (so + 1), .int .i64 hi, .int .u64 lo, .int .u8 lk, .int .i64 ln, .string ls, .int .u8 mk, .int .i64 mn, .string ms] 83 := At.set z 1 (.int .i64 (so + 1))
          have o2 : Oth (fun k => k = g) w (W.setCell ⟨g, 1, none⟩ (.int .i64 (so + 1))) := (o1.set ⟨g, 1, none⟩ (.int .i64 (so + 1)) (.inl rfl))
          have zv2 : At (W.setCell ⟨g, 1, none⟩ (.int .i64 (so + 1))) gv _ 38 := (zv.off (p := ⟨g, 1, none⟩) hgv _)
          clear lq fq1 gq1
          clear z zv o1
          generalize (W.setCell ⟨g, 1, none⟩ (.int .i64 (so + 1))) = w_12 at zz0 o2 zv2 ⊢
          have z := zz0
          have o1 := o2
          have zv := zv2
          clear o2 zv2 zz0
          refine mix_startN 11 rfl (by kernel_rfl) ?_
          intro xq hxq
          replace z := At.mono z hxq
          replace zv := At.mono zv hxq
          replace o1 := Oth.below o1 hxq
          clear hxq
          refine mix_quiet Keeps.any 0 rfl (by kernel_rfl) rfl ?_
          intro ι U hne hU
          go_big_quiet_op
          clear hU hne U ι
          show wpAnyM _ _ _ _ _ _ _ _ _
          refine mix_quiet Keeps.any 1 rfl (by kernel_rfl) rfl ?_
          intro ι U hne hU
          go_big_quiet_op
          clear hU hne U ι
          show wpAnyM _ _ _ _ _ _ _ _ _
          refine mix_quiet Keeps.any 2 rfl (by kernel_rfl) rfl ?_
          intro ι U hne hU
          go_big_quiet_op
          clear hU hne U ι
          show wpAnyM _ _ _ _ _ _ _ _ _
          refine mix_quiet Keeps.any 3 rfl (by kernel_rfl) rfl ?_
          intro ι U hne hU
          go_big_quiet_op
          clear hU hne U ι
          show wpAnyM _ _ _ _ _ _ _ _ _
          refine mix_quiet Keeps.any 5 rfl (by kernel_rfl) rfl ?_
          intro ι U hne hU
          go_big_quiet_op
          clear hU hne U ι
          show wpAnyM _ _ _ _ _ _ _ _ _
          refine mix_two 4 6 rfl rfl (by kernel_rfl) rfl rfl ?_ ?_
          ·
            have f2 := z.cell 2 rfl
            have f3 := z.cell 3 rfl
            have f4 := zv.cell 1 rfl
            go_wp2_with (first | (at_make; refine Stop.un ?_) | (at_builtin; refine Stop.un ?_) | (with_reducible refine Stop.conv 22 9 ?_) | (with_reducible refine Stop.conv 9 22 ?_))
            refine MixPost.mk (True.intro : AnyW _ _) ?_
            clear f2 f3 f4
            refine mix_any 6 rfl (by kernel_rfl) rfl ?_
            have f2 := z.cell 2 rfl
            have f3 := z.cell 3 rfl
            have f4 := zv.cell 1 rfl
            go_wp2_with (first | (at_make; refine Stop.un ?_) | (at_builtin; refine Stop.un ?_) | (with_reducible refine Stop.conv 22 9 ?_) | (with_reducible refine Stop.conv 9 22 ?_))
            refine MixPost.mk (True.intro : AnyW _ _) ?_
            clear f2 f3 f4
            refine mix_any 7 rfl (by kernel_rfl) rfl ?_
            go_wp2_with (first | (at_make; refine Stop.un ?_) | (at_builtin; refine Stop.un ?_) | (with_reducible refine Stop.conv 22 9 ?_) | (with_reducible refine Stop.conv 9 22 ?_))
            refine (gadd_any _ _ _ _ (by omega) (by omega)).mono ?_
            rintro e wo ⟨rfl, bo⟩
            go_wp2_with (first | (at_make; refine Stop.un ?_) | (at_builtin; refine Stop.un ?_) | (with_reducible refine Stop.conv 22 9 ?_) | (with_reducible refine Stop.conv 9 22 ?_))
            refine MixPost.mk (True.intro : AnyW _ _) ?_
            replace z := At.mono z bo
            replace zv := At.mono zv bo
            replace o1 := Oth.below o1 bo
            clear bo
            refine mix_quiet Keeps.any 8 rfl (by kernel_rfl) rfl ?_
            intro ι U hne hU
            go_big_quiet_op
            clear hU hne U ι
            show wpAnyM _ _ _ _ _ _ _ _ _
            refine mix_quiet Keeps.any 9 rfl (by kernel_rfl) rfl ?_
            intro ι U hne hU
            go_big_quiet_op
            clear hU hne U ι
            show wpAnyM _ _ _ _ _ _ _ _ _
            have fq2 := z.free 2
            have gq2 := z.cell 2 rfl
            have fq3 := z.free 3
            have gq3 := z.cell 3 rfl
            have lq := z.lt
            refine mix_any 10 rfl (by kernel_rfl) rfl ?_
            go_wp2_with (first | (at_make; refine Stop.un ?_) | (at_builtin; refine Stop.un ?_) | (with_reducible refine Stop.conv 22 9 ?_) | (with_reducible refine Stop.conv 9 22 ?_))
            refine MixPost.mk (True.intro : AnyW _ _) ?_
            clear lq fq2 fq3 gq2 gq3
            refine mix_end (by kernel_rfl) ?_
            have zz0 := z.set 2 (.int .i64 (addH hi lo n))
            have zz1 := zz0.set 3 (.int .u64 (addL lo n))
            have o2 := (o1.set ⟨g, 2, none⟩ (.int .i64 (addH hi lo n)) (.inl rfl)).set ⟨g, 3, none⟩ (.int .u64 (addL lo n)) (.inl rfl)
            clear z zz0 o1
            go_wp2_with (first | (at_make; refine Stop.un ?_) | (at_builtin; refine Stop.un ?_) | (with_reducible refine Stop.conv 22 9 ?_) | (with_reducible refine Stop.conv 9 22 ?_))
            go_end0
            refine ⟨rfl, ?_, o2⟩
            rw [HE.out]
            exact zz1
          ·
            have f2 := z.cell 2 rfl
            have f3 := z.cell 3 rfl
            have f4 := zv.cell 1 rfl
            go_wp2_with (first | (at_make; refine Stop.un ?_) | (at_builtin; refine Stop.un ?_) | (with_reducible refine Stop.conv 22 9 ?_) | (with_reducible refine Stop.conv 9 22 ?_))
            refine MixPost.mk (True.intro : AnyW _ _) ?_
            clear f2 f3 f4
            refine mix_any 4 rfl (by kernel_rfl) rfl ?_
            have f2 := z.cell 2 rfl
            have f3 := z.cell 3 rfl
            have f4 := zv.cell 1 rfl
            go_wp2_with (first | (at_make; refine Stop.un ?_) | (at_builtin; refine Stop.un ?_) | (with_reducible refine Stop.conv 22 9 ?_) | (with_reducible refine Stop.conv 9 22 ?_))
            refine MixPost.mk (True.intro : AnyW _ _) ?_
            clear f2 f3 f4
            refine mix_any 7 rfl (by kernel_rfl) rfl ?_
            go_wp2_with (first | (at_make; refine Stop.un ?_) | (at_builtin; refine Stop.un ?_) | (with_reducible refine Stop.conv 22 9 ?_) | (with_reducible refine Stop.conv 9 22 ?_))
            refine (gadd_any _ _ _ _ (by omega) (by omega)).mono ?_
            rintro e wo ⟨rfl, bo⟩
            go_wp2_with (first | (at_make; refine Stop.un ?_) | (at_builtin; refine Stop.un ?_) | (with_reducible refine Stop.conv 22 9 ?_) | (with_reducible refine Stop.conv 9 22 ?_))
            refine MixPost.mk (True.intro : AnyW _ _) ?_
            replace z := At.mono z bo
            replace zv := At.mono zv bo
            replace o1 := Oth.below o1 bo
            clear bo
            refine mix_quiet Keeps.any 8 rfl (by kernel_rfl) rfl ?_
            intro ι U hne hU
            go_big_quiet_op
            clear hU hne U ι
            show wpAnyM _ _ _ _ _ _ _ _ _
            refine mix_quiet Keeps.any 9 rfl (by kernel_rfl) rfl ?_
            intro ι U hne hU
            go_big_quiet_op
            clear hU hne U ι
            show wpAnyM _ _ _ _ _ _ _ _ _
            have fq2 := z.free 2
            have gq2 := z.cell 2 rfl
            have fq3 := z.free 3
            have gq3 := z.cell 3 rfl
            have lq := z.lt
            refine mix_any 10 rfl (by kernel_rfl) rfl ?_
            go_wp2_with (first | (at_make; refine Stop.un ?_) | (at_builtin; refine Stop.un ?_) | (with_reducible refine Stop.conv 22 9 ?_) | (with_reducible refine Stop.conv 9 22 ?_))
            refine MixPost.mk (True.intro : AnyW _ _) ?_
            clear lq fq2 fq3 gq2 gq3
            refine mix_end (by kernel_rfl) ?_
            have zz0 := z.set 2 (.int .i64 (addH hi lo n))
            have zz1 := zz0.set 3 (.int .u64 (addL lo n))
            have o2 := (o1.set ⟨g, 2, none⟩ (.int .i64 (addH hi lo n)) (.inl rfl)).set ⟨g, 3, none⟩ (.int .u64 (addL lo n)) (.inl rfl)
            clear z zz0 o1
            go_wp2_with (first | (at_make; refine Stop.un ?_) | (at_builtin; refine Stop.un ?_) | (with_reducible refine Stop.conv 22 9 ?_) | (with_reducible refine Stop.conv 9 22 ?_))
            go_end0
            refine ⟨rfl, ?_, o2⟩
            rw [HE.out]
            exact zz1
end Go.Proofs.Ytbiniecjenencaa
