/- Whether two lists of runs are the same; how many numbers runs have. -/
import Derived.Test.YtkgcjafediimnaaRunC
import Derived.Test.YtkgcjafediimnaaMix
import Derived.Test.YtkgcjafediimnaaAt
set_option linter.unusedVariables false
set_option linter.unusedSimpArgs false
namespace Go.Proofs.Ytkgcjafediimnaa
open Go.RowKit
def eqRn (a b : Rn) : Bool := a.n == b.n && a.k == b.k
theorem eqRn_iff {a b : Rn} : eqRn a b = true ↔ a = b := by
  unfold eqRn
  constructor
  · intro h; simp only [Bool.and_eq_true, beq_iff_eq] at h; exact Rn.ext_ h.1 h.2
  · rintro rfl; simp
theorem exec_neRn {ρ : Operand → Value} {x y : Operand} {dst : Option Tmp} {T2 ty : TypeId} {pos : String} {af : Array Edge} {g : Option (Nat × Bool)} (a b : Rn) (hx : ρ x = .agg #[.int .i64 a.n, .int .i64 a.k]) (hy : ρ y = .agg #[.int .i64 b.n, .int .i64 b.k]) (w : World) :
    (execOp ρ ⟨dst, .binOp .neq 34 x y T2, ty, pos, af, g⟩).run Try.prog w = .ok (.value (.bool (!eqRn a b))) w := by
  obtain ⟨n, k⟩ := a
  obtain ⟨n', k'⟩ := b
  simp only at hx hy
  unfold eqRn
  by_cases h1 : n = n' <;> by_cases h2 : k = k' <;> simp [execOp, hx, hy, go_sem, h1, h2]
set_option maxHeartbeats 2000000 in
theorem same_any (ao bo : Option Addr) (m m' cap cap' : Nat) (a b : List Rn) (w : World) (hc : Cs w ao (rcells a)) (hd : Cs w bo (rcells b)) (hm : a.length = m) (hm' : b.length = m') (hl : m ≤ cap) (hcm : cap ≤ maxLen) (hl' : m' ≤ cap') (hcm' : cap' ≤ maxLen) :
    Calls Try.prog 12 #[.slice ao m cap, .slice bo m' cap'] w (fun e w' => e = .returned (.bool (decide (a = b))) ∧ Below w.heap.size w w') := by
  unfold maxLen at hcm hcm'
  have HM := Lib.hid hm
  have HM' := Lib.hid hm'
  by_cases hmm : m = m'
  · clear hm hm'
    subst hmm
    generalize hres : decide (a = b) = res
    have HR := Lib.hid hres
    clear hres
    have hb0 : (!(m : Int) == (m : Int)) = false := by simp
    go_enter Try.func12, Try.ntmps12
    go_wp2_with (first | (at_make; refine Stop.un ?_) | (at_builtin; refine Stop.un ?_) | (with_reducible refine Stop.conv 24 9 ?_) | (with_reducible refine Stop.conv 9 24 ?_))
    go_loopw [5] (fun i wr => ∃ j : Nat, j ≤ m ∧ i = .int .i64 (j : Int) ∧ Below w.heap.size w wr ∧ Hid (a.take j = b.take j)) (fun i _ => m - (intOf i).toNat)
    case atStart => exact ⟨0, by omega, rfl, Below.refl _ _, Lib.hid (by simp)⟩
    case round =>
      obtain ⟨j, hj, rfl, hb, HI⟩ := hrel
      by_cases hlt : j < m
      · have hja : j < a.length := by have := HM.out; omega
        have hjb : j < b.length := by have := HM'.out; omega
        obtain ⟨q, o, rfl⟩ := hc.addr (by rw [rcells_length]; omega)
        obtain ⟨q', o', rfl⟩ := hd.addr (by rw [rcells_length]; omega)
        obtain ⟨x0, x1⟩ := (hc.mono hb (Nat.le_refl _)).rat hja
        obtain ⟨y0, y1⟩ := (hd.mono hb (Nat.le_refl _)).rat hjb
        have ha1 : a[j]? = some a[j] := List.getElem?_eq_getElem hja
        have hb1 : b[j]? = some b[j] := List.getElem?_eq_getElem hjb
        generalize a[j] = x at x0 x1 ha1
        generalize b[j] = y at y0 y1 hb1
        have HA := Lib.hid ha1
        have HB := Lib.hid hb1
        clear ha1 hb1
        obtain ⟨n, k⟩ := x
        obtain ⟨n', k'⟩ := y
        simp only at x0 x1 y0 y1
        clear hja hjb
        have hq : eqRn ⟨n, k⟩ ⟨n', k'⟩ = true → a.take (j + 1) = b.take (j + 1) := by
          intro h
          rw [List.take_add_one, List.take_add_one, HI.out, HA.out, HB.out, eqRn_iff.1 h]
        have hq2 : eqRn ⟨n, k⟩ ⟨n', k'⟩ = false → res = false := by
          intro h
          rw [← HR.out]
          simp only [decide_eq_false_iff_not]
          rintro rfl
          have h1 := HA.out
          rw [HB.out] at h1
          cases h1
          rw [eqRn_iff.2 rfl] at h; cases h
        have HQ := Lib.hid hq
        have HQ2 := Lib.hid hq2
        clear hq hq2 HI HA HB
        go_wp2_with (first | (at_make; refine Stop.un ?_) | (at_builtin; refine Stop.un ?_) | (with_reducible refine Stop.conv 24 9 ?_) | (with_reducible refine Stop.conv 9 24 ?_))
        refine mix_startE 9 rfl (by kernel_rfl) ?_
        intro xq hxq
        replace x0 := Ext.cell hxq x0
        replace x1 := Ext.cell hxq x1
        replace y0 := Ext.cell hxq y0
        replace y1 := Ext.cell hxq y1
        replace hb := Below.next hb hxq
        clear hxq
        refine mix_quiet Keeps.ext 0 rfl (by kernel_rfl) rfl ?_
        intro ι U hne hU
        go_big_quiet_op
        clear hU hne U ι
        show wpAnyM _ _ _ _ _ _ _ _ _
        refine mix_quiet Keeps.ext 1 rfl (by kernel_rfl) rfl ?_
        intro ι U hne hU
        go_big_quiet_op
        clear hU hne U ι
        show wpAnyM _ _ _ _ _ _ _ _ _
        refine mix_quiet Keeps.ext 2 rfl (by kernel_rfl) rfl ?_
        intro ι U hne hU
        go_big_quiet_op
        clear hU hne U ι
        show wpAnyM _ _ _ _ _ _ _ _ _
        refine mix_quiet Keeps.ext 3 rfl (by kernel_rfl) rfl ?_
        intro ι U hne hU
        have hcw0 := fun ii => (hU ii).cell x0
        have hcw1 := fun ii => (hU ii).cell x1
        have hcw2 := fun ii => (hU ii).cell y0
        have hcw3 := fun ii => (hU ii).cell y1
        go_big_quiet_op
        clear hU hne hcw0 hcw1 hcw2 hcw3 U ι
        show wpAnyM _ _ _ _ _ _ _ _ _
        refine mix_quiet Keeps.ext 4 rfl (by kernel_rfl) rfl ?_
        intro ι U hne hU
        go_big_quiet_op
        clear hU hne U ι
        show wpAnyM _ _ _ _ _ _ _ _ _
        refine mix_quiet Keeps.ext 5 rfl (by kernel_rfl) rfl ?_
        intro ι U hne hU
        go_big_quiet_op
        clear hU hne U ι
        show wpAnyM _ _ _ _ _ _ _ _ _
        refine mix_quiet Keeps.ext 6 rfl (by kernel_rfl) rfl ?_
        intro ι U hne hU
        go_big_quiet_op
        clear hU hne U ι
        show wpAnyM _ _ _ _ _ _ _ _ _
        refine mix_quiet Keeps.ext 7 rfl (by kernel_rfl) rfl ?_
        intro ι U hne hU
        have hcw0 := fun ii => (hU ii).cell x0
        have hcw1 := fun ii => (hU ii).cell x1
        have hcw2 := fun ii => (hU ii).cell y0
        have hcw3 := fun ii => (hU ii).cell y1
        go_big_quiet_op
        clear hU hne hcw0 hcw1 hcw2 hcw3 U ι
        show wpAnyM _ _ _ _ _ _ _ _ _
        refine mix_quiet Keeps.ext 8 rfl (by kernel_rfl) rfl ?_
        intro ι U hne hU
        refine quiet_as _ (exec_neRn ⟨_, _⟩ ⟨_, _⟩ rfl rfl) (hne.elim fun ii => ⟨_, ii, rfl⟩) ?_
        go_big_quiet_op
        clear hU hne U ι
        show wpAnyM _ _ _ _ _ _ _ _ _
        refine mix_end (by kernel_rfl) ?_
        cases he : eqRn ⟨n, k⟩ ⟨n', k'⟩ with
        | true =>
          have HI := Lib.hid (HQ.out he)
          go_wp2_with (first | (at_make; refine Stop.un ?_) | (at_builtin; refine Stop.un ?_) | (with_reducible refine Stop.conv 24 9 ?_) | (with_reducible refine Stop.conv 9 24 ?_))
          go_roundw
          case rel => exact ⟨j + 1, by omega, by go_num, hb, HI⟩
          case measure => simp [intOf]; omega
        | false =>
          have hr := HQ2.out he
          subst hr
          go_wp2_with (first | (at_make; refine Stop.un ?_) | (at_builtin; refine Stop.un ?_) | (with_reducible refine Stop.conv 24 9 ?_) | (with_reducible refine Stop.conv 9 24 ?_))
          go_ret
          exact ⟨rfl, hb⟩
      · have hjm : j = m := by omega
        have hr : res = true := by
          have h := HI.out
          rw [List.take_of_length_le (by have := HM.out; omega), List.take_of_length_le (by have := HM'.out; omega)] at h
          rw [← HR.out]; simpa using h
        subst hr hjm
        clear HI
        go_wp2_with (first | (at_make; refine Stop.un ?_) | (at_builtin; refine Stop.un ?_) | (with_reducible refine Stop.conv 24 9 ?_) | (with_reducible refine Stop.conv 9 24 ?_))
        go_ret
        exact ⟨rfl, hb⟩
  · have hne : decide (a = b) = false := by
      simp only [decide_eq_false_iff_not]
      rintro rfl
      exact hmm (hm.symm.trans hm')
    rw [hne]
    have hb0 : (!(m : Int) == (m' : Int)) = true := by simp; omega
    clear hm hm' hne
    go_enter Try.func12, Try.ntmps12
    go_wp2_with (first | (at_make; refine Stop.un ?_) | (at_builtin; refine Stop.un ?_) | (with_reducible refine Stop.conv 24 9 ?_) | (with_reducible refine Stop.conv 9 24 ?_))
    go_ret
    exact ⟨rfl, Below.refl _ _⟩
end Go.Proofs.Ytkgcjafediimnaa
