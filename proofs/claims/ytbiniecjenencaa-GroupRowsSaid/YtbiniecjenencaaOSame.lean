/- Whether rows are the same. -/
import Derived.Test.YtbiniecjenencaaRow
import Derived.Deep.DeepCutAuto
set_option linter.unusedVariables false
set_option linter.unusedSimpArgs false
set_option maxRecDepth 10000
namespace Go.Proofs.Ytbiniecjenencaa
open Go.RowKit
instance : DecidableEq V := fun a b => decidable_of_iff (eqV a b = true) eqV_iff
theorem take_eq_len {α : Type} {a b : List α} {n : Nat} (ha : a.length = n) (hb : b.length = n) (h : a.take n = b.take n) : a = b := by
  rwa [List.take_of_length_le (by omega), List.take_of_length_le (by omega)] at h
theorem take_eq_snoc {α : Type} {a b : List α} {j : Nat} (ha : j < a.length) (hb : j < b.length) (h : a.take j = b.take j) (he : a[j] = b[j]) : a.take (j + 1) = b.take (j + 1) := by
  rw [List.take_succ_eq_append_getElem ha, List.take_succ_eq_append_getElem hb, h, he]
set_option maxRecDepth 100000 in
set_option maxHeartbeats 4000000 in
theorem samerow_any (a1 : Option Addr) (n1 c1 : Nat) (l1 : List V) (a2 : Option Addr) (n2 c2 : Nat) (l2 : List V) (w : World) (h1 : Cs w a1 (vcells l1)) (h2 : Cs w a2 (vcells l2)) (e1 : l1.length = n1) (e2 : l2.length = n2) (hl1 : n1 ≤ c1) (hl2 : n2 ≤ c2) (hm1 : c1 ≤ maxLen) (hm2 : c2 ≤ maxLen) :
    Calls Try.prog 12 #[.slice a1 n1 c1, .slice a2 n2 c2] w (fun e w' => e = .returned (.bool (decide (l1 = l2))) ∧ Below w.heap.size w w') := by
  unfold maxLen at hm1 hm2
  have HE := Lib.hid (And.intro e1 e2)
  obtain ⟨q, hq⟩ : ∃ q, decide (l1 = l2) = q := ⟨_, rfl⟩
  rw [hq]
  have HQ := Lib.hid hq
  clear hq
  by_cases hn : n1 = n2
  · subst hn
    have hnn : ((n1 : Int) != (n1 : Int)) = false := by simp
    clear e1 e2
    go_enter Try.func12, Try.ntmps12
    go_wp2_with (first | (at_make; refine Stop.un ?_) | (at_builtin; refine Stop.un ?_) | (with_reducible refine Stop.conv 22 9 ?_) | (with_reducible refine Stop.conv 9 22 ?_))
    go_loopw [5] (fun i wr => ∃ j : Nat, j ≤ n1 ∧ i = .int .i64 (j : Int) ∧ Below w.heap.size w wr ∧ Hid (l1.take j = l2.take j)) (fun i _ => n1 - (intOf i).toNat)
    case atStart => exact ⟨0, Nat.zero_le _, rfl, Below.refl _ _, Lib.hid rfl⟩
    case round =>
      obtain ⟨j, hj, rfl, BB, HT⟩ := hrel
      by_cases hlt : j < n1
      · have j1 : j < l1.length := by have := HE.out; omega
        have j2 : j < l2.length := by have := HE.out; omega
        have k1 := h1.mono BB (Nat.le_refl _)
        have k2 := h2.mono BB (Nat.le_refl _)
        obtain ⟨b, o, rfl⟩ := k1.addr (by rw [vcells_length]; omega)
        obtain ⟨b', o', rfl⟩ := k2.addr (by rw [vcells_length]; omega)
        obtain ⟨x0, x1, x2⟩ := k1.vat j1
        obtain ⟨y0, y1, y2⟩ := k2.vat j2
        have HST : Hid (eqV l1[j] l2[j] = true → l1.take (j + 1) = l2.take (j + 1)) := Lib.hid (fun h => take_eq_snoc j1 j2 HT.out (eqV_iff.1 h))
        have HNE : Hid (eqV l1[j] l2[j] = false → q = false) := Lib.hid (fun h => by
          rw [← HQ.out]
          refine decide_eq_false (fun e => ?_)
          subst e
          rw [eqV_iff.2 rfl] at h
          cases h)
        generalize l1[j] = u1 at x0 x1 x2 HST HNE
        generalize l2[j] = u2 at y0 y1 y2 HST HNE
        obtain ⟨k, n, s⟩ := u1
        obtain ⟨k', n', s'⟩ := u2
        simp only at x0 x1 x2 y0 y1 y2
        generalize hqe : eqV ⟨k, n, s⟩ ⟨k', n', s'⟩ = qe at HST HNE
        have HQE := Lib.hid hqe
        clear hqe j1 j2 k1 k2
        go_upto_region 6 with fail
        refine mix_startE 9 rfl (by kernel_rfl) ?_
        intro xq hxq
        replace BB := Below.next BB hxq
        replace x0 := Ext.cell hxq x0
        replace x1 := Ext.cell hxq x1
        replace x2 := Ext.cell hxq x2
        replace y0 := Ext.cell hxq y0
        replace y1 := Ext.cell hxq y1
        replace y2 := Ext.cell hxq y2
        clear hxq
        refine mix_quiet Keeps.ext 0 rfl (by kernel_rfl) rfl ?_
        intro ι U hne hU
        go_big_quiet_op
        clear hU hne U ι
        show wpAnyM _ _ _ _ _ _ _ _ _
        refine mix_quiet Keeps.ext 1 rfl (by kernel_rfl) rfl ?_
        intro ι U hne hU
        go_big_quiet_op
        clear hU hne U ι
        show wpAnyM _ _ _ _ _ _ _ _ _
        refine mix_quiet Keeps.ext 2 rfl (by kernel_rfl) rfl ?_
        intro ι U hne hU
        go_big_quiet_op
        clear hU hne U ι
        show wpAnyM _ _ _ _ _ _ _ _ _
        refine mix_quiet Keeps.ext 3 rfl (by kernel_rfl) rfl ?_
        intro ι U hne hU
        have hcw0 := fun ii => (hU ii).cell x0
        have hcw1 := fun ii => (hU ii).cell x1
        have hcw2 := fun ii => (hU ii).cell x2
        have hcw3 := fun ii => (hU ii).cell y0
        have hcw4 := fun ii => (hU ii).cell y1
        have hcw5 := fun ii => (hU ii).cell y2
        go_big_quiet_op
        clear hU hne hcw0 hcw1 hcw2 hcw3 hcw4 hcw5 U ι
        show wpAnyM _ _ _ _ _ _ _ _ _
        refine mix_quiet Keeps.ext 4 rfl (by kernel_rfl) rfl ?_
        intro ι U hne hU
        go_big_quiet_op
        clear hU hne U ι
        show wpAnyM _ _ _ _ _ _ _ _ _
        refine mix_quiet Keeps.ext 5 rfl (by kernel_rfl) rfl ?_
        intro ι U hne hU
        go_big_quiet_op
        clear hU hne U ι
        show wpAnyM _ _ _ _ _ _ _ _ _
        refine mix_quiet Keeps.ext 6 rfl (by kernel_rfl) rfl ?_
        intro ι U hne hU
        go_big_quiet_op
        clear hU hne U ι
        show wpAnyM _ _ _ _ _ _ _ _ _
        refine mix_quiet Keeps.ext 7 rfl (by kernel_rfl) rfl ?_
        intro ι U hne hU
        have hcw0 := fun ii => (hU ii).cell x0
        have hcw1 := fun ii => (hU ii).cell x1
        have hcw2 := fun ii => (hU ii).cell x2
        have hcw3 := fun ii => (hU ii).cell y0
        have hcw4 := fun ii => (hU ii).cell y1
        have hcw5 := fun ii => (hU ii).cell y2
        go_big_quiet_op
        clear hU hne hcw0 hcw1 hcw2 hcw3 hcw4 hcw5 U ι
        show wpAnyM _ _ _ _ _ _ _ _ _
        refine mix_quiet Keeps.ext 8 rfl (by kernel_rfl) rfl ?_
        intro ι U hne hU
        refine quiet_as _ (exec_neV ⟨_, _, _⟩ ⟨_, _, _⟩ rfl rfl) (hne.elim fun ii => ⟨_, ii, rfl⟩) ?_
        go_big_quiet_op
        clear hU hne U ι
        show wpAnyM _ _ _ _ _ _ _ _ _
        rw [HQE.out]
        refine mix_end (by kernel_rfl) ?_
        clear x0 x1 x2 y0 y1 y2
        cases qe with
        | false =>
          obtain rfl := HNE.out rfl
          go_wp2_with (first | (at_make; refine Stop.un ?_) | (at_builtin; refine Stop.un ?_) | (with_reducible refine Stop.conv 22 9 ?_) | (with_reducible refine Stop.conv 9 22 ?_))
          go_ret
          exact ⟨rfl, BB⟩
        | true =>
          have H2 := Lib.hid (HST.out rfl)
          go_wp2_with (first | (at_make; refine Stop.un ?_) | (at_builtin; refine Stop.un ?_) | (with_reducible refine Stop.conv 22 9 ?_) | (with_reducible refine Stop.conv 9 22 ?_))
          go_roundw
          case rel => exact ⟨j + 1, by omega, by go_num, BB, H2⟩
          case measure => simp [intOf]; omega
      · have hjn : j = n1 := by omega
        subst hjn
        have hqt : q = true := by rw [← HQ.out]; exact decide_eq_true (take_eq_len HE.out.1 HE.out.2 HT.out)
        subst hqt
        clear HT HE
        go_wp2_with (first | (at_make; refine Stop.un ?_) | (at_builtin; refine Stop.un ?_) | (with_reducible refine Stop.conv 22 9 ?_) | (with_reducible refine Stop.conv 9 22 ?_))
        go_ret
        exact ⟨rfl, BB⟩
  · have hnn : ((n1 : Int) != (n2 : Int)) = true := by simp; omega
    have hqf : q = false := by rw [← HQ.out]; exact decide_eq_false (fun e => by subst e; omega)
    subst hqf
    clear e1 e2 hn HE
    go_enter Try.func12, Try.ntmps12
    go_wp2_with (first | (at_make; refine Stop.un ?_) | (at_builtin; refine Stop.un ?_) | (with_reducible refine Stop.conv 22 9 ?_) | (with_reducible refine Stop.conv 9 22 ?_))
    go_ret
    exact ⟨rfl, Below.refl _ _⟩
set_option maxRecDepth 100000 in
set_option maxHeartbeats 4000000 in
theorem samerows_any (a1 : Option Addr) (n1 c1 : Nat) (r1 : List Rw) (a2 : Option Addr) (n2 c2 : Nat) (r2 : List Rw) (w : World) (h1 : Tab w a1 r1) (h2 : Tab w a2 r2) (e1 : r1.length = n1) (e2 : r2.length = n2) (hl1 : n1 ≤ c1) (hl2 : n2 ≤ c2) (hm1 : c1 ≤ maxLen) (hm2 : c2 ≤ maxLen) :
    Calls Try.prog 14 #[.slice a1 n1 c1, .slice a2 n2 c2] w (fun e w' => e = .returned (.bool (decide (r1.map (·.l) = r2.map (·.l)))) ∧ Below w.heap.size w w') := by
  unfold maxLen at hm1 hm2
  have HE := Lib.hid (And.intro e1 e2)
  obtain ⟨q, hq⟩ : ∃ q, decide (r1.map (·.l) = r2.map (·.l)) = q := ⟨_, rfl⟩
  rw [hq]
  have HQ := Lib.hid hq
  clear hq
  by_cases hn : n1 = n2
  · subst hn
    have hnn : ((n1 : Int) != (n1 : Int)) = false := by simp
    clear e1 e2
    go_enter Try.func14, Try.ntmps14
    go_wp2_with (first | (at_make; refine Stop.un ?_) | (at_builtin; refine Stop.un ?_) | (with_reducible refine Stop.conv 22 9 ?_) | (with_reducible refine Stop.conv 9 22 ?_))
    go_loopw [5] (fun i wr => ∃ j : Nat, j ≤ n1 ∧ i = .int .i64 (j : Int) ∧ Below w.heap.size w wr ∧ Hid ((r1.map (·.l)).take j = (r2.map (·.l)).take j)) (fun i _ => n1 - (intOf i).toNat)
    case atStart => exact ⟨0, Nat.zero_le _, rfl, Below.refl _ _, Lib.hid rfl⟩
    case round =>
      obtain ⟨j, hj, rfl, BB, HT⟩ := hrel
      by_cases hlt : j < n1
      · have j1 : j < r1.length := by have := HE.out; omega
        have j2 : j < r2.length := by have := HE.out; omega
        have k1 := h1.mono BB
        have k2 := h2.mono BB
        obtain ⟨b, o, rfl⟩ := k1.cs.addr (by rw [rwcells_length]; omega)
        obtain ⟨b', o', rfl⟩ := k2.cs.addr (by rw [rwcells_length]; omega)
        have x0 := k1.at j1
        have y0 := k2.at j2
        have o1 := k1.ok r1[j] (List.getElem_mem _)
        have o2 := k2.ok r2[j] (List.getElem_mem _)
        have HST : Hid (r1[j].l = r2[j].l → (r1.map (·.l)).take (j + 1) = (r2.map (·.l)).take (j + 1)) := Lib.hid (fun h => take_eq_snoc (by simpa using j1) (by simpa using j2) HT.out (by simpa using h))
        have HNE : Hid (¬ r1[j].l = r2[j].l → q = false) := Lib.hid (fun h => by
          rw [← HQ.out]
          refine decide_eq_false (fun e => h ?_)
          have h1 := congrArg (fun z => z[j]?) e
          simpa [j1, j2] using h1)
        generalize r1[j] = u1 at x0 o1 HST HNE
        generalize r2[j] = u2 at y0 o2 HST HNE
        have HS := Lib.hid (fun W (o1 : RowOk W u1) (o2 : RowOk W u2) => samerow_any u1.a u1.n u1.cap u1.l u2.a u2.n u2.cap u2.l W o1.cs o2.cs o1.len o2.len o1.le o2.le o1.max o2.max)
        obtain ⟨qe, hqe⟩ : ∃ qe, decide (u1.l = u2.l) = qe := ⟨_, rfl⟩
        rw [hqe] at HS
        have HQE := Lib.hid hqe
        clear hqe j1 j2 k1 k2
        go_upto_region 6 with fail
        refine mix_startE 10 rfl (by kernel_rfl) ?_
        intro xq hxq
        replace BB := Below.next BB hxq
        replace x0 := Ext.cell hxq x0
        replace y0 := Ext.cell hxq y0
        replace o1 := RowOk.mono o1 hxq
        replace o2 := RowOk.mono o2 hxq
        clear hxq
        refine mix_quiet Keeps.ext 0 rfl (by kernel_rfl) rfl ?_
        intro ι U hne hU
        go_big_quiet_op
        clear hU hne U ι
        show wpAnyM _ _ _ _ _ _ _ _ _
        refine mix_quiet Keeps.ext 1 rfl (by kernel_rfl) rfl ?_
        intro ι U hne hU
        go_big_quiet_op
        clear hU hne U ι
        show wpAnyM _ _ _ _ _ _ _ _ _
        refine mix_quiet Keeps.ext 2 rfl (by kernel_rfl) rfl ?_
        intro ι U hne hU
        go_big_quiet_op
        clear hU hne U ι
        show wpAnyM _ _ _ _ _ _ _ _ _
        refine mix_quiet Keeps.ext 3 rfl (by kernel_rfl) rfl ?_
        intro ι U hne hU
        have hcw0 := fun ii => (hU ii).cell x0
        have hcw1 := fun ii => (hU ii).cell y0
        go_big_quiet_op
        clear hU hne hcw0 hcw1 U ι
        show wpAnyM _ _ _ _ _ _ _ _ _
        refine mix_quiet Keeps.ext 4 rfl (by kernel_rfl) rfl ?_
        intro ι U hne hU
        go_big_quiet_op
        clear hU hne U ι
        show wpAnyM _ _ _ _ _ _ _ _ _
        refine mix_quiet Keeps.ext 5 rfl (by kernel_rfl) rfl ?_
        intro ι U hne hU
        go_big_quiet_op
        clear hU hne U ι
        show wpAnyM _ _ _ _ _ _ _ _ _
        refine mix_quiet Keeps.ext 6 rfl (by kernel_rfl) rfl ?_
        intro ι U hne hU
        go_big_quiet_op
        clear hU hne U ι
        show wpAnyM _ _ _ _ _ _ _ _ _
        refine mix_quiet Keeps.ext 7 rfl (by kernel_rfl) rfl ?_
        intro ι U hne hU
        have hcw0 := fun ii => (hU ii).cell x0
        have hcw1 := fun ii => (hU ii).cell y0
        go_big_quiet_op
        clear hU hne hcw0 hcw1 U ι
        show wpAnyM _ _ _ _ _ _ _ _ _
        refine mix_any 8 rfl (by kernel_rfl) rfl ?_
        go_wp2_with (first | (at_make; refine Stop.un ?_) | (at_builtin; refine Stop.un ?_) | (with_reducible refine Stop.conv 22 9 ?_) | (with_reducible refine Stop.conv 9 22 ?_))
        refine (HS.out _ o1 o2).mono ?_
        rintro e wq1 ⟨rfl, bq1⟩
        go_wp2_with (first | (at_make; refine Stop.un ?_) | (at_builtin; refine Stop.un ?_) | (with_reducible refine Stop.conv 22 9 ?_) | (with_reducible refine Stop.conv 9 22 ?_))
        refine MixPost.mk bq1 ?_
        replace BB := Below.next BB bq1
        replace x0 := Ext.cell bq1 x0
        replace y0 := Ext.cell bq1 y0
        replace o1 := RowOk.mono o1 bq1
        replace o2 := RowOk.mono o2 bq1
        clear bq1
        refine mix_quiet Keeps.ext 9 rfl (by kernel_rfl) rfl ?_
        intro ι U hne hU
        go_big_quiet_op
        clear hU hne U ι
        show wpAnyM _ _ _ _ _ _ _ _ _
        refine mix_end (by kernel_rfl) ?_
        clear x0 y0 o1 o2 HS
        cases qe with
        | false =>
          obtain rfl := HNE.out (of_decide_eq_false HQE.out)
          go_wp2_with (first | (at_make; refine Stop.un ?_) | (at_builtin; refine Stop.un ?_) | (with_reducible refine Stop.conv 22 9 ?_) | (with_reducible refine Stop.conv 9 22 ?_))
          go_ret
          exact ⟨rfl, BB⟩
        | true =>
          have H2 := Lib.hid (HST.out (of_decide_eq_true HQE.out))
          go_wp2_with (first | (at_make; refine Stop.un ?_) | (at_builtin; refine Stop.un ?_) | (with_reducible refine Stop.conv 22 9 ?_) | (with_reducible refine Stop.conv 9 22 ?_))
          go_roundw
          case rel => exact ⟨j + 1, by omega, by go_num, BB, H2⟩
          case measure => simp [intOf]; omega
      · have hjn : j = n1 := by omega
        subst hjn
        have hqt : q = true := by rw [← HQ.out]; exact decide_eq_true (take_eq_len (by simpa using HE.out.1) (by simpa using HE.out.2) HT.out)
        subst hqt
        clear HT HE
        go_wp2_with (first | (at_make; refine Stop.un ?_) | (at_builtin; refine Stop.un ?_) | (with_reducible refine Stop.conv 22 9 ?_) | (with_reducible refine Stop.conv 9 22 ?_))
        go_ret
        exact ⟨rfl, BB⟩
  · have hnn : ((n1 : Int) != (n2 : Int)) = true := by simp; omega
    have hqf : q = false := by rw [← HQ.out]; exact decide_eq_false (fun e => by have := congrArg List.length e; simp at this; omega)
    subst hqf
    clear e1 e2 hn HE
    go_enter Try.func14, Try.ntmps14
    go_wp2_with (first | (at_make; refine Stop.un ?_) | (at_builtin; refine Stop.un ?_) | (with_reducible refine Stop.conv 22 9 ?_) | (with_reducible refine Stop.conv 9 22 ?_))
    go_ret
    exact ⟨rfl, Below.refl _ _⟩
end Go.Proofs.Ytbiniecjenencaa
