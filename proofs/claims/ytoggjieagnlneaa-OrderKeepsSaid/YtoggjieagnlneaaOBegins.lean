/- Whether keys begin with others. -/
import Derived.Test.YtoggjieagnlneaaRow
import Derived.Deep.DeepCutAuto
set_option linter.unusedVariables false
set_option linter.unusedSimpArgs false
namespace Go.Proofs.Ytoggjieagnlneaa
open Go.RowKit
def eqK (a b : Ky) : Bool := a.col == b.col && a.down == b.down
theorem eqK_iff {a b : Ky} : eqK a b = true ↔ a = b := by
  obtain ⟨c, d⟩ := a
  obtain ⟨c', d'⟩ := b
  unfold eqK
  simp
instance : DecidableEq Ky := fun a b => decidable_of_iff (eqK a b = true) eqK_iff
theorem exec_neK {ρ : Operand → Value} {x y : Operand} {dst : Option Tmp} {T2 ty : TypeId} {pos : String} {af : Array Edge} {g : Option (Nat × Bool)} (a b : Ky) (hx : ρ x = .agg #[.int .i64 a.col, .bool a.down]) (hy : ρ y = .agg #[.int .i64 b.col, .bool b.down]) (w : World) :
    (execOp ρ ⟨dst, .binOp .neq 34 x y T2, ty, pos, af, g⟩).run Try.prog w = .ok (.value (.bool (!eqK a b))) w := by
  obtain ⟨c, d⟩ := a
  obtain ⟨c', d'⟩ := b
  simp only at hx hy
  unfold eqK
  by_cases h1 : c = c' <;> cases d <;> cases d' <;> simp [execOp, hx, hy, go_sem, h1]
theorem take_eq_len' {α : Type} {a b : List α} {n : Nat} (ha : a.length = n) (hb : b.length = n) (h : a.take n = b.take n) : a = b := by
  rwa [List.take_of_length_le (by omega), List.take_of_length_le (by omega)] at h
theorem take_eq_snoc' {α : Type} {a b : List α} {j : Nat} (ha : j < a.length) (hb : j < b.length) (h : a.take j = b.take j) (he : a[j] = b[j]) : a.take (j + 1) = b.take (j + 1) := by
  rw [List.take_succ_eq_append_getElem ha, List.take_succ_eq_append_getElem hb, h, he]
def beginsB (ks bs : List Ky) : Bool := decide (bs.length ≤ ks.length) && decide (ks.take bs.length = bs)
set_option maxRecDepth 100000 in
set_option maxHeartbeats 4000000 in
theorem equalK_any (a1 : Option Addr) (n1 c1 : Nat) (l1 : List Ky) (a2 : Option Addr) (n2 c2 : Nat) (l2 : List Ky) (w : World) (h1 : Cs w a1 (kcells l1)) (h2 : Cs w a2 (kcells l2)) (e1 : l1.length = n1) (e2 : l2.length = n2) (hl1 : n1 ≤ c1) (hl2 : n2 ≤ c2) (hm1 : c1 ≤ maxLen) (hm2 : c2 ≤ maxLen) :
    Calls Try.prog 37 #[.slice a1 n1 c1, .slice a2 n2 c2] w (fun e w' => e = .returned (.bool (decide (l1 = l2))) ∧ Below w.heap.size w w') := by
  unfold maxLen at hm1 hm2
  have HE := Lib.hid (And.intro e1 e2)
  obtain ⟨q, hq⟩ : ∃ q, decide (l1 = l2) = q := ⟨_, rfl⟩
  rw [hq]
  have HQ := Lib.hid hq
  clear hq
  by_cases hn : n1 = n2
  · subst hn
    have hnn : ((n1 : Int) != (n1 : Int)) = false := by simp
    clear e1 e2
    go_enter Try.func37, Try.ntmps37
    go_wp2_with (first | (at_make; refine Stop.un ?_) | (at_builtin; refine Stop.un ?_))
    go_loopw [13] (fun i wr => ∃ j : Nat, j ≤ n1 ∧ i = .int .i64 (j : Int) ∧ Below w.heap.size w wr ∧ Hid (l1.take j = l2.take j)) (fun i _ => n1 - (intOf i).toNat)
    case atStart => exact ⟨0, Nat.zero_le _, rfl, Below.refl _ _, Lib.hid rfl⟩
    case round =>
      obtain ⟨j, hj, rfl, BB, HT⟩ := hrel
      by_cases hlt : j < n1
      · have j1 : j < l1.length := by have := HE.out; omega
        have j2 : j < l2.length := by have := HE.out; omega
        have k1 := h1.mono BB (Nat.le_refl _)
        have k2 := h2.mono BB (Nat.le_refl _)
        obtain ⟨b, o, rfl⟩ := k1.addr (by rw [kcells_length]; omega)
        obtain ⟨b', o', rfl⟩ := k2.addr (by rw [kcells_length]; omega)
        obtain ⟨x0, x1⟩ := k1.kat j1
        obtain ⟨y0, y1⟩ := k2.kat j2
        have HST : Hid (eqK l1[j] l2[j] = true → l1.take (j + 1) = l2.take (j + 1)) := Lib.hid (fun h => take_eq_snoc' j1 j2 HT.out (eqK_iff.1 h))
        have HNE : Hid (eqK l1[j] l2[j] = false → q = false) := Lib.hid (fun h => by
          rw [← HQ.out]
          refine decide_eq_false (fun e => ?_)
          subst e
          rw [eqK_iff.2 rfl] at h
          cases h)
        generalize l1[j] = u1 at x0 x1 HST HNE
        generalize l2[j] = u2 at y0 y1 HST HNE
        obtain ⟨c, d⟩ := u1
        obtain ⟨c', d'⟩ := u2
        simp only at x0 x1 y0 y1
        generalize hqe : eqK ⟨c, d⟩ ⟨c', d'⟩ = qe at HST HNE
        have HQE := Lib.hid hqe
        clear hqe j1 j2 k1 k2
        go_upto_region 6 with fail
        refine mix_startE 9 rfl (by kernel_rfl) ?_
        intro xq hxq
        replace BB := Below.next BB hxq
        replace x0 := Ext.cell hxq x0
        replace x1 := Ext.cell hxq x1
        replace y0 := Ext.cell hxq y0
        replace y1 := Ext.cell hxq y1
        clear hxq
        refine mix_quiet Keeps.ext 0 rfl (by kernel_rfl) rfl ?_
        intro ι U hne hU
        go_big_quiet_op
        clear hU hne U ι
        show wpAnyM _ _ _ _ _ _ _ _ _
        refine mix_quiet Keeps.ext 1 rfl (by kernel_rfl) rfl ?_
        intro ι U hne hU
        go_big_quiet_op
        clear hU hne U ι
        show wpAnyM _ _ _ _ _ _ _ _ _
        refine mix_quiet Keeps.ext 2 rfl (by kernel_rfl) rfl ?_
        intro ι U hne hU
        go_big_quiet_op
        clear hU hne U ι
        show wpAnyM _ _ _ _ _ _ _ _ _
        refine mix_quiet Keeps.ext 3 rfl (by kernel_rfl) rfl ?_
        intro ι U hne hU
        have hcw0 := fun ii => (hU ii).cell x0
        have hcw1 := fun ii => (hU ii).cell x1
        have hcw2 := fun ii => (hU ii).cell y0
        have hcw3 := fun ii => (hU ii).cell y1
        go_big_quiet_op
        clear hU hne hcw0 hcw1 hcw2 hcw3 U ι
        show wpAnyM _ _ _ _ _ _ _ _ _
        refine mix_quiet Keeps.ext 4 rfl (by kernel_rfl) rfl ?_
        intro ι U hne hU
        go_big_quiet_op
        clear hU hne U ι
        show wpAnyM _ _ _ _ _ _ _ _ _
        refine mix_quiet Keeps.ext 5 rfl (by kernel_rfl) rfl ?_
        intro ι U hne hU
        go_big_quiet_op
        clear hU hne U ι
        show wpAnyM _ _ _ _ _ _ _ _ _
        refine mix_quiet Keeps.ext 6 rfl (by kernel_rfl) rfl ?_
        intro ι U hne hU
        go_big_quiet_op
        clear hU hne U ι
        show wpAnyM _ _ _ _ _ _ _ _ _
        refine mix_quiet Keeps.ext 7 rfl (by kernel_rfl) rfl ?_
        intro ι U hne hU
        have hcw0 := fun ii => (hU ii).cell x0
        have hcw1 := fun ii => (hU ii).cell x1
        have hcw2 := fun ii => (hU ii).cell y0
        have hcw3 := fun ii => (hU ii).cell y1
        go_big_quiet_op
        clear hU hne hcw0 hcw1 hcw2 hcw3 U ι
        show wpAnyM _ _ _ _ _ _ _ _ _
        refine mix_quiet Keeps.ext 8 rfl (by kernel_rfl) rfl ?_
        intro ι U hne hU
        refine quiet_as _ (exec_neK ⟨_, _⟩ ⟨_, _⟩ rfl rfl) (hne.elim fun ii => ⟨_, ii, rfl⟩) ?_
        go_big_quiet_op
        clear hU hne U ι
        show wpAnyM _ _ _ _ _ _ _ _ _
        rw [HQE.out]
        refine mix_end (by kernel_rfl) ?_
        clear x0 x1 y0 y1
        cases qe with
        | false =>
          obtain rfl := HNE.out rfl
          go_wp2_with (first | (at_make; refine Stop.un ?_) | (at_builtin; refine Stop.un ?_))
          go_ret
          exact ⟨rfl, BB⟩
        | true =>
          have H2 := Lib.hid (HST.out rfl)
          go_wp2_with (first | (at_make; refine Stop.un ?_) | (at_builtin; refine Stop.un ?_))
          go_roundw
          case rel => exact ⟨j + 1, by omega, by go_num, BB, H2⟩
          case measure => simp [intOf]; omega
      · have hjn : j = n1 := by omega
        subst hjn
        have hqt : q = true := by rw [← HQ.out]; exact decide_eq_true (take_eq_len' HE.out.1 HE.out.2 HT.out)
        subst hqt
        clear HT HE
        go_wp2_with (first | (at_make; refine Stop.un ?_) | (at_builtin; refine Stop.un ?_))
        go_ret
        exact ⟨rfl, BB⟩
  · have hnn : ((n1 : Int) != (n2 : Int)) = true := by simp; omega
    have hqf : q = false := by rw [← HQ.out]; exact decide_eq_false (fun e => by subst e; omega)
    subst hqf
    clear e1 e2 hn HE
    go_enter Try.func37, Try.ntmps37
    go_wp2_with (first | (at_make; refine Stop.un ?_) | (at_builtin; refine Stop.un ?_))
    go_ret
    exact ⟨rfl, Below.refl _ _⟩
set_option maxHeartbeats 1000000 in
theorem begins_any (a1 : Option Addr) (n1 c1 : Nat) (l1 : List Ky) (a2 : Option Addr) (n2 c2 : Nat) (l2 : List Ky) (w : World) (h1 : Cs w a1 (kcells l1)) (h2 : Cs w a2 (kcells l2)) (e1 : l1.length = n1) (e2 : l2.length = n2) (hl1 : n1 ≤ c1) (hl2 : n2 ≤ c2) (hm1 : c1 ≤ maxLen) (hm2 : c2 ≤ maxLen) :
    Calls Try.prog 18 #[.slice a1 n1 c1, .slice a2 n2 c2] w (fun e w' => e = .returned (.bool (beginsB l1 l2)) ∧ Below w.heap.size w w') := by
  obtain ⟨q, hq⟩ : ∃ q, beginsB l1 l2 = q := ⟨_, rfl⟩
  rw [hq]
  unfold beginsB at hq
  rw [e1, e2] at hq
  have ht := h1.take (n2 * 2)
  rw [kcells_take] at ht
  by_cases hle : n2 ≤ n1
  · rw [decide_eq_true hle, Bool.true_and] at hq
    have HE := Lib.hid (equalK_any a1 n2 c1 (l1.take n2) a2 n2 c2 l2 w ht h2 (by rw [List.length_take]; omega) e2 (by omega) hl2 hm1 hm2)
    rw [hq] at HE
    unfold maxLen at hm1 hm2
    clear h1 h2 ht hq e1 e2
    go_enter Try.func18, Try.ntmps18
    go_wp2_with (first | (at_make; refine Stop.un ?_) | (at_builtin; refine Stop.un ?_))
    refine HE.out.mono ?_
    rintro e w2 ⟨rfl, bt⟩
    go_wp2_with (first | (at_make; refine Stop.un ?_) | (at_builtin; refine Stop.un ?_))
    go_ret
    exact ⟨by simp, bt⟩
  · rw [decide_eq_false hle, Bool.false_and] at hq
    subst hq
    clear h1 h2 ht e1 e2
    go_enter Try.func18, Try.ntmps18
    go_wp2_with (first | (at_make; refine Stop.un ?_) | (at_builtin; refine Stop.un ?_))
    go_ret
    exact ⟨by simp <;> omega, Below.refl _ _⟩
set_option maxRecDepth 100000 in
set_option maxHeartbeats 4000000 in
theorem rbegins_any (a1 : Option Addr) (n1 c1 : Nat) (l1 : List Ky) (a2 : Option Addr) (n2 c2 : Nat) (l2 : List Ky) (w : World) (h1 : Cs w a1 (kcells l1)) (h2 : Cs w a2 (kcells l2)) (e1 : l1.length = n1) (e2 : l2.length = n2) (hl1 : n1 ≤ c1) (hl2 : n2 ≤ c2) (hm1 : c1 ≤ maxLen) (hm2 : c2 ≤ maxLen) :
    Calls Try.prog 26 #[.slice a1 n1 c1, .slice a2 n2 c2] w (fun e w' => e = .returned (.bool (beginsB l1 l2)) ∧ Below w.heap.size w w') := by
  unfold maxLen at hm1 hm2
  have HE := Lib.hid (And.intro e1 e2)
  obtain ⟨q, hq⟩ : ∃ q, beginsB l1 l2 = q := ⟨_, rfl⟩
  rw [hq]
  unfold beginsB at hq
  rw [e1, e2] at hq
  by_cases hle : n2 ≤ n1
  · rw [decide_eq_true hle, Bool.true_and] at hq
    have HQ := Lib.hid hq
    clear hq e1 e2
    go_enter Try.func26, Try.ntmps26
    go_wp2_with (first | (at_make; refine Stop.un ?_) | (at_builtin; refine Stop.un ?_))
    go_loopw [5] (fun i wr => ∃ j : Nat, j ≤ n2 ∧ i = .int .i64 (j : Int) ∧ Below w.heap.size w wr ∧ Hid (l1.take j = l2.take j)) (fun i _ => n2 - (intOf i).toNat)
    case atStart => exact ⟨0, Nat.zero_le _, rfl, Below.refl _ _, Lib.hid rfl⟩
    case round =>
      obtain ⟨j, hj, rfl, BB, HT⟩ := hrel
      by_cases hlt : j < n2
      · have j1 : j < l1.length := by have := HE.out; omega
        have j2 : j < l2.length := by have := HE.out; omega
        have k1 := h1.mono BB (Nat.le_refl _)
        have k2 := h2.mono BB (Nat.le_refl _)
        obtain ⟨b, o, rfl⟩ := k1.addr (by rw [kcells_length]; omega)
        obtain ⟨b', o', rfl⟩ := k2.addr (by rw [kcells_length]; omega)
        obtain ⟨x0, x1⟩ := k1.kat j1
        obtain ⟨y0, y1⟩ := k2.kat j2
        have HST : Hid (eqK l1[j] l2[j] = true → l1.take (j + 1) = l2.take (j + 1)) := Lib.hid (fun h => take_eq_snoc' j1 j2 HT.out (eqK_iff.1 h))
        have HNE : Hid (eqK l1[j] l2[j] = false → q = false) := Lib.hid (fun h => by
          rw [← HQ.out]
          refine decide_eq_false (fun e => ?_)
          have h1 := congrArg (fun z => z[j]?) e
          have h2 : l1[j]? = l2[j]? := by simpa [List.getElem?_take, hlt] using h1
          rw [List.getElem?_eq_getElem j1, List.getElem?_eq_getElem j2] at h2
          rw [eqK_iff.2 (Option.some.inj h2)] at h
          cases h)
        generalize l1[j] = u1 at x0 x1 HST HNE
        generalize l2[j] = u2 at y0 y1 HST HNE
        obtain ⟨c, d⟩ := u1
        obtain ⟨c', d'⟩ := u2
        simp only at x0 x1 y0 y1
        generalize hqe : eqK ⟨c, d⟩ ⟨c', d'⟩ = qe at HST HNE
        have HQE := Lib.hid hqe
        clear hqe j1 j2 k1 k2
        go_upto_region 6 with fail
        refine mix_startE 9 rfl (by kernel_rfl) ?_
        intro xq hxq
        replace BB := Below.next BB hxq
        replace x0 := Ext.cell hxq x0
        replace x1 := Ext.cell hxq x1
        replace y0 := Ext.cell hxq y0
        replace y1 := Ext.cell hxq y1
        clear hxq
        refine mix_quiet Keeps.ext 0 rfl (by kernel_rfl) rfl ?_
        intro ι U hne hU
        go_big_quiet_op
        clear hU hne U ι
        show wpAnyM _ _ _ _ _ _ _ _ _
        refine mix_quiet Keeps.ext 1 rfl (by kernel_rfl) rfl ?_
        intro ι U hne hU
        go_big_quiet_op
        clear hU hne U ι
        show wpAnyM _ _ _ _ _ _ _ _ _
        refine mix_quiet Keeps.ext 2 rfl (by kernel_rfl) rfl ?_
        intro ι U hne hU
        go_big_quiet_op
        clear hU hne U ι
        show wpAnyM _ _ _ _ _ _ _ _ _
        refine mix_quiet Keeps.ext 3 rfl (by kernel_rfl) rfl ?_
        intro ι U hne hU
        have hcw0 := fun ii => (hU ii).cell x0
        have hcw1 := fun ii => (hU ii).cell x1
        have hcw2 := fun ii => (hU ii).cell y0
        have hcw3 := fun ii => (hU ii).cell y1
        go_big_quiet_op
        clear hU hne hcw0 hcw1 hcw2 hcw3 U ι
        show wpAnyM _ _ _ _ _ _ _ _ _
        refine mix_quiet Keeps.ext 4 rfl (by kernel_rfl) rfl ?_
        intro ι U hne hU
        go_big_quiet_op
        clear hU hne U ι
        show wpAnyM _ _ _ _ _ _ _ _ _
        refine mix_quiet Keeps.ext 5 rfl (by kernel_rfl) rfl ?_
        intro ι U hne hU
        go_big_quiet_op
        clear hU hne U ι
        show wpAnyM _ _ _ _ _ _ _ _ _
        refine mix_quiet Keeps.ext 6 rfl (by kernel_rfl) rfl ?_
        intro ι U hne hU
        go_big_quiet_op
        clear hU hne U ι
        show wpAnyM _ _ _ _ _ _ _ _ _
        refine mix_quiet Keeps.ext 7 rfl (by kernel_rfl) rfl ?_
        intro ι U hne hU
        have hcw0 := fun ii => (hU ii).cell x0
        have hcw1 := fun ii => (hU ii).cell x1
        have hcw2 := fun ii => (hU ii).cell y0
        have hcw3 := fun ii => (hU ii).cell y1
        go_big_quiet_op
        clear hU hne hcw0 hcw1 hcw2 hcw3 U ι
        show wpAnyM _ _ _ _ _ _ _ _ _
        refine mix_quiet Keeps.ext 8 rfl (by kernel_rfl) rfl ?_
        intro ι U hne hU
        refine quiet_as _ (exec_neK ⟨_, _⟩ ⟨_, _⟩ rfl rfl) (hne.elim fun ii => ⟨_, ii, rfl⟩) ?_
        go_big_quiet_op
        clear hU hne U ι
        show wpAnyM _ _ _ _ _ _ _ _ _
        rw [HQE.out]
        refine mix_end (by kernel_rfl) ?_
        clear x0 x1 y0 y1
        cases qe with
        | false =>
          obtain rfl := HNE.out rfl
          go_wp2_with (first | (at_make; refine Stop.un ?_) | (at_builtin; refine Stop.un ?_))
          go_ret
          exact ⟨rfl, BB⟩
        | true =>
          have H2 := Lib.hid (HST.out rfl)
          go_wp2_with (first | (at_make; refine Stop.un ?_) | (at_builtin; refine Stop.un ?_))
          go_roundw
          case rel => exact ⟨j + 1, by omega, by go_num, BB, H2⟩
          case measure => simp [intOf]; omega
      · have hjn : j = n2 := by omega
        subst hjn
        have hqt : q = true := by
          rw [← HQ.out]
          refine decide_eq_true ?_
          rw [HT.out, List.take_of_length_le (by have := HE.out; omega)]
        subst hqt
        clear HT HE
        go_wp2_with (first | (at_make; refine Stop.un ?_) | (at_builtin; refine Stop.un ?_))
        go_ret
        exact ⟨rfl, BB⟩
  · rw [decide_eq_false hle, Bool.false_and] at hq
    subst hq
    clear e1 e2 HE
    go_enter Try.func26, Try.ntmps26
    go_wp2_with (first | (at_make; refine Stop.un ?_) | (at_builtin; refine Stop.un ?_))
    go_ret
    exact ⟨rfl, Below.refl _ _⟩
end Go.Proofs.Ytoggjieagnlneaa
