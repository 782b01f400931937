/- Whether rows are in order. -/
import Derived.Test.YtoggjieagnlneaaOCmp
import Derived.Test.YtoggjieagnlneaaIns
import Derived.Test.YtoggjieagnlneaaMrgP
set_option linter.unusedVariables false
set_option linter.unusedSimpArgs false
namespace Go.Proofs.Ytoggjieagnlneaa
open Go.RowKit
section
variable {α : Type} (c : α → α → Int)
def upB : List α → Bool
  | [] => true
  | [_] => true
  | x :: y :: L => decide (c x y ≤ 0) && upB (y :: L)
theorem upB_of : ∀ (L : List α), (∀ j x y, L[j]? = some x → L[j + 1]? = some y → c x y ≤ 0) → upB c L = true
  | [], _ => rfl
  | [_], _ => rfl
  | x :: y :: L, h => by
    rw [upB, decide_eq_true (h 0 x y rfl rfl), Bool.true_and]
    exact upB_of (y :: L) (fun j a b ha hb => h (j + 1) a b (by simpa using ha) (by simpa using hb))
theorem upB_not : ∀ (L : List α) (j : Nat) (x y : α), L[j]? = some x → L[j + 1]? = some y → ¬ c x y ≤ 0 → upB c L = false
  | [], j, x, y, h, _, _ => by simp at h
  | [_], j, x, y, _, h, _ => by simp at h
  | a :: b :: L, 0, x, y, h1, h2, hc => by
    simp at h1 h2
    subst h1
    subst h2
    rw [upB, decide_eq_false hc, Bool.false_and]
  | a :: b :: L, j + 1, x, y, h1, h2, hc => by
    rw [upB, upB_not (b :: L) j x y (by simpa using h1) (by simpa using h2) hc, Bool.and_false]
theorem upB_asc (L : List α) (h : Asc c L) : upB c L = true := upB_of c L (fun j x y hx hy => by
  obtain ⟨h1, e1⟩ := List.getElem?_eq_some_iff.1 hx
  obtain ⟨h2, e2⟩ := List.getElem?_eq_some_iff.1 hy
  rw [← e1, ← e2]
  exact List.pairwise_iff_getElem.1 h j (j + 1) h1 h2 (by omega))
end
theorem upB_map {α β : Type} (f : α → β) (c : β → β → Int) : ∀ L : List α, upB (fun a b => c (f a) (f b)) L = upB c (L.map f)
  | [] => rfl
  | [_] => rfl
  | x :: y :: L => by
    rw [upB, upB_map f c (y :: L)]
    rfl
set_option maxHeartbeats 1000000 in
theorem sortdf_any (h : Nat) (ak : Option Addr) (p ck : Nat) (ks : List Ky) (w : World) (z : At w h #[.slice ak p ck] 24) (kx : Cs w ak (kcells ks)) (hp : ks.length = p) (hle : p ≤ ck) (hm : ck ≤ maxLen) (r1 r2 : Rw) (o1 : RowOk w r1) (o2 : RowOk w r2) :
    Calls Try.prog 36 #[.slice r1.a r1.n r1.cap, .slice r2.a r2.n r2.cap, .pointer (some ⟨h, 0, none⟩)] w (fun e w' => e = .returned (.int .i64 (cmpR r1.l r2.l ks)) ∧ Below w.heap.size w w') := by
  have HC := Lib.hid (ocompare_any r1.a r1.n r1.cap r1.l r2.a r2.n r2.cap r2.l ak p ck ks w o1 o2 kx hp hle hm)
  have x0 := z.cell 0 rfl
  have xl := z.lt
  clear z o1 o2 kx hp
  go_enter Try.func36, Try.ntmps36
  go_wp2_with (first | (at_make; refine Stop.un ?_) | (at_builtin; refine Stop.un ?_))
  refine HC.out.mono ?_
  rintro e w1 ⟨rfl, bt⟩
  go_wp2_with (first | (at_make; refine Stop.un ?_) | (at_builtin; refine Stop.un ?_))
  go_ret
  exact ⟨rfl, bt⟩
theorem rcneg (ks : List Ky) (a b : Rw) : rcmp ks b a = - rcmp ks a b := cmpR_neg _ _ _
set_option maxRecDepth 100000 in
set_option maxHeartbeats 8000000 in
theorem issorted_any (ao : Option Addr) (n cap : Nat) (rows : List Rw) (h : Nat) (ak : Option Addr) (p ck : Nat) (ks : List Ky) (w : World) (t : Tab w ao rows) (hn : rows.length = n) (hnc : n ≤ cap) (hcap : cap ≤ maxLen) (z : At w h #[.slice ak p ck] 24) (kx : Cs w ak (kcells ks)) (hp : ks.length = p) (hle : p ≤ ck) (hm : ck ≤ maxLen) :
    Calls Try.prog 35 #[.slice ao n cap, .func (.func 36) #[] #[.pointer (some ⟨h, 0, none⟩)]] w (fun e w' => e = .returned (.bool (upB (rcmp ks) rows)) ∧ Below w.heap.size w w') := by
  unfold maxLen at hcap
  have HN := Lib.hid hn
  obtain ⟨q, hq⟩ : ∃ q, upB (rcmp ks) rows = q := ⟨_, rfl⟩
  rw [hq]
  have HQ := Lib.hid hq
  have HF := Lib.hid (fun (W : World) z kx r1 r2 o1 o2 => sortdf_any h ak p ck ks W z kx hp hle hm r1 r2 o1 o2)
  have hcc : ∀ x y : Rw, cmpR x.l y.l ks = rcmp ks x y := fun _ _ => rfl
  clear hn hq hp hle hm
  by_cases h0 : n = 0
  · subst h0
    have hq1 : q = true := by
      rw [← HQ.out, List.eq_nil_of_length_eq_zero HN.out]; rfl
    subst hq1
    go_enter Try.func35, Try.ntmps35
    go_wp2_with (first | (at_make; refine Stop.un ?_) | (at_builtin; refine Stop.un ?_))
    refine wp_loop_rounds 1 ?_
    rw [rounds_succ]
    go_wp2_with (first | (at_make; refine Stop.un ?_) | (at_builtin; refine Stop.un ?_))
    go_ret
    exact ⟨rfl, Below.refl _ _⟩
  · have hn0 : 0 < n := by omega
    clear h0
    obtain ⟨b, o, rfl⟩ := t.cs.addr (by rw [rwcells_length]; have := HN.out; omega)
    have b0 : Below w.heap.size w w := Below.refl _ _
    go_enter Try.func35, Try.ntmps35
    go_wp2_with (first | (at_make; refine Stop.un ?_) | (at_builtin; refine Stop.un ?_))
    go_loopw [5] (fun v wr => ∃ j : Nat, j < n ∧ v = .int .i64 (j : Int) ∧ Tab wr (some ⟨b, o, none⟩) rows ∧ At wr h #[.slice ak p ck] 24 ∧ Cs wr ak (kcells ks) ∧ Below w.heap.size w wr ∧ Hid (∀ i x y, j ≤ i → rows[i]? = some x → rows[i + 1]? = some y → rcmp ks x y ≤ 0)) (fun v _ => (intOf v).toNat)
    case atStart => exact ⟨n - 1, by omega, by go_num, t, z, kx, b0, Lib.hid (fun i x y hi hx hy => by
      have := (List.getElem?_eq_some_iff.1 hy).1
      have := HN.out
      omega)⟩
    case round =>
      clear t z kx b0
      obtain ⟨j, hj, rfl, t, z, kx, b0, HU⟩ := hrel
      by_cases hlt : 0 < j
      · obtain ⟨e, rfl⟩ : ∃ e, j = e + 1 := ⟨j - 1, by omega⟩
        have j1 : e + 1 < rows.length := by have := HN.out; omega
        have j2 : e < rows.length := by omega
        have x0 := t.at j1
        have y0 := t.at j2
        have o1 := t.ok rows[e + 1] (List.getElem_mem _)
        have o2 := t.ok rows[e] (List.getElem_mem _)
        have HX := Lib.hid (And.intro (List.getElem?_eq_getElem j1) (List.getElem?_eq_getElem j2))

        generalize rows[e + 1] = x at x0 o1 HX
        generalize rows[e] = y at y0 o2 HX
        have HC := Lib.hid (fun W z kx => HF.out W z kx x y)
        rw [hcc] at HC
        have hd1 : decide ((0 : Int) < ((e + 1 : Nat) : Int)) = true := decide_eq_true (by omega)
        have hd2 : decide ((0 : Int) < (e : Int) + 1) = true := decide_eq_true (by omega)
        clear j1 j2
        go_upto_region 4 with fail
        refine mix_startE 12 rfl (by kernel_rfl) ?_
        intro xq hxq
        replace x0 := Ext.cell hxq x0
        replace y0 := Ext.cell hxq y0
        replace t := Tab.mono t hxq
        replace z := At.mono z hxq
        replace kx := Cs.mono kx hxq (Nat.le_refl _)
        replace b0 := Below.next b0 hxq
        replace o1 := RowOk.mono o1 hxq
        replace o2 := RowOk.mono o2 hxq
        clear hxq
        refine mix_quiet Keeps.ext 0 rfl (by kernel_rfl) rfl ?_
        intro ι U hne hU
        go_big_quiet_op
        clear hU hne U ι
        show wpAnyM _ _ _ _ _ _ _ _ _
        refine mix_quiet Keeps.ext 1 rfl (by kernel_rfl) rfl ?_
        intro ι U hne hU
        go_big_quiet_op
        clear hU hne U ι
        show wpAnyM _ _ _ _ _ _ _ _ _
        refine mix_quiet Keeps.ext 2 rfl (by kernel_rfl) rfl ?_
        intro ι U hne hU
        go_big_quiet_op
        clear hU hne U ι
        show wpAnyM _ _ _ _ _ _ _ _ _
        refine mix_quiet Keeps.ext 3 rfl (by kernel_rfl) rfl ?_
        intro ι U hne hU
        go_big_quiet_op
        clear hU hne U ι
        show wpAnyM _ _ _ _ _ _ _ _ _
        refine mix_quiet Keeps.ext 4 rfl (by kernel_rfl) rfl ?_
        intro ι U hne hU
        have hcw0 := fun ii => (hU ii).cell x0
        have hcw1 := fun ii => (hU ii).cell y0
        go_big_quiet_op
        clear hU hne hcw0 hcw1 U ι
        show wpAnyM _ _ _ _ _ _ _ _ _
        refine mix_quiet Keeps.ext 5 rfl (by kernel_rfl) rfl ?_
        intro ι U hne hU
        go_big_quiet_op
        clear hU hne U ι
        show wpAnyM _ _ _ _ _ _ _ _ _
        refine mix_quiet Keeps.ext 6 rfl (by kernel_rfl) rfl ?_
        intro ι U hne hU
        go_big_quiet_op
        clear hU hne U ι
        show wpAnyM _ _ _ _ _ _ _ _ _
        refine mix_quiet Keeps.ext 7 rfl (by kernel_rfl) rfl ?_
        intro ι U hne hU
        go_big_quiet_op
        clear hU hne U ι
        show wpAnyM _ _ _ _ _ _ _ _ _
        refine mix_quiet Keeps.ext 8 rfl (by kernel_rfl) rfl ?_
        intro ι U hne hU
        go_big_quiet_op
        clear hU hne U ι
        show wpAnyM _ _ _ _ _ _ _ _ _
        refine mix_quiet Keeps.ext 9 rfl (by kernel_rfl) rfl ?_
        intro ι U hne hU
        have hcw0 := fun ii => (hU ii).cell x0
        have hcw1 := fun ii => (hU ii).cell y0
        go_big_quiet_op
        clear hU hne hcw0 hcw1 U ι
        show wpAnyM _ _ _ _ _ _ _ _ _
        refine mix_any 10 rfl (by kernel_rfl) rfl ?_
        go_wp2_with (first | (at_make; refine Stop.un ?_) | (at_builtin; refine Stop.un ?_))
        refine (HC.out _ z kx o1 o2).mono ?_
        rintro e wq1 ⟨rfl, bq1⟩
        go_wp2_with (first | (at_make; refine Stop.un ?_) | (at_builtin; refine Stop.un ?_))
        refine MixPost.mk bq1 ?_
        replace x0 := Ext.cell bq1 x0
        replace y0 := Ext.cell bq1 y0
        replace t := Tab.mono t bq1
        replace z := At.mono z bq1
        replace kx := Cs.mono kx bq1 (Nat.le_refl _)
        replace b0 := Below.next b0 bq1
        replace o1 := RowOk.mono o1 bq1
        replace o2 := RowOk.mono o2 bq1
        clear bq1
        refine mix_quiet Keeps.ext 11 rfl (by kernel_rfl) rfl ?_
        intro ι U hne hU
        go_big_quiet_op
        clear hU hne U ι
        show wpAnyM _ _ _ _ _ _ _ _ _
        refine mix_end (by kernel_rfl) ?_
        clear x0 y0 o1 o2 HC
        by_cases hc : rcmp ks x y < 0
        ·
          have hd : decide (rcmp ks x y < 0) = true := decide_eq_true hc
          have hqf : q = false := by
            rw [← HQ.out]
            exact upB_not _ rows e y x HX.out.2 HX.out.1 (by have := rcneg ks x y; omega)
          subst hqf
          go_wp2_with (first | (at_make; refine Stop.un ?_) | (at_builtin; refine Stop.un ?_))
          go_ret
          exact ⟨rfl, b0⟩
        ·
          have hd : decide (rcmp ks x y < 0) = false := decide_eq_false hc
          have HU2 : Hid (∀ i x y, e ≤ i → rows[i]? = some x → rows[i + 1]? = some y → rcmp ks x y ≤ 0) := Lib.hid (fun i u v hi hu hv => by
            rcases Nat.lt_or_ge e i with h | h
            · exact HU.out i u v (by omega) hu hv
            · obtain rfl : i = e := by omega
              rw [HX.out.2] at hu
              rw [HX.out.1] at hv
              cases hu
              cases hv
              have := rcneg ks x y
              omega)
          go_wp2_with (first | (at_make; refine Stop.un ?_) | (at_builtin; refine Stop.un ?_))
          go_roundw
          case rel => exact ⟨e, by omega, by go_num, t, z, kx, b0, HU2⟩
          case measure => simp [intOf] <;> omega
      · obtain rfl : j = 0 := by omega
        have hqt : q = true := by
          rw [← HQ.out]
          exact upB_of _ rows (fun i x y hx hy => HU.out i x y (Nat.zero_le _) hx hy)
        subst hqt
        go_wp2_with (first | (at_make; refine Stop.un ?_) | (at_builtin; refine Stop.un ?_))
        go_ret
        exact ⟨rfl, b0⟩
set_option maxHeartbeats 1000000 in
theorem sorted_any (ao : Option Addr) (n cap : Nat) (rows : List Rw) (ak : Option Addr) (p ck : Nat) (ks : List Ky) (w : World) (t : Tab w ao rows) (hn : rows.length = n) (hnc : n ≤ cap) (hcap : cap ≤ maxLen) (kx : Cs w ak (kcells ks)) (hp : ks.length = p) (hle : p ≤ ck) (hm : ck ≤ maxLen) :
    Calls Try.prog 15 #[.slice ao n cap, .slice ak p ck] w (fun e w' => e = .returned (.bool (upB (rcmp ks) rows)) ∧ Below w.heap.size w w') := by
  have b1 := (Below.refl w.heap.size w).alloc (Nat.le_refl _) (.cells #[.slice ak p ck] 24)
  have z1 := At.new w #[.slice ak p ck] 24
  have HI := Lib.hid (issorted_any ao n cap rows w.heap.size ak p ck ks _ (t.mono b1) hn hnc hcap z1 (kx.mono b1 (Nat.le_refl _)) hp hle hm)
  clear hn hp hle hm hcap t kx z1
  go_enter Try.func15, Try.ntmps15
  go_wp2_with (first | (at_make; refine Stop.un ?_) | (at_builtin; refine Stop.un ?_))
  refine HI.out.mono ?_
  rintro e w1 ⟨rfl, bt⟩
  go_wp2_with (first | (at_make; refine Stop.un ?_) | (at_builtin; refine Stop.un ?_))
  go_ret
  exact ⟨rfl, b1.next bt⟩
set_option maxRecDepth 100000 in
set_option maxHeartbeats 8000000 in
theorem rsorted_any (ao : Option Addr) (n cap : Nat) (rows : List Rw) (ak : Option Addr) (p ck : Nat) (ks : List Ky) (w : World) (t : Tab w ao rows) (hn : rows.length = n) (hnc : n ≤ cap) (hcap : cap ≤ maxLen) (kx : Cs w ak (kcells ks)) (hp : ks.length = p) (hle : p ≤ ck) (hm : ck ≤ maxLen) :
    Calls Try.prog 21 #[.slice ao n cap, .slice ak p ck] w (fun e w' => e = .returned (.bool (upB (rcmp ks) rows)) ∧ Below w.heap.size w w') := by
  unfold maxLen at hcap
  have HN := Lib.hid hn
  obtain ⟨q, hq⟩ : ∃ q, upB (rcmp ks) rows = q := ⟨_, rfl⟩
  rw [hq]
  have HQ := Lib.hid hq
  have HF := Lib.hid (fun (W : World) (r1 r2 : Rw) (o1 : RowOk W r1) (o2 : RowOk W r2) kx => orcompare_any r1.a r1.n r1.cap r1.l r2.a r2.n r2.cap r2.l ak p ck ks W o1 o2 kx hp hle hm)
  have hcc : ∀ x y : Rw, cmpR x.l y.l ks = rcmp ks x y := fun _ _ => rfl
  clear hn hq hp hle hm
  go_enter Try.func21, Try.ntmps21
  go_wp2_with (first | (at_make; refine Stop.un ?_) | (at_builtin; refine Stop.un ?_))
  go_loopw [5] (fun v wr => ∃ j : Nat, 1 ≤ j ∧ j ≤ n + 1 ∧ v = .int .i64 (j : Int) ∧ Tab wr ao rows ∧ Cs wr ak (kcells ks) ∧ Below w.heap.size w wr ∧ Hid (∀ i x y, i + 1 < j → rows[i]? = some x → rows[i + 1]? = some y → rcmp ks x y ≤ 0)) (fun v _ => n + 1 - (intOf v).toNat)
  case atStart => exact ⟨1, Nat.le_refl _, by omega, rfl, t, kx, Below.refl _ _, Lib.hid (fun i x y hi => by omega)⟩
  case round =>
    clear t kx
    obtain ⟨j, hj1, hj, rfl, t, kx, b0, HU⟩ := hrel
    by_cases hlt : j < n
    · obtain ⟨e, rfl⟩ : ∃ e, j = e + 1 := ⟨j - 1, by omega⟩
      have j1 : e + 1 < rows.length := by have := HN.out; omega
      have j2 : e < rows.length := by omega
      obtain ⟨b, o, rfl⟩ := t.cs.addr (by rw [rwcells_length]; omega)
      have x0 := t.at j1
      have y0 := t.at j2
      have o1 := t.ok rows[e + 1] (List.getElem_mem _)
      have o2 := t.ok rows[e] (List.getElem_mem _)
      have HX := Lib.hid (And.intro (List.getElem?_eq_getElem j1) (List.getElem?_eq_getElem j2))
      generalize rows[e + 1] = x at x0 o1 HX
      generalize rows[e] = y at y0 o2 HX
      have HC := Lib.hid (fun W o2 o1 kx => HF.out W y x o2 o1 kx)
      rw [hcc] at HC
      have hd1 : decide (((e + 1 : Nat) : Int) < (n : Int)) = true := decide_eq_true (by omega)
      have hd2 : decide ((e : Int) + 1 < (n : Int)) = true := decide_eq_true (by omega)
      clear j1 j2
      go_upto_region 4 with fail
      refine mix_startE 12 rfl (by kernel_rfl) ?_
      intro xq hxq
      replace x0 := Ext.cell hxq x0
      replace y0 := Ext.cell hxq y0
      replace t := Tab.mono t hxq
      replace kx := Cs.mono kx hxq (Nat.le_refl _)
      replace b0 := Below.next b0 hxq
      replace o1 := RowOk.mono o1 hxq
      replace o2 := RowOk.mono o2 hxq
      clear hxq
      refine mix_quiet Keeps.ext 0 rfl (by kernel_rfl) rfl ?_
      intro ι U hne hU
      go_big_quiet_op
      clear hU hne U ι
      show wpAnyM _ _ _ _ _ _ _ _ _
      refine mix_quiet Keeps.ext 1 rfl (by kernel_rfl) rfl ?_
      intro ι U hne hU
      go_big_quiet_op
      clear hU hne U ι
      show wpAnyM _ _ _ _ _ _ _ _ _
      refine mix_quiet Keeps.ext 2 rfl (by kernel_rfl) rfl ?_
      intro ι U hne hU
      go_big_quiet_op
      clear hU hne U ι
      show wpAnyM _ _ _ _ _ _ _ _ _
      refine mix_quiet Keeps.ext 3 rfl (by kernel_rfl) rfl ?_
      intro ι U hne hU
      go_big_quiet_op
      clear hU hne U ι
      show wpAnyM _ _ _ _ _ _ _ _ _
      refine mix_quiet Keeps.ext 4 rfl (by kernel_rfl) rfl ?_
      intro ι U hne hU
      have hcw0 := fun ii => (hU ii).cell x0
      have hcw1 := fun ii => (hU ii).cell y0
      go_big_quiet_op
      clear hU hne hcw0 hcw1 U ι
      show wpAnyM _ _ _ _ _ _ _ _ _
      refine mix_quiet Keeps.ext 5 rfl (by kernel_rfl) rfl ?_
      intro ι U hne hU
      go_big_quiet_op
      clear hU hne U ι
      show wpAnyM _ _ _ _ _ _ _ _ _
      refine mix_quiet Keeps.ext 6 rfl (by kernel_rfl) rfl ?_
      intro ι U hne hU
      go_big_quiet_op
      clear hU hne U ι
      show wpAnyM _ _ _ _ _ _ _ _ _
      refine mix_quiet Keeps.ext 7 rfl (by kernel_rfl) rfl ?_
      intro ι U hne hU
      go_big_quiet_op
      clear hU hne U ι
      show wpAnyM _ _ _ _ _ _ _ _ _
      refine mix_quiet Keeps.ext 8 rfl (by kernel_rfl) rfl ?_
      intro ι U hne hU
      have hcw0 := fun ii => (hU ii).cell x0
      have hcw1 := fun ii => (hU ii).cell y0
      go_big_quiet_op
      clear hU hne hcw0 hcw1 U ι
      show wpAnyM _ _ _ _ _ _ _ _ _
      refine mix_quiet Keeps.ext 9 rfl (by kernel_rfl) rfl ?_
      intro ι U hne hU
      go_big_quiet_op
      clear hU hne U ι
      show wpAnyM _ _ _ _ _ _ _ _ _
      refine mix_any 10 rfl (by kernel_rfl) rfl ?_
      go_wp2_with (first | (at_make; refine Stop.un ?_) | (at_builtin; refine Stop.un ?_))
      refine (HC.out _ o2 o1 kx).mono ?_
      rintro e wq2 ⟨rfl, bq2⟩
      go_wp2_with (first | (at_make; refine Stop.un ?_) | (at_builtin; refine Stop.un ?_))
      refine MixPost.mk bq2 ?_
      replace x0 := Ext.cell bq2 x0
      replace y0 := Ext.cell bq2 y0
      replace t := Tab.mono t bq2
      replace kx := Cs.mono kx bq2 (Nat.le_refl _)
      replace b0 := Below.next b0 bq2
      replace o1 := RowOk.mono o1 bq2
      replace o2 := RowOk.mono o2 bq2
      clear bq2
      refine mix_quiet Keeps.ext 11 rfl (by kernel_rfl) rfl ?_
      intro ι U hne hU
      go_big_quiet_op
      clear hU hne U ι
      show wpAnyM _ _ _ _ _ _ _ _ _
      refine mix_end (by kernel_rfl) ?_
      clear x0 y0 o1 o2 HC
      by_cases hc : 0 < rcmp ks y x
      ·
        have hd : decide (0 < rcmp ks y x) = true := decide_eq_true hc
        have hqf : q = false := by
          rw [← HQ.out]
          exact upB_not _ rows e y x HX.out.2 HX.out.1 (by omega)
        subst hqf
        go_wp2_with (first | (at_make; refine Stop.un ?_) | (at_builtin; refine Stop.un ?_))
        go_ret
        exact ⟨rfl, b0⟩
      ·
        have hd : decide (0 < rcmp ks y x) = false := decide_eq_false hc
        have HU2 : Hid (∀ i x y, i + 1 < e + 2 → rows[i]? = some x → rows[i + 1]? = some y → rcmp ks x y ≤ 0) := Lib.hid (fun i u v hi hu hv => by
          rcases Nat.lt_or_ge i e with h | h
          · exact HU.out i u v (by omega) hu hv
          · obtain rfl : i = e := by omega
            rw [HX.out.2] at hu
            rw [HX.out.1] at hv
            cases hu
            cases hv
            omega)
        go_wp2_with (first | (at_make; refine Stop.un ?_) | (at_builtin; refine Stop.un ?_))
        go_roundw
        case rel => exact ⟨e + 2, by omega, by omega, by go_num, t, kx, b0, HU2⟩
        case measure => simp [intOf] <;> omega
    · have hqt : q = true := by
        rw [← HQ.out]
        exact upB_of _ rows (fun i x y hx hy => HU.out i x y (by have := (List.getElem?_eq_some_iff.1 hy).1; have := HN.out; omega) hx hy)
      subst hqt
      have hd1 : decide ((j : Int) < (n : Int)) = false := decide_eq_false (by omega)
      go_wp2_with (first | (at_make; refine Stop.un ?_) | (at_builtin; refine Stop.un ?_))
      go_ret
      exact ⟨rfl, b0⟩
end Go.Proofs.Ytoggjieagnlneaa
