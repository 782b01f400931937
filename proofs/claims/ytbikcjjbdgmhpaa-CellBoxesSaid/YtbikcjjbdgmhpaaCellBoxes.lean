/- CellBoxes. -/
import Derived.Test.YtbikcjjbdgmhpaaShown4
import Derived.Test.YtbikcjjbdgmhpaaNum
import Derived.Test.YtbikcjjbdgmhpaaMix2
import Derived.Deep.DeepCutAuto
set_option linter.unusedVariables false
namespace Go.Proofs.Ytbikcjjbdgmhpaa
open Go.RowKit
def canon (a : V) : V := if rightB a = true then a else V.zero
theorem eqV_self (a : V) : eqV a a = true := eqV_iff.2 rfl
theorem right_of_box : rightB ⟨1, 0, ByteArray.empty⟩ = true ∧ rightB ⟨1, 1, ByteArray.empty⟩ = true ∧ (∀ n, rightB ⟨2, n, ByteArray.empty⟩ = true) ∧ (∀ s, s.size ≤ 1024 → rightB ⟨3, 0, s⟩ = true) :=
  ⟨by simp [rightB, rightP, emp_toList], by simp [rightB, rightP, emp_toList], fun n => by simp [rightB, rightP, emp_toList], fun s hs => by simp [rightB, rightP, hs]⟩
theorem boxes : boxV ⟨1, 0, ByteArray.empty⟩ = .iface 4 (.bool false) ∧ boxV ⟨1, 1, ByteArray.empty⟩ = .iface 4 (.bool true) ∧ (∀ n, boxV ⟨2, n, ByteArray.empty⟩ = .iface 3 (.int .i64 n)) ∧ (∀ s : ByteArray, s.size ≤ 1024 → boxV ⟨3, 0, s⟩ = .iface 9 (.string s)) :=
  ⟨by simp [boxV, emp_toList], by simp [boxV, emp_toList], fun n => by simp [boxV, emp_toList], fun s hs => by simp [boxV, hs]⟩
theorem unbox_box (a : V) (w : World) : Calls Try.prog 28 #[boxV a] w (RetV w (canon a) true) := by
  obtain ⟨r1, r2, r3, r4⟩ := right_of_box
  obtain ⟨x1, x2, x3, x4⟩ := boxes
  rcases box_cases a with (rfl | rfl | ⟨n, rfl⟩ | ⟨s, hs, rfl⟩) | ⟨hb, hz⟩
  · rw [x1, canon, if_pos r1]; exact unbox_bool false w
  · rw [x2, canon, if_pos r2]; exact unbox_bool true w
  · rw [x3, canon, if_pos (r3 n)]; exact unbox_int n w
  · rw [x4 s hs, canon, if_pos (r4 s hs)]; exact unbox_str s w hs
  · rw [hb]
    rcases hz with ⟨rfl, h2⟩ | ⟨h1, h2⟩
    · rw [canon, if_pos h2]; exact unbox_nil w
    · rw [canon, h2]; exact unbox_nil w
/-- What Go has that is no value. -/
def NoVal (x : Value) : Prop := (∃ u v, x = .iface u v ∧ u ≠ 4 ∧ u ≠ 3 ∧ u ≠ 9) ∨ ∃ s : ByteArray, x = .iface 9 (.string s) ∧ 1024 < s.size
theorem unbox_bad {x : Value} (h : NoVal x) (w : World) : Calls Try.prog 28 #[x] w (RetV w V.zero false) := by
  rcases h with ⟨u, v, rfl, h1, h2, h3⟩ | ⟨s, rfl, h⟩
  · exact unbox_other u v w h1 h2 h3
  · exact unbox_long s w h
set_option maxRecDepth 100000 in
set_option maxHeartbeats 4000000 in
theorem cellBoxes_any (a : V) (w : World) (ha : a.s.size ≤ maxLen) :
    Calls Try.prog 6 #[a.val] w (fun e w' => e = .returned (.bool true) ∧ Below w.heap.size w w') := by
  have HU := Lib.hid (unbox_box a)
  have HBX := Lib.hid (box_cases a)
  have HXX := Lib.hid (fun W => box_any a W)
  obtain ⟨k, n, s⟩ := a
  unfold maxLen at ha
  simp only [V.val] at ha HXX ⊢
  generalize hX : boxV ⟨k, n, s⟩ = X at HU HBX HXX
  have HX := Lib.hid hX
  clear hX
  generalize hY : canon ⟨k, n, s⟩ = Y at HU
  have HY := Lib.hid hY
  clear hY
  obtain ⟨yk, yn, ys⟩ := Y
  go_enter Try.func6, Try.ntmps6
  go_wp2_with (first | (at_make; refine Stop.un ?_) | (at_builtin; refine Stop.un ?_) | (with_reducible refine Stop.conv 33 9 ?_) | (with_reducible refine Stop.conv 9 33 ?_))
  refine (shown_any _).mono ?_
  rintro e w1 ⟨rfl, b1⟩
  have Z := (VAt.new w ⟨k, n, s⟩).mono b1
  have B : Below w.heap.size w w1 := ((Below.refl _ _).alloc (Nat.le_refl _) _).next b1
  obtain ⟨e0, e1, e2, hz⟩ := Z.open_
  clear b1
  by_cases hlong : s.size ≤ 3000
  · clear ha
    go_wp2_with (first | (at_make; refine Stop.un ?_) | (at_builtin; refine Stop.un ?_) | (with_reducible refine Stop.conv 33 9 ?_) | (with_reducible refine Stop.conv 9 33 ?_))
    refine (HXX.out _).mono ?_
    rintro e w2 ⟨rfl, b2⟩
    have Z2 := Z.mono b2
    have B2 := B.next b2
    clear b2 Z B e0 e1 e2 hz
    go_wp2_with (first | (at_make; refine Stop.un ?_) | (at_builtin; refine Stop.un ?_) | (with_reducible refine Stop.conv 33 9 ?_) | (with_reducible refine Stop.conv 9 33 ?_))
    refine (HU.out _).mono ?_
    rintro e w3 ⟨rfl, b3⟩
    have Z3 := Z2.mono b3
    have B3 := B2.next b3
    have Y3 := VAt.new w3 ⟨yk, yn, ys⟩
    replace Z3 := Z3.mono ((Below.refl w3.heap.size w3).alloc (Nat.le_refl _) (.cells #[.int .u8 yk, .int .i64 yn, .string ys] 23))
    replace B3 := B3.next ((Below.refl w3.heap.size w3).alloc (Nat.le_refl _) (.cells #[.int .u8 yk, .int .i64 yn, .string ys] 23))
    obtain ⟨e0, e1, e2, hz⟩ := Z3.open_
    simp only [V.val]
    clear Z2 B2 b3
    go_wp2_with (first | (at_make; refine Stop.un ?_) | (at_builtin; refine Stop.un ?_) | (with_reducible refine Stop.conv 33 9 ?_) | (with_reducible refine Stop.conv 9 33 ?_))
    refine (rright_x k n s _).mono ?_
    rintro e w4 ⟨rfl, b4⟩
    have Z4 := Z3.mono b4
    have B4 := B3.next b4
    have Y4 := Y3.mono b4
    clear Z3 B3 Y3 b4 e0 e1 e2 hz
    go_upto_if 31 with fail
    go_cut [] (fun wx => VAt wx w.heap.size ⟨k, n, s⟩ ∧ Below w.heap.size w wx)
    case first =>
      obtain ⟨r1, r2, r3, r4⟩ := right_of_box
      obtain ⟨x1, x2, x3, x4⟩ := boxes
      have hbx := HBX.out
      have hX := HX.out
      have hY := HY.out
      clear HBX HX HY HXX HU
      rcases hbx with (h | h | ⟨m, h⟩ | ⟨t, ht, h⟩) | ⟨hb, hz⟩
      · simp only [V.mk.injEq] at h
        obtain ⟨rfl, rfl, rfl⟩ := h
        rw [x1] at hX
        rw [canon, if_pos r1] at hY
        subst hX
        simp only [V.mk.injEq] at hY
        obtain ⟨rfl, rfl, rfl⟩ := hY
        rw [r1]
        have as0 := fun W => asB_yes W (.bool false)
        have as1 := fun W => asI_no W 4 (.bool false) (by decide)
        have as2 := fun W => asS_no W 4 (.bool false) (by decide)
        clear r1 r2 r3 r4 x1 x2 x3 x4
        obtain ⟨e0, e1, e2, hz4⟩ := Z4.open_
        obtain ⟨y0, y1, y2, hz5⟩ := Y4.open_
        go_wp2_with (first | (at_make; refine Stop.un ?_) | (at_builtin; refine Stop.un ?_) | (with_reducible refine Stop.conv 33 9 ?_) | (with_reducible refine Stop.conv 9 33 ?_))
        refine mix_startE 36 rfl (by kernel_rfl) ?_
        intro xq hxq
        replace e0 := Ext.cell hxq e0
        replace e1 := Ext.cell hxq e1
        replace e2 := Ext.cell hxq e2
        replace y0 := Ext.cell hxq y0
        replace y1 := Ext.cell hxq y1
        replace y2 := Ext.cell hxq y2
        replace Z4 := VAt.mono Z4 hxq
        replace B4 := Below.next B4 hxq
        clear hxq
        refine mix_quiet Keeps.ext 0 rfl (by kernel_rfl) rfl ?_
        intro ι U hne hU
        go_big_quiet_op
        clear hU hne U ι
        show wpAnyM _ _ _ _ _ _ _ _ _
        refine mix_quiet Keeps.ext 1 rfl (by kernel_rfl) rfl ?_
        intro ι U hne hU
        go_big_quiet_op
        clear hU hne U ι
        show wpAnyM _ _ _ _ _ _ _ _ _
        refine mix_quiet Keeps.ext 2 rfl (by kernel_rfl) rfl ?_
        intro ι U hne hU
        go_big_quiet_op
        clear hU hne U ι
        show wpAnyM _ _ _ _ _ _ _ _ _
        refine mix_quiet Keeps.ext 3 rfl (by kernel_rfl) rfl ?_
        intro ι U hne hU
        have hcw0 := fun ii => (hU ii).cell e0
        have hcw1 := fun ii => (hU ii).cell e1
        have hcw2 := fun ii => (hU ii).cell e2
        have hcw3 := fun ii => (hU ii).cell y0
        have hcw4 := fun ii => (hU ii).cell y1
        have hcw5 := fun ii => (hU ii).cell y2
        go_big_quiet_op
        clear hU hne hcw0 hcw1 hcw2 hcw3 hcw4 hcw5 U ι
        show wpAnyM _ _ _ _ _ _ _ _ _
        refine mix_quiet Keeps.ext 4 rfl (by kernel_rfl) rfl ?_
        intro ι U hne hU
        have hcw0 := fun ii => (hU ii).cell e0
        have hcw1 := fun ii => (hU ii).cell e1
        have hcw2 := fun ii => (hU ii).cell e2
        have hcw3 := fun ii => (hU ii).cell y0
        have hcw4 := fun ii => (hU ii).cell y1
        have hcw5 := fun ii => (hU ii).cell y2
        go_big_quiet_op
        clear hU hne hcw0 hcw1 hcw2 hcw3 hcw4 hcw5 U ι
        show wpAnyM _ _ _ _ _ _ _ _ _
        refine mix_quiet Keeps.ext 5 rfl (by kernel_rfl) rfl ?_
        intro ι U hne hU
        refine quiet_as _ (exec_neV ⟨_, _, _⟩ ⟨_, _, _⟩ rfl rfl) (hne.elim fun ii => ⟨_, ii, rfl⟩) ?_
        go_big_quiet_op
        clear hU hne U ι
        show wpAnyM _ _ _ _ _ _ _ _ _
        rw [eqV_self, Bool.not_true]
        refine mix_quiet Keeps.ext 6 rfl (by kernel_rfl) rfl ?_
        intro ι U hne hU
        go_big_quiet_op
        clear hU hne U ι
        show wpAnyM _ _ _ _ _ _ _ _ _
        refine mix_quiet Keeps.ext 7 rfl (by kernel_rfl) rfl ?_
        intro ι U hne hU
        go_big_quiet_op
        clear hU hne U ι
        show wpAnyM _ _ _ _ _ _ _ _ _
        refine mix_quiet Keeps.ext 8 rfl (by kernel_rfl) rfl ?_
        intro ι U hne hU
        go_big_quiet_op
        clear hU hne U ι
        show wpAnyM _ _ _ _ _ _ _ _ _
        refine mix_quiet Keeps.ext 9 rfl (by kernel_rfl) rfl ?_
        intro ι U hne hU
        go_big_quiet_op
        clear hU hne U ι
        show wpAnyM _ _ _ _ _ _ _ _ _
        refine mix_quiet Keeps.ext 10 rfl (by kernel_rfl) rfl ?_
        intro ι U hne hU
        have hcw0 := fun ii => (hU ii).cell e0
        have hcw1 := fun ii => (hU ii).cell e1
        have hcw2 := fun ii => (hU ii).cell e2
        have hcw3 := fun ii => (hU ii).cell y0
        have hcw4 := fun ii => (hU ii).cell y1
        have hcw5 := fun ii => (hU ii).cell y2
        go_big_quiet_op
        clear hU hne hcw0 hcw1 hcw2 hcw3 hcw4 hcw5 U ι
        show wpAnyM _ _ _ _ _ _ _ _ _
        refine mix_quiet Keeps.ext 11 rfl (by kernel_rfl) rfl ?_
        intro ι U hne hU
        go_big_quiet_op
        clear hU hne U ι
        show wpAnyM _ _ _ _ _ _ _ _ _
        refine mix_quiet Keeps.ext 12 rfl (by kernel_rfl) rfl ?_
        intro ι U hne hU
        go_big_quiet_op
        clear hU hne U ι
        show wpAnyM _ _ _ _ _ _ _ _ _
        refine mix_quiet Keeps.ext 13 rfl (by kernel_rfl) rfl ?_
        intro ι U hne hU
        go_big_quiet_op
        clear hU hne U ι
        show wpAnyM _ _ _ _ _ _ _ _ _
        refine mix_quiet Keeps.ext 14 rfl (by kernel_rfl) rfl ?_
        intro ι U hne hU
        go_big_quiet_op
        clear hU hne U ι
        show wpAnyM _ _ _ _ _ _ _ _ _
        refine mix_quiet Keeps.ext 15 rfl (by kernel_rfl) rfl ?_
        intro ι U hne hU
        go_big_quiet_op
        clear hU hne U ι
        show wpAnyM _ _ _ _ _ _ _ _ _
        refine mix_quiet Keeps.ext 16 rfl (by kernel_rfl) rfl ?_
        intro ι U hne hU
        go_big_quiet_op
        clear hU hne U ι
        show wpAnyM _ _ _ _ _ _ _ _ _
        refine mix_quiet Keeps.ext 17 rfl (by kernel_rfl) rfl ?_
        intro ι U hne hU
        have hcw0 := fun ii => (hU ii).cell e0
        have hcw1 := fun ii => (hU ii).cell e1
        have hcw2 := fun ii => (hU ii).cell e2
        have hcw3 := fun ii => (hU ii).cell y0
        have hcw4 := fun ii => (hU ii).cell y1
        have hcw5 := fun ii => (hU ii).cell y2
        go_big_quiet_op
        clear hU hne hcw0 hcw1 hcw2 hcw3 hcw4 hcw5 U ι
        show wpAnyM _ _ _ _ _ _ _ _ _
        refine mix_quiet Keeps.ext 18 rfl (by kernel_rfl) rfl ?_
        intro ι U hne hU
        go_big_quiet_op
        clear hU hne U ι
        show wpAnyM _ _ _ _ _ _ _ _ _
        refine mix_quiet Keeps.ext 19 rfl (by kernel_rfl) rfl ?_
        intro ι U hne hU
        go_big_quiet_op
        clear hU hne U ι
        show wpAnyM _ _ _ _ _ _ _ _ _
        refine mix_quiet Keeps.ext 20 rfl (by kernel_rfl) rfl ?_
        intro ι U hne hU
        go_big_quiet_op
        clear hU hne U ι
        show wpAnyM _ _ _ _ _ _ _ _ _
        refine mix_quiet Keeps.ext 21 rfl (by kernel_rfl) rfl ?_
        intro ι U hne hU
        go_big_quiet_op
        clear hU hne U ι
        show wpAnyM _ _ _ _ _ _ _ _ _
        refine mix_quiet Keeps.ext 22 rfl (by kernel_rfl) rfl ?_
        intro ι U hne hU
        go_big_quiet_op
        clear hU hne U ι
        show wpAnyM _ _ _ _ _ _ _ _ _
        refine mix_quiet Keeps.ext 23 rfl (by kernel_rfl) rfl ?_
        intro ι U hne hU
        go_big_quiet_op
        clear hU hne U ι
        show wpAnyM _ _ _ _ _ _ _ _ _
        refine mix_quiet Keeps.ext 24 rfl (by kernel_rfl) rfl ?_
        intro ι U hne hU
        have hcw0 := fun ii => (hU ii).cell e0
        have hcw1 := fun ii => (hU ii).cell e1
        have hcw2 := fun ii => (hU ii).cell e2
        have hcw3 := fun ii => (hU ii).cell y0
        have hcw4 := fun ii => (hU ii).cell y1
        have hcw5 := fun ii => (hU ii).cell y2
        go_big_quiet_op
        clear hU hne hcw0 hcw1 hcw2 hcw3 hcw4 hcw5 U ι
        show wpAnyM _ _ _ _ _ _ _ _ _
        refine mix_quiet Keeps.ext 25 rfl (by kernel_rfl) rfl ?_
        intro ι U hne hU
        go_big_quiet_op
        clear hU hne U ι
        show wpAnyM _ _ _ _ _ _ _ _ _
        refine mix_quiet Keeps.ext 26 rfl (by kernel_rfl) rfl ?_
        intro ι U hne hU
        go_big_quiet_op
        clear hU hne U ι
        show wpAnyM _ _ _ _ _ _ _ _ _
        refine mix_quiet Keeps.ext 27 rfl (by kernel_rfl) rfl ?_
        intro ι U hne hU
        go_big_quiet_op
        clear hU hne U ι
        show wpAnyM _ _ _ _ _ _ _ _ _
        refine mix_quiet Keeps.ext 28 rfl (by kernel_rfl) rfl ?_
        intro ι U hne hU
        go_big_quiet_op
        clear hU hne U ι
        show wpAnyM _ _ _ _ _ _ _ _ _
        refine mix_quiet Keeps.ext 29 rfl (by kernel_rfl) rfl ?_
        intro ι U hne hU
        go_big_quiet_op
        clear hU hne U ι
        show wpAnyM _ _ _ _ _ _ _ _ _
        refine mix_quiet Keeps.ext 30 rfl (by kernel_rfl) rfl ?_
        intro ι U hne hU
        go_big_quiet_op
        clear hU hne U ι
        show wpAnyM _ _ _ _ _ _ _ _ _
        refine mix_quiet Keeps.ext 31 rfl (by kernel_rfl) rfl ?_
        intro ι U hne hU
        go_big_quiet_op
        clear hU hne U ι
        show wpAnyM _ _ _ _ _ _ _ _ _
        refine mix_quiet Keeps.ext 32 rfl (by kernel_rfl) rfl ?_
        intro ι U hne hU
        have hcw0 := fun ii => (hU ii).cell e0
        have hcw1 := fun ii => (hU ii).cell e1
        have hcw2 := fun ii => (hU ii).cell e2
        have hcw3 := fun ii => (hU ii).cell y0
        have hcw4 := fun ii => (hU ii).cell y1
        have hcw5 := fun ii => (hU ii).cell y2
        go_big_quiet_op
        clear hU hne hcw0 hcw1 hcw2 hcw3 hcw4 hcw5 U ι
        show wpAnyM _ _ _ _ _ _ _ _ _
        refine mix_quiet Keeps.ext 33 rfl (by kernel_rfl) rfl ?_
        intro ι U hne hU
        go_big_quiet_op
        clear hU hne U ι
        show wpAnyM _ _ _ _ _ _ _ _ _
        refine mix_quiet Keeps.ext 34 rfl (by kernel_rfl) rfl ?_
        intro ι U hne hU
        go_big_quiet_op
        clear hU hne U ι
        show wpAnyM _ _ _ _ _ _ _ _ _
        refine mix_quiet Keeps.ext 35 rfl (by kernel_rfl) rfl ?_
        intro ι U hne hU
        go_big_quiet_op
        clear hU hne U ι
        show wpAnyM _ _ _ _ _ _ _ _ _
        refine mix_end (by kernel_rfl) ?_
        go_wp2_with (first | (at_make; refine Stop.un ?_) | (at_builtin; refine Stop.un ?_) | (with_reducible refine Stop.conv 33 9 ?_) | (with_reducible refine Stop.conv 9 33 ?_))
        go_meet
        exact ⟨Z4, B4⟩
      · simp only [V.mk.injEq] at h
        obtain ⟨rfl, rfl, rfl⟩ := h
        rw [x2] at hX
        rw [canon, if_pos r2] at hY
        subst hX
        simp only [V.mk.injEq] at hY
        obtain ⟨rfl, rfl, rfl⟩ := hY
        rw [r2]
        have as0 := fun W => asB_yes W (.bool true)
        have as1 := fun W => asI_no W 4 (.bool true) (by decide)
        have as2 := fun W => asS_no W 4 (.bool true) (by decide)
        clear r1 r2 r3 r4 x1 x2 x3 x4
        obtain ⟨e0, e1, e2, hz4⟩ := Z4.open_
        obtain ⟨y0, y1, y2, hz5⟩ := Y4.open_
        go_wp2_with (first | (at_make; refine Stop.un ?_) | (at_builtin; refine Stop.un ?_) | (with_reducible refine Stop.conv 33 9 ?_) | (with_reducible refine Stop.conv 9 33 ?_))
        refine mix_startE 36 rfl (by kernel_rfl) ?_
        intro xq hxq
        replace e0 := Ext.cell hxq e0
        replace e1 := Ext.cell hxq e1
        replace e2 := Ext.cell hxq e2
        replace y0 := Ext.cell hxq y0
        replace y1 := Ext.cell hxq y1
        replace y2 := Ext.cell hxq y2
        replace Z4 := VAt.mono Z4 hxq
        replace B4 := Below.next B4 hxq
        clear hxq
        refine mix_quiet Keeps.ext 0 rfl (by kernel_rfl) rfl ?_
        intro ι U hne hU
        go_big_quiet_op
        clear hU hne U ι
        show wpAnyM _ _ _ _ _ _ _ _ _
        refine mix_quiet Keeps.ext 1 rfl (by kernel_rfl) rfl ?_
        intro ι U hne hU
        go_big_quiet_op
        clear hU hne U ι
        show wpAnyM _ _ _ _ _ _ _ _ _
        refine mix_quiet Keeps.ext 2 rfl (by kernel_rfl) rfl ?_
        intro ι U hne hU
        go_big_quiet_op
        clear hU hne U ι
        show wpAnyM _ _ _ _ _ _ _ _ _
        refine mix_quiet Keeps.ext 3 rfl (by kernel_rfl) rfl ?_
        intro ι U hne hU
        have hcw0 := fun ii => (hU ii).cell e0
        have hcw1 := fun ii => (hU ii).cell e1
        have hcw2 := fun ii => (hU ii).cell e2
        have hcw3 := fun ii => (hU ii).cell y0
        have hcw4 := fun ii => (hU ii).cell y1
        have hcw5 := fun ii => (hU ii).cell y2
        go_big_quiet_op
        clear hU hne hcw0 hcw1 hcw2 hcw3 hcw4 hcw5 U ι
        show wpAnyM _ _ _ _ _ _ _ _ _
        refine mix_quiet Keeps.ext 4 rfl (by kernel_rfl) rfl ?_
        intro ι U hne hU
        have hcw0 := fun ii => (hU ii).cell e0
        have hcw1 := fun ii => (hU ii).cell e1
        have hcw2 := fun ii => (hU ii).cell e2
        have hcw3 := fun ii => (hU ii).cell y0
        have hcw4 := fun ii => (hU ii).cell y1
        have hcw5 := fun ii => (hU ii).cell y2
        go_big_quiet_op
        clear hU hne hcw0 hcw1 hcw2 hcw3 hcw4 hcw5 U ι
        show wpAnyM _ _ _ _ _ _ _ _ _
        refine mix_quiet Keeps.ext 5 rfl (by kernel_rfl) rfl ?_
        intro ι U hne hU
        refine quiet_as _ (exec_neV ⟨_, _, _⟩ ⟨_, _, _⟩ rfl rfl) (hne.elim fun ii => ⟨_, ii, rfl⟩) ?_
        go_big_quiet_op
        clear hU hne U ι
        show wpAnyM _ _ _ _ _ _ _ _ _
        rw [eqV_self, Bool.not_true]
        refine mix_quiet Keeps.ext 6 rfl (by kernel_rfl) rfl ?_
        intro ι U hne hU
        go_big_quiet_op
        clear hU hne U ι
        show wpAnyM _ _ _ _ _ _ _ _ _
        refine mix_quiet Keeps.ext 7 rfl (by kernel_rfl) rfl ?_
        intro ι U hne hU
        go_big_quiet_op
        clear hU hne U ι
        show wpAnyM _ _ _ _ _ _ _ _ _
        refine mix_quiet Keeps.ext 8 rfl (by kernel_rfl) rfl ?_
        intro ι U hne hU
        go_big_quiet_op
        clear hU hne U ι
        show wpAnyM _ _ _ _ _ _ _ _ _
        refine mix_quiet Keeps.ext 9 rfl (by kernel_rfl) rfl ?_
        intro ι U hne hU
        go_big_quiet_op
        clear hU hne U ι
        show wpAnyM _ _ _ _ _ _ _ _ _
        refine mix_quiet Keeps.ext 10 rfl (by kernel_rfl) rfl ?_
        intro ι U hne hU
        have hcw0 := fun ii => (hU ii).cell e0
        have hcw1 := fun ii => (hU ii).cell e1
        have hcw2 := fun ii => (hU ii).cell e2
        have hcw3 := fun ii => (hU ii).cell y0
        have hcw4 := fun ii => (hU ii).cell y1
        have hcw5 := fun ii => (hU ii).cell y2
        go_big_quiet_op
        clear hU hne hcw0 hcw1 hcw2 hcw3 hcw4 hcw5 U ι
        show wpAnyM _ _ _ _ _ _ _ _ _
        refine mix_quiet Keeps.ext 11 rfl (by kernel_rfl) rfl ?_
        intro ι U hne hU
        go_big_quiet_op
        clear hU hne U ι
        show wpAnyM _ _ _ _ _ _ _ _ _
        refine mix_quiet Keeps.ext 12 rfl (by kernel_rfl) rfl ?_
        intro ι U hne hU
        go_big_quiet_op
        clear hU hne U ι
        show wpAnyM _ _ _ _ _ _ _ _ _
        refine mix_quiet Keeps.ext 13 rfl (by kernel_rfl) rfl ?_
        intro ι U hne hU
        go_big_quiet_op
        clear hU hne U ι
        show wpAnyM _ _ _ _ _ _ _ _ _
        refine mix_quiet Keeps.ext 14 rfl (by kernel_rfl) rfl ?_
        intro ι U hne hU
        go_big_quiet_op
        clear hU hne U ι
        show wpAnyM _ _ _ _ _ _ _ _ _
        refine mix_quiet Keeps.ext 15 rfl (by kernel_rfl) rfl ?_
        intro ι U hne hU
        go_big_quiet_op
        clear hU hne U ι
        show wpAnyM _ _ _ _ _ _ _ _ _
        refine mix_quiet Keeps.ext 16 rfl (by kernel_rfl) rfl ?_
        intro ι U hne hU
        go_big_quiet_op
        clear hU hne U ι
        show wpAnyM _ _ _ _ _ _ _ _ _
        refine mix_quiet Keeps.ext 17 rfl (by kernel_rfl) rfl ?_
        intro ι U hne hU
        have hcw0 := fun ii => (hU ii).cell e0
        have hcw1 := fun ii => (hU ii).cell e1
        have hcw2 := fun ii => (hU ii).cell e2
        have hcw3 := fun ii => (hU ii).cell y0
        have hcw4 := fun ii => (hU ii).cell y1
        have hcw5 := fun ii => (hU ii).cell y2
        go_big_quiet_op
        clear hU hne hcw0 hcw1 hcw2 hcw3 hcw4 hcw5 U ι
        show wpAnyM _ _ _ _ _ _ _ _ _
        refine mix_quiet Keeps.ext 18 rfl (by kernel_rfl) rfl ?_
        intro ι U hne hU
        go_big_quiet_op
        clear hU hne U ι
        show wpAnyM _ _ _ _ _ _ _ _ _
        refine mix_quiet Keeps.ext 19 rfl (by kernel_rfl) rfl ?_
        intro ι U hne hU
        go_big_quiet_op
        clear hU hne U ι
        show wpAnyM _ _ _ _ _ _ _ _ _
        refine mix_quiet Keeps.ext 20 rfl (by kernel_rfl) rfl ?_
        intro ι U hne hU
        go_big_quiet_op
        clear hU hne U ι
        show wpAnyM _ _ _ _ _ _ _ _ _
        refine mix_quiet Keeps.ext 21 rfl (by kernel_rfl) rfl ?_
        intro ι U hne hU
        go_big_quiet_op
        clear hU hne U ι
        show wpAnyM _ _ _ _ _ _ _ _ _
        refine mix_quiet Keeps.ext 22 rfl (by kernel_rfl) rfl ?_
        intro ι U hne hU
        go_big_quiet_op
        clear hU hne U ι
        show wpAnyM _ _ _ _ _ _ _ _ _
        refine mix_quiet Keeps.ext 23 rfl (by kernel_rfl) rfl ?_
        intro ι U hne hU
        go_big_quiet_op
        clear hU hne U ι
        show wpAnyM _ _ _ _ _ _ _ _ _
        refine mix_quiet Keeps.ext 24 rfl (by kernel_rfl) rfl ?_
        intro ι U hne hU
        have hcw0 := fun ii => (hU ii).cell e0
        have hcw1 := fun ii => (hU ii).cell e1
        have hcw2 := fun ii => (hU ii).cell e2
        have hcw3 := fun ii => (hU ii).cell y0
        have hcw4 := fun ii => (hU ii).cell y1
        have hcw5 := fun ii => (hU ii).cell y2
        go_big_quiet_op
        clear hU hne hcw0 hcw1 hcw2 hcw3 hcw4 hcw5 U ι
        show wpAnyM _ _ _ _ _ _ _ _ _
        refine mix_quiet Keeps.ext 25 rfl (by kernel_rfl) rfl ?_
        intro ι U hne hU
        go_big_quiet_op
        clear hU hne U ι
        show wpAnyM _ _ _ _ _ _ _ _ _
        refine mix_quiet Keeps.ext 26 rfl (by kernel_rfl) rfl ?_
        intro ι U hne hU
        go_big_quiet_op
        clear hU hne U ι
        show wpAnyM _ _ _ _ _ _ _ _ _
        refine mix_quiet Keeps.ext 27 rfl (by kernel_rfl) rfl ?_
        intro ι U hne hU
        go_big_quiet_op
        clear hU hne U ι
        show wpAnyM _ _ _ _ _ _ _ _ _
        refine mix_quiet Keeps.ext 28 rfl (by kernel_rfl) rfl ?_
        intro ι U hne hU
        go_big_quiet_op
        clear hU hne U ι
        show wpAnyM _ _ _ _ _ _ _ _ _
        refine mix_quiet Keeps.ext 29 rfl (by kernel_rfl) rfl ?_
        intro ι U hne hU
        go_big_quiet_op
        clear hU hne U ι
        show wpAnyM _ _ _ _ _ _ _ _ _
        refine mix_quiet Keeps.ext 30 rfl (by kernel_rfl) rfl ?_
        intro ι U hne hU
        go_big_quiet_op
        clear hU hne U ι
        show wpAnyM _ _ _ _ _ _ _ _ _
        refine mix_quiet Keeps.ext 31 rfl (by kernel_rfl) rfl ?_
        intro ι U hne hU
        go_big_quiet_op
        clear hU hne U ι
        show wpAnyM _ _ _ _ _ _ _ _ _
        refine mix_quiet Keeps.ext 32 rfl (by kernel_rfl) rfl ?_
        intro ι U hne hU
        have hcw0 := fun ii => (hU ii).cell e0
        have hcw1 := fun ii => (hU ii).cell e1
        have hcw2 := fun ii => (hU ii).cell e2
        have hcw3 := fun ii => (hU ii).cell y0
        have hcw4 := fun ii => (hU ii).cell y1
        have hcw5 := fun ii => (hU ii).cell y2
        go_big_quiet_op
        clear hU hne hcw0 hcw1 hcw2 hcw3 hcw4 hcw5 U ι
        show wpAnyM _ _ _ _ _ _ _ _ _
        refine mix_quiet Keeps.ext 33 rfl (by kernel_rfl) rfl ?_
        intro ι U hne hU
        go_big_quiet_op
        clear hU hne U ι
        show wpAnyM _ _ _ _ _ _ _ _ _
        refine mix_quiet Keeps.ext 34 rfl (by kernel_rfl) rfl ?_
        intro ι U hne hU
        go_big_quiet_op
        clear hU hne U ι
        show wpAnyM _ _ _ _ _ _ _ _ _
        refine mix_quiet Keeps.ext 35 rfl (by kernel_rfl) rfl ?_
        intro ι U hne hU
        go_big_quiet_op
        clear hU hne U ι
        show wpAnyM _ _ _ _ _ _ _ _ _
        refine mix_end (by kernel_rfl) ?_
        go_wp2_with (first | (at_make; refine Stop.un ?_) | (at_builtin; refine Stop.un ?_) | (with_reducible refine Stop.conv 33 9 ?_) | (with_reducible refine Stop.conv 9 33 ?_))
        go_meet
        exact ⟨Z4, B4⟩
      · simp only [V.mk.injEq] at h
        obtain ⟨rfl, rfl, rfl⟩ := h
        rw [x3] at hX
        rw [canon, if_pos (r3 _)] at hY
        subst hX
        simp only [V.mk.injEq] at hY
        obtain ⟨rfl, rfl, rfl⟩ := hY
        rw [(r3 _)]
        have as0 := fun W => asB_no W 3 (.int .i64 n) (by decide)
        have as1 := fun W => asI_yes W (.int .i64 n)
        have as2 := fun W => asS_no W 3 (.int .i64 n) (by decide)
        clear r1 r2 r3 r4 x1 x2 x3 x4
        obtain ⟨e0, e1, e2, hz4⟩ := Z4.open_
        obtain ⟨y0, y1, y2, hz5⟩ := Y4.open_
        go_wp2_with (first | (at_make; refine Stop.un ?_) | (at_builtin; refine Stop.un ?_) | (with_reducible refine Stop.conv 33 9 ?_) | (with_reducible refine Stop.conv 9 33 ?_))
        refine mix_startE 36 rfl (by kernel_rfl) ?_
        intro xq hxq
        replace e0 := Ext.cell hxq e0
        replace e1 := Ext.cell hxq e1
        replace e2 := Ext.cell hxq e2
        replace y0 := Ext.cell hxq y0
        replace y1 := Ext.cell hxq y1
        replace y2 := Ext.cell hxq y2
        replace Z4 := VAt.mono Z4 hxq
        replace B4 := Below.next B4 hxq
        clear hxq
        refine mix_quiet Keeps.ext 0 rfl (by kernel_rfl) rfl ?_
        intro ι U hne hU
        go_big_quiet_op
        clear hU hne U ι
        show wpAnyM _ _ _ _ _ _ _ _ _
        refine mix_quiet Keeps.ext 1 rfl (by kernel_rfl) rfl ?_
        intro ι U hne hU
        go_big_quiet_op
        clear hU hne U ι
        show wpAnyM _ _ _ _ _ _ _ _ _
        refine mix_quiet Keeps.ext 2 rfl (by kernel_rfl) rfl ?_
        intro ι U hne hU
        go_big_quiet_op
        clear hU hne U ι
        show wpAnyM _ _ _ _ _ _ _ _ _
        refine mix_quiet Keeps.ext 3 rfl (by kernel_rfl) rfl ?_
        intro ι U hne hU
        have hcw0 := fun ii => (hU ii).cell e0
        have hcw1 := fun ii => (hU ii).cell e1
        have hcw2 := fun ii => (hU ii).cell e2
        have hcw3 := fun ii => (hU ii).cell y0
        have hcw4 := fun ii => (hU ii).cell y1
        have hcw5 := fun ii => (hU ii).cell y2
        go_big_quiet_op
        clear hU hne hcw0 hcw1 hcw2 hcw3 hcw4 hcw5 U ι
        show wpAnyM _ _ _ _ _ _ _ _ _
        refine mix_quiet Keeps.ext 4 rfl (by kernel_rfl) rfl ?_
        intro ι U hne hU
        have hcw0 := fun ii => (hU ii).cell e0
        have hcw1 := fun ii => (hU ii).cell e1
        have hcw2 := fun ii => (hU ii).cell e2
        have hcw3 := fun ii => (hU ii).cell y0
        have hcw4 := fun ii => (hU ii).cell y1
        have hcw5 := fun ii => (hU ii).cell y2
        go_big_quiet_op
        clear hU hne hcw0 hcw1 hcw2 hcw3 hcw4 hcw5 U ι
        show wpAnyM _ _ _ _ _ _ _ _ _
        refine mix_quiet Keeps.ext 5 rfl (by kernel_rfl) rfl ?_
        intro ι U hne hU
        refine quiet_as _ (exec_neV ⟨_, _, _⟩ ⟨_, _, _⟩ rfl rfl) (hne.elim fun ii => ⟨_, ii, rfl⟩) ?_
        go_big_quiet_op
        clear hU hne U ι
        show wpAnyM _ _ _ _ _ _ _ _ _
        rw [eqV_self, Bool.not_true]
        refine mix_quiet Keeps.ext 6 rfl (by kernel_rfl) rfl ?_
        intro ι U hne hU
        go_big_quiet_op
        clear hU hne U ι
        show wpAnyM _ _ _ _ _ _ _ _ _
        refine mix_quiet Keeps.ext 7 rfl (by kernel_rfl) rfl ?_
        intro ι U hne hU
        go_big_quiet_op
        clear hU hne U ι
        show wpAnyM _ _ _ _ _ _ _ _ _
        refine mix_quiet Keeps.ext 8 rfl (by kernel_rfl) rfl ?_
        intro ι U hne hU
        go_big_quiet_op
        clear hU hne U ι
        show wpAnyM _ _ _ _ _ _ _ _ _
        refine mix_quiet Keeps.ext 9 rfl (by kernel_rfl) rfl ?_
        intro ι U hne hU
        go_big_quiet_op
        clear hU hne U ι
        show wpAnyM _ _ _ _ _ _ _ _ _
        refine mix_quiet Keeps.ext 10 rfl (by kernel_rfl) rfl ?_
        intro ι U hne hU
        have hcw0 := fun ii => (hU ii).cell e0
        have hcw1 := fun ii => (hU ii).cell e1
        have hcw2 := fun ii => (hU ii).cell e2
        have hcw3 := fun ii => (hU ii).cell y0
        have hcw4 := fun ii => (hU ii).cell y1
        have hcw5 := fun ii => (hU ii).cell y2
        go_big_quiet_op
        clear hU hne hcw0 hcw1 hcw2 hcw3 hcw4 hcw5 U ι
        show wpAnyM _ _ _ _ _ _ _ _ _
        refine mix_quiet Keeps.ext 11 rfl (by kernel_rfl) rfl ?_
        intro ι U hne hU
        go_big_quiet_op
        clear hU hne U ι
        show wpAnyM _ _ _ _ _ _ _ _ _
        refine mix_quiet Keeps.ext 12 rfl (by kernel_rfl) rfl ?_
        intro ι U hne hU
        go_big_quiet_op
        clear hU hne U ι
        show wpAnyM _ _ _ _ _ _ _ _ _
        refine mix_quiet Keeps.ext 13 rfl (by kernel_rfl) rfl ?_
        intro ι U hne hU
        go_big_quiet_op
        clear hU hne U ι
        show wpAnyM _ _ _ _ _ _ _ _ _
        refine mix_quiet Keeps.ext 14 rfl (by kernel_rfl) rfl ?_
        intro ι U hne hU
        go_big_quiet_op
        clear hU hne U ι
        show wpAnyM _ _ _ _ _ _ _ _ _
        refine mix_quiet Keeps.ext 15 rfl (by kernel_rfl) rfl ?_
        intro ι U hne hU
        go_big_quiet_op
        clear hU hne U ι
        show wpAnyM _ _ _ _ _ _ _ _ _
        refine mix_quiet Keeps.ext 16 rfl (by kernel_rfl) rfl ?_
        intro ι U hne hU
        go_big_quiet_op
        clear hU hne U ι
        show wpAnyM _ _ _ _ _ _ _ _ _
        refine mix_quiet Keeps.ext 17 rfl (by kernel_rfl) rfl ?_
        intro ι U hne hU
        have hcw0 := fun ii => (hU ii).cell e0
        have hcw1 := fun ii => (hU ii).cell e1
        have hcw2 := fun ii => (hU ii).cell e2
        have hcw3 := fun ii => (hU ii).cell y0
        have hcw4 := fun ii => (hU ii).cell y1
        have hcw5 := fun ii => (hU ii).cell y2
        go_big_quiet_op
        clear hU hne hcw0 hcw1 hcw2 hcw3 hcw4 hcw5 U ι
        show wpAnyM _ _ _ _ _ _ _ _ _
        refine mix_quiet Keeps.ext 18 rfl (by kernel_rfl) rfl ?_
        intro ι U hne hU
        go_big_quiet_op
        clear hU hne U ι
        show wpAnyM _ _ _ _ _ _ _ _ _
        refine mix_quiet Keeps.ext 19 rfl (by kernel_rfl) rfl ?_
        intro ι U hne hU
        go_big_quiet_op
        clear hU hne U ι
        show wpAnyM _ _ _ _ _ _ _ _ _
        refine mix_quiet Keeps.ext 20 rfl (by kernel_rfl) rfl ?_
        intro ι U hne hU
        go_big_quiet_op
        clear hU hne U ι
        show wpAnyM _ _ _ _ _ _ _ _ _
        refine mix_quiet Keeps.ext 21 rfl (by kernel_rfl) rfl ?_
        intro ι U hne hU
        go_big_quiet_op
        clear hU hne U ι
        show wpAnyM _ _ _ _ _ _ _ _ _
        refine mix_quiet Keeps.ext 22 rfl (by kernel_rfl) rfl ?_
        intro ι U hne hU
        go_big_quiet_op
        clear hU hne U ι
        show wpAnyM _ _ _ _ _ _ _ _ _
        refine mix_quiet Keeps.ext 23 rfl (by kernel_rfl) rfl ?_
        intro ι U hne hU
        go_big_quiet_op
        clear hU hne U ι
        show wpAnyM _ _ _ _ _ _ _ _ _
        refine mix_quiet Keeps.ext 24 rfl (by kernel_rfl) rfl ?_
        intro ι U hne hU
        have hcw0 := fun ii => (hU ii).cell e0
        have hcw1 := fun ii => (hU ii).cell e1
        have hcw2 := fun ii => (hU ii).cell e2
        have hcw3 := fun ii => (hU ii).cell y0
        have hcw4 := fun ii => (hU ii).cell y1
        have hcw5 := fun ii => (hU ii).cell y2
        go_big_quiet_op
        clear hU hne hcw0 hcw1 hcw2 hcw3 hcw4 hcw5 U ι
        show wpAnyM _ _ _ _ _ _ _ _ _
        refine mix_quiet Keeps.ext 25 rfl (by kernel_rfl) rfl ?_
        intro ι U hne hU
        go_big_quiet_op
        clear hU hne U ι
        show wpAnyM _ _ _ _ _ _ _ _ _
        refine mix_quiet Keeps.ext 26 rfl (by kernel_rfl) rfl ?_
        intro ι U hne hU
        go_big_quiet_op
        clear hU hne U ι
        show wpAnyM _ _ _ _ _ _ _ _ _
        refine mix_quiet Keeps.ext 27 rfl (by kernel_rfl) rfl ?_
        intro ι U hne hU
        go_big_quiet_op
        clear hU hne U ι
        show wpAnyM _ _ _ _ _ _ _ _ _
        refine mix_quiet Keeps.ext 28 rfl (by kernel_rfl) rfl ?_
        intro ι U hne hU
        go_big_quiet_op
        clear hU hne U ι
        show wpAnyM _ _ _ _ _ _ _ _ _
        refine mix_quiet Keeps.ext 29 rfl (by kernel_rfl) rfl ?_
        intro ι U hne hU
        go_big_quiet_op
        clear hU hne U ι
        show wpAnyM _ _ _ _ _ _ _ _ _
        refine mix_quiet Keeps.ext 30 rfl (by kernel_rfl) rfl ?_
        intro ι U hne hU
        go_big_quiet_op
        clear hU hne U ι
        show wpAnyM _ _ _ _ _ _ _ _ _
        refine mix_quiet Keeps.ext 31 rfl (by kernel_rfl) rfl ?_
        intro ι U hne hU
        go_big_quiet_op
        clear hU hne U ι
        show wpAnyM _ _ _ _ _ _ _ _ _
        refine mix_quiet Keeps.ext 32 rfl (by kernel_rfl) rfl ?_
        intro ι U hne hU
        have hcw0 := fun ii => (hU ii).cell e0
        have hcw1 := fun ii => (hU ii).cell e1
        have hcw2 := fun ii => (hU ii).cell e2
        have hcw3 := fun ii => (hU ii).cell y0
        have hcw4 := fun ii => (hU ii).cell y1
        have hcw5 := fun ii => (hU ii).cell y2
        go_big_quiet_op
        clear hU hne hcw0 hcw1 hcw2 hcw3 hcw4 hcw5 U ι
        show wpAnyM _ _ _ _ _ _ _ _ _
        refine mix_quiet Keeps.ext 33 rfl (by kernel_rfl) rfl ?_
        intro ι U hne hU
        go_big_quiet_op
        clear hU hne U ι
        show wpAnyM _ _ _ _ _ _ _ _ _
        refine mix_quiet Keeps.ext 34 rfl (by kernel_rfl) rfl ?_
        intro ι U hne hU
        go_big_quiet_op
        clear hU hne U ι
        show wpAnyM _ _ _ _ _ _ _ _ _
        refine mix_quiet Keeps.ext 35 rfl (by kernel_rfl) rfl ?_
        intro ι U hne hU
        go_big_quiet_op
        clear hU hne U ι
        show wpAnyM _ _ _ _ _ _ _ _ _
        refine mix_end (by kernel_rfl) ?_
        go_wp2_with (first | (at_make; refine Stop.un ?_) | (at_builtin; refine Stop.un ?_) | (with_reducible refine Stop.conv 33 9 ?_) | (with_reducible refine Stop.conv 9 33 ?_))
        go_meet
        exact ⟨Z4, B4⟩
      · simp only [V.mk.injEq] at h
        obtain ⟨rfl, rfl, rfl⟩ := h
        rw [x4 _ ht] at hX
        rw [canon, if_pos (r4 _ ht)] at hY
        subst hX
        simp only [V.mk.injEq] at hY
        obtain ⟨rfl, rfl, rfl⟩ := hY
        rw [(r4 _ ht)]
        have as0 := fun W => asB_no W 9 (.string s) (by decide)
        have as1 := fun W => asI_no W 9 (.string s) (by decide)
        have as2 := fun W => asS_yes W (.string s)
        clear r1 r2 r3 r4 x1 x2 x3 x4
        obtain ⟨e0, e1, e2, hz4⟩ := Z4.open_
        obtain ⟨y0, y1, y2, hz5⟩ := Y4.open_
        go_wp2_with (first | (at_make; refine Stop.un ?_) | (at_builtin; refine Stop.un ?_) | (with_reducible refine Stop.conv 33 9 ?_) | (with_reducible refine Stop.conv 9 33 ?_))
        refine mix_startE 36 rfl (by kernel_rfl) ?_
        intro xq hxq
        replace e0 := Ext.cell hxq e0
        replace e1 := Ext.cell hxq e1
        replace e2 := Ext.cell hxq e2
        replace y0 := Ext.cell hxq y0
        replace y1 := Ext.cell hxq y1
        replace y2 := Ext.cell hxq y2
        replace Z4 := VAt.mono Z4 hxq
        replace B4 := Below.next B4 hxq
        clear hxq
        refine mix_quiet Keeps.ext 0 rfl (by kernel_rfl) rfl ?_
        intro ι U hne hU
        go_big_quiet_op
        clear hU hne U ι
        show wpAnyM _ _ _ _ _ _ _ _ _
        refine mix_quiet Keeps.ext 1 rfl (by kernel_rfl) rfl ?_
        intro ι U hne hU
        go_big_quiet_op
        clear hU hne U ι
        show wpAnyM _ _ _ _ _ _ _ _ _
        refine mix_quiet Keeps.ext 2 rfl (by kernel_rfl) rfl ?_
        intro ι U hne hU
        go_big_quiet_op
        clear hU hne U ι
        show wpAnyM _ _ _ _ _ _ _ _ _
        refine mix_quiet Keeps.ext 3 rfl (by kernel_rfl) rfl ?_
        intro ι U hne hU
        have hcw0 := fun ii => (hU ii).cell e0
        have hcw1 := fun ii => (hU ii).cell e1
        have hcw2 := fun ii => (hU ii).cell e2
        have hcw3 := fun ii => (hU ii).cell y0
        have hcw4 := fun ii => (hU ii).cell y1
        have hcw5 := fun ii => (hU ii).cell y2
        go_big_quiet_op
        clear hU hne hcw0 hcw1 hcw2 hcw3 hcw4 hcw5 U ι
        show wpAnyM _ _ _ _ _ _ _ _ _
        refine mix_quiet Keeps.ext 4 rfl (by kernel_rfl) rfl ?_
        intro ι U hne hU
        have hcw0 := fun ii => (hU ii).cell e0
        have hcw1 := fun ii => (hU ii).cell e1
        have hcw2 := fun ii => (hU ii).cell e2
        have hcw3 := fun ii => (hU ii).cell y0
        have hcw4 := fun ii => (hU ii).cell y1
        have hcw5 := fun ii => (hU ii).cell y2
        go_big_quiet_op
        clear hU hne hcw0 hcw1 hcw2 hcw3 hcw4 hcw5 U ι
        show wpAnyM _ _ _ _ _ _ _ _ _
        refine mix_quiet Keeps.ext 5 rfl (by kernel_rfl) rfl ?_
        intro ι U hne hU
        refine quiet_as _ (exec_neV ⟨_, _, _⟩ ⟨_, _, _⟩ rfl rfl) (hne.elim fun ii => ⟨_, ii, rfl⟩) ?_
        go_big_quiet_op
        clear hU hne U ι
        show wpAnyM _ _ _ _ _ _ _ _ _
        rw [eqV_self, Bool.not_true]
        refine mix_quiet Keeps.ext 6 rfl (by kernel_rfl) rfl ?_
        intro ι U hne hU
        go_big_quiet_op
        clear hU hne U ι
        show wpAnyM _ _ _ _ _ _ _ _ _
        refine mix_quiet Keeps.ext 7 rfl (by kernel_rfl) rfl ?_
        intro ι U hne hU
        go_big_quiet_op
        clear hU hne U ι
        show wpAnyM _ _ _ _ _ _ _ _ _
        refine mix_quiet Keeps.ext 8 rfl (by kernel_rfl) rfl ?_
        intro ι U hne hU
        go_big_quiet_op
        clear hU hne U ι
        show wpAnyM _ _ _ _ _ _ _ _ _
        refine mix_quiet Keeps.ext 9 rfl (by kernel_rfl) rfl ?_
        intro ι U hne hU
        go_big_quiet_op
        clear hU hne U ι
        show wpAnyM _ _ _ _ _ _ _ _ _
        refine mix_quiet Keeps.ext 10 rfl (by kernel_rfl) rfl ?_
        intro ι U hne hU
        have hcw0 := fun ii => (hU ii).cell e0
        have hcw1 := fun ii => (hU ii).cell e1
        have hcw2 := fun ii => (hU ii).cell e2
        have hcw3 := fun ii => (hU ii).cell y0
        have hcw4 := fun ii => (hU ii).cell y1
        have hcw5 := fun ii => (hU ii).cell y2
        go_big_quiet_op
        clear hU hne hcw0 hcw1 hcw2 hcw3 hcw4 hcw5 U ι
        show wpAnyM _ _ _ _ _ _ _ _ _
        refine mix_quiet Keeps.ext 11 rfl (by kernel_rfl) rfl ?_
        intro ι U hne hU
        go_big_quiet_op
        clear hU hne U ι
        show wpAnyM _ _ _ _ _ _ _ _ _
        refine mix_quiet Keeps.ext 12 rfl (by kernel_rfl) rfl ?_
        intro ι U hne hU
        go_big_quiet_op
        clear hU hne U ι
        show wpAnyM _ _ _ _ _ _ _ _ _
        refine mix_quiet Keeps.ext 13 rfl (by kernel_rfl) rfl ?_
        intro ι U hne hU
        go_big_quiet_op
        clear hU hne U ι
        show wpAnyM _ _ _ _ _ _ _ _ _
        refine mix_quiet Keeps.ext 14 rfl (by kernel_rfl) rfl ?_
        intro ι U hne hU
        go_big_quiet_op
        clear hU hne U ι
        show wpAnyM _ _ _ _ _ _ _ _ _
        refine mix_quiet Keeps.ext 15 rfl (by kernel_rfl) rfl ?_
        intro ι U hne hU
        go_big_quiet_op
        clear hU hne U ι
        show wpAnyM _ _ _ _ _ _ _ _ _
        refine mix_quiet Keeps.ext 16 rfl (by kernel_rfl) rfl ?_
        intro ι U hne hU
        go_big_quiet_op
        clear hU hne U ι
        show wpAnyM _ _ _ _ _ _ _ _ _
        refine mix_quiet Keeps.ext 17 rfl (by kernel_rfl) rfl ?_
        intro ι U hne hU
        have hcw0 := fun ii => (hU ii).cell e0
        have hcw1 := fun ii => (hU ii).cell e1
        have hcw2 := fun ii => (hU ii).cell e2
        have hcw3 := fun ii => (hU ii).cell y0
        have hcw4 := fun ii => (hU ii).cell y1
        have hcw5 := fun ii => (hU ii).cell y2
        go_big_quiet_op
        clear hU hne hcw0 hcw1 hcw2 hcw3 hcw4 hcw5 U ι
        show wpAnyM _ _ _ _ _ _ _ _ _
        refine mix_quiet Keeps.ext 18 rfl (by kernel_rfl) rfl ?_
        intro ι U hne hU
        go_big_quiet_op
        clear hU hne U ι
        show wpAnyM _ _ _ _ _ _ _ _ _
        refine mix_quiet Keeps.ext 19 rfl (by kernel_rfl) rfl ?_
        intro ι U hne hU
        go_big_quiet_op
        clear hU hne U ι
        show wpAnyM _ _ _ _ _ _ _ _ _
        refine mix_quiet Keeps.ext 20 rfl (by kernel_rfl) rfl ?_
        intro ι U hne hU
        go_big_quiet_op
        clear hU hne U ι
        show wpAnyM _ _ _ _ _ _ _ _ _
        refine mix_quiet Keeps.ext 21 rfl (by kernel_rfl) rfl ?_
        intro ι U hne hU
        go_big_quiet_op
        clear hU hne U ι
        show wpAnyM _ _ _ _ _ _ _ _ _
        refine mix_quiet Keeps.ext 22 rfl (by kernel_rfl) rfl ?_
        intro ι U hne hU
        go_big_quiet_op
        clear hU hne U ι
        show wpAnyM _ _ _ _ _ _ _ _ _
        refine mix_quiet Keeps.ext 23 rfl (by kernel_rfl) rfl ?_
        intro ι U hne hU
        go_big_quiet_op
        clear hU hne U ι
        show wpAnyM _ _ _ _ _ _ _ _ _
        refine mix_quiet Keeps.ext 24 rfl (by kernel_rfl) rfl ?_
        intro ι U hne hU
        have hcw0 := fun ii => (hU ii).cell e0
        have hcw1 := fun ii => (hU ii).cell e1
        have hcw2 := fun ii => (hU ii).cell e2
        have hcw3 := fun ii => (hU ii).cell y0
        have hcw4 := fun ii => (hU ii).cell y1
        have hcw5 := fun ii => (hU ii).cell y2
        go_big_quiet_op
        clear hU hne hcw0 hcw1 hcw2 hcw3 hcw4 hcw5 U ι
        show wpAnyM _ _ _ _ _ _ _ _ _
        refine mix_quiet Keeps.ext 25 rfl (by kernel_rfl) rfl ?_
        intro ι U hne hU
        go_big_quiet_op
        clear hU hne U ι
        show wpAnyM _ _ _ _ _ _ _ _ _
        refine mix_quiet Keeps.ext 26 rfl (by kernel_rfl) rfl ?_
        intro ι U hne hU
        go_big_quiet_op
        clear hU hne U ι
        show wpAnyM _ _ _ _ _ _ _ _ _
        refine mix_quiet Keeps.ext 27 rfl (by kernel_rfl) rfl ?_
        intro ι U hne hU
        go_big_quiet_op
        clear hU hne U ι
        show wpAnyM _ _ _ _ _ _ _ _ _
        refine mix_quiet Keeps.ext 28 rfl (by kernel_rfl) rfl ?_
        intro ι U hne hU
        go_big_quiet_op
        clear hU hne U ι
        show wpAnyM _ _ _ _ _ _ _ _ _
        refine mix_quiet Keeps.ext 29 rfl (by kernel_rfl) rfl ?_
        intro ι U hne hU
        go_big_quiet_op
        clear hU hne U ι
        show wpAnyM _ _ _ _ _ _ _ _ _
        refine mix_quiet Keeps.ext 30 rfl (by kernel_rfl) rfl ?_
        intro ι U hne hU
        go_big_quiet_op
        clear hU hne U ι
        show wpAnyM _ _ _ _ _ _ _ _ _
        refine mix_quiet Keeps.ext 31 rfl (by kernel_rfl) rfl ?_
        intro ι U hne hU
        go_big_quiet_op
        clear hU hne U ι
        show wpAnyM _ _ _ _ _ _ _ _ _
        refine mix_quiet Keeps.ext 32 rfl (by kernel_rfl) rfl ?_
        intro ι U hne hU
        have hcw0 := fun ii => (hU ii).cell e0
        have hcw1 := fun ii => (hU ii).cell e1
        have hcw2 := fun ii => (hU ii).cell e2
        have hcw3 := fun ii => (hU ii).cell y0
        have hcw4 := fun ii => (hU ii).cell y1
        have hcw5 := fun ii => (hU ii).cell y2
        go_big_quiet_op
        clear hU hne hcw0 hcw1 hcw2 hcw3 hcw4 hcw5 U ι
        show wpAnyM _ _ _ _ _ _ _ _ _
        refine mix_quiet Keeps.ext 33 rfl (by kernel_rfl) rfl ?_
        intro ι U hne hU
        go_big_quiet_op
        clear hU hne U ι
        show wpAnyM _ _ _ _ _ _ _ _ _
        refine mix_quiet Keeps.ext 34 rfl (by kernel_rfl) rfl ?_
        intro ι U hne hU
        go_big_quiet_op
        clear hU hne U ι
        show wpAnyM _ _ _ _ _ _ _ _ _
        refine mix_quiet Keeps.ext 35 rfl (by kernel_rfl) rfl ?_
        intro ι U hne hU
        go_big_quiet_op
        clear hU hne U ι
        show wpAnyM _ _ _ _ _ _ _ _ _
        refine mix_end (by kernel_rfl) ?_
        go_wp2_with (first | (at_make; refine Stop.un ?_) | (at_builtin; refine Stop.un ?_) | (with_reducible refine Stop.conv 33 9 ?_) | (with_reducible refine Stop.conv 9 33 ?_))
        go_meet
        exact ⟨Z4, B4⟩
      · subst hb
        rcases hz with ⟨h, hr⟩ | ⟨h, hr⟩
        · simp only [V.zero, V.mk.injEq] at h
          obtain ⟨rfl, rfl, rfl⟩ := h
          rw [canon, if_pos hr] at hY
          simp only [V.mk.injEq] at hY
          obtain ⟨rfl, rfl, rfl⟩ := hY
          rw [hr]
          clear hX hr
          have as0 := fun W => asB_nil W
          have as1 := fun W => asI_nil W
          have as2 := fun W => asS_nil W
          clear r1 r2 r3 r4 x1 x2 x3 x4
          obtain ⟨e0, e1, e2, hz4⟩ := Z4.open_
          obtain ⟨y0, y1, y2, hz5⟩ := Y4.open_
          go_wp2_with (first | (at_make; refine Stop.un ?_) | (at_builtin; refine Stop.un ?_) | (with_reducible refine Stop.conv 33 9 ?_) | (with_reducible refine Stop.conv 9 33 ?_))
          refine mix_startE 36 rfl (by kernel_rfl) ?_
          intro xq hxq
          replace e0 := Ext.cell hxq e0
          replace e1 := Ext.cell hxq e1
          replace e2 := Ext.cell hxq e2
          replace y0 := Ext.cell hxq y0
          replace y1 := Ext.cell hxq y1
          replace y2 := Ext.cell hxq y2
          replace Z4 := VAt.mono Z4 hxq
          replace B4 := Below.next B4 hxq
          clear hxq
          refine mix_quiet Keeps.ext 0 rfl (by kernel_rfl) rfl ?_
          intro ι U hne hU
          go_big_quiet_op
          clear hU hne U ι
          show wpAnyM _ _ _ _ _ _ _ _ _
          refine mix_quiet Keeps.ext 1 rfl (by kernel_rfl) rfl ?_
          intro ι U hne hU
          go_big_quiet_op
          clear hU hne U ι
          show wpAnyM _ _ _ _ _ _ _ _ _
          refine mix_quiet Keeps.ext 2 rfl (by kernel_rfl) rfl ?_
          intro ι U hne hU
          go_big_quiet_op
          clear hU hne U ι
          show wpAnyM _ _ _ _ _ _ _ _ _
          refine mix_quiet Keeps.ext 3 rfl (by kernel_rfl) rfl ?_
          intro ι U hne hU
          have hcw0 := fun ii => (hU ii).cell e0
          have hcw1 := fun ii => (hU ii).cell e1
          have hcw2 := fun ii => (hU ii).cell e2
          have hcw3 := fun ii => (hU ii).cell y0
          have hcw4 := fun ii => (hU ii).cell y1
          have hcw5 := fun ii => (hU ii).cell y2
          go_big_quiet_op
          clear hU hne hcw0 hcw1 hcw2 hcw3 hcw4 hcw5 U ι
          show wpAnyM _ _ _ _ _ _ _ _ _
          refine mix_quiet Keeps.ext 4 rfl (by kernel_rfl) rfl ?_
          intro ι U hne hU
          have hcw0 := fun ii => (hU ii).cell e0
          have hcw1 := fun ii => (hU ii).cell e1
          have hcw2 := fun ii => (hU ii).cell e2
          have hcw3 := fun ii => (hU ii).cell y0
          have hcw4 := fun ii => (hU ii).cell y1
          have hcw5 := fun ii => (hU ii).cell y2
          go_big_quiet_op
          clear hU hne hcw0 hcw1 hcw2 hcw3 hcw4 hcw5 U ι
          show wpAnyM _ _ _ _ _ _ _ _ _
          refine mix_quiet Keeps.ext 5 rfl (by kernel_rfl) rfl ?_
          intro ι U hne hU
          refine quiet_as _ (exec_neV ⟨_, _, _⟩ ⟨_, _, _⟩ rfl rfl) (hne.elim fun ii => ⟨_, ii, rfl⟩) ?_
          go_big_quiet_op
          clear hU hne U ι
          show wpAnyM _ _ _ _ _ _ _ _ _
          rw [eqV_self, Bool.not_true]
          refine mix_quiet Keeps.ext 6 rfl (by kernel_rfl) rfl ?_
          intro ι U hne hU
          go_big_quiet_op
          clear hU hne U ι
          show wpAnyM _ _ _ _ _ _ _ _ _
          refine mix_quiet Keeps.ext 7 rfl (by kernel_rfl) rfl ?_
          intro ι U hne hU
          go_big_quiet_op
          clear hU hne U ι
          show wpAnyM _ _ _ _ _ _ _ _ _
          refine mix_quiet Keeps.ext 8 rfl (by kernel_rfl) rfl ?_
          intro ι U hne hU
          go_big_quiet_op
          clear hU hne U ι
          show wpAnyM _ _ _ _ _ _ _ _ _
          refine mix_quiet Keeps.ext 9 rfl (by kernel_rfl) rfl ?_
          intro ι U hne hU
          go_big_quiet_op
          clear hU hne U ι
          show wpAnyM _ _ _ _ _ _ _ _ _
          refine mix_quiet Keeps.ext 10 rfl (by kernel_rfl) rfl ?_
          intro ι U hne hU
          have hcw0 := fun ii => (hU ii).cell e0
          have hcw1 := fun ii => (hU ii).cell e1
          have hcw2 := fun ii => (hU ii).cell e2
          have hcw3 := fun ii => (hU ii).cell y0
          have hcw4 := fun ii => (hU ii).cell y1
          have hcw5 := fun ii => (hU ii).cell y2
          go_big_quiet_op
          clear hU hne hcw0 hcw1 hcw2 hcw3 hcw4 hcw5 U ι
          show wpAnyM _ _ _ _ _ _ _ _ _
          refine mix_quiet Keeps.ext 11 rfl (by kernel_rfl) rfl ?_
          intro ι U hne hU
          go_big_quiet_op
          clear hU hne U ι
          show wpAnyM _ _ _ _ _ _ _ _ _
          refine mix_quiet Keeps.ext 12 rfl (by kernel_rfl) rfl ?_
          intro ι U hne hU
          go_big_quiet_op
          clear hU hne U ι
          show wpAnyM _ _ _ _ _ _ _ _ _
          refine mix_quiet Keeps.ext 13 rfl (by kernel_rfl) rfl ?_
          intro ι U hne hU
          go_big_quiet_op
          clear hU hne U ι
          show wpAnyM _ _ _ _ _ _ _ _ _
          refine mix_quiet Keeps.ext 14 rfl (by kernel_rfl) rfl ?_
          intro ι U hne hU
          go_big_quiet_op
          clear hU hne U ι
          show wpAnyM _ _ _ _ _ _ _ _ _
          refine mix_quiet Keeps.ext 15 rfl (by kernel_rfl) rfl ?_
          intro ι U hne hU
          go_big_quiet_op
          clear hU hne U ι
          show wpAnyM _ _ _ _ _ _ _ _ _
          refine mix_quiet Keeps.ext 16 rfl (by kernel_rfl) rfl ?_
          intro ι U hne hU
          go_big_quiet_op
          clear hU hne U ι
          show wpAnyM _ _ _ _ _ _ _ _ _
          refine mix_quiet Keeps.ext 17 rfl (by kernel_rfl) rfl ?_
          intro ι U hne hU
          have hcw0 := fun ii => (hU ii).cell e0
          have hcw1 := fun ii => (hU ii).cell e1
          have hcw2 := fun ii => (hU ii).cell e2
          have hcw3 := fun ii => (hU ii).cell y0
          have hcw4 := fun ii => (hU ii).cell y1
          have hcw5 := fun ii => (hU ii).cell y2
          go_big_quiet_op
          clear hU hne hcw0 hcw1 hcw2 hcw3 hcw4 hcw5 U ι
          show wpAnyM _ _ _ _ _ _ _ _ _
          refine mix_quiet Keeps.ext 18 rfl (by kernel_rfl) rfl ?_
          intro ι U hne hU
          go_big_quiet_op
          clear hU hne U ι
          show wpAnyM _ _ _ _ _ _ _ _ _
          refine mix_quiet Keeps.ext 19 rfl (by kernel_rfl) rfl ?_
          intro ι U hne hU
          go_big_quiet_op
          clear hU hne U ι
          show wpAnyM _ _ _ _ _ _ _ _ _
          refine mix_quiet Keeps.ext 20 rfl (by kernel_rfl) rfl ?_
          intro ι U hne hU
          go_big_quiet_op
          clear hU hne U ι
          show wpAnyM _ _ _ _ _ _ _ _ _
          refine mix_quiet Keeps.ext 21 rfl (by kernel_rfl) rfl ?_
          intro ι U hne hU
          go_big_quiet_op
          clear hU hne U ι
          show wpAnyM _ _ _ _ _ _ _ _ _
          refine mix_quiet Keeps.ext 22 rfl (by kernel_rfl) rfl ?_
          intro ι U hne hU
          go_big_quiet_op
          clear hU hne U ι
          show wpAnyM _ _ _ _ _ _ _ _ _
          refine mix_quiet Keeps.ext 23 rfl (by kernel_rfl) rfl ?_
          intro ι U hne hU
          go_big_quiet_op
          clear hU hne U ι
          show wpAnyM _ _ _ _ _ _ _ _ _
          refine mix_quiet Keeps.ext 24 rfl (by kernel_rfl) rfl ?_
          intro ι U hne hU
          have hcw0 := fun ii => (hU ii).cell e0
          have hcw1 := fun ii => (hU ii).cell e1
          have hcw2 := fun ii => (hU ii).cell e2
          have hcw3 := fun ii => (hU ii).cell y0
          have hcw4 := fun ii => (hU ii).cell y1
          have hcw5 := fun ii => (hU ii).cell y2
          go_big_quiet_op
          clear hU hne hcw0 hcw1 hcw2 hcw3 hcw4 hcw5 U ι
          show wpAnyM _ _ _ _ _ _ _ _ _
          refine mix_quiet Keeps.ext 25 rfl (by kernel_rfl) rfl ?_
          intro ι U hne hU
          go_big_quiet_op
          clear hU hne U ι
          show wpAnyM _ _ _ _ _ _ _ _ _
          refine mix_quiet Keeps.ext 26 rfl (by kernel_rfl) rfl ?_
          intro ι U hne hU
          go_big_quiet_op
          clear hU hne U ι
          show wpAnyM _ _ _ _ _ _ _ _ _
          refine mix_quiet Keeps.ext 27 rfl (by kernel_rfl) rfl ?_
          intro ι U hne hU
          go_big_quiet_op
          clear hU hne U ι
          show wpAnyM _ _ _ _ _ _ _ _ _
          refine mix_quiet Keeps.ext 28 rfl (by kernel_rfl) rfl ?_
          intro ι U hne hU
          go_big_quiet_op
          clear hU hne U ι
          show wpAnyM _ _ _ _ _ _ _ _ _
          refine mix_quiet Keeps.ext 29 rfl (by kernel_rfl) rfl ?_
          intro ι U hne hU
          go_big_quiet_op
          clear hU hne U ι
          show wpAnyM _ _ _ _ _ _ _ _ _
          refine mix_quiet Keeps.ext 30 rfl (by kernel_rfl) rfl ?_
          intro ι U hne hU
          go_big_quiet_op
          clear hU hne U ι
          show wpAnyM _ _ _ _ _ _ _ _ _
          refine mix_quiet Keeps.ext 31 rfl (by kernel_rfl) rfl ?_
          intro ι U hne hU
          go_big_quiet_op
          clear hU hne U ι
          show wpAnyM _ _ _ _ _ _ _ _ _
          refine mix_quiet Keeps.ext 32 rfl (by kernel_rfl) rfl ?_
          intro ι U hne hU
          have hcw0 := fun ii => (hU ii).cell e0
          have hcw1 := fun ii => (hU ii).cell e1
          have hcw2 := fun ii => (hU ii).cell e2
          have hcw3 := fun ii => (hU ii).cell y0
          have hcw4 := fun ii => (hU ii).cell y1
          have hcw5 := fun ii => (hU ii).cell y2
          go_big_quiet_op
          clear hU hne hcw0 hcw1 hcw2 hcw3 hcw4 hcw5 U ι
          show wpAnyM _ _ _ _ _ _ _ _ _
          refine mix_quiet Keeps.ext 33 rfl (by kernel_rfl) rfl ?_
          intro ι U hne hU
          go_big_quiet_op
          clear hU hne U ι
          show wpAnyM _ _ _ _ _ _ _ _ _
          refine mix_quiet Keeps.ext 34 rfl (by kernel_rfl) rfl ?_
          intro ι U hne hU
          go_big_quiet_op
          clear hU hne U ι
          show wpAnyM _ _ _ _ _ _ _ _ _
          refine mix_quiet Keeps.ext 35 rfl (by kernel_rfl) rfl ?_
          intro ι U hne hU
          go_big_quiet_op
          clear hU hne U ι
          show wpAnyM _ _ _ _ _ _ _ _ _
          refine mix_end (by kernel_rfl) ?_
          go_wp2_with (first | (at_make; refine Stop.un ?_) | (at_builtin; refine Stop.un ?_) | (with_reducible refine Stop.conv 33 9 ?_) | (with_reducible refine Stop.conv 9 33 ?_))
          go_meet
          exact ⟨Z4, B4⟩
        · rw [hr]
          clear r1 r2 r3 r4 x1 x2 x3 x4 hX hY hr h
          go_wp2_with (first | (at_make; refine Stop.un ?_) | (at_builtin; refine Stop.un ?_) | (with_reducible refine Stop.conv 33 9 ?_) | (with_reducible refine Stop.conv 9 33 ?_))
          go_meet
          exact ⟨Z4, B4⟩
    case rest =>
      obtain ⟨Z5, B5⟩ := hcut
      clear Z4 B4 Y4 HBX HX HY HXX HU
      go_upto_region 14 with fail
      go_cut [105, 106, 107] (fun x y z wx => ∃ (g : Nat) (LL : List Value), x = .slice (some ⟨g, 0, none⟩) 7 7 ∧ y = .int .i64 7 ∧ z = .int .i64 0 ∧ Cs wx (some ⟨g, 0, none⟩) LL ∧ Hid (LL.length = 7 ∧ ∀ x ∈ LL, NoVal x) ∧ Below w.heap.size w wx)
      case first =>
        obtain ⟨e0, e1, e2, hz4⟩ := Z5.open_
        refine mix_startE 23 rfl (by kernel_rfl) ?_
        intro xq hxq
        replace e0 := Ext.cell hxq e0
        replace e1 := Ext.cell hxq e1
        replace e2 := Ext.cell hxq e2
        replace Z5 := VAt.mono Z5 hxq
        replace B5 := Below.next B5 hxq
        clear hxq
        refine mix_quiet Keeps.ext 0 rfl (by kernel_rfl) rfl ?_
        intro ι U hne hU
        have hcw0 := fun ii => (hU ii).cell e0
        have hcw1 := fun ii => (hU ii).cell e1
        have hcw2 := fun ii => (hU ii).cell e2
        go_big_quiet_op
        clear hU hne hcw0 hcw1 hcw2 U ι
        show wpAnyM _ _ _ _ _ _ _ _ _
        refine mix_quiet Keeps.ext 1 rfl (by kernel_rfl) rfl ?_
        intro ι U hne hU
        go_big_quiet_op
        clear hU hne U ι
        show wpAnyM _ _ _ _ _ _ _ _ _
        refine mix_quiet Keeps.ext 2 rfl (by kernel_rfl) rfl ?_
        intro ι U hne hU
        go_big_quiet_op
        clear hU hne U ι
        show wpAnyM _ _ _ _ _ _ _ _ _
        refine mix_quiet Keeps.ext 3 rfl (by kernel_rfl) rfl ?_
        intro ι U hne hU
        go_big_quiet_op
        clear hU hne U ι
        show wpAnyM _ _ _ _ _ _ _ _ _
        refine mix_quiet Keeps.ext 4 rfl (by kernel_rfl) rfl ?_
        intro ι U hne hU
        have hcw0 := fun ii => (hU ii).cell e0
        have hcw1 := fun ii => (hU ii).cell e1
        have hcw2 := fun ii => (hU ii).cell e2
        go_big_quiet_op
        clear hU hne hcw0 hcw1 hcw2 U ι
        show wpAnyM _ _ _ _ _ _ _ _ _
        refine mix_quiet Keeps.ext 7 rfl (by kernel_rfl) rfl ?_
        intro ι U hne hU
        go_big_quiet_op
        clear hU hne U ι
        show wpAnyM _ _ _ _ _ _ _ _ _
        refine mix_quiet Keeps.ext 8 rfl (by kernel_rfl) rfl ?_
        intro ι U hne hU
        have hcw0 := fun ii => (hU ii).cell e0
        have hcw1 := fun ii => (hU ii).cell e1
        have hcw2 := fun ii => (hU ii).cell e2
        go_big_quiet_op
        clear hU hne hcw0 hcw1 hcw2 U ι
        show wpAnyM _ _ _ _ _ _ _ _ _
        refine mix_quiet Keeps.ext 9 rfl (by kernel_rfl) rfl ?_
        intro ι U hne hU
        go_big_quiet_op
        clear hU hne U ι
        show wpAnyM _ _ _ _ _ _ _ _ _
        refine mix_quiet Keeps.ext 10 rfl (by kernel_rfl) rfl ?_
        intro ι U hne hU
        go_big_quiet_op
        clear hU hne U ι
        show wpAnyM _ _ _ _ _ _ _ _ _
        refine mix_quiet Keeps.ext 11 rfl (by kernel_rfl) rfl ?_
        intro ι U hne hU
        have hcw0 := fun ii => (hU ii).cell e0
        have hcw1 := fun ii => (hU ii).cell e1
        have hcw2 := fun ii => (hU ii).cell e2
        go_big_quiet_op
        clear hU hne hcw0 hcw1 hcw2 U ι
        show wpAnyM _ _ _ _ _ _ _ _ _
        refine mix_quiet Keeps.ext 12 rfl (by kernel_rfl) rfl ?_
        intro ι U hne hU
        go_big_quiet_op
        clear hU hne U ι
        show wpAnyM _ _ _ _ _ _ _ _ _
        refine mix_quiet Keeps.ext 13 rfl (by kernel_rfl) rfl ?_
        intro ι U hne hU
        go_big_quiet_op
        clear hU hne U ι
        show wpAnyM _ _ _ _ _ _ _ _ _
        refine mix_quiet Keeps.ext 14 rfl (by kernel_rfl) rfl ?_
        intro ι U hne hU
        go_big_quiet_op
        clear hU hne U ι
        show wpAnyM _ _ _ _ _ _ _ _ _
        refine mix_quiet Keeps.ext 15 rfl (by kernel_rfl) rfl ?_
        intro ι U hne hU
        have hcw0 := fun ii => (hU ii).cell e0
        have hcw1 := fun ii => (hU ii).cell e1
        have hcw2 := fun ii => (hU ii).cell e2
        go_big_quiet_op
        clear hU hne hcw0 hcw1 hcw2 U ι
        show wpAnyM _ _ _ _ _ _ _ _ _
        refine mix_quiet Keeps.ext 22 rfl (by kernel_rfl) rfl ?_
        intro ι U hne hU
        go_big_quiet_op
        clear hU hne U ι
        show wpAnyM _ _ _ _ _ _ _ _ _
        obtain ⟨zz, hzz⟩ : ∃ zz : List UInt8, zz = List.replicate 1025 0 := ⟨_, rfl⟩
        have hzl : zz.length = 1025 := by rw [hzz, List.length_replicate]
        have HZZ := Lib.hid hzz
        have HZL := Lib.hid hzl
        have hadd : ¬ 9223372036854775807 < s.size + (strOf zz).size := by rw [strOf_size, hzl]; omega
        clear hzz hzl
        refine mix_two 5 16 rfl rfl (by kernel_rfl) rfl rfl ?_ ?_
        ·
          go_wp2_with (first | (at_make; refine Stop.un ?_) | (at_builtin; refine Stop.un ?_) | (with_reducible refine Stop.conv 33 9 ?_) | (with_reducible refine Stop.conv 9 33 ?_))
          refine Stop.mk (wpList_tobytes Try.underlying9 Try.underlying33 Try.underlying5 _ rfl rfl rfl ?_)
          intro a7 c7 w7 _ b7
          go_wp2_with (first | (at_make; refine Stop.un ?_) | (at_builtin; refine Stop.un ?_) | (with_reducible refine Stop.conv 33 9 ?_) | (with_reducible refine Stop.conv 9 33 ?_))
          refine MixPost.mk b7 ?_
          replace e0 := Ext.cell b7 e0
          replace e1 := Ext.cell b7 e1
          replace e2 := Ext.cell b7 e2
          replace Z5 := VAt.mono Z5 b7
          replace B5 := Below.next B5 b7
          clear b7
          refine mix_quiet Keeps.ext 6 rfl (by kernel_rfl) rfl ?_
          intro ι U hne hU
          go_big_quiet_op
          clear hU hne U ι
          show wpAnyM _ _ _ _ _ _ _ _ _
          refine mix_any 16 rfl (by kernel_rfl) rfl ?_
          go_wp2_with (first | (at_make; refine Stop.un ?_) | (at_builtin; refine Stop.un ?_) | (with_reducible refine Stop.conv 33 9 ?_) | (with_reducible refine Stop.conv 9 33 ?_))
          obtain ⟨i0, hi, hz0, hz1, hz2⟩ := info_parts Try.infoU8
          refine Stop.mk (wpList_make_full _ rfl _ _ 33 rfl _ 5 i0 (.int .u8 0) 1 Try.underlying33 hi hz0 hz1 _ _ _ _ 1025 rfl rfl rfl rfl (by rw [hz2]; omega) (by unfold maxLen; omega) (Nat.le_refl _) ?_)
          intro w8 o8 g8
          have b8 : Below _ _ w8 := (Below.refl _ _).grown g8 (Nat.le_refl _) (fun _ h => by cases h)
          have k8 := owns_cs o8
          rw [show (madeCells (Value.int .u8 0).cells (1025 * 1)).toList = bcells zz from by rw [HZZ.out]; simp [bcells, Value.cells, toList_madeCells_one]] at k8
          go_wp2_with (first | (at_make; refine Stop.un ?_) | (at_builtin; refine Stop.un ?_) | (with_reducible refine Stop.conv 33 9 ?_) | (with_reducible refine Stop.conv 9 33 ?_))
          refine MixPost.mk b8 ?_
          replace e0 := Ext.cell b8 e0
          replace e1 := Ext.cell b8 e1
          replace e2 := Ext.cell b8 e2
          replace Z5 := VAt.mono Z5 b8
          replace B5 := Below.next B5 b8
          clear b8 o8 g8 hi hz0 hz1 hz2 i0
          refine mix_quiet Keeps.ext 17 rfl (by kernel_rfl) rfl ?_
          intro ι U hne hU
          have hcv := fun ii => run_conv_cs (P := Try.prog) (w := U ii) Try.underlying33 Try.underlying5 Try.underlying9 (cap := 1025) HZL.out (Cs.mono k8 (hU ii) (Nat.le_refl _))
          go_big_quiet_op
          clear hU hne hcv U ι
          show wpAnyM _ _ _ _ _ _ _ _ _
          clear k8
          refine mix_quiet Keeps.ext 18 rfl (by kernel_rfl) rfl ?_
          intro ι U hne hU
          go_big_quiet_op
          clear hU hne U ι
          show wpAnyM _ _ _ _ _ _ _ _ _
          refine mix_quiet Keeps.ext 19 rfl (by kernel_rfl) rfl ?_
          intro ι U hne hU
          go_big_quiet_op
          clear hU hne U ι
          show wpAnyM _ _ _ _ _ _ _ _ _
          refine mix_any 20 rfl (by kernel_rfl) rfl ?_
          go_wp2_with (first | (at_make; refine Stop.un ?_) | (at_builtin; refine Stop.un ?_) | (with_reducible refine Stop.conv 33 9 ?_) | (with_reducible refine Stop.conv 9 33 ?_))
          refine MixPost.mk ((Below.refl _ _).alloc (Nat.le_refl _) _) ?_
          refine mix_quiet Keeps.ext 21 rfl (by kernel_rfl) rfl ?_
          intro ι U hne hU
          go_big_quiet_op
          clear hU hne U ι
          show wpAnyM _ _ _ _ _ _ _ _ _
          refine mix_end (by kernel_rfl) ?_
          go_wp2_with (first | (at_make; refine Stop.un ?_) | (at_builtin; refine Stop.un ?_) | (with_reducible refine Stop.conv 33 9 ?_) | (with_reducible refine Stop.conv 9 33 ?_))
          go_meet
          refine ⟨w8.heap.size, _, rfl, rfl, rfl, Own.cs (Own.block (w0 := w8) (w := w8) (e := 20) (size := 1) (n := 7) (Below.refl _ _) rfl (by decide)), Lib.hid ⟨rfl, ?_⟩, B5.next ((Below.refl _ _).alloc (Nat.le_refl _) _)⟩
          intro x hx
          simp only [List.mem_cons, List.not_mem_nil, or_false] at hx
          rcases hx with rfl | rfl | rfl | rfl | rfl | rfl | rfl
          · exact .inl ⟨_, _, rfl, by decide, by decide, by decide⟩
          · exact .inl ⟨_, _, rfl, by decide, by decide, by decide⟩
          · exact .inl ⟨_, _, rfl, by decide, by decide, by decide⟩
          · exact .inl ⟨_, _, rfl, by decide, by decide, by decide⟩
          · exact .inl ⟨_, _, rfl, by decide, by decide, by decide⟩
          · exact .inl ⟨_, _, rfl, by decide, by decide, by decide⟩
          · exact .inr ⟨_, rfl, by rw [ByteArray.size_append, strOf_size, HZL.out]; omega⟩
        ·
          go_wp2_with (first | (at_make; refine Stop.un ?_) | (at_builtin; refine Stop.un ?_) | (with_reducible refine Stop.conv 33 9 ?_) | (with_reducible refine Stop.conv 9 33 ?_))
          obtain ⟨i0, hi, hz0, hz1, hz2⟩ := info_parts Try.infoU8
          refine Stop.mk (wpList_make_full _ rfl _ _ 33 rfl _ 5 i0 (.int .u8 0) 1 Try.underlying33 hi hz0 hz1 _ _ _ _ 1025 rfl rfl rfl rfl (by rw [hz2]; omega) (by unfold maxLen; omega) (Nat.le_refl _) ?_)
          intro w8 o8 g8
          have b8 : Below _ _ w8 := (Below.refl _ _).grown g8 (Nat.le_refl _) (fun _ h => by cases h)
          have k8 := owns_cs o8
          rw [show (madeCells (Value.int .u8 0).cells (1025 * 1)).toList = bcells zz from by rw [HZZ.out]; simp [bcells, Value.cells, toList_madeCells_one]] at k8
          go_wp2_with (first | (at_make; refine Stop.un ?_) | (at_builtin; refine Stop.un ?_) | (with_reducible refine Stop.conv 33 9 ?_) | (with_reducible refine Stop.conv 9 33 ?_))
          refine MixPost.mk b8 ?_
          replace e0 := Ext.cell b8 e0
          replace e1 := Ext.cell b8 e1
          replace e2 := Ext.cell b8 e2
          replace Z5 := VAt.mono Z5 b8
          replace B5 := Below.next B5 b8
          clear b8 o8 g8 hi hz0 hz1 hz2 i0
          refine mix_quiet Keeps.ext 17 rfl (by kernel_rfl) rfl ?_
          intro ι U hne hU
          have hcv := fun ii => run_conv_cs (P := Try.prog) (w := U ii) Try.underlying33 Try.underlying5 Try.underlying9 (cap := 1025) HZL.out (Cs.mono k8 (hU ii) (Nat.le_refl _))
          go_big_quiet_op
          clear hU hne hcv U ι
          show wpAnyM _ _ _ _ _ _ _ _ _
          clear k8
          refine mix_quiet Keeps.ext 18 rfl (by kernel_rfl) rfl ?_
          intro ι U hne hU
          go_big_quiet_op
          clear hU hne U ι
          show wpAnyM _ _ _ _ _ _ _ _ _
          refine mix_quiet Keeps.ext 19 rfl (by kernel_rfl) rfl ?_
          intro ι U hne hU
          go_big_quiet_op
          clear hU hne U ι
          show wpAnyM _ _ _ _ _ _ _ _ _
          refine mix_any 5 rfl (by kernel_rfl) rfl ?_
          go_wp2_with (first | (at_make; refine Stop.un ?_) | (at_builtin; refine Stop.un ?_) | (with_reducible refine Stop.conv 33 9 ?_) | (with_reducible refine Stop.conv 9 33 ?_))
          refine Stop.mk (wpList_tobytes Try.underlying9 Try.underlying33 Try.underlying5 _ rfl rfl rfl ?_)
          intro a7 c7 w7 _ b7
          go_wp2_with (first | (at_make; refine Stop.un ?_) | (at_builtin; refine Stop.un ?_) | (with_reducible refine Stop.conv 33 9 ?_) | (with_reducible refine Stop.conv 9 33 ?_))
          refine MixPost.mk b7 ?_
          replace e0 := Ext.cell b7 e0
          replace e1 := Ext.cell b7 e1
          replace e2 := Ext.cell b7 e2
          replace Z5 := VAt.mono Z5 b7
          replace B5 := Below.next B5 b7
          clear b7
          refine mix_quiet Keeps.ext 6 rfl (by kernel_rfl) rfl ?_
          intro ι U hne hU
          go_big_quiet_op
          clear hU hne U ι
          show wpAnyM _ _ _ _ _ _ _ _ _
          refine mix_any 20 rfl (by kernel_rfl) rfl ?_
          go_wp2_with (first | (at_make; refine Stop.un ?_) | (at_builtin; refine Stop.un ?_) | (with_reducible refine Stop.conv 33 9 ?_) | (with_reducible refine Stop.conv 9 33 ?_))
          refine MixPost.mk ((Below.refl _ _).alloc (Nat.le_refl _) _) ?_
          refine mix_quiet Keeps.ext 21 rfl (by kernel_rfl) rfl ?_
          intro ι U hne hU
          go_big_quiet_op
          clear hU hne U ι
          show wpAnyM _ _ _ _ _ _ _ _ _
          refine mix_end (by kernel_rfl) ?_
          go_wp2_with (first | (at_make; refine Stop.un ?_) | (at_builtin; refine Stop.un ?_) | (with_reducible refine Stop.conv 33 9 ?_) | (with_reducible refine Stop.conv 9 33 ?_))
          go_meet
          refine ⟨w7.heap.size, _, rfl, rfl, rfl, Own.cs (Own.block (w0 := w7) (w := w7) (e := 20) (size := 1) (n := 7) (Below.refl _ _) rfl (by decide)), Lib.hid ⟨rfl, ?_⟩, B5.next ((Below.refl _ _).alloc (Nat.le_refl _) _)⟩
          intro x hx
          simp only [List.mem_cons, List.not_mem_nil, or_false] at hx
          rcases hx with rfl | rfl | rfl | rfl | rfl | rfl | rfl
          · exact .inl ⟨_, _, rfl, by decide, by decide, by decide⟩
          · exact .inl ⟨_, _, rfl, by decide, by decide, by decide⟩
          · exact .inl ⟨_, _, rfl, by decide, by decide, by decide⟩
          · exact .inl ⟨_, _, rfl, by decide, by decide, by decide⟩
          · exact .inl ⟨_, _, rfl, by decide, by decide, by decide⟩
          · exact .inl ⟨_, _, rfl, by decide, by decide, by decide⟩
          · exact .inr ⟨_, rfl, by rw [ByteArray.size_append, strOf_size, HZL.out]; omega⟩
      case rest =>
        obtain ⟨g, LL, rfl, rfl, rfl, kc, HL, B6⟩ := hcut
        clear Z5 B5
        obtain ⟨W8, rfl⟩ : ∃ W8 : World, W8 = wc := ⟨_, rfl⟩
        go_wp2_with fail
        go_loopw [107] (fun i wr => ∃ j : Nat, j ≤ 7 ∧ i = .int .i64 (j : Int) ∧ Below W8.heap.size W8 wr) (fun i _ => 7 - (intOf i).toNat)
        case atStart => exact ⟨0, by omega, rfl, Below.refl _ _⟩
        case round =>
          obtain ⟨j, hj, rfl, hb⟩ := hrel
          by_cases hlt : j < 7
          · have hjl : j < LL.length := by have := HL.out.1; omega
            have hcell := (kc.mono hb (Nat.le_refl _)).at (j := j) (List.getElem?_eq_getElem hjl)
            have hx := HL.out.2 LL[j] (List.getElem_mem _)
            rw [Nat.zero_add] at hcell
            generalize LL[j] = x at hcell hx
            have HX := Lib.hid hx
            clear hjl hx
            go_wp2_with (first | (at_make; refine Stop.un ?_) | (at_builtin; refine Stop.un ?_) | (with_reducible refine Stop.conv 33 9 ?_) | (with_reducible refine Stop.conv 9 33 ?_))
            refine (unbox_bad HX.out _).mono ?_
            rintro e w9 ⟨rfl, b9⟩
            simp only [V.val, V.zero]
            have b10 := (hb.next b9).next ((Below.refl w9.heap.size w9).alloc (Nat.le_refl _) (.cells #[.int .u8 0, .int .i64 0, .string ByteArray.empty] 23))
            obtain ⟨e0, e1, e2, hz⟩ := (VAt.new w9 V.zero).open_
            simp only [V.zero] at e0 e1 e2
            clear hb b9 hcell
            go_wp2_with (first | (at_make; refine Stop.un ?_) | (at_builtin; refine Stop.un ?_) | (with_reducible refine Stop.conv 33 9 ?_) | (with_reducible refine Stop.conv 9 33 ?_) | (with_reducible refine Stop.eql 23 ?_) | (with_reducible refine Stop.neq 23 ?_))
            refine Stop.mk (wpList_as _ rfl (exec_neV V.zero V.zero rfl rfl _) ?_)
            rw [eqV_self, Bool.not_true]
            clear e0 e1 e2 hz
            go_wp2_with (first | (at_make; refine Stop.un ?_) | (at_builtin; refine Stop.un ?_) | (with_reducible refine Stop.conv 33 9 ?_) | (with_reducible refine Stop.conv 9 33 ?_))
            go_roundw
            case rel => exact ⟨j + 1, by omega, by go_num, b10⟩
            case measure => simp [intOf]; omega
          · have hge : j = 7 := by omega
            subst hge
            have B7 := B6.next hb
            clear hlt hj hb kc B6
            go_wp2_with (first | (at_make; refine Stop.un ?_) | (at_builtin; refine Stop.un ?_) | (with_reducible refine Stop.conv 33 9 ?_) | (with_reducible refine Stop.conv 9 33 ?_))
            go_ret
            exact ⟨rfl, B7⟩
  · have hl : 3000 < s.size := by omega
    clear hlong
    go_wp2_with (first | (at_make; refine Stop.un ?_) | (at_builtin; refine Stop.un ?_) | (with_reducible refine Stop.conv 33 9 ?_) | (with_reducible refine Stop.conv 9 33 ?_))
    go_ret
    exact ⟨rfl, B⟩
end Go.Proofs.Ytbikcjjbdgmhpaa
