/- CellTruths. -/
import Derived.Test.YtbikcjjbdgmhpaaShown4
set_option linter.unusedVariables false
namespace Go.Proofs.Ytbikcjjbdgmhpaa
open Go.RowKit
theorem andT_yes {a : Int} (h : 0 ≤ a) : andT a 2 = knownT a := by have := knownT_range h; unfold andT; rw [show knownT 2 = 2 from by decide]; omega
theorem knownT_knownT {a : Int} (h : 0 ≤ a) : knownT (knownT a) = knownT a := by unfold knownT; split <;> (try split) <;> omega
theorem notT_notT {a : Int} (h : 0 ≤ a) : notT (notT a) = knownT a := by unfold notT knownT; split <;> (try split) <;> omega
theorem notT_range {a : Int} (h : 0 ≤ a) : 0 ≤ notT a ∧ notT a ≤ 2 := by have := knownT_range h; unfold notT; omega
theorem andT_range {a b : Int} (h : 0 ≤ a) (k : 0 ≤ b) : 0 ≤ andT a b ∧ andT a b ≤ 2 := by have := knownT_range h; have := knownT_range k; unfold andT; omega
theorem orT_range {a b : Int} (h : 0 ≤ a) (k : 0 ≤ b) : 0 ≤ orT a b ∧ orT a b ≤ 2 := by have := knownT_range h; have := knownT_range k; unfold orT; omega
theorem knownT_small {a : Int} (h : a ≤ 2) : knownT a = a := by unfold knownT; rw [if_neg (by omega)]
theorem deMorgan {a b : Int} (h : 0 ≤ a) (k : 0 ≤ b) : notT (andT a b) = orT (notT a) (notT b) := by
  have h1 := andT_range h k
  have h2 := notT_range h
  have h3 := notT_range k
  have h4 := knownT_range h
  have h5 := knownT_range k
  unfold orT
  rw [knownT_small h2.2, knownT_small h3.2]
  unfold notT
  rw [knownT_small h1.2]
  unfold andT
  omega
theorem distrib {x y z : Int} (hx : 0 ≤ x ∧ x ≤ 2) (hy : 0 ≤ y ∧ y ≤ 2) (hz : 0 ≤ z ∧ z ≤ 2) : andT x (orT y z) = orT (andT x y) (andT x z) := by
  have h1 := orT_range hy.1 hz.1
  have h2 := andT_range hx.1 hy.1
  have h3 := andT_range hx.1 hz.1
  unfold andT orT at *
  rw [knownT_small hx.2, knownT_small hy.2, knownT_small hz.2] at *
  rw [knownT_small h1.2, knownT_small h2.2, knownT_small h3.2]
  omega
theorem orT_no {a : Int} (h : 0 ≤ a) : orT a 0 = knownT a := by have := knownT_range h; unfold orT; rw [show knownT 0 = 0 from by decide]; omega
theorem andT_no {a : Int} (h : 0 ≤ a) : andT a 0 = 0 := by have := knownT_range h; unfold andT; rw [show knownT 0 = 0 from by decide]; omega
set_option maxRecDepth 100000 in
set_option maxHeartbeats 4000000 in
theorem cellTruths_any (a b c : Int) (w : World) (ha : 0 ≤ a) (hb : 0 ≤ b) (hc : 0 ≤ c) :
    Calls Try.prog 4 #[.int .u8 a, .int .u8 b, .int .u8 c] w (fun e w' => e = .returned (.bool true) ∧ Below w.heap.size w w') := by
  have kx := knownT_range ha
  have ky := knownT_range hb
  have kz := knownT_range hc
  have hx2 : knownT a ≤ 2 := kx.2
  have HD := Lib.hid (distrib kx ky kz)
  have HM := Lib.hid (deMorgan ha hb)
  have HX := Lib.hid (notT_notT ha)
  have A1 := Lib.hid (fun W => and_any a 2 W)
  have A2 := Lib.hid (fun W => and_any b 2 W)
  have A3 := Lib.hid (fun W => and_any c 2 W)
  rw [andT_yes ha] at A1
  rw [andT_yes hb] at A2
  rw [andT_yes hc] at A3
  have N1 := Lib.hid (fun W => not_any (notT a) W (notT_range ha).1)
  rw [notT_notT ha] at N1
  have N2 := Lib.hid (fun W => not_any (andT a b) W (andT_range ha hb).1)
  rw [deMorgan ha hb] at N2
  have D1 := Lib.hid (fun W => and_any (knownT a) (orT (knownT b) (knownT c)) W)
  rw [HD.out] at D1
  have O1 := Lib.hid (fun W => or2_any a 0 W)
  rw [orT_no ha] at O1
  have O2 := Lib.hid (fun W => and_any a 0 W)
  rw [andT_no ha] at O2
  generalize hX : knownT a = x at *
  generalize hY : knownT b = y at *
  generalize hZ : knownT c = z at *
  have HHX := Lib.hid hX
  have HHY := Lib.hid hY
  have HHZ := Lib.hid hZ
  clear hX hY hZ HD HM HX kx ky kz
  have q1 : (andT a b != andT a b) = false := by simp
  have q2 : (orT a b != orT a b) = false := by simp
  have q3 : (notT a != notT a) = false := by simp
  go_enter Try.func4, Try.ntmps4
  go_wp2_with (first | (at_make; refine Stop.un ?_) | (at_builtin; refine Stop.un ?_) | (with_reducible refine Stop.conv 33 9 ?_) | (with_reducible refine Stop.conv 9 33 ?_))
  refine (A1.out _).mono ?_
  rintro e wq ⟨rfl, rfl⟩
  go_wp2_with (first | (at_make; refine Stop.un ?_) | (at_builtin; refine Stop.un ?_) | (with_reducible refine Stop.conv 33 9 ?_) | (with_reducible refine Stop.conv 9 33 ?_))
  refine (A2.out _).mono ?_
  rintro e wq ⟨rfl, rfl⟩
  go_wp2_with (first | (at_make; refine Stop.un ?_) | (at_builtin; refine Stop.un ?_) | (with_reducible refine Stop.conv 33 9 ?_) | (with_reducible refine Stop.conv 9 33 ?_))
  refine (A3.out _).mono ?_
  rintro e wq ⟨rfl, rfl⟩
  go_wp2_with (first | (at_make; refine Stop.un ?_) | (at_builtin; refine Stop.un ?_) | (with_reducible refine Stop.conv 33 9 ?_) | (with_reducible refine Stop.conv 9 33 ?_))
  refine (shown_any _).mono ?_
  rintro e w1 ⟨rfl, b1⟩
  go_wp2_with (first | (at_make; refine Stop.un ?_) | (at_builtin; refine Stop.un ?_) | (with_reducible refine Stop.conv 33 9 ?_) | (with_reducible refine Stop.conv 9 33 ?_))
  refine (and_any a b _).mono ?_
  rintro e wq ⟨rfl, rfl⟩
  go_wp2_with (first | (at_make; refine Stop.un ?_) | (at_builtin; refine Stop.un ?_) | (with_reducible refine Stop.conv 33 9 ?_) | (with_reducible refine Stop.conv 9 33 ?_))
  refine (rand_any a b _).mono ?_
  rintro e wq ⟨rfl, rfl⟩
  go_wp2_with (first | (at_make; refine Stop.un ?_) | (at_builtin; refine Stop.un ?_) | (with_reducible refine Stop.conv 33 9 ?_) | (with_reducible refine Stop.conv 9 33 ?_))
  refine (or2_any a b _).mono ?_
  rintro e wq ⟨rfl, rfl⟩
  go_wp2_with (first | (at_make; refine Stop.un ?_) | (at_builtin; refine Stop.un ?_) | (with_reducible refine Stop.conv 33 9 ?_) | (with_reducible refine Stop.conv 9 33 ?_))
  refine (ror2_any a b _).mono ?_
  rintro e wq ⟨rfl, rfl⟩
  go_wp2_with (first | (at_make; refine Stop.un ?_) | (at_builtin; refine Stop.un ?_) | (with_reducible refine Stop.conv 33 9 ?_) | (with_reducible refine Stop.conv 9 33 ?_))
  refine (not_any a _ ha).mono ?_
  rintro e wq ⟨rfl, rfl⟩
  go_wp2_with (first | (at_make; refine Stop.un ?_) | (at_builtin; refine Stop.un ?_) | (with_reducible refine Stop.conv 33 9 ?_) | (with_reducible refine Stop.conv 9 33 ?_))
  refine (rnot_any a _ ha).mono ?_
  rintro e wq ⟨rfl, rfl⟩
  go_wp2_with (first | (at_make; refine Stop.un ?_) | (at_builtin; refine Stop.un ?_) | (with_reducible refine Stop.conv 33 9 ?_) | (with_reducible refine Stop.conv 9 33 ?_))
  refine (not_any a _ ha).mono ?_
  rintro e wq ⟨rfl, rfl⟩
  go_wp2_with (first | (at_make; refine Stop.un ?_) | (at_builtin; refine Stop.un ?_) | (with_reducible refine Stop.conv 33 9 ?_) | (with_reducible refine Stop.conv 9 33 ?_))
  refine (N1.out _).mono ?_
  rintro e wq ⟨rfl, rfl⟩
  go_wp2_with (first | (at_make; refine Stop.un ?_) | (at_builtin; refine Stop.un ?_) | (with_reducible refine Stop.conv 33 9 ?_) | (with_reducible refine Stop.conv 9 33 ?_))
  refine (and_any a b _).mono ?_
  rintro e wq ⟨rfl, rfl⟩
  go_wp2_with (first | (at_make; refine Stop.un ?_) | (at_builtin; refine Stop.un ?_) | (with_reducible refine Stop.conv 33 9 ?_) | (with_reducible refine Stop.conv 9 33 ?_))
  refine (N2.out _).mono ?_
  rintro e wq ⟨rfl, rfl⟩
  go_wp2_with (first | (at_make; refine Stop.un ?_) | (at_builtin; refine Stop.un ?_) | (with_reducible refine Stop.conv 33 9 ?_) | (with_reducible refine Stop.conv 9 33 ?_))
  refine (not_any a _ ha).mono ?_
  rintro e wq ⟨rfl, rfl⟩
  go_wp2_with (first | (at_make; refine Stop.un ?_) | (at_builtin; refine Stop.un ?_) | (with_reducible refine Stop.conv 33 9 ?_) | (with_reducible refine Stop.conv 9 33 ?_))
  refine (not_any b _ hb).mono ?_
  rintro e wq ⟨rfl, rfl⟩
  go_wp2_with (first | (at_make; refine Stop.un ?_) | (at_builtin; refine Stop.un ?_) | (with_reducible refine Stop.conv 33 9 ?_) | (with_reducible refine Stop.conv 9 33 ?_))
  refine (or2_any _ _ _).mono ?_
  rintro e wq ⟨rfl, rfl⟩
  go_wp2_with (first | (at_make; refine Stop.un ?_) | (at_builtin; refine Stop.un ?_) | (with_reducible refine Stop.conv 33 9 ?_) | (with_reducible refine Stop.conv 9 33 ?_))
  refine (or2_any y z _).mono ?_
  rintro e wq ⟨rfl, rfl⟩
  go_wp2_with (first | (at_make; refine Stop.un ?_) | (at_builtin; refine Stop.un ?_) | (with_reducible refine Stop.conv 33 9 ?_) | (with_reducible refine Stop.conv 9 33 ?_))
  refine (D1.out _).mono ?_
  rintro e wq ⟨rfl, rfl⟩
  go_wp2_with (first | (at_make; refine Stop.un ?_) | (at_builtin; refine Stop.un ?_) | (with_reducible refine Stop.conv 33 9 ?_) | (with_reducible refine Stop.conv 9 33 ?_))
  refine (and_any x y _).mono ?_
  rintro e wq ⟨rfl, rfl⟩
  go_wp2_with (first | (at_make; refine Stop.un ?_) | (at_builtin; refine Stop.un ?_) | (with_reducible refine Stop.conv 33 9 ?_) | (with_reducible refine Stop.conv 9 33 ?_))
  refine (and_any x z _).mono ?_
  rintro e wq ⟨rfl, rfl⟩
  go_wp2_with (first | (at_make; refine Stop.un ?_) | (at_builtin; refine Stop.un ?_) | (with_reducible refine Stop.conv 33 9 ?_) | (with_reducible refine Stop.conv 9 33 ?_))
  refine (or2_any _ _ _).mono ?_
  rintro e wq ⟨rfl, rfl⟩
  go_wp2_with (first | (at_make; refine Stop.un ?_) | (at_builtin; refine Stop.un ?_) | (with_reducible refine Stop.conv 33 9 ?_) | (with_reducible refine Stop.conv 9 33 ?_))
  refine (O1.out _).mono ?_
  rintro e wq ⟨rfl, rfl⟩
  go_wp2_with (first | (at_make; refine Stop.un ?_) | (at_builtin; refine Stop.un ?_) | (with_reducible refine Stop.conv 33 9 ?_) | (with_reducible refine Stop.conv 9 33 ?_))
  refine (O2.out _).mono ?_
  rintro e wq ⟨rfl, rfl⟩
  go_wp2_with (first | (at_make; refine Stop.un ?_) | (at_builtin; refine Stop.un ?_) | (with_reducible refine Stop.conv 33 9 ?_) | (with_reducible refine Stop.conv 9 33 ?_))
  go_ret
  exact ⟨rfl, b1⟩
end Go.Proofs.Ytbikcjjbdgmhpaa
