/- The head of all statements of layer 4. -/
import Derived.Test.YtbikcjjbdgmhpaaForms
set_option linter.unusedVariables false
namespace Go.Proofs.Ytbikcjjbdgmhpaa
open Go.RowKit
set_option maxRecDepth 100000 in
set_option maxHeartbeats 2000000 in
theorem shown_any (w : World) : Calls Try.prog 10 #[] w (fun e w' => e = .returned (.bool true) ∧ Below w.heap.size w w') := by
  go_enter Try.func10, Try.ntmps10
  go_wp2_with (first | (at_make; refine Stop.un ?_) | (at_builtin; refine Stop.un ?_) | (with_reducible refine Stop.conv 33 9 ?_) | (with_reducible refine Stop.conv 9 33 ?_))
  refine (unbox_other _ _ _ (by decide) (by decide) (by decide)).mono ?_
  rintro e w1 ⟨rfl, b1⟩
  simp only [V.zero, V.val]
  have B1 : Below w.heap.size w w1 := ((Below.refl _ _).alloc (Nat.le_refl _) _).next b1
  have z := ((VAt.new w ⟨2, 0, ByteArray.empty⟩).mono b1)
  clear b1
  go_wp2_with (first | (at_make; refine Stop.un ?_) | (at_builtin; refine Stop.un ?_) | (with_reducible refine Stop.conv 33 9 ?_) | (with_reducible refine Stop.conv 9 33 ?_))
  refine (unbox_int _ _).mono ?_
  rintro e w2 ⟨rfl, b2⟩
  simp only [V.val]
  have B2 : Below w.heap.size w w2 := (B1.next ((Below.refl _ _).alloc (Nat.le_refl _) _)).next b2
  have z2 := (z.mono ((Below.refl _ _).alloc (Nat.le_refl _) (.cells #[.int .u8 0, .int .i64 0, .string ByteArray.empty] 23))).mono b2
  clear b2 B1 z
  obtain ⟨e0, e1, e2, hz⟩ := z2.open_
  clear z2
  go_wp2_with (first | (at_make; refine Stop.un ?_) | (at_builtin; refine Stop.un ?_) | (with_reducible refine Stop.conv 33 9 ?_) | (with_reducible refine Stop.conv 9 33 ?_))
  refine (compare_x _ _ _ _ _ _ _).mono ?_
  rw [show cmpV ⟨0, 0, ⟨#[]⟩⟩ ⟨2, 0, ByteArray.empty⟩ = -1 from by decide +kernel]
  rintro e w3 ⟨rfl, b3⟩
  have B3 := (B2.next ((Below.refl _ _).alloc (Nat.le_refl _) _)).next b3
  have z3 := (VAt.new w2 ⟨2, 5, ByteArray.empty⟩).mono b3
  clear B2 b3 e0 e1 e2 hz
  go_wp2_with (first | (at_make; refine Stop.un ?_) | (at_builtin; refine Stop.un ?_) | (with_reducible refine Stop.conv 33 9 ?_) | (with_reducible refine Stop.conv 9 33 ?_))
  refine (equal_x _ _ _ _ _ _ _).mono ?_
  rw [show truthV ⟨0, 0, ⟨#[]⟩⟩ ⟨0, 0, ⟨#[]⟩⟩ (eqV ⟨0, 0, ⟨#[]⟩⟩ ⟨0, 0, ⟨#[]⟩⟩) = 1 from by decide +kernel]
  rintro e w4 ⟨rfl, b4⟩
  have B4 := B3.next b4
  have z4 := z3.mono b4
  clear B3 b4 z3
  go_wp2_with (first | (at_make; refine Stop.un ?_) | (at_builtin; refine Stop.un ?_) | (with_reducible refine Stop.conv 33 9 ?_) | (with_reducible refine Stop.conv 9 33 ?_))
  refine (and_any _ _ _).mono ?_
  rw [show andT 0 1 = 0 from by decide +kernel]
  rintro e w5 ⟨rfl, rfl⟩
  go_wp2_with (first | (at_make; refine Stop.un ?_) | (at_builtin; refine Stop.un ?_) | (with_reducible refine Stop.conv 33 9 ?_) | (with_reducible refine Stop.conv 9 33 ?_))
  refine (or2_any _ _ _).mono ?_
  rw [show orT 0 1 = 1 from by decide +kernel]
  rintro e w5 ⟨rfl, rfl⟩
  obtain ⟨e0, e1, e2, hz⟩ := z4.open_
  clear z4
  go_wp2_with (first | (at_make; refine Stop.un ?_) | (at_builtin; refine Stop.un ?_) | (with_reducible refine Stop.conv 33 9 ?_) | (with_reducible refine Stop.conv 9 33 ?_))
  refine (panics_yes 40 #[] _ (fun _ => by kernel_rfl) (fun x _ => shown1_any x)).mono ?_
  rintro e w6 ⟨rfl, b6⟩
  have B6 := B4.next b6
  clear e0 e1 e2 hz B4 b6
  go_wp2_with (first | (at_make; refine Stop.un ?_) | (at_builtin; refine Stop.un ?_) | (with_reducible refine Stop.conv 33 9 ?_) | (with_reducible refine Stop.conv 9 33 ?_))
  go_ret
  exact ⟨rfl, B6⟩
end Go.Proofs.Ytbikcjjbdgmhpaa
