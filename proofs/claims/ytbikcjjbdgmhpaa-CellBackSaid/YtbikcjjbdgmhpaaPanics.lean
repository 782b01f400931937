/- Does a call panic: what panics returns of a call that panics, and of one that returns; what Number and Word return. -/
import Derived.Test.YtbikcjjbdgmhpaaUnbox
import Derived.Tactics
import Derived.Tactics2
import Derived.Defers
import Derived.Recover
import Derived.Laws.Pointers
set_option linter.unusedVariables false
namespace Go.Proofs.Ytbikcjjbdgmhpaa
open Go.RowKit
theorem catch_panicking (p : Addr) (b : Bool) (u : TypeId) (pv : Value) (older : List PanicEntry) (w : World) (hc : w.cell? p = some (.bool b)) (hz : w.frozen? p = false) :
    CallsD Try.prog 47 #[.pointer (some p)] (.panicking ({ v := .iface u pv, recovered := false } :: older)) w fun e u' w' =>
      e = .returned (.tuple #[]) ∧ u' = .panicking ({ v := .iface u pv, recovered := true } :: older) ∧ w' = w.setCell p (.bool true) := by
  refine callsD_of_wpS Try.func47 rfl fun c₀ cs hu => ?_
  apply wpS_region
  simp [wpOpsS, go_sem, recoverD, hu, Try.ntmps47, Exit.thenS, hc, hz, bodyPostS, results, Try.results47]
theorem catch_idle (p : Addr) (b : Bool) (w : World) (hc : w.cell? p = some (.bool b)) (hz : w.frozen? p = false) :
    CallsD Try.prog 47 #[.pointer (some p)] .returning w fun e u' w' => e = .returned (.tuple #[]) ∧ u' = .returning ∧ w' = w.setCell p (.bool false) := by
  refine callsD_of_wpS Try.func47 rfl fun c₀ cs hu => ?_
  apply wpS_region
  simp [wpOpsS, go_sem, recoverD, hu, Try.ntmps47, Exit.thenS, hc, hz, bodyPostS, results, Try.results47]
  cases c₀
  simp_all
/-- A call that panics with a value of Go's own. -/
def Panicked (w : World) : Ending → World → Prop := fun e w' => (∃ u pv, e = .panicked [{ v := .iface u pv, recovered := false }]) ∧ Below w.heap.size w w'
set_option maxHeartbeats 1000000 in
theorem panics_yes (F : FuncId) (cap : Array Value) (w : World) (hcf : ∀ x : World, Sem.run Try.prog (callFunc F cap) x = .ok (.enter F cap) x) (hF : ∀ x : World, Below w.heap.size w x → Calls Try.prog F cap x (Panicked x)) :
    Calls Try.prog 18 #[.func (.func F) #[] cap] w (fun e w' => e = .returned (.bool true) ∧ Below w.heap.size w w') := by
  have hmf : ∀ (fn : Fn) (first cap : Array Value) (w : World), (Instr.makeFunc fn first cap).run Try.prog w = .ok (.func fn first cap) w := fun _ _ _ _ => rfl
  have HF := Lib.hid hF
  clear hF
  go_enter_defers Try.func18, Try.ntmps18
  go_wp2_with (first | (at_make; refine Stop.un ?_) | (at_builtin; refine Stop.un ?_) | (with_reducible refine Stop.conv 33 9 ?_) | (with_reducible refine Stop.conv 9 33 ?_))
  refine (HF.out _ ((Below.refl _ _).alloc (Nat.le_refl _) _)).mono ?_
  rintro e w1 ⟨⟨u, pv, rfl⟩, b1⟩
  have hb : w.heap.size < w1.heap.size := by have := b1.size; simp at this; omega
  have hc : w1.cell? ⟨w.heap.size, 0, none⟩ = some (.bool false) := (b1.cell (p := ⟨w.heap.size, 0, none⟩) (by simp)).trans (by simp)
  have hz : w1.frozen? ⟨w.heap.size, 0, none⟩ = false := (b1.frozen (p := ⟨w.heap.size, 0, none⟩) (by simp)).trans (by simp)
  have b2 : Below w.heap.size w w1 := ((Below.refl _ _).alloc (Nat.le_refl _) _).next b1
  clear b1
  refine leaves_cons (f := 47) (args := #[.pointer (some ⟨w.heap.size, 0, none⟩)]) (by simp) (by simp [go_sem]) ?_
  refine (catch_panicking ⟨w.heap.size, 0, none⟩ false _ _ [] _ hc hz).mono ?_
  rintro e u' w'' ⟨rfl, rfl, rfl⟩
  simp [Leaves, settle, results, Try.results18, go_sem, hc, hz]
  exact b2.setCell (by simp) _
set_option maxHeartbeats 1000000 in
theorem number_other (u : TypeId) (v : Value) (w : World) (h : u ≠ 3) : Calls Try.prog 20 #[.iface u v] w (Panicked w) := by
  have ha : ∃ tp pv W', (Instr.typeAssert (.iface u v) 20 3 false).run Try.prog w = .halt (.panic (.iface tp pv)) W' ∧ Below w.heap.size w W' := by
    unfold Instr.typeAssert
    simp only [run_underlying Try.underlying3, Sem.run_bind, Result.andThen, if_neg h, Bool.false_eq_true, if_false]
    simp [runtimePanic, goPanic, go_sem, newVar, elemOf]
    exact ⟨_, _, _, ⟨⟨rfl, rfl⟩, rfl⟩, (Below.refl _ _).alloc (Nat.le_refl _) _⟩
  obtain ⟨tp, pv, W', ha, hb⟩ := ha
  go_enter Try.func20, Try.ntmps20
  go_wp2_with (first | (at_make; refine Stop.un ?_) | (at_builtin; refine Stop.un ?_) | (with_reducible refine Stop.conv 33 9 ?_) | (with_reducible refine Stop.conv 9 33 ?_))
  exact ⟨rfl, ⟨_, _, rfl⟩, hb⟩
set_option maxHeartbeats 1000000 in
theorem number_nil (w : World) : Calls Try.prog 20 #[.nilIface] w (Panicked w) := by
  have ha : ∃ tp pv W', (Instr.typeAssert .nilIface 20 3 false).run Try.prog w = .halt (.panic (.iface tp pv)) W' ∧ Below w.heap.size w W' := by
    unfold Instr.typeAssert
    simp only [run_underlying Try.underlying3, Sem.run_bind, Result.andThen, Bool.false_eq_true, if_false]
    simp [runtimePanic, goPanic, go_sem, newVar, elemOf]
    exact ⟨_, _, _, ⟨⟨rfl, rfl⟩, rfl⟩, (Below.refl _ _).alloc (Nat.le_refl _) _⟩
  obtain ⟨tp, pv, W', ha, hb⟩ := ha
  go_enter Try.func20, Try.ntmps20
  go_wp2_with (first | (at_make; refine Stop.un ?_) | (at_builtin; refine Stop.un ?_) | (with_reducible refine Stop.conv 33 9 ?_) | (with_reducible refine Stop.conv 9 33 ?_))
  exact ⟨rfl, ⟨_, _, rfl⟩, hb⟩
set_option maxHeartbeats 1000000 in
theorem number_yes (n : Int) (w : World) : Calls Try.prog 20 #[.iface 3 (.int .i64 n)] w (fun e w' => e = .returned (.int .i64 n) ∧ w = w') := by
  have ha : ∀ W : World, (Instr.typeAssert (.iface 3 (.int .i64 n)) 20 3 false).run Try.prog W = .ok (.int .i64 n) W := fun W => by kernel_rfl
  go_enter Try.func20, Try.ntmps20
  go_wp2_with (first | (at_make; refine Stop.un ?_) | (at_builtin; refine Stop.un ?_) | (with_reducible refine Stop.conv 33 9 ?_) | (with_reducible refine Stop.conv 9 33 ?_))
  go_ret
  exact ⟨rfl, rfl⟩

set_option maxHeartbeats 1000000 in
theorem word_other (u : TypeId) (v : Value) (w : World) (h : u ≠ 9) : Calls Try.prog 22 #[.iface u v] w (Panicked w) := by
  have ha : ∃ tp pv W', (Instr.typeAssert (.iface u v) 20 9 false).run Try.prog w = .halt (.panic (.iface tp pv)) W' ∧ Below w.heap.size w W' := by
    unfold Instr.typeAssert
    simp only [run_underlying Try.underlying9, Sem.run_bind, Result.andThen, if_neg h, Bool.false_eq_true, if_false]
    simp [runtimePanic, goPanic, go_sem, newVar, elemOf]
    exact ⟨_, _, _, ⟨⟨rfl, rfl⟩, rfl⟩, (Below.refl _ _).alloc (Nat.le_refl _) _⟩
  obtain ⟨tp, pv, W', ha, hb⟩ := ha
  go_enter Try.func22, Try.ntmps22
  go_wp2_with (first | (at_make; refine Stop.un ?_) | (at_builtin; refine Stop.un ?_) | (with_reducible refine Stop.conv 33 9 ?_) | (with_reducible refine Stop.conv 9 33 ?_))
  exact ⟨rfl, ⟨_, _, rfl⟩, hb⟩
set_option maxHeartbeats 1000000 in
theorem word_nil (w : World) : Calls Try.prog 22 #[.nilIface] w (Panicked w) := by
  have ha : ∃ tp pv W', (Instr.typeAssert .nilIface 20 9 false).run Try.prog w = .halt (.panic (.iface tp pv)) W' ∧ Below w.heap.size w W' := by
    unfold Instr.typeAssert
    simp only [run_underlying Try.underlying9, Sem.run_bind, Result.andThen, Bool.false_eq_true, if_false]
    simp [runtimePanic, goPanic, go_sem, newVar, elemOf]
    exact ⟨_, _, _, ⟨⟨rfl, rfl⟩, rfl⟩, (Below.refl _ _).alloc (Nat.le_refl _) _⟩
  obtain ⟨tp, pv, W', ha, hb⟩ := ha
  go_enter Try.func22, Try.ntmps22
  go_wp2_with (first | (at_make; refine Stop.un ?_) | (at_builtin; refine Stop.un ?_) | (with_reducible refine Stop.conv 33 9 ?_) | (with_reducible refine Stop.conv 9 33 ?_))
  exact ⟨rfl, ⟨_, _, rfl⟩, hb⟩
set_option maxHeartbeats 1000000 in
theorem word_yes (s : ByteArray) (w : World) : Calls Try.prog 22 #[.iface 9 (.string s)] w (fun e w' => e = .returned (.string s) ∧ w = w') := by
  have ha : ∀ W : World, (Instr.typeAssert (.iface 9 (.string s)) 20 9 false).run Try.prog W = .ok (.string s) W := fun W => by kernel_rfl
  go_enter Try.func22, Try.ntmps22
  go_wp2_with (first | (at_make; refine Stop.un ?_) | (at_builtin; refine Stop.un ?_) | (with_reducible refine Stop.conv 33 9 ?_) | (with_reducible refine Stop.conv 9 33 ?_))
  go_ret
  exact ⟨rfl, rfl⟩

set_option maxHeartbeats 1000000 in
theorem shown1_any (w : World) : Calls Try.prog 40 #[] w (Panicked w) := by
  go_enter Try.func40, Try.ntmps40
  go_wp2_with (first | (at_make; refine Stop.un ?_) | (at_builtin; refine Stop.un ?_) | (with_reducible refine Stop.conv 33 9 ?_) | (with_reducible refine Stop.conv 9 33 ?_))
  refine (number_other _ _ _ (by decide)).mono ?_
  rintro e w1 ⟨⟨u, pv, rfl⟩, b1⟩
  exact ⟨rfl, ⟨_, _, rfl⟩, b1⟩
end Go.Proofs.Ytbikcjjbdgmhpaa
