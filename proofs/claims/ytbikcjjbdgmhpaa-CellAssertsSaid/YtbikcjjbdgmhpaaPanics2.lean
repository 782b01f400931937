/- What panics returns of a call that returns and has laid a cell; the closures of CellAsserts. -/
import Derived.Test.YtbikcjjbdgmhpaaPanics
import Derived.Test.YtbikcjjbdgmhpaaRight
import Derived.Test.YtbikcjjbdgmhpaaLen
set_option linter.unusedVariables false
namespace Go.Proofs.Ytbikcjjbdgmhpaa
open Go.RowKit
theorem below_set2 (w : World) (p : Addr) (u : Value) (o : Obj) (q : Addr) (x y : Value) (hq : q.block = w.heap.size) : Below w.heap.size (w.setCell p u) ((((w.alloc o).setCell p u).setCell q x).setCell q y) := by
  refine ⟨rfl, rfl, rfl, by simp [World.setCell], fun k hk => ?_⟩
  have hk' : k < w.heap.size := hk
  rw [Below.heap_setCell _ _ _ _ (by omega), Below.heap_setCell _ _ _ _ (by omega)]
  simp only [World.setCell, Array.getElem?_modify]
  rw [Below.heap_alloc w o k hk']
set_option maxHeartbeats 1000000 in
theorem panics_no (F : FuncId) (cap : Array Value) (w : World) (p : Addr) (u : Value) (hp : p.block < w.heap.size) (hcf : ∀ x : World, Sem.run Try.prog (callFunc F cap) x = .ok (.enter F cap) x)
    (hF : ∀ x : World, Below w.heap.size w x → Calls Try.prog F cap x (fun e w' => e = .returned (.tuple #[]) ∧ x.setCell p u = w')) :
    Calls Try.prog 18 #[.func (.func F) #[] cap] w (fun e w' => e = .returned (.bool false) ∧ Below w.heap.size (w.setCell p u) w') := by
  have hmf : ∀ (fn : Fn) (first cap : Array Value) (w : World), (Instr.makeFunc fn first cap).run Try.prog w = .ok (.func fn first cap) w := fun _ _ _ _ => rfl
  have HF := Lib.hid hF
  clear hF
  have hc : ((w.alloc (.cells #[.bool false] 4)).setCell p u).cell? ⟨w.heap.size, 0, none⟩ = some (.bool false) := by
    rw [World.cell?_setCell_other _ _ _ _ (fun e => by rw [e] at hp; simp at hp)]; simp
  have hz : ((w.alloc (.cells #[.bool false] 4)).setCell p u).frozen? ⟨w.heap.size, 0, none⟩ = false := by
    rw [World.frozen?_setCell]; simp
  go_enter_defers Try.func18, Try.ntmps18
  go_wp2_with (first | (at_make; refine Stop.un ?_) | (at_builtin; refine Stop.un ?_) | (with_reducible refine Stop.conv 33 9 ?_) | (with_reducible refine Stop.conv 9 33 ?_))
  refine (HF.out _ ((Below.refl _ _).alloc (Nat.le_refl _) _)).mono ?_
  rintro e w1 ⟨rfl, rfl⟩
  go_wp2_with (first | (at_make; refine Stop.un ?_) | (at_builtin; refine Stop.un ?_) | (with_reducible refine Stop.conv 33 9 ?_) | (with_reducible refine Stop.conv 9 33 ?_))
  refine leaves_cons (f := 47) (args := #[.pointer (some ⟨w.heap.size, 0, none⟩)]) (by simp) (by simp [go_sem]) ?_
  refine (catch_idle ⟨w.heap.size, 0, none⟩ false _ ?_ ?_).mono ?_
  · exact World.cell?_setCell_same' _ _ _ (by rw [hc]; rfl)
  · rw [World.frozen?_setCell]; exact hz
  rintro e u' w'' ⟨rfl, rfl, rfl⟩
  simp [Leaves, settle, results, Try.results18, go_sem, hc, hz]
  exact below_set2 w p u _ _ _ _ rfl
theorem VAt.far {w : World} {g : Nat} {a : V} (h : VAt w g a) {p : Addr} (hp : g ≠ p.block) (u : Value) : VAt (w.setCell p u) g a := (Below.heap_setCell w p u g hp).trans h
theorem VAt.over {w w' : World} {g : Nat} {a : V} (h : VAt w g a) (p : Addr) (u : Value) (hp : g ≠ p.block) (hb : Below w.heap.size (w.setCell p u) w') : VAt w' g a :=
  (h.far hp u).mono (by have e : (w.setCell p u).heap.size = w.heap.size := by simp [World.setCell]
                        rw [e]; exact hb)
/-- What is neither a number nor a text, as Go has it. -/
def NoNum (x : Value) : Prop := x = .nilIface ∨ ∃ u v, x = .iface u v ∧ u ≠ 3 ∧ u ≠ 9
set_option maxHeartbeats 1000000 in
theorem asserts3_any (g : Nat) (x : Value) (w : World) (hc : w.cell? ⟨g, 0, none⟩ = some x) (hx : NoNum x) : Calls Try.prog 23 #[.pointer (some ⟨g, 0, none⟩)] w (Panicked w) := by
  rcases hx with rfl | ⟨u, v, rfl, h1, h2⟩
  · go_enter Try.func23, Try.ntmps23
    go_wp2_with (first | (at_make; refine Stop.un ?_) | (at_builtin; refine Stop.un ?_) | (with_reducible refine Stop.conv 33 9 ?_) | (with_reducible refine Stop.conv 9 33 ?_))
    refine (number_nil _).mono ?_
    rintro e w1 ⟨⟨u, pv, rfl⟩, b1⟩
    exact ⟨rfl, ⟨_, _, rfl⟩, b1⟩
  · go_enter Try.func23, Try.ntmps23
    go_wp2_with (first | (at_make; refine Stop.un ?_) | (at_builtin; refine Stop.un ?_) | (with_reducible refine Stop.conv 33 9 ?_) | (with_reducible refine Stop.conv 9 33 ?_))
    refine (number_other _ _ _ h1).mono ?_
    rintro e w1 ⟨⟨u, pv, rfl⟩, b1⟩
    exact ⟨rfl, ⟨_, _, rfl⟩, b1⟩

set_option maxHeartbeats 1000000 in
theorem asserts4_any (g : Nat) (x : Value) (w : World) (hc : w.cell? ⟨g, 0, none⟩ = some x) (hx : NoNum x) : Calls Try.prog 24 #[.pointer (some ⟨g, 0, none⟩)] w (Panicked w) := by
  rcases hx with rfl | ⟨u, v, rfl, h1, h2⟩
  · go_enter Try.func24, Try.ntmps24
    go_wp2_with (first | (at_make; refine Stop.un ?_) | (at_builtin; refine Stop.un ?_) | (with_reducible refine Stop.conv 33 9 ?_) | (with_reducible refine Stop.conv 9 33 ?_))
    refine (word_nil _).mono ?_
    rintro e w1 ⟨⟨u, pv, rfl⟩, b1⟩
    exact ⟨rfl, ⟨_, _, rfl⟩, b1⟩
  · go_enter Try.func24, Try.ntmps24
    go_wp2_with (first | (at_make; refine Stop.un ?_) | (at_builtin; refine Stop.un ?_) | (with_reducible refine Stop.conv 33 9 ?_) | (with_reducible refine Stop.conv 9 33 ?_))
    refine (word_other _ _ _ h2).mono ?_
    rintro e w1 ⟨⟨u, pv, rfl⟩, b1⟩
    exact ⟨rfl, ⟨_, _, rfl⟩, b1⟩

set_option maxHeartbeats 1000000 in
theorem asserts5_any (g : Nat) (a : V) (w : World) (hv : VAt w g a) : Calls Try.prog 25 #[.pointer (some ⟨g, 0, none⟩)] w (Panicked w) := by
  obtain ⟨e0, e1, e2, hz⟩ := hv.open_
  clear hv
  go_enter Try.func25, Try.ntmps25
  go_wp2_with (first | (at_make; refine Stop.un ?_) | (at_builtin; refine Stop.un ?_) | (with_reducible refine Stop.conv 33 9 ?_) | (with_reducible refine Stop.conv 9 33 ?_))
  refine (number_other _ _ _ (by decide)).mono ?_
  rintro e w1 ⟨⟨u, pv, rfl⟩, b1⟩
  exact ⟨rfl, ⟨_, _, rfl⟩, b1⟩

set_option maxHeartbeats 1000000 in
theorem asserts6_any (g : Nat) (a : V) (w : World) (hv : VAt w g a) : Calls Try.prog 26 #[.pointer (some ⟨g, 0, none⟩)] w (Panicked w) := by
  obtain ⟨e0, e1, e2, hz⟩ := hv.open_
  clear hv
  go_enter Try.func26, Try.ntmps26
  go_wp2_with (first | (at_make; refine Stop.un ?_) | (at_builtin; refine Stop.un ?_) | (with_reducible refine Stop.conv 33 9 ?_) | (with_reducible refine Stop.conv 9 33 ?_))
  refine (word_other _ _ _ (by decide)).mono ?_
  rintro e w1 ⟨⟨u, pv, rfl⟩, b1⟩
  exact ⟨rfl, ⟨_, _, rfl⟩, b1⟩

set_option maxHeartbeats 1000000 in
theorem asserts1_any (g h : Nat) (a : V) (w : World) (hv : VAt w g a) (hc : ∃ z, w.cell? ⟨h, 0, none⟩ = some (.int .i64 z)) (hf : w.frozen? ⟨h, 0, none⟩ = false) : Calls Try.prog 19 #[.pointer (some ⟨g, 0, none⟩), .pointer (some ⟨h, 0, none⟩)] w (fun e w' => e = .returned (.tuple #[]) ∧ w.setCell ⟨h, 0, none⟩ (.int .i64 a.n) = w') := by
  obtain ⟨e0, e1, e2, hz⟩ := hv.open_
  obtain ⟨z, hc⟩ := hc
  clear hv
  go_enter Try.func19, Try.ntmps19
  go_wp2_with (first | (at_make; refine Stop.un ?_) | (at_builtin; refine Stop.un ?_) | (with_reducible refine Stop.conv 33 9 ?_) | (with_reducible refine Stop.conv 9 33 ?_))
  refine (number_yes _ _).mono ?_
  rintro e w1 ⟨rfl, rfl⟩
  go_wp2_with (first | (at_make; refine Stop.un ?_) | (at_builtin; refine Stop.un ?_) | (with_reducible refine Stop.conv 33 9 ?_) | (with_reducible refine Stop.conv 9 33 ?_))
  go_end0
  exact ⟨rfl, rfl⟩

set_option maxHeartbeats 1000000 in
theorem asserts2_any (g h : Nat) (a : V) (w : World) (hv : VAt w g a) (hc : ∃ z, w.cell? ⟨h, 0, none⟩ = some (.string z)) (hf : w.frozen? ⟨h, 0, none⟩ = false) : Calls Try.prog 21 #[.pointer (some ⟨g, 0, none⟩), .pointer (some ⟨h, 0, none⟩)] w (fun e w' => e = .returned (.tuple #[]) ∧ w.setCell ⟨h, 0, none⟩ (.string a.s) = w') := by
  obtain ⟨e0, e1, e2, hz⟩ := hv.open_
  obtain ⟨z, hc⟩ := hc
  clear hv
  go_enter Try.func21, Try.ntmps21
  go_wp2_with (first | (at_make; refine Stop.un ?_) | (at_builtin; refine Stop.un ?_) | (with_reducible refine Stop.conv 33 9 ?_) | (with_reducible refine Stop.conv 9 33 ?_))
  refine (word_yes _ _).mono ?_
  rintro e w1 ⟨rfl, rfl⟩
  go_wp2_with (first | (at_make; refine Stop.un ?_) | (at_builtin; refine Stop.un ?_) | (with_reducible refine Stop.conv 33 9 ?_) | (with_reducible refine Stop.conv 9 33 ?_))
  go_end0
  exact ⟨rfl, rfl⟩

end Go.Proofs.Ytbikcjjbdgmhpaa
