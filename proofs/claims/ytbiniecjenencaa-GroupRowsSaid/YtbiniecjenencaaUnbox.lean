/- What Unbox returns. -/
import Derived.Test.YtbiniecjenencaaBox
set_option linter.unusedVariables false
set_option linter.unusedSimpArgs false
set_option maxRecDepth 10000
namespace Go.Proofs.Ytbiniecjenencaa
open Go.RowKit
def V.zero : V := ⟨0, 0, ByteArray.empty⟩
/-- A value, and whether it is one. -/
def RetV (w : World) (v : V) (ok : Bool) : Ending → World → Prop := fun e w' => e = .returned (.tuple #[v.val, .bool ok]) ∧ Below w.heap.size w w'
theorem asB_yes (W : World) (v : Value) : (Instr.typeAssert (.iface 4 v) 20 4 true).run Try.prog W = .ok (.tuple #[v, .bool true]) W := by kernel_rfl
theorem asI_yes (W : World) (v : Value) : (Instr.typeAssert (.iface 3 v) 20 3 true).run Try.prog W = .ok (.tuple #[v, .bool true]) W := by kernel_rfl
theorem asS_yes (W : World) (v : Value) : (Instr.typeAssert (.iface 9 v) 20 9 true).run Try.prog W = .ok (.tuple #[v, .bool true]) W := by kernel_rfl
theorem asB_nil (W : World) : (Instr.typeAssert .nilIface 20 4 true).run Try.prog W = .ok (.tuple #[.bool false, .bool false]) W := by kernel_rfl
theorem asI_nil (W : World) : (Instr.typeAssert .nilIface 20 3 true).run Try.prog W = .ok (.tuple #[.int .i64 0, .bool false]) W := by kernel_rfl
theorem asS_nil (W : World) : (Instr.typeAssert .nilIface 20 9 true).run Try.prog W = .ok (.tuple #[.string ByteArray.empty, .bool false]) W := by kernel_rfl
theorem asB_no (W : World) (u : TypeId) (v : Value) (h : u ≠ 4) : (Instr.typeAssert (.iface u v) 20 4 true).run Try.prog W = .ok (.tuple #[.bool false, .bool false]) W := by
  simp only [Instr.typeAssert, run_underlying Try.underlying4, Sem.run_bind, Result.andThen, if_neg h, if_true]
  kernel_rfl
theorem asI_no (W : World) (u : TypeId) (v : Value) (h : u ≠ 3) : (Instr.typeAssert (.iface u v) 20 3 true).run Try.prog W = .ok (.tuple #[.int .i64 0, .bool false]) W := by
  simp only [Instr.typeAssert, run_underlying Try.underlying3, Sem.run_bind, Result.andThen, if_neg h, if_true]
  kernel_rfl
theorem asS_no (W : World) (u : TypeId) (v : Value) (h : u ≠ 9) : (Instr.typeAssert (.iface u v) 20 9 true).run Try.prog W = .ok (.tuple #[.string ByteArray.empty, .bool false]) W := by
  simp only [Instr.typeAssert, run_underlying Try.underlying9, Sem.run_bind, Result.andThen, if_neg h, if_true]
  kernel_rfl
set_option maxHeartbeats 400000 in
theorem unbox_nil (w : World) : Calls Try.prog 50 #[.nilIface] w (RetV w V.zero true) := by
  go_enter Try.func50, Try.ntmps50
  go_wp2_with (first | (at_make; refine Stop.un ?_) | (at_builtin; refine Stop.un ?_) | (with_reducible refine Stop.conv 22 9 ?_) | (with_reducible refine Stop.conv 9 22 ?_))
  exact bodyPost_ret (v := .tuple #[V.zero.val, .bool true]) (by simp [results, Try.results50, go_sem, V.zero, V.val]; rfl) rfl ⟨rfl, by simpa using (Below.refl _ _).alloc (Nat.le_refl _) _⟩
set_option maxHeartbeats 400000 in
theorem unbox_bool (b : Bool) (w : World) : Calls Try.prog 50 #[.iface 4 (.bool b)] w (RetV w ⟨1, if b then 1 else 0, ByteArray.empty⟩ true) := by
  have a1 := fun W v => asB_yes W v
  cases b with
  | true =>
    go_enter Try.func50, Try.ntmps50
    go_wp2_with (first | (at_make; refine Stop.un ?_) | (at_builtin; refine Stop.un ?_) | (with_reducible refine Stop.conv 22 9 ?_) | (with_reducible refine Stop.conv 9 22 ?_))
    exact bodyPost_ret (v := .tuple #[V.val ⟨1, 1, ByteArray.empty⟩, .bool true]) (by simp [results, Try.results50, go_sem, V.val]; rfl) rfl ⟨rfl, by simpa using (Below.refl _ _).alloc (Nat.le_refl _) _⟩
  | false =>
    go_enter Try.func50, Try.ntmps50
    go_wp2_with (first | (at_make; refine Stop.un ?_) | (at_builtin; refine Stop.un ?_) | (with_reducible refine Stop.conv 22 9 ?_) | (with_reducible refine Stop.conv 9 22 ?_))
    exact bodyPost_ret (v := .tuple #[V.val ⟨1, 0, ByteArray.empty⟩, .bool true]) (by simp [results, Try.results50, go_sem, V.val]; rfl) rfl ⟨rfl, by simpa using (Below.refl _ _).alloc (Nat.le_refl _) _⟩
set_option maxHeartbeats 400000 in
theorem unbox_int (n : Int) (w : World) : Calls Try.prog 50 #[.iface 3 (.int .i64 n)] w (RetV w ⟨2, n, ByteArray.empty⟩ true) := by
  have a1 := fun W v => asB_no W 3 v (by decide)
  have a2 := fun W v => asI_yes W v
  go_enter Try.func50, Try.ntmps50
  go_wp2_with (first | (at_make; refine Stop.un ?_) | (at_builtin; refine Stop.un ?_) | (with_reducible refine Stop.conv 22 9 ?_) | (with_reducible refine Stop.conv 9 22 ?_))
  exact bodyPost_ret (v := .tuple #[V.val ⟨2, n, ByteArray.empty⟩, .bool true]) (by simp [results, Try.results50, go_sem, V.val]; rfl) rfl ⟨rfl, by simpa using (Below.refl _ _).alloc (Nat.le_refl _) _⟩
set_option maxHeartbeats 400000 in
theorem unbox_str (s : ByteArray) (w : World) (h : s.size ≤ 1024) : Calls Try.prog 50 #[.iface 9 (.string s)] w (RetV w ⟨3, 0, s⟩ true) := by
  have a1 := fun W v => asB_no W 9 v (by decide)
  have a2 := fun W v => asI_no W 9 v (by decide)
  have a3 := fun W v => asS_yes W v
  go_enter Try.func50, Try.ntmps50
  go_wp2_with (first | (at_make; refine Stop.un ?_) | (at_builtin; refine Stop.un ?_) | (with_reducible refine Stop.conv 22 9 ?_) | (with_reducible refine Stop.conv 9 22 ?_))
  exact bodyPost_ret (v := .tuple #[V.val ⟨3, 0, s⟩, .bool true]) (by simp [results, Try.results50, go_sem, V.val]) rfl ⟨rfl, by simpa using (Below.refl _ _).alloc (Nat.le_refl _) _⟩
set_option maxHeartbeats 400000 in
theorem unbox_long (s : ByteArray) (w : World) (h : 1024 < s.size) : Calls Try.prog 50 #[.iface 9 (.string s)] w (RetV w V.zero false) := by
  have a1 := fun W v => asB_no W 9 v (by decide)
  have a2 := fun W v => asI_no W 9 v (by decide)
  have a3 := fun W v => asS_yes W v
  go_enter Try.func50, Try.ntmps50
  go_wp2_with (first | (at_make; refine Stop.un ?_) | (at_builtin; refine Stop.un ?_) | (with_reducible refine Stop.conv 22 9 ?_) | (with_reducible refine Stop.conv 9 22 ?_))
  exact bodyPost_ret (v := .tuple #[V.zero.val, .bool false]) (by simp [results, Try.results50, go_sem, V.zero, V.val]; rfl) rfl ⟨rfl, by simpa using (Below.refl _ _).alloc (Nat.le_refl _) _⟩
set_option maxHeartbeats 400000 in
theorem unbox_other (u : TypeId) (v : Value) (w : World) (h1 : u ≠ 4) (h2 : u ≠ 3) (h3 : u ≠ 9) : Calls Try.prog 50 #[.iface u v] w (RetV w V.zero false) := by
  have a1 := fun W v => asB_no W u v h1
  have a2 := fun W v => asI_no W u v h2
  have a3 := fun W v => asS_no W u v h3
  clear h1 h2 h3
  go_enter Try.func50, Try.ntmps50
  go_wp2_with (first | (at_make; refine Stop.un ?_) | (at_builtin; refine Stop.un ?_) | (with_reducible refine Stop.conv 22 9 ?_) | (with_reducible refine Stop.conv 9 22 ?_))
  exact bodyPost_ret (v := .tuple #[V.zero.val, .bool false]) (by simp [results, Try.results50, go_sem, V.zero, V.val]; rfl) rfl ⟨rfl, by simpa using (Below.refl _ _).alloc (Nat.le_refl _) _⟩
end Go.Proofs.Ytbiniecjenencaa
