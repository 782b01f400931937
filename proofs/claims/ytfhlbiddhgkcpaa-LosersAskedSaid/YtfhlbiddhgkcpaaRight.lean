/- What Right and the reference's Right return. -/
import Derived.Test.YtfhlbiddhgkcpaaUnbox
set_option linter.unusedVariables false
set_option linter.unusedSimpArgs false
namespace Go.Proofs.Ytfhlbiddhgkcpaa
open Go.RowKit
/-- May a value be? -/
def rightP (a : V) : Prop := (a.k = 0 ∧ a.n = 0 ∧ a.s.toList = []) ∨ (a.k = 1 ∧ (a.n = 0 ∨ a.n = 1) ∧ a.s.toList = []) ∨ (a.k = 2 ∧ a.s.toList = []) ∨ (a.k = 3 ∧ a.n = 0 ∧ a.s.size ≤ 1024)
instance (a : V) : Decidable (rightP a) := by unfold rightP; infer_instance
def rightB (a : V) : Bool := decide (rightP a)
theorem emp {s : ByteArray} (h : s.toList = []) : s = ByteArray.empty := by
  rw [ByteArray.toList_eq] at h
  cases s with
  | mk d => simp at h; subst h; rfl
theorem emp_toList : ByteArray.empty.toList = [] := by rw [ByteArray.toList_eq]; rfl
theorem size_toList (s : ByteArray) : s.toList.length = s.size := by rw [ByteArray.toList_eq, Array.length_toList]; rfl
/-- A value in a block of its own. -/
def VAt (w : World) (g : Nat) (a : V) : Prop := w.heap[g]? = some (.cells #[.int .u8 a.k, .int .i64 a.n, .string a.s] 38 (0, 0))
theorem VAt.open_ {w : World} {g : Nat} {a : V} (h : VAt w g a) : w.cell? ⟨g, 0, none⟩ = some (.int .u8 a.k) ∧ w.cell? ⟨g, 1, none⟩ = some (.int .i64 a.n) ∧ w.cell? ⟨g, 2, none⟩ = some (.string a.s) ∧ g < w.heap.size := by
  unfold VAt at h
  have hlt : g < w.heap.size := (Array.getElem?_eq_some_iff.1 h).1
  refine ⟨?_, ?_, ?_, hlt⟩ <;> simp [World.cell?, h]
theorem VAt.new (w : World) (a : V) : VAt (w.alloc (.cells #[.int .u8 a.k, .int .i64 a.n, .string a.s] 38)) w.heap.size a := _root_.Go.heap_alloc_new w _
theorem VAt.mono {w w' : World} {g : Nat} {a : V} (h : VAt w g a) (hb : Below w.heap.size w w') : VAt w' g a := (hb.block g h.open_.2.2.2).trans h
end Go.Proofs.Ytfhlbiddhgkcpaa
