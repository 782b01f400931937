/- Equality of values. -/
import Derived.Test.YtbiniecjenencaaTell
import Derived.Test.YtbiniecjenencaaAs
set_option linter.unusedVariables false
set_option linter.unusedSimpArgs false
set_option maxRecDepth 10000
namespace Go.Proofs.Ytbiniecjenencaa
open Go.RowKit
theorem V.ext_ {a b : V} (h1 : a.k = b.k) (h2 : a.n = b.n) (h3 : a.s = b.s) : a = b := by cases a; cases b; simp_all
theorem toList_inj {s t : ByteArray} (h : s.toList = t.toList) : s = t := by
  rw [ByteArray.toList_eq, ByteArray.toList_eq] at h
  cases s; cases t; simp at h; subst h; rfl
def eqV (a b : V) : Bool := a.k == b.k && (a.n == b.n && a.s.toList == b.s.toList)
theorem eqV_iff {a b : V} : eqV a b = true ↔ a = b := by
  unfold eqV
  constructor
  · intro h
    simp only [Bool.and_eq_true, beq_iff_eq] at h
    exact V.ext_ h.1 h.2.1 (toList_inj h.2.2)
  · rintro rfl; simp
theorem run_eqV (k n k' n' : Int) (s s' : ByteArray) (w : World) : (binOp .eql 38 (.agg #[.int .u8 k, .int .i64 n, .string s]) (.agg #[.int .u8 k', .int .i64 n', .string s'])).run Try.prog w = .ok (.bool (eqV ⟨k, n, s⟩ ⟨k', n', s'⟩)) w := by
  go_simp
  unfold eqV
  by_cases h1 : k = k' <;> by_cases h2 : n = n' <;> by_cases h3 : s.toList = s'.toList <;> simp [h1, h2, h3]
theorem exec_eqV {ρ : Operand → Value} {x y : Operand} {dst : Option Tmp} {T2 ty : TypeId} {pos : String} {af : Array Edge} {g : Option (Nat × Bool)} (a b : V) (hx : ρ x = a.val) (hy : ρ y = b.val) (w : World) :
    (execOp ρ ⟨dst, .binOp .eql 38 x y T2, ty, pos, af, g⟩).run Try.prog w = .ok (.value (.bool (eqV a b))) w := by
  obtain ⟨k, n, s⟩ := a
  obtain ⟨k', n', s'⟩ := b
  simp only [V.val] at hx hy
  unfold eqV
  by_cases h1 : k = k' <;> by_cases h2 : n = n' <;> by_cases h3 : s.toList = s'.toList <;> simp [execOp, hx, hy, go_sem, h1, h2, h3]
theorem exec_neV {ρ : Operand → Value} {x y : Operand} {dst : Option Tmp} {T2 ty : TypeId} {pos : String} {af : Array Edge} {g : Option (Nat × Bool)} (a b : V) (hx : ρ x = a.val) (hy : ρ y = b.val) (w : World) :
    (execOp ρ ⟨dst, .binOp .neq 38 x y T2, ty, pos, af, g⟩).run Try.prog w = .ok (.value (.bool (!eqV a b))) w := by
  obtain ⟨k, n, s⟩ := a
  obtain ⟨k', n', s'⟩ := b
  simp only [V.val] at hx hy
  unfold eqV
  by_cases h1 : k = k' <;> by_cases h2 : n = n' <;> by_cases h3 : s.toList = s'.toList <;> simp [execOp, hx, hy, go_sem, h1, h2, h3]
end Go.Proofs.Ytbiniecjenencaa
