/- Wide numbers that came in. -/
import Derived.Test.YtbiniecjenencaaShutV
set_option linter.unusedVariables false
set_option linter.unusedSimpArgs false
set_option maxRecDepth 10000
namespace Go.Proofs.Ytbiniecjenencaa
open Go.ChangeShapes Go.WideShapes Go.ChangeAt Go.RowKit Go.Joins
theorem Try.cellsWide : Try.prog.cellsOf 45 = 2 := by kernel_rfl
theorem open_wide {H : Type} {enc : TypeId × Value → H} {W : World} {v : Value} {d : DataW H} {p : List MemPlace} {r : Reach} {b0 : Nat} (hv : Value.okWide Try.prog W r b0 45 v) (h : DataW.Trod enc Try.prog W 0 (fun _ => true) true 45 v d p) :
    ∃ hi lo : Int, v = .agg #[.int .i64 hi, .int .u64 lo] ∧ -9223372036854775808 ≤ hi ∧ hi ≤ 9223372036854775807 ∧ 0 ≤ lo ∧ lo ≤ 18446744073709551615 := by
  obtain ⟨v0, v1, y0, y1, n, rfl, _, _, h0, h1⟩ := open_agg2 Try.underlying45 (by kernel_rfl) Try.cellsWide hv h
  obtain ⟨k, e0, _, w0⟩ := DataW.trod_int Try.underlying3 h0
  obtain ⟨m, e1, _, w1⟩ := DataW.trod_int Try.underlying43 h1
  simp at e0 e1
  subst e0 e1
  obtain ⟨a1, a2⟩ := bounds_i64 w0
  obtain ⟨a3, a4⟩ := bounds_u64 w1
  exact ⟨k, m, rfl, a1, a2, a3, a4⟩
end Go.Proofs.Ytbiniecjenencaa
