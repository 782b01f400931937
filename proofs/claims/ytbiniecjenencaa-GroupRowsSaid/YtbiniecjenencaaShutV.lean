/- Values that came in. -/
import Derived.Test.YtbiniecjenencaaShut
import Derived.Test.YtbiniecjenencaaVal
import Derived.Lib.SmallJoins
set_option linter.unusedVariables false
set_option linter.unusedSimpArgs false
set_option maxRecDepth 10000
namespace Go.Proofs.Ytbiniecjenencaa
open Go.ChangeShapes Go.WideShapes Go.ChangeAt Go.RowKit Go.Joins
open Go.ChangeMaps (open_string shut_string)
theorem Try.cellsV : Try.prog.cellsOf 38 = 3 := by kernel_rfl
def V.ok (a : V) : Prop := 0 ≤ a.k ∧ a.k ≤ 255 ∧ -9223372036854775808 ≤ a.n ∧ a.n ≤ 9223372036854775807 ∧ a.s.size ≤ maxLen
set_option maxRecDepth 100000 in
/-- A value by value. -/
theorem open_value {H : Type} {enc : TypeId × Value → H} {W : World} {v : Value} {d : DataW H} {p : List MemPlace} {r : Reach} {b0 : Nat} (hv : Value.okWide Try.prog W r b0 38 v) (h : DataW.Trod enc Try.prog W 0 (fun _ => true) true 38 v d p) :
    ∃ a : V, v = a.val ∧ a.ok := by
  obtain ⟨v0, v1, v2, y0, y1, y2, n, rfl, _, _, h0, h1, h2⟩ := open_agg3 Try.underlying38 (by kernel_rfl) Try.cellsV hv h
  obtain ⟨k, e0, _, w0⟩ := DataW.trod_int Try.underlying5 h0
  obtain ⟨m, e1, _, w1⟩ := DataW.trod_int Try.underlying3 h1
  obtain ⟨s, e2, _, w2⟩ := DataW.trod_string Try.underlying9 h2
  simp at e0 e1 e2
  subst e0 e1 e2
  obtain ⟨a1, a2⟩ := bounds_u8 w0
  obtain ⟨a3, a4⟩ := bounds_i64 w1
  exact ⟨⟨k, m, s⟩, rfl, a1, a2, a3, a4, w2⟩
end Go.Proofs.Ytbiniecjenencaa
