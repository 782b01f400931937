/- What is known of a column, that came in. -/
import Derived.Test.YtdpmaocbfmgmlaaShutV
import Derived.Test.YtdpmaocbfmgmlaaZoneOf
import Derived.Lib.SmallJoins
import Derived.Deep.Slices
set_option linter.unusedVariables false
set_option linter.unusedSimpArgs false
namespace Go.Proofs.Ytdpmaocbfmgmlaa
open Go.ChangeShapes Go.WideShapes Go.ChangeAt Go.RowKit Go.Joins Go.Deep
open Go.ChangeMaps (open_string shut_string)
theorem Try.cellsZ : Try.prog.cellsOf 26 = 8 := by kernel_rfl
theorem open_val {H : Type} {enc : TypeId × Value → H} {W : World} {n : Nat} {c0 c1 c2 : Value} {y : DataW H × List MemPlace} (h : DataW.trod enc Try.prog W 0 (fun _ => true) true n 24 [c0, c1, c2] = some y) :
    ∃ a : V, c0 = .int .u8 a.k ∧ c1 = .int .i64 a.n ∧ c2 = .string a.s ∧ a.ok := by
  obtain ⟨y0, y1, y2, n', hx, _, h0, h1, h2⟩ := trod_struct3 Try.underlying24 h
  have k0 : Try.prog.cellsOf 5 = 1 := by kernel_rfl
  have k1 : Try.prog.cellsOf 3 = 1 := by kernel_rfl
  have k2 : Try.prog.cellsOf 9 = 1 := by kernel_rfl
  simp only [k0, List.drop_zero, List.take_succ_cons, List.take_zero] at h0
  simp only [k1, List.drop_succ_cons, List.drop_zero, List.take_succ_cons, List.take_zero] at h1
  simp only [k2, List.drop_succ_cons, List.drop_zero, List.take_succ_cons, List.take_zero] at h2
  obtain ⟨k, e0, _, w0⟩ := DataW.trod_int Try.underlying5 h0
  obtain ⟨q, e1, _, w1⟩ := DataW.trod_int Try.underlying3 h1
  obtain ⟨s, e2, _, w2⟩ := DataW.trod_string Try.underlying9 h2
  simp only [List.cons.injEq, and_true] at e0 e1 e2
  subst e0 e1 e2
  obtain ⟨a1, a2⟩ := bounds_u8 w0
  obtain ⟨a3, a4⟩ := bounds_i64 w1
  exact ⟨⟨k, q, s⟩, rfl, rfl, rfl, a1, a2, a3, a4, w2⟩
theorem open_zone {H : Type} {enc : TypeId × Value → H} {W : World} {v : Value} {d : DataW H} {p : List MemPlace} {r : Reach} {b0 : Nat} (hv : Value.okWide Try.prog W r b0 26 v) (h : DataW.Trod enc Try.prog W 0 (fun _ => true) true 26 v d p) :
    ∃ a : Zn, v = a.val ∧ a.lo.ok ∧ a.hi.ok ∧ -9223372036854775808 ≤ a.nulls ∧ a.nulls ≤ 9223372036854775807 ∧ -9223372036854775808 ≤ a.many ∧ a.many ≤ 9223372036854775807 := by
  obtain ⟨cs, rfl, hsz⟩ := okWide_struct Try.underlying26 hv
  rw [Try.cellsZ] at hsz
  obtain ⟨fuel, hf⟩ := h
  obtain ⟨l⟩ := cs
  match l, hsz with
  | [c0, c1, c2, c3, c4, c5, c6, c7], _ =>
    obtain ⟨y0, y1, y2, y3, n, hx, _, h0, h1, h2, h3⟩ := trod_struct4 Try.underlying26 hf
    have k0 : Try.prog.cellsOf 24 = 3 := by kernel_rfl
    have k1 : Try.prog.cellsOf 3 = 1 := by kernel_rfl
    simp only [Value.cells, k0, List.drop_zero, List.take_succ_cons, List.take_zero] at h0
    simp only [Value.cells, k0, List.drop_succ_cons, List.drop_zero, List.take_succ_cons, List.take_zero] at h1
    simp only [Value.cells, k1, List.drop_succ_cons, List.drop_zero, List.take_succ_cons, List.take_zero] at h2 h3
    obtain ⟨a, rfl, rfl, rfl, hok⟩ := open_val h0
    obtain ⟨b, rfl, rfl, rfl, hok2⟩ := open_val h1
    obtain ⟨nu, e2, _, w2⟩ := DataW.trod_int Try.underlying3 h2
    obtain ⟨ma, e3, _, w3⟩ := DataW.trod_int Try.underlying3 h3
    simp only [List.cons.injEq, and_true] at e2 e3
    subst e2 e3
    obtain ⟨a1, a2⟩ := bounds_i64 w2
    obtain ⟨a3, a4⟩ := bounds_i64 w3
    exact ⟨⟨a, b, nu, ma⟩, rfl, hok, hok2, a1, a2, a3, a4⟩
end Go.Proofs.Ytdpmaocbfmgmlaa
