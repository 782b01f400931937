/- The head of all statements of layer 15; some first rows and keys. -/
import Derived.Test.YtbiniecjenencaaOSort
import Derived.Test.YtbiniecjenencaaOSame
set_option linter.unusedVariables false
set_option linter.unusedSimpArgs false
set_option maxRecDepth 10000
namespace Go.Proofs.Ytbiniecjenencaa
open Go.RowKit
theorem At.cs15 {w : World} {g : Nat} {xs : List Value} {t : TypeId} (z : At w g xs.toArray t) : Cs w (some ⟨g, 0, none⟩) xs := by
  intro j u hj
  exact ⟨g, 0, rfl, by rw [Nat.zero_add]; exact z.cell j (by simpa using hj)⟩
def numV (n : Int) : V := ⟨2, n, ⟨#[]⟩⟩
/-- A row of one value, in a block of its own. -/
def oneRw (g : Nat) (v : V) : Rw := ⟨some ⟨g, 0, none⟩, 1, 1, [v]⟩
theorem oneRw_ok {w : World} {g : Nat} {v : V} (z : At w g #[.int .u8 v.k, .int .i64 v.n, .string v.s] 38) (h : 0 ≤ v.k) : RowOk w (oneRw g v) :=
  ⟨At.cs15 (xs := [.int .u8 v.k, .int .i64 v.n, .string v.s]) z, rfl, Nat.le_refl _, by simp [oneRw, maxLen], fun u hu => by rw [List.mem_singleton.1 hu]; exact h⟩
theorem Own2.tab {w w' : World} {g : Nat} {rs : List Rw} (o : Own2 w w' g rs) : Tab w' (some ⟨g, 0, none⟩) rs := ⟨At.cs15 o.at_, fun r hr => (o.ok r hr).1⟩
theorem tab3 {w : World} {g : Nat} {r1 r2 r3 : Rw} (z : At w g #[r1.sl, r2.sl, r3.sl] 36) (h1 : RowOk w r1) (h2 : RowOk w r2) (h3 : RowOk w r3) : Tab w (some ⟨g, 0, none⟩) [r1, r2, r3] :=
  ⟨At.cs15 (xs := [r1.sl, r2.sl, r3.sl]) z, fun r hr => by
    simp only [List.mem_cons, List.not_mem_nil, or_false] at hr
    rcases hr with rfl | rfl | rfl
    · exact h1
    · exact h2
    · exact h3⟩
end Go.Proofs.Ytbiniecjenencaa
