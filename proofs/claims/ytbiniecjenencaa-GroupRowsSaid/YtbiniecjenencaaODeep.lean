/- Rows in memory of their own (the law's deep). -/
import Derived.Test.YtbiniecjenencaaOOwn
import Derived.Test.YtbiniecjenencaaOConcat
set_option linter.unusedVariables false
set_option linter.unusedSimpArgs false
set_option maxRecDepth 10000
namespace Go.Proofs.Ytbiniecjenencaa
open Go.RowKit
theorem Cs.grown {w w' : World} {row : Option Nat} {ao : Option Addr} {xs : List Value} (h : Cs w ao xs) (g : w.grownBy w' row) (hr : ∀ a, ao = some a → a.block < w.heap.size ∧ row ≠ some a.block) : Cs w' ao xs := by
  intro j u hj
  obtain ⟨b, o, e, hc⟩ := h j u hj
  have := hr _ e
  refine ⟨b, o, e, ?_⟩
  rw [World.cell?_of_block (a := ⟨b, o + j, none⟩) (g.block b this.1 (fun h => this.2 h.symm))]
  exact hc
/-- Rows that lie off a slice that grows. -/
def Off (w : World) (v : Value) (rs : List Rw) : Prop := ∀ r ∈ rs, RowOk w r ∧ ∀ a, r.a = some a → a.block < w.heap.size ∧ v.ownBlock ≠ some a.block
theorem Off.below {w w' : World} {v : Value} {rs : List Rw} (h : Off w v rs) (b : Below w.heap.size w w') : Off w' v rs := fun r hr =>
  ⟨(h r hr).1.mono b, fun a ha => ⟨by have := ((h r hr).2 a ha).1; have := b.size; omega, ((h r hr).2 a ha).2⟩⟩
theorem Off.grown {w w' : World} {v v' : Value} {rs : List Rw} (h : Off w v rs) (g : w.grownBy w' v.ownBlock) (hk : ∀ k, v'.ownBlock = some k → v.ownBlock = some k ∨ w.heap.size ≤ k) : Off w' v' rs := fun r hr => by
  obtain ⟨o, hb⟩ := h r hr
  refine ⟨⟨o.cs.grown g hb, o.len, o.le, o.max, o.kind⟩, fun a ha => ?_⟩
  have h1 := hb a ha
  have h2 := g.size
  refine ⟨by omega, fun e => ?_⟩
  rcases hk _ e with h3 | h3
  · exact h1.2 h3
  · omega
end Go.Proofs.Ytbiniecjenencaa
