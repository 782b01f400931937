/- s[k:] of rows. -/
import Derived.Test.YtbiniecjenencaaRow
import Derived.Test.YtbiniecjenencaaAs
set_option linter.unusedVariables false
set_option linter.unusedSimpArgs false
set_option maxRecDepth 10000
namespace Go.Proofs.Ytbiniecjenencaa
open Go.RowKit
/-- s[k:] of rows. -/
theorem exec_cutR {ρ : Operand → Value} {x lo : Operand} {dst : Option Tmp} {ty : TypeId} {pos : String} {af : Array Edge} {g : Option (Nat × Bool)} (ao : Option Addr) (n cap k : Nat) (hx : ρ x = .slice ao n cap) (hlo : ρ lo = .int .i64 (k : Int)) (hk : k ≤ n) (hn : n ≤ cap) (w : World) :
    (execOp ρ ⟨dst, .slice 23 x (some lo) none none, ty, pos, af, g⟩).run Try.prog w = .ok (.value (.slice (if cap = k then ao else ao.map fun x => x.add k) (n - k) (cap - k))) w := by
  have h1 : (k : Int) ≤ (n : Int) := by omega
  have h2 : (n : Int) ≤ (cap : Int) := by omega
  have h3 : 0 ≤ (k : Int) := by omega
  simp [execOp, hx, hlo, go_sem, hk, hn, h1, h2, h3]
theorem rwcells_drop (l : List Rw) (k : Nat) : (rwcells l).drop k = rwcells (l.drop k) := by simp [rwcells]
theorem Cs.rcut {w : World} {ao : Option Addr} {l : List Rw} (h : Cs w ao (rwcells l)) (k c : Nat) (hc : l.length ≤ c) : Cs w (if c = k then ao else ao.map fun x => x.add k) (rwcells (l.drop k)) := by
  rw [← rwcells_drop]; exact h.cut k c (by rw [rwcells_length]; exact hc)
theorem wpList_cutR {ops : Array Oper} {rest : List Oper} {w : World} {Q : Exit → Act → World → Prop} {dst : Option Tmp} {x lo : Operand} {ty : TypeId} {pos : String} {af : Array Edge} {g : Option (Nat × Bool)} {a : Act} (ao : Option Addr) (n cap k : Nat) {l : List Rw}
    (hgd : Region.wanted ⟨dst, .slice 23 x (some lo) none none, ty, pos, af, g⟩ (yielded ops a.tmps) = true) (hx : a.eval x = .slice ao n cap) (hlo : a.eval lo = .int .i64 (k : Int)) (hk : k ≤ n) (hn : n ≤ cap) (hc : Cs w ao (rwcells l)) (hl : l.length = n)
    (h : ∀ ao', (∀ w, Cs w ao (rwcells l) → Cs w ao' (rwcells (l.drop k))) → wpList Try.prog ops Q rest (a.put dst (.slice ao' (n - k) (cap - k))) w) : wpList Try.prog ops Q (⟨dst, .slice 23 x (some lo) none none, ty, pos, af, g⟩ :: rest) a w :=
  wpList_as _ hgd (exec_cutR ao n cap k hx hlo hk hn w) (h _ (fun w hc => hc.rcut k cap (by omega)))
end Go.Proofs.Ytbiniecjenencaa
