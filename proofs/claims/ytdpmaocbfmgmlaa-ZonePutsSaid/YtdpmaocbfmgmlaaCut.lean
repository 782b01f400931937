/- s[k:] of bytes, with the address under one name. -/
import Derived.Test.YtdpmaocbfmgmlaaAs
import Derived.Test.YtdpmaocbfmgmlaaProg
set_option linter.unusedVariables false
set_option linter.unusedSimpArgs false
namespace Go.Proofs.Ytdpmaocbfmgmlaa
open Go.RowKit
theorem exec_cutB {ρ : Operand → Value} {x lo : Operand} {dst : Option Tmp} {ty : TypeId} {pos : String} {af : Array Edge} {g : Option (Nat × Bool)} (ao : Option Addr) (n cap k : Nat) (hx : ρ x = .slice ao n cap) (hlo : ρ lo = .int .i64 (k : Int)) (hk : k ≤ n) (hn : n ≤ cap) (w : World) :
    (execOp ρ ⟨dst, .slice 40 x (some lo) none none, ty, pos, af, g⟩).run Try.prog w = .ok (.value (.slice (if cap = k then ao else ao.map fun x => x.add k) (n - k) (cap - k))) w := by
  have h1 : (k : Int) ≤ (n : Int) := by omega
  have h2 : (n : Int) ≤ (cap : Int) := by omega
  have h3 : 0 ≤ (k : Int) := by omega
  simp [execOp, hx, hlo, go_sem, hk, hn, h1, h2, h3]
theorem wpList_cutB {ops : Array Oper} {rest : List Oper} {w : World} {Q : Exit → Act → World → Prop} {dst : Option Tmp} {x lo : Operand} {ty : TypeId} {pos : String} {af : Array Edge} {g : Option (Nat × Bool)} {a : Act} (ao : Option Addr) (n cap k : Nat) {l : List UInt8}
    (hgd : Region.wanted ⟨dst, .slice 40 x (some lo) none none, ty, pos, af, g⟩ (yielded ops a.tmps) = true) (hx : a.eval x = .slice ao n cap) (hlo : a.eval lo = .int .i64 (k : Int)) (hk : k ≤ n) (hn : n ≤ cap) (hc : Cs w ao (bcells l)) (hl : l.length = n)
    (h : ∀ ao', Cs w ao' (bcells (l.drop k)) → wpList Try.prog ops Q rest (a.put dst (.slice ao' (n - k) (cap - k))) w) : wpList Try.prog ops Q (⟨dst, .slice 40 x (some lo) none none, ty, pos, af, g⟩ :: rest) a w :=
  wpList_as _ hgd (exec_cutB ao n cap k hx hlo hk hn w) (h _ (hc.bcut k cap (by omega)))
end Go.Proofs.Ytdpmaocbfmgmlaa
