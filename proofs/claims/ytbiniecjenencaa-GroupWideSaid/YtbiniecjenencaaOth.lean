/- Worlds that are alike but for some blocks. -/
import Derived.Test.YtbiniecjenencaaRow
import Derived.Test.YtbiniecjenencaaOOwn
set_option linter.unusedVariables false
set_option linter.unusedSimpArgs false
set_option maxRecDepth 10000
namespace Go.Proofs.Ytbiniecjenencaa
open Go.RowKit
/-- All but blocks of P is as it was. -/
structure Oth (P : Nat → Prop) (w x : World) : Prop where
  os : x.os = w.os
  tape : x.tape = w.tape
  output : x.output = w.output
  size : w.heap.size ≤ x.heap.size
  block : ∀ k, k < w.heap.size → ¬ P k → x.heap[k]? = w.heap[k]?
section
variable {P : Nat → Prop} {w x : World}
theorem Oth.refl (P : Nat → Prop) (w : World) : Oth P w w := ⟨rfl, rfl, rfl, Nat.le_refl _, fun _ _ _ => rfl⟩
theorem Oth.trans {y : World} (h : Oth P w x) (k : Oth P x y) : Oth P w y := ⟨k.os.trans h.os, k.tape.trans h.tape, k.output.trans h.output, Nat.le_trans h.size k.size, fun i hi hn => (k.block i (Nat.lt_of_lt_of_le hi h.size) hn).trans (h.block i hi hn)⟩
theorem Oth.of_below (P : Nat → Prop) (h : Below w.heap.size w x) : Oth P w x := ⟨h.os, h.tape, h.output, h.size, fun k hk _ => h.block k hk⟩
theorem Oth.below {y : World} (h : Oth P w x) (k : Below x.heap.size x y) : Oth P w y := h.trans (Oth.of_below P k)
theorem Oth.set (h : Oth P w x) (a : Addr) (v : Value) (ha : P a.block ∨ w.heap.size ≤ a.block) : Oth P w (x.setCell a v) := by
  refine ⟨h.os, h.tape, h.output, Nat.le_trans h.size (by simp [World.setCell]), fun k hk hn => ?_⟩
  rw [Below.heap_setCell x a v k (fun e => by
    rcases ha with ha | ha
    · exact hn (by rw [e]; exact ha)
    · omega)]
  exact h.block k hk hn
theorem Oth.mono {Q : Nat → Prop} (h : Oth P w x) (hq : ∀ k, k < w.heap.size → P k → Q k) : Oth Q w x := ⟨h.os, h.tape, h.output, h.size, fun k hk hn => h.block k hk (fun hp => hn (hq k hk hp))⟩
/-- A store into blocks that were not there when the call began. -/
theorem Oth.low {B : Nat} (h : Oth P w x) (hp : ∀ k, P k → B ≤ k) (hB : B ≤ w.heap.size) : Below B w x := ⟨h.os, h.tape, h.output, h.size, fun k hk => h.block k (by omega) (fun hpk => by have := hp k hpk; omega)⟩
theorem Oth.at {g : Nat} {cs : Array Value} {t : TypeId} (h : Oth P w x) (z : At w g cs t) (hg : ¬ P g) : At x g cs t := (h.block g z.lt hg).trans z
theorem Oth.cs {ao : Option Addr} {xs : List Value} (h : Oth P w x) (hc : Cs w ao xs) (ha : xs ≠ [] → ∀ a, ao = some a → ¬ P a.block) : Cs x ao xs := by
  intro j u hj
  obtain ⟨b, o, e, hcell⟩ := hc j u hj
  have hne : xs ≠ [] := fun e0 => by rw [e0] at hj; simp at hj
  refine ⟨b, o, e, ?_⟩
  rw [World.cell?_of_block (a := ⟨b, o + j, none⟩) (h.block b (lt_cell hcell) (ha hne _ e))]
  exact hcell
theorem Oth.row {r : Rw} (h : Oth P w x) (o : RowOk w r) (ha : ∀ a, r.a = some a → ¬ P a.block) : RowOk x r := ⟨h.cs o.cs (fun _ => ha), o.len, o.le, o.max, o.kind⟩
theorem Oth.owns {base : Nat} {e : TypeId} {size : Nat} {v : Value} {n : Nat} {xs : List Value} (h : Oth P w x) (o : w.ownsRow base e size v n xs) (ha : ∀ k, v.ownBlock = some k → ¬ P k) : x.ownsRow base e size v n xs := by
  refine ⟨o.1, ?_⟩
  rcases o.2 with hn | ⟨g, cap, cur, rfl, hb, hgg, rest⟩
  · exact .inl hn
  · exact .inr ⟨g, cap, cur, rfl, hb, (h.block g (Array.getElem?_eq_some_iff.1 hgg).1 (ha g rfl)).trans hgg, rest⟩
end
theorem Own.oth {P : Nat → Prop} {w0 w x : World} {e size n : Nat} {v : Value} {xs : List Value} (h : Own w0 w e size v n xs) (o : Oth P w x) (hv : ∀ k, v.ownBlock = some k → ¬ P k) (hP : ∀ k, P k → w0.heap.size ≤ k) : Own w0 x e size v n xs :=
  ⟨o.owns h.1 hv, h.2.trans (o.low hP h.le)⟩
theorem Oth.of_grown {w x : World} {row : Option Nat} (g : w.grownBy x row) : Oth (fun k => row = some k) w x := ⟨g.os, g.tape, g.output, g.size, fun k hk hn => g.block k hk (fun e => hn e.symm)⟩
end Go.Proofs.Ytbiniecjenencaa
