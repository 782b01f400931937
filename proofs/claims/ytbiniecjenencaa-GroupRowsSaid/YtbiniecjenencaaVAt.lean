/- More laws on a value in a block of its own. -/
import Derived.Test.YtbiniecjenencaaRight
import Derived.Test.YtbiniecjenencaaAs
import Derived.Test.YtbiniecjenencaaMix2
set_option linter.unusedVariables false
set_option linter.unusedSimpArgs false
set_option maxRecDepth 10000
namespace Go.Proofs.Ytbiniecjenencaa
open Go.RowKit
theorem VAt.free {w : World} {g : Nat} {a : V} (h : VAt w g a) : w.frozen? ⟨g, 0, none⟩ = false ∧ w.frozen? ⟨g, 1, none⟩ = false ∧ w.frozen? ⟨g, 2, none⟩ = false := by
  unfold VAt at h
  refine ⟨?_, ?_, ?_⟩ <;> simp [World.frozen?, h]
theorem VAt.lt {w : World} {g : Nat} {a : V} (h : VAt w g a) : g < w.heap.size := h.open_.2.2.2
theorem VAt.set0 {w : World} {g : Nat} {a : V} (h : VAt w g a) (k : Int) : VAt (w.setCell ⟨g, 0, none⟩ (.int .u8 k)) g ⟨k, a.n, a.s⟩ := by
  unfold VAt at *; simp [World.setCell, Array.getElem?_modify, h]
theorem VAt.set1 {w : World} {g : Nat} {a : V} (h : VAt w g a) (n : Int) : VAt (w.setCell ⟨g, 1, none⟩ (.int .i64 n)) g ⟨a.k, n, a.s⟩ := by
  unfold VAt at *; simp [World.setCell, Array.getElem?_modify, h]
theorem VAt.set2 {w : World} {g : Nat} {a : V} (h : VAt w g a) (s : ByteArray) : VAt (w.setCell ⟨g, 2, none⟩ (.string s)) g ⟨a.k, a.n, s⟩ := by
  unfold VAt at *; simp [World.setCell, Array.getElem?_modify, h]
theorem VAt.put {w : World} {g : Nat} {a : V} (h : VAt w g a) (k n : Int) (s : ByteArray) : VAt (((w.setCell ⟨g, 0, none⟩ (.int .u8 k)).setCell ⟨g, 1, none⟩ (.int .i64 n)).setCell ⟨g, 2, none⟩ (.string s)) g ⟨k, n, s⟩ :=
  ((h.set0 k).set1 n).set2 s
theorem VAt.grown {w w' : World} {g : Nat} {a : V} {row : Option Nat} (h : VAt w g a) (hg : w.grownBy w' row) (hn : some g ≠ row) : VAt w' g a := (hg.block g h.lt hn).trans h
theorem VAt.off {w : World} {g : Nat} {a : V} (h : VAt w g a) {p : Addr} (hp : g ≠ p.block) (u : Value) : VAt (w.setCell p u) g a := (Below.heap_setCell w p u g hp).trans h
theorem RX.put {B : Nat} (g : Nat) (w : World) (k n : Int) (s : ByteArray) : RX B (some g) w (((w.setCell ⟨g, 0, none⟩ (.int .u8 k)).setCell ⟨g, 1, none⟩ (.int .i64 n)).setCell ⟨g, 2, none⟩ (.string s)) :=
  ((RX.set w ⟨g, 0, none⟩ _ (.inr rfl)).trans (RX.set _ ⟨g, 1, none⟩ _ (.inr rfl))).trans (RX.set _ ⟨g, 2, none⟩ _ (.inr rfl))
theorem Own.cs_put {w0 w : World} {e size n : Nat} {v : Value} {xs : List Value} {g : Nat} (h : Own w0 w e size v n xs) (k m : Int) (s : ByteArray) (hp : w0.heap.size ≤ g) (hn : v.ownBlock ≠ some g) : Own w0 (((w.setCell ⟨g, 0, none⟩ (.int .u8 k)).setCell ⟨g, 1, none⟩ (.int .i64 m)).setCell ⟨g, 2, none⟩ (.string s)) e size v n xs :=
  ((h.far ⟨g, 0, none⟩ _ hp hn).far ⟨g, 1, none⟩ _ hp hn).far ⟨g, 2, none⟩ _ hp hn
theorem Cs.put {w : World} {ao : Option Addr} {xs : List Value} (h : Cs w ao xs) (k m : Int) (s : ByteArray) {g : Nat} (hn : ∀ a, ao = some a → a.block ≠ g) : Cs (((w.setCell ⟨g, 0, none⟩ (.int .u8 k)).setCell ⟨g, 1, none⟩ (.int .i64 m)).setCell ⟨g, 2, none⟩ (.string s)) ao xs :=
  ((h.off ⟨g, 0, none⟩ _ hn).off ⟨g, 1, none⟩ _ hn).off ⟨g, 2, none⟩ _ hn
theorem below_put {B : Nat} {a w : World} {g : Nat} (h : Below B a w) (hg : B ≤ g) (k n : Int) (s : ByteArray) : Below B a (((w.setCell ⟨g, 0, none⟩ (.int .u8 k)).setCell ⟨g, 1, none⟩ (.int .i64 n)).setCell ⟨g, 2, none⟩ (.string s)) :=
  ((h.setCell (p := ⟨g, 0, none⟩) hg _).setCell (p := ⟨g, 1, none⟩) hg _).setCell (p := ⟨g, 2, none⟩) hg _
end Go.Proofs.Ytbiniecjenencaa
