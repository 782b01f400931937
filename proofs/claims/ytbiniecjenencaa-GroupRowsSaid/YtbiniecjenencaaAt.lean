/- A block of cells, told at once. -/
import Derived.Test.YtbiniecjenencaaAs
import Derived.Test.YtbiniecjenencaaMix2
set_option linter.unusedVariables false
set_option linter.unusedSimpArgs false
set_option maxRecDepth 10000
namespace Go.Proofs.Ytbiniecjenencaa
open Go.RowKit
def At (w : World) (g : Nat) (cs : Array Value) (t : TypeId) : Prop := w.heap[g]? = some (.cells cs t (0, 0))
theorem At.new (w : World) (cs : Array Value) (t : TypeId) : At (w.alloc (.cells cs t)) w.heap.size cs t := _root_.Go.heap_alloc_new w _
theorem At.lt {w : World} {g : Nat} {cs : Array Value} {t : TypeId} (h : At w g cs t) : g < w.heap.size := (Array.getElem?_eq_some_iff.1 h).1
theorem At.mono {w w' : World} {g : Nat} {cs : Array Value} {t : TypeId} (h : At w g cs t) (hb : Below w.heap.size w w') : At w' g cs t := (hb.block g h.lt).trans h
theorem At.alloc {w : World} {g : Nat} {cs : Array Value} {t : TypeId} (h : At w g cs t) (o : Obj) : At (w.alloc o) g cs t := h.mono ((Below.refl _ _).alloc (Nat.le_refl _) _)
theorem At.cell {w : World} {g : Nat} {cs : Array Value} {t : TypeId} (h : At w g cs t) (i : Nat) {v : Value} (hi : cs[i]? = some v) : w.cell? ⟨g, i, none⟩ = some v := by
  unfold At at h
  simp [World.cell?, h, hi]
theorem At.free {w : World} {g : Nat} {cs : Array Value} {t : TypeId} (h : At w g cs t) (i : Nat) : w.frozen? ⟨g, i, none⟩ = false := by
  unfold At at h; simp [World.frozen?, h]
theorem At.set {w : World} {g : Nat} {cs : Array Value} {t : TypeId} (h : At w g cs t) (i : Nat) (v : Value) : At (w.setCell ⟨g, i, none⟩ v) g (cs.setIfInBounds i v) t := by
  unfold At at *; simp [World.setCell, Array.getElem?_modify, h]
theorem At.off {w : World} {g : Nat} {cs : Array Value} {t : TypeId} (h : At w g cs t) {p : Addr} (hp : g ≠ p.block) (u : Value) : At (w.setCell p u) g cs t := (Below.heap_setCell w p u g hp).trans h
theorem RX.at {B : Nat} {w x : World} {g : Nat} {cs : Array Value} {t : TypeId} (h : RX B none w x) (z : At w g cs t) (hb : g < B) : At x g cs t := (h.block g hb (by simp)).trans z
theorem mix_startN {P : Program} {id : Nat} {Q : Exit → Act → World → Prop} {a : Act} {w : World} {l : List Oper} (n : Nat) (hn : l.length = n) (hm : P.follows .mixedOrders = true)
    (h : ∀ x, Ext w x → wpAnyM P .any l.toArray AnyW (fun a x => Q .normal a x) n (Array.replicate n false) x a) : (Code.region id l.toArray true).wp P Q a w :=
  mix_start AnyW Keeps.any n hn hm (h w.drew (show Ext w w.drew from (Below.refl _ _).drew))
theorem RX.realloc {B : Nat} {x : World} (h : B ≤ x.heap.size) (o o' : Obj) : RX B none (x.alloc o) (x.alloc o') :=
  ⟨rfl, rfl, rfl, by simp, fun k hk _ => by
    have h1 := ((Below.refl x.heap.size x).alloc (Nat.le_refl _) o).block k (by omega)
    have h2 := ((Below.refl x.heap.size x).alloc (Nat.le_refl _) o').block k (by omega)
    exact h2.trans h1.symm⟩
theorem lt_cell {w : World} {a : Addr} {v : Value} (h : w.cell? a = some v) : a.block < w.heap.size := by
  rcases Nat.lt_or_ge a.block w.heap.size with h1 | h1
  · exact h1
  · simp [World.cell?, Array.getElem?_eq_none h1] at h
theorem RX.set3 {B : Nat} {g : Nat} (w : World) (v0 v1 v2 : Value) (h : B ≤ g) : RX B none w (((w.setCell ⟨g, 0, none⟩ v0).setCell ⟨g, 1, none⟩ v1).setCell ⟨g, 2, none⟩ v2) :=
  (((RX.refl w).trans (RX.set _ ⟨g, 0, none⟩ v0 (.inl h))).trans (RX.set _ ⟨g, 1, none⟩ v1 (.inl h))).trans (RX.set _ ⟨g, 2, none⟩ v2 (.inl h))
theorem below_set3 {B : Nat} {a w : World} {g : Nat} (hb : Below B a w) (v0 v1 v2 : Value) (h : B ≤ g) : Below B a (((w.setCell ⟨g, 0, none⟩ v0).setCell ⟨g, 1, none⟩ v1).setCell ⟨g, 2, none⟩ v2) :=
  (((hb).setCell (p := ⟨g, 0, none⟩) h v0).setCell (p := ⟨g, 1, none⟩) h v1).setCell (p := ⟨g, 2, none⟩) h v2
theorem At.off3 {w : World} {g g' : Nat} {cs : Array Value} {t : TypeId} (z : At w g' cs t) (v0 v1 v2 : Value) (h : g' ≠ g) : At (((w.setCell ⟨g, 0, none⟩ v0).setCell ⟨g, 1, none⟩ v1).setCell ⟨g, 2, none⟩ v2) g' cs t :=
  (((z).off (p := ⟨g, 0, none⟩) h v0).off (p := ⟨g, 1, none⟩) h v1).off (p := ⟨g, 2, none⟩) h v2
theorem At.set3 {w : World} {g : Nat} {u0 u1 u2 : Value} {t : TypeId} (z : At w g #[u0, u1, u2] t) (v0 v1 v2 : Value) : At (((w.setCell ⟨g, 0, none⟩ v0).setCell ⟨g, 1, none⟩ v1).setCell ⟨g, 2, none⟩ v2) g #[v0, v1, v2] t := by
  have z0 : At (w.setCell ⟨g, 0, none⟩ v0) g #[v0, u1, u2] t := At.set z 0 v0
  have z1 : At ((w.setCell ⟨g, 0, none⟩ v0).setCell ⟨g, 1, none⟩ v1) g #[v0, v1, u2] t := At.set z0 1 v1
  have z2 : At (((w.setCell ⟨g, 0, none⟩ v0).setCell ⟨g, 1, none⟩ v1).setCell ⟨g, 2, none⟩ v2) g #[v0, v1, v2] t := At.set z1 2 v2
  exact z2
theorem RX.set8 {B : Nat} {g : Nat} (w : World) (v0 v1 v2 v3 v4 v5 v6 v7 : Value) (h : B ≤ g) : RX B none w ((((((((w.setCell ⟨g, 0, none⟩ v0).setCell ⟨g, 1, none⟩ v1).setCell ⟨g, 2, none⟩ v2).setCell ⟨g, 3, none⟩ v3).setCell ⟨g, 4, none⟩ v4).setCell ⟨g, 5, none⟩ v5).setCell ⟨g, 6, none⟩ v6).setCell ⟨g, 7, none⟩ v7) :=
  ((((((((RX.refl w).trans (RX.set _ ⟨g, 0, none⟩ v0 (.inl h))).trans (RX.set _ ⟨g, 1, none⟩ v1 (.inl h))).trans (RX.set _ ⟨g, 2, none⟩ v2 (.inl h))).trans (RX.set _ ⟨g, 3, none⟩ v3 (.inl h))).trans (RX.set _ ⟨g, 4, none⟩ v4 (.inl h))).trans (RX.set _ ⟨g, 5, none⟩ v5 (.inl h))).trans (RX.set _ ⟨g, 6, none⟩ v6 (.inl h))).trans (RX.set _ ⟨g, 7, none⟩ v7 (.inl h))
theorem below_set8 {B : Nat} {a w : World} {g : Nat} (hb : Below B a w) (v0 v1 v2 v3 v4 v5 v6 v7 : Value) (h : B ≤ g) : Below B a ((((((((w.setCell ⟨g, 0, none⟩ v0).setCell ⟨g, 1, none⟩ v1).setCell ⟨g, 2, none⟩ v2).setCell ⟨g, 3, none⟩ v3).setCell ⟨g, 4, none⟩ v4).setCell ⟨g, 5, none⟩ v5).setCell ⟨g, 6, none⟩ v6).setCell ⟨g, 7, none⟩ v7) :=
  ((((((((hb).setCell (p := ⟨g, 0, none⟩) h v0).setCell (p := ⟨g, 1, none⟩) h v1).setCell (p := ⟨g, 2, none⟩) h v2).setCell (p := ⟨g, 3, none⟩) h v3).setCell (p := ⟨g, 4, none⟩) h v4).setCell (p := ⟨g, 5, none⟩) h v5).setCell (p := ⟨g, 6, none⟩) h v6).setCell (p := ⟨g, 7, none⟩) h v7
theorem At.off8 {w : World} {g g' : Nat} {cs : Array Value} {t : TypeId} (z : At w g' cs t) (v0 v1 v2 v3 v4 v5 v6 v7 : Value) (h : g' ≠ g) : At ((((((((w.setCell ⟨g, 0, none⟩ v0).setCell ⟨g, 1, none⟩ v1).setCell ⟨g, 2, none⟩ v2).setCell ⟨g, 3, none⟩ v3).setCell ⟨g, 4, none⟩ v4).setCell ⟨g, 5, none⟩ v5).setCell ⟨g, 6, none⟩ v6).setCell ⟨g, 7, none⟩ v7) g' cs t :=
  ((((((((z).off (p := ⟨g, 0, none⟩) h v0).off (p := ⟨g, 1, none⟩) h v1).off (p := ⟨g, 2, none⟩) h v2).off (p := ⟨g, 3, none⟩) h v3).off (p := ⟨g, 4, none⟩) h v4).off (p := ⟨g, 5, none⟩) h v5).off (p := ⟨g, 6, none⟩) h v6).off (p := ⟨g, 7, none⟩) h v7
theorem At.set8 {w : World} {g : Nat} {u0 u1 u2 u3 u4 u5 u6 u7 : Value} {t : TypeId} (z : At w g #[u0, u1, u2, u3, u4, u5, u6, u7] t) (v0 v1 v2 v3 v4 v5 v6 v7 : Value) : At ((((((((w.setCell ⟨g, 0, none⟩ v0).setCell ⟨g, 1, none⟩ v1).setCell ⟨g, 2, none⟩ v2).setCell ⟨g, 3, none⟩ v3).setCell ⟨g, 4, none⟩ v4).setCell ⟨g, 5, none⟩ v5).setCell ⟨g, 6, none⟩ v6).setCell ⟨g, 7, none⟩ v7) g #[v0, v1, v2, v3, v4, v5, v6, v7] t := by
  have z0 : At (w.setCell ⟨g, 0, none⟩ v0) g #[v0, u1, u2, u3, u4, u5, u6, u7] t := At.set z 0 v0
  have z1 : At ((w.setCell ⟨g, 0, none⟩ v0).setCell ⟨g, 1, none⟩ v1) g #[v0, v1, u2, u3, u4, u5, u6, u7] t := At.set z0 1 v1
  have z2 : At (((w.setCell ⟨g, 0, none⟩ v0).setCell ⟨g, 1, none⟩ v1).setCell ⟨g, 2, none⟩ v2) g #[v0, v1, v2, u3, u4, u5, u6, u7] t := At.set z1 2 v2
  have z3 : At ((((w.setCell ⟨g, 0, none⟩ v0).setCell ⟨g, 1, none⟩ v1).setCell ⟨g, 2, none⟩ v2).setCell ⟨g, 3, none⟩ v3) g #[v0, v1, v2, v3, u4, u5, u6, u7] t := At.set z2 3 v3
  have z4 : At (((((w.setCell ⟨g, 0, none⟩ v0).setCell ⟨g, 1, none⟩ v1).setCell ⟨g, 2, none⟩ v2).setCell ⟨g, 3, none⟩ v3).setCell ⟨g, 4, none⟩ v4) g #[v0, v1, v2, v3, v4, u5, u6, u7] t := At.set z3 4 v4
  have z5 : At ((((((w.setCell ⟨g, 0, none⟩ v0).setCell ⟨g, 1, none⟩ v1).setCell ⟨g, 2, none⟩ v2).setCell ⟨g, 3, none⟩ v3).setCell ⟨g, 4, none⟩ v4).setCell ⟨g, 5, none⟩ v5) g #[v0, v1, v2, v3, v4, v5, u6, u7] t := At.set z4 5 v5
  have z6 : At (((((((w.setCell ⟨g, 0, none⟩ v0).setCell ⟨g, 1, none⟩ v1).setCell ⟨g, 2, none⟩ v2).setCell ⟨g, 3, none⟩ v3).setCell ⟨g, 4, none⟩ v4).setCell ⟨g, 5, none⟩ v5).setCell ⟨g, 6, none⟩ v6) g #[v0, v1, v2, v3, v4, v5, v6, u7] t := At.set z5 6 v6
  have z7 : At ((((((((w.setCell ⟨g, 0, none⟩ v0).setCell ⟨g, 1, none⟩ v1).setCell ⟨g, 2, none⟩ v2).setCell ⟨g, 3, none⟩ v3).setCell ⟨g, 4, none⟩ v4).setCell ⟨g, 5, none⟩ v5).setCell ⟨g, 6, none⟩ v6).setCell ⟨g, 7, none⟩ v7) g #[v0, v1, v2, v3, v4, v5, v6, v7] t := At.set z6 7 v7
  exact z7
end Go.Proofs.Ytbiniecjenencaa
