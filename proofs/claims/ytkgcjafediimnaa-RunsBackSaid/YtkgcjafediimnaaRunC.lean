/- Rows of runs. -/
import Derived.Test.YtkgcjafediimnaaRunP
import Derived.Test.YtkgcjafediimnaaAs
import Derived.Test.YtkgcjafediimnaaInts
import Derived.Test.YtkgcjafediimnaaProg
set_option linter.unusedVariables false
set_option linter.unusedSimpArgs false
namespace Go.Proofs.Ytkgcjafediimnaa
open Go.RowKit
/-- Runs as cells. -/
def rcells : List Rn → List Value
  | [] => []
  | r :: l => .int .i64 r.n :: .int .i64 r.k :: rcells l
theorem rcells_length : ∀ l : List Rn, (rcells l).length = l.length * 2
  | [] => rfl
  | v :: l => by simp only [rcells, List.length_cons, rcells_length l]; omega
theorem rcells_append : ∀ a b : List Rn, rcells (a ++ b) = rcells a ++ rcells b
  | [], _ => rfl
  | v :: a, b => by simp only [List.cons_append, rcells, rcells_append a b]
theorem rcells_one : ∀ l : List Rn, ∀ u ∈ rcells l, u.oneCell' = true
  | [], u, h => by cases h
  | v :: l, u, h => by
    simp only [rcells, List.mem_cons] at h
    rcases h with rfl | rfl | h
    · rfl
    · rfl
    · exact rcells_one l u h
theorem rcells_get : ∀ (l : List Rn) (i : Nat) (h : i < l.length), (rcells l)[i * 2]? = some (.int .i64 l[i].n) ∧ (rcells l)[i * 2 + 1]? = some (.int .i64 l[i].k)
  | [], i, h => absurd h (by simp)
  | v :: l, 0, h => ⟨rfl, rfl⟩
  | v :: l, i + 1, h => by
    have ih := rcells_get l i (by simpa using h)
    simp only [rcells, List.getElem_cons_succ]
    rw [show (i + 1) * 2 = i * 2 + 2 by omega]
    exact ih
theorem rcells_take : ∀ (l : List Rn) (k : Nat), (rcells l).take (k * 2) = rcells (l.take k)
  | [], k => by simp [rcells]
  | v :: l, 0 => by simp [rcells]
  | v :: l, k + 1 => by
    rw [show (k + 1) * 2 = k * 2 + 1 + 1 by omega]
    simp only [rcells, List.take_succ_cons, rcells_take l k]
theorem rcut {w : World} {ao : Option Addr} {l : List Rn} (h : Cs w ao (rcells l)) (f : Nat) : Cs w ao (rcells (l.take f)) := by
  rw [← rcells_take]; exact h.take _
theorem icut {w : World} {ao : Option Addr} {l : List Int} (h : Cs w ao (icells l)) (f : Nat) : Cs w ao (icells (l.take f)) := by
  have := h.take f; simpa [icells] using this
theorem Cs.rat {w : World} {b o : Nat} {l : List Rn} (h : Cs w (some ⟨b, o, none⟩) (rcells l)) {i : Nat} (hi : i < l.length) :
    w.cell? ⟨b, o + i * 2, none⟩ = some (.int .i64 l[i].n) ∧ w.cell? ⟨b, o + i * 2 + 1, none⟩ = some (.int .i64 l[i].k) := by
  obtain ⟨h0, h1⟩ := rcells_get l i hi
  exact ⟨h.at h0, h.at h1⟩
theorem Cs.iat {w : World} {b o : Nat} {l : List Int} (h : Cs w (some ⟨b, o, none⟩) (icells l)) {i : Nat} (hi : i < l.length) : w.cell? ⟨b, o + i, none⟩ = some (.int .i64 l[i]) :=
  h.at (by simp [icells, hi])
theorem Try.infoRn : (Try.prog.info? 34).map (fun i => (i.zero, i.size, i.bytes)) = some (some (.agg #[.int .i64 0, .int .i64 0]), 2, 16) := by kernel_rfl
def OwnR (w0 w : World) (v : Value) (n : Nat) (l : List Rn) : Prop := Own w0 w 34 2 v n (rcells l)
theorem OwnR.length {w0 w : World} {v : Value} {n : Nat} {l : List Rn} (h : OwnR w0 w v n l) : l.length = n := by
  have := Own.length h; rw [rcells_length] at this; omega
theorem rcs_new (w : World) (n k : Int) (e : TypeId) : Cs (w.alloc (.cells #[.int .i64 n, .int .i64 k] e)) (some ⟨w.heap.size, 0, none⟩) (rcells [⟨n, k⟩]) := by
  intro j u hj
  match j, hj with
  | 0, hj => simp [rcells] at hj; subst hj; exact ⟨_, _, rfl, by simp⟩
  | 1, hj => simp [rcells] at hj; subst hj; exact ⟨_, _, rfl, by simp⟩
/-- append of one run, that lies in a new block. -/
theorem app_r1 {w : World} {x y : Int} {e : TypeId} {ops : Array Oper} {rest : List Oper} {o : Oper} {a : Act} {Q : Exit → Act → World → Prop} (w0 : World) (s z : Operand)
    (hgd : Region.wanted o (yielded ops a.tmps) = true) (ho : o.op = .call { callee := .builtin .append, args := #[s, z], argTypes := #[30, 30] })
    {v : Value} {n : Nat} {l : List Rn} (hown : OwnR w0 w v n l) (hs : a.eval s = v)
    (hx : a.eval z = .slice (some ⟨w.heap.size, 0, none⟩) 1 1) (hb : (n + 1) * 16 ≤ 140737488355328)
    (h : ∀ ao cap w', OwnR w0 w' (.slice ao (n + 1) cap) (n + 1) (l ++ [⟨x, y⟩]) → w.grownBy w' v.ownBlock → (∀ k, (Value.slice ao (n + 1) cap).ownBlock = some k → v.ownBlock = some k ∨ w.heap.size ≤ k) → wpList Try.prog ops Q rest (a.put o.dst (.slice ao (n + 1) cap)) w') :
    wpList Try.prog ops Q (o :: rest) a (w.alloc (.cells #[.int .i64 x, .int .i64 y] e)) :=
  wpList_append_Own w0 34 (.agg #[.int .i64 0, .int .i64 0]) 2 16 Try.infoRn rfl (by decide) s z 30 30 Try.underlying30 hgd ho v n (rcells l) (Own.alloc hown _) hs _ 1 (rcells [⟨x, y⟩]) hx
    (Src.ofCs Try.underlying30 (rcs_new w x y e) rfl (rcells_one _)) hb (by omega) (fun ao cap w' h1 h3 _ h4 => h ao cap w' (by rw [OwnR, rcells_append]; exact h1)
      ⟨h3.os, h3.tape, h3.output, Nat.le_trans (by simp) h3.size, fun k hk hn => (h3.block k (by simp; omega) hn).trans (Below.heap_alloc _ _ _ hk)⟩ (fun k hk => (h4 k hk).imp id (fun hh => by simp at hh; omega)))
end Go.Proofs.Ytkgcjafediimnaa
