/- Rows, one behind the other: Grow, Concat. -/
import Derived.Test.YtbiniecjenencaaOOwn
import Derived.Lib.AppendZeros
set_option linter.unusedVariables false
set_option linter.unusedSimpArgs false
set_option maxRecDepth 10000
namespace Go.Proofs.Ytbiniecjenencaa
open Go.RowKit
def OwnRs (w0 w : World) (v : Value) (n : Nat) (rows : List Rw) : Prop := Own w0 w 36 1 v n (rwcells rows)
theorem OwnRs.length {w0 w : World} {v : Value} {n : Nat} {l : List Rw} (h : OwnRs w0 w v n l) : l.length = n := by
  have := Own.length h; simpa [rwcells_length] using this
/-- append of rows, onto rows of the call's own. -/
theorem app_rws {w : World} {ops : Array Oper} {rest : List Oper} {o : Oper} {a : Act} {Q : Exit → Act → World → Prop} (w0 : World) (s x : Operand)
    (hgd : Region.wanted o (yielded ops a.tmps) = true) (ho : o.op = .call { callee := .builtin .append, args := #[s, x], argTypes := #[23, 23] })
    {v : Value} {n : Nat} {l : List Rw} (hown : OwnRs w0 w v n l) (hs : a.eval s = v)
    {ao : Option Addr} {m cap : Nat} {news : List Rw} (hx : a.eval x = .slice ao m cap) (hm : news.length = m) (hc : Cs w ao (rwcells news)) (hb : (n + m) * 24 ≤ 140737488355328)
    (h : ∀ ao cap w', OwnRs w0 w' (.slice ao (n + m) cap) (n + m) (l ++ news) → w.grownBy w' v.ownBlock → (∀ k, (Value.slice ao (n + m) cap).ownBlock = some k → v.ownBlock = some k ∨ w.heap.size ≤ k) → wpList Try.prog ops Q rest (a.put o.dst (.slice ao (n + m) cap)) w') :
    wpList Try.prog ops Q (o :: rest) a w :=
  wpList_append_Own w0 36 (.slice none 0 0) 1 24 Try.infoRow rfl (by decide) s x 23 23 Try.underlying23 hgd ho v n (rwcells l) hown hs _ m (rwcells news) hx
    (Src.ofCs Try.underlying23 hc (by rw [rwcells_length, hm]; omega) (rwcells_one _)) hb (by omega) (fun ao cap w' h1 h2 _ h4 => h ao cap w' (by rw [OwnRs, rwcells_append]; exact h1) h2 h4)
theorem rws_new (w : World) (r : Rw) (e : TypeId) : Cs (w.alloc (.cells #[.slice r.a r.n r.cap] e)) (some ⟨w.heap.size, 0, none⟩) (rwcells [r]) := by
  intro j u hj
  match j, hj with
  | 0, hj => simp [rwcells, Rw.sl] at hj; subst hj; exact ⟨_, _, rfl, by simp⟩
/-- append of one row. -/
theorem app_rw1 {w : World} {r : Rw} {e : TypeId} {ops : Array Oper} {rest : List Oper} {o : Oper} {a : Act} {Q : Exit → Act → World → Prop} (w0 : World) (s x : Operand)
    (hgd : Region.wanted o (yielded ops a.tmps) = true) (ho : o.op = .call { callee := .builtin .append, args := #[s, x], argTypes := #[23, 23] })
    {v : Value} {n : Nat} {l : List Rw} (hown : OwnRs w0 w v n l) (hs : a.eval s = v)
    (hx : a.eval x = .slice (some ⟨w.heap.size, 0, none⟩) 1 1) (hb : (n + 1) * 24 ≤ 140737488355328)
    (h : ∀ ao cap w', OwnRs w0 w' (.slice ao (n + 1) cap) (n + 1) (l ++ [r]) → w.grownBy w' v.ownBlock → (∀ k, (Value.slice ao (n + 1) cap).ownBlock = some k → v.ownBlock = some k ∨ w.heap.size ≤ k) → wpList Try.prog ops Q rest (a.put o.dst (.slice ao (n + 1) cap)) w') :
    wpList Try.prog ops Q (o :: rest) a (w.alloc (.cells #[.slice r.a r.n r.cap] e)) :=
  app_rws w0 s x hgd ho (Own.alloc hown _) hs hx rfl (rws_new w r e) hb
    (fun ao cap w' h2 h3 h4 => h ao cap w' h2 ⟨h3.os, h3.tape, h3.output, Nat.le_trans (by simp) h3.size, fun k hk hn => (h3.block k (by simp; omega) hn).trans (Below.heap_alloc _ _ _ hk)⟩
      (fun k hk => (h4 k hk).imp id (fun hh => by simp at hh; omega)))
end Go.Proofs.Ytbiniecjenencaa
