/- Slices of ints that are the call's own. -/
import Derived.Test.YtbiniecjenencaaBase
import Derived.Test.YtbiniecjenencaaAs
import Derived.Test.YtbiniecjenencaaProg
set_option linter.unusedVariables false
set_option linter.unusedSimpArgs false
set_option maxRecDepth 10000
namespace Go.Proofs.Ytbiniecjenencaa
open Go.RowKit
theorem Try.infoI64 : (Try.prog.info? 3).map (fun i => (i.zero, i.size, i.bytes)) = some (some (.int .i64 0), 1, 8) := by kernel_rfl
/-- Numbers as cells. -/
def icells (l : List Int) : List Value := l.map (Value.int .i64)
theorem icells_length (l : List Int) : (icells l).length = l.length := by simp [icells]
theorem icells_append (a b : List Int) : icells (a ++ b) = icells a ++ icells b := by simp [icells]
theorem icells_one (l : List Int) : ∀ u ∈ icells l, u.oneCell' = true := by
  intro u hu; obtain ⟨_, _, rfl⟩ := List.mem_map.1 hu; rfl
def OwnI (w0 w : World) (v : Value) (n : Nat) (l : List Int) : Prop := Own w0 w 3 1 v n (icells l)
theorem OwnI.length {w0 w : World} {v : Value} {n : Nat} {l : List Int} (h : OwnI w0 w v n l) : l.length = n := by
  have := Own.length h; simpa [icells_length] using this
theorem ics_new (w : World) (v : Value) (e : TypeId) : Cs (w.alloc (.cells #[v] e)) (some ⟨w.heap.size, 0, none⟩) [v] := by
  intro j u hj
  match j, hj with
  | 0, hj => simp at hj; subst hj; exact ⟨_, _, rfl, by simp⟩
/-- append of ints, onto ints of the call's own. -/
theorem app_is {w : World} {ops : Array Oper} {rest : List Oper} {o : Oper} {a : Act} {Q : Exit → Act → World → Prop} (w0 : World) (s x : Operand)
    (hgd : Region.wanted o (yielded ops a.tmps) = true) (ho : o.op = .call { callee := .builtin .append, args := #[s, x], argTypes := #[24, 24] })
    {v : Value} {n : Nat} {l : List Int} (hown : OwnI w0 w v n l) (hs : a.eval s = v)
    {ao : Option Addr} {m cap : Nat} {news : List Int} (hx : a.eval x = .slice ao m cap) (hm : news.length = m) (hc : Cs w ao (icells news)) (hb : (n + m) * 8 ≤ 140737488355328)
    (h : ∀ ao cap w', OwnI w0 w' (.slice ao (n + m) cap) (n + m) (l ++ news) → w.grownBy w' v.ownBlock → (∀ k, (Value.slice ao (n + m) cap).ownBlock = some k → v.ownBlock = some k ∨ w.heap.size ≤ k) → wpList Try.prog ops Q rest (a.put o.dst (.slice ao (n + m) cap)) w') :
    wpList Try.prog ops Q (o :: rest) a w :=
  wpList_append_Own w0 3 (.int .i64 0) 1 8 Try.infoI64 rfl (by decide) s x 24 24 Try.underlying24 hgd ho v n (icells l) hown hs _ m (icells news) hx
    (Src.ofCs Try.underlying24 hc (by simp [icells_length, hm]) (icells_one _)) hb (by omega) (fun ao cap w' h1 h2 _ h4 => h ao cap w' (by rw [OwnI, icells_append]; exact h1) h2 h4)
/-- append of one int, that lies in a new block. -/
theorem app_i1 {w : World} {c : Int} {e : TypeId} {ops : Array Oper} {rest : List Oper} {o : Oper} {a : Act} {Q : Exit → Act → World → Prop} (w0 : World) (s x : Operand)
    (hgd : Region.wanted o (yielded ops a.tmps) = true) (ho : o.op = .call { callee := .builtin .append, args := #[s, x], argTypes := #[24, 24] })
    {v : Value} {n : Nat} {l : List Int} (hown : OwnI w0 w v n l) (hs : a.eval s = v)
    (hx : a.eval x = .slice (some ⟨w.heap.size, 0, none⟩) 1 1) (hb : (n + 1) * 8 ≤ 140737488355328)
    (h : ∀ ao cap w', OwnI w0 w' (.slice ao (n + 1) cap) (n + 1) (l ++ [c]) → w.grownBy w' v.ownBlock → (∀ k, (Value.slice ao (n + 1) cap).ownBlock = some k → v.ownBlock = some k ∨ w.heap.size ≤ k) → wpList Try.prog ops Q rest (a.put o.dst (.slice ao (n + 1) cap)) w') :
    wpList Try.prog ops Q (o :: rest) a (w.alloc (.cells #[.int .i64 c] e)) :=
  app_is w0 s x hgd ho (Own.alloc hown _) hs hx rfl (ics_new w _ e) hb
    (fun ao cap w' h2 h3 h4 => h ao cap w' h2 ⟨h3.os, h3.tape, h3.output, Nat.le_trans (by simp) h3.size, fun k hk hn => (h3.block k (by simp; omega) hn).trans (Below.heap_alloc _ _ _ hk)⟩
      (fun k hk => (h4 k hk).imp id (fun hh => by simp at hh; omega)))
end Go.Proofs.Ytbiniecjenencaa
