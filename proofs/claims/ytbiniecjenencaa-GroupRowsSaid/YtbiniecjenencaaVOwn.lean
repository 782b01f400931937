/- Rows of values of the call's own. -/
import Derived.Test.YtbiniecjenencaaVRow
import Derived.Test.YtbiniecjenencaaAs
set_option linter.unusedVariables false
set_option linter.unusedSimpArgs false
set_option maxRecDepth 10000
namespace Go.Proofs.Ytbiniecjenencaa
open Go.RowKit
theorem Try.infoV : (Try.prog.info? 38).map (fun i => (i.zero, i.size, i.bytes)) = some (some (.agg #[.int .u8 0, .int .i64 0, .string ⟨#[]⟩]), 3, 32) := by kernel_rfl
def OwnV (w0 w : World) (v : Value) (n : Nat) (l : List V) : Prop := Own w0 w 38 3 v n (vcells l)
theorem OwnV.length {w0 w : World} {v : Value} {n : Nat} {l : List V} (h : OwnV w0 w v n l) : l.length = n := by
  have := Own.length h; rw [vcells_length] at this; omega
/-- append of values, onto values of the call's own. -/
theorem app_vs {w : World} {ops : Array Oper} {rest : List Oper} {o : Oper} {a : Act} {Q : Exit → Act → World → Prop} (w0 : World) (s x : Operand)
    (hgd : Region.wanted o (yielded ops a.tmps) = true) (ho : o.op = .call { callee := .builtin .append, args := #[s, x], argTypes := #[35, 35] })
    {v : Value} {n : Nat} {l : List V} (hown : OwnV w0 w v n l) (hs : a.eval s = v)
    {ao : Option Addr} {m cap : Nat} {news : List V} (hx : a.eval x = .slice ao m cap) (hm : news.length = m) (hc : Cs w ao (vcells news)) (hb : (n + m) * 32 ≤ 140737488355328)
    (h : ∀ ao cap w', OwnV w0 w' (.slice ao (n + m) cap) (n + m) (l ++ news) → w.grownBy w' v.ownBlock → (∀ k, (Value.slice ao (n + m) cap).ownBlock = some k → v.ownBlock = some k ∨ w.heap.size ≤ k) → wpList Try.prog ops Q rest (a.put o.dst (.slice ao (n + m) cap)) w') :
    wpList Try.prog ops Q (o :: rest) a w :=
  wpList_append_Own w0 38 (.agg #[.int .u8 0, .int .i64 0, .string ⟨#[]⟩]) 3 32 Try.infoV rfl (by decide) s x 35 35 Try.underlying35 hgd ho v n (vcells l) hown hs _ m (vcells news) hx
    (Src.ofCs Try.underlying35 hc (by rw [vcells_length, hm]) (vcells_one _)) hb (by omega) (fun ao cap w' h1 h2 _ h4 => h ao cap w' (by rw [OwnV, vcells_append]; exact h1) h2 h4)
theorem vcs_new (w : World) (v : V) (e : TypeId) : Cs (w.alloc (.cells #[.int .u8 v.k, .int .i64 v.n, .string v.s] e)) (some ⟨w.heap.size, 0, none⟩) (vcells [v]) := by
  intro j u hj
  match j, hj with
  | 0, hj => simp [vcells] at hj; subst hj; exact ⟨_, _, rfl, by simp⟩
  | 1, hj => simp [vcells] at hj; subst hj; exact ⟨_, _, rfl, by simp⟩
  | 2, hj => simp [vcells] at hj; subst hj; exact ⟨_, _, rfl, by simp⟩
/-- append of one value, that lies in a new block. -/
theorem app_v1 {w : World} {c : V} {e : TypeId} {ops : Array Oper} {rest : List Oper} {o : Oper} {a : Act} {Q : Exit → Act → World → Prop} (w0 : World) (s x : Operand)
    (hgd : Region.wanted o (yielded ops a.tmps) = true) (ho : o.op = .call { callee := .builtin .append, args := #[s, x], argTypes := #[35, 35] })
    {v : Value} {n : Nat} {l : List V} (hown : OwnV w0 w v n l) (hs : a.eval s = v)
    (hx : a.eval x = .slice (some ⟨w.heap.size, 0, none⟩) 1 1) (hb : (n + 1) * 32 ≤ 140737488355328)
    (h : ∀ ao cap w', OwnV w0 w' (.slice ao (n + 1) cap) (n + 1) (l ++ [c]) → w.grownBy w' v.ownBlock → (∀ k, (Value.slice ao (n + 1) cap).ownBlock = some k → v.ownBlock = some k ∨ w.heap.size ≤ k) → wpList Try.prog ops Q rest (a.put o.dst (.slice ao (n + 1) cap)) w') :
    wpList Try.prog ops Q (o :: rest) a (w.alloc (.cells #[.int .u8 c.k, .int .i64 c.n, .string c.s] e)) :=
  app_vs w0 s x hgd ho (Own.alloc hown _) hs hx rfl (vcs_new w c e) hb
    (fun ao cap w' h2 h3 h4 => h ao cap w' h2 ⟨h3.os, h3.tape, h3.output, Nat.le_trans (by simp) h3.size, fun k hk hn => (h3.block k (by simp; omega) hn).trans (Below.heap_alloc _ _ _ hk)⟩
      (fun k hk => (h4 k hk).imp id (fun hh => by simp at hh; omega)))
end Go.Proofs.Ytbiniecjenencaa
