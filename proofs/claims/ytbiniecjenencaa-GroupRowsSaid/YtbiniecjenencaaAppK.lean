/- append to a row that has memory of its own. -/
import Derived.Test.YtbiniecjenencaaOOwn
set_option linter.unusedVariables false
set_option linter.unusedSimpArgs false
set_option maxRecDepth 10000
namespace Go.Proofs.Ytbiniecjenencaa
open Go.RowKit
/-- append of values to a row that has memory of its own. -/
theorem app_rsk {w : World} {ops : Array Oper} {rest : List Oper} {o : Oper} {a : Act} {Q : Exit → Act → World → Prop} (w0 : World) (s x : Operand)
    (hgd : Region.wanted o (yielded ops a.tmps) = true) (ho : o.op = .call { callee := .builtin .append, args := #[s, x], argTypes := #[36, 36] })
    {g c n : Nat} {l : List V} (hown : OwnV w0 w (.slice (some ⟨g, 0, none⟩) n c) n l) (hs : a.eval s = .slice (some ⟨g, 0, none⟩) n c)
    {ao : Option Addr} {m cap : Nat} {news : List V} (hx : a.eval x = .slice ao m cap) (hm : news.length = m) (hc : Cs w ao (vcells news)) (hb : (n + m) * 32 ≤ 140737488355328)
    (h : ∀ g' cap w', OwnV w0 w' (.slice (some ⟨g', 0, none⟩) (n + m) cap) (n + m) (l ++ news) → w.grownBy w' (some g) → (g' = g ∨ w.heap.size ≤ g') → wpList Try.prog ops Q rest (a.put o.dst (.slice (some ⟨g', 0, none⟩) (n + m) cap)) w') :
    wpList Try.prog ops Q (o :: rest) a w :=
  wpList_append_Own w0 38 (.agg #[.int .u8 0, .int .i64 0, .string ⟨#[]⟩]) 3 32 Try.infoV rfl (by decide) s x 36 36 Try.underlying36 hgd ho _ n (vcells l) hown hs _ m (vcells news) hx
    (Src.ofCs Try.underlying36 hc (by rw [vcells_length, hm]) (vcells_one _)) hb (by omega) (fun ao cap w' h1 h2 h3 h4 => by
      rw [← vcells_append] at h1
      rcases h1.1.2 with ⟨e, _⟩ | ⟨g', cap', cur, e, _⟩
      · simp only [Value.slice.injEq] at e
        have := (h3.1 e.1).1
        simp at this
      · simp only [Value.slice.injEq] at e
        obtain ⟨rfl, -, rfl⟩ := e
        refine h g' cap w' h1 h2 ?_
        rcases h4 g' rfl with h5 | h5
        · exact .inl (Option.some.inj h5).symm
        · exact .inr h5)
/-- append of one value in a new block to such a row. -/
theorem app_rv1 {w : World} {c : V} {e : TypeId} {ops : Array Oper} {rest : List Oper} {o : Oper} {a : Act} {Q : Exit → Act → World → Prop} (w0 : World) (s x : Operand)
    (hgd : Region.wanted o (yielded ops a.tmps) = true) (ho : o.op = .call { callee := .builtin .append, args := #[s, x], argTypes := #[36, 36] })
    {g n cp : Nat} {l : List V} (hown : OwnV w0 w (.slice (some ⟨g, 0, none⟩) n cp) n l) (hs : a.eval s = .slice (some ⟨g, 0, none⟩) n cp)
    (hx : a.eval x = .slice (some ⟨w.heap.size, 0, none⟩) 1 1) (hb : (n + 1) * 32 ≤ 140737488355328)
    (h : ∀ g' cap w', OwnV w0 w' (.slice (some ⟨g', 0, none⟩) (n + 1) cap) (n + 1) (l ++ [c]) → w.grownBy w' (some g) → (g' = g ∨ w.heap.size ≤ g') → wpList Try.prog ops Q rest (a.put o.dst (.slice (some ⟨g', 0, none⟩) (n + 1) cap)) w') :
    wpList Try.prog ops Q (o :: rest) a (w.alloc (.cells #[.int .u8 c.k, .int .i64 c.n, .string c.s] e)) :=
  app_rsk w0 s x hgd ho (Own.alloc hown _) hs hx rfl (vcs_new w c e) hb
    (fun g' cap w' h2 h3 h4 => h g' cap w' h2 ⟨h3.os, h3.tape, h3.output, Nat.le_trans (by simp) h3.size, fun k hk hn => (h3.block k (by simp; omega) hn).trans (Below.heap_alloc _ _ _ hk)⟩
      (h4.imp id (fun hh => by simp at hh; omega)))
end Go.Proofs.Ytbiniecjenencaa
