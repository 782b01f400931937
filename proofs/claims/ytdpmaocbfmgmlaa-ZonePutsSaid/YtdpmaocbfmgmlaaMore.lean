/- More plain laws on memory. -/
import Derived.Test.YtdpmaocbfmgmlaaNum
import Derived.Test.YtdpmaocbfmgmlaaAs
set_option linter.unusedVariables false
set_option linter.unusedSimpArgs false
namespace Go.Proofs.Ytdpmaocbfmgmlaa
open Go.RowKit
/-- append of bytes, with the place of what comes out. -/
theorem app_bsx {w : World} {ops : Array Oper} {rest : List Oper} {o : Oper} {a : Act} {Q : Exit → Act → World → Prop} (w0 : World) (s x : Operand)
    (hgd : Region.wanted o (yielded ops a.tmps) = true) (ho : o.op = .call { callee := .builtin .append, args := #[s, x], argTypes := #[40, 40] })
    {v : Value} {n : Nat} {l : List UInt8} (hown : OwnB w0 w v n l) (hs : a.eval s = v)
    {ao : Option Addr} {m cap : Nat} {news : List UInt8} (hx : a.eval x = .slice ao m cap) (hm : news.length = m) (hc : Cs w ao (bcells news)) (hb : n + m ≤ 140737488355328)
    (h : ∀ ao cap w', OwnB w0 w' (.slice ao (n + m) cap) (n + m) (l ++ news) → w.grownBy w' v.ownBlock → (∀ k, (Value.slice ao (n + m) cap).ownBlock = some k → v.ownBlock = some k ∨ w.heap.size ≤ k) → wpList Try.prog ops Q rest (a.put o.dst (.slice ao (n + m) cap)) w') :
    wpList Try.prog ops Q (o :: rest) a w :=
  wpList_append_Own w0 5 (.int .u8 0) 1 1 Try.infoU8 rfl (by decide) s x 40 40 Try.underlying40 hgd ho v n (bcells l) hown hs _ m (bcells news) hx
    (Src.ofCs Try.underlying40 hc (by simp [bcells_length, hm]) (bcells_one _)) (by omega) (by omega) (fun ao cap w' h1 h2 _ h4 => h ao cap w' (by rw [OwnB, bcells_append]; exact h1) h2 h4)
/-- append onto nil: the world has only grown. -/
theorem app_nil {w : World} {ops : Array Oper} {rest : List Oper} {o : Oper} {a : Act} {Q : Exit → Act → World → Prop} (w0 : World) (s x : Operand)
    (hgd : Region.wanted o (yielded ops a.tmps) = true) (ho : o.op = .call { callee := .builtin .append, args := #[s, x], argTypes := #[40, 40] })
    (hb0 : Below w0.heap.size w0 w) (hs : a.eval s = .slice none 0 0)
    {ao : Option Addr} {m cap : Nat} {news : List UInt8} (hx : a.eval x = .slice ao m cap) (hm : news.length = m) (hc : Cs w ao (bcells news)) (hb : m ≤ 140737488355328)
    (h : ∀ ao cap w', OwnB w0 w' (.slice ao m cap) m news → Below w.heap.size w w' → (∀ k, (Value.slice ao m cap).ownBlock = some k → w.heap.size ≤ k) → wpList Try.prog ops Q rest (a.put o.dst (.slice ao m cap)) w') :
    wpList Try.prog ops Q (o :: rest) a w := by
  have hn : OwnB w0 w (.slice none 0 0) 0 [] := Own.nil _ _ hb0
  refine app_bsx w0 s x hgd ho hn hs hx hm hc (by omega) ?_
  intro ao2 cap2 w' h1 h2 h3
  rw [Nat.zero_add, List.nil_append] at h1
  rw [Nat.zero_add] at h3 ⊢
  exact h ao2 cap2 w' h1 ((Below.refl _ _).grown h2 (Nat.le_refl _) (fun _ h => by cases h)) (fun k hk => (h3 k hk).elim (fun h => by cases h) id)
end Go.Proofs.Ytdpmaocbfmgmlaa
