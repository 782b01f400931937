/- append of bytes. -/
import Derived.Test.YtbiniecjenencaaBase
import Derived.Test.YtbiniecjenencaaVal
import Derived.Test.YtbiniecjenencaaAt
set_option linter.unusedVariables false
set_option linter.unusedSimpArgs false
set_option maxRecDepth 10000
namespace Go.Proofs.Ytbiniecjenencaa
open Go.RowKit
theorem Try.infoU8 : (Try.prog.info? 5).map (fun i => (i.zero, i.size, i.bytes)) = some (some (.int .u8 0), 1, 1) := by kernel_rfl
def OwnB (w0 w : World) (v : Value) (n : Nat) (l : List UInt8) : Prop := Own w0 w 5 1 v n (bcells l)
/-- It returns a slice of its own, of these bytes. -/
def RetB (w0 : World) (l : List UInt8) (e : Ending) (w : World) : Prop := ∃ ao n cap, l.length = n ∧ e = .returned (.slice ao n cap) ∧ OwnB w0 w (.slice ao n cap) n l

theorem OwnB.length {w0 w : World} {v : Value} {n : Nat} {l : List UInt8} (h : OwnB w0 w v n l) : l.length = n := by
  have := Own.length h; simpa [bcells_length] using this

/-- append of bytes, onto bytes of the call's own. -/
theorem app_bs {w : World} {ops : Array Oper} {rest : List Oper} {o : Oper} {a : Act} {Q : Exit → Act → World → Prop} (w0 : World) (s x : Operand)
    (hgd : Region.wanted o (yielded ops a.tmps) = true) (ho : o.op = .call { callee := .builtin .append, args := #[s, x], argTypes := #[22, 22] })
    {v : Value} {n : Nat} {l : List UInt8} (hown : OwnB w0 w v n l) (hs : a.eval s = v)
    {ao : Option Addr} {m cap : Nat} {news : List UInt8} (hx : a.eval x = .slice ao m cap) (hm : news.length = m) (hc : Cs w ao (bcells news)) (hb : n + m ≤ 140737488355328)
    (h : ∀ ao cap w', OwnB w0 w' (.slice ao (n + m) cap) (n + m) (l ++ news) → wpList Try.prog ops Q rest (a.put o.dst (.slice ao (n + m) cap)) w') :
    wpList Try.prog ops Q (o :: rest) a w :=
  wpList_append_Own w0 5 (.int .u8 0) 1 1 Try.infoU8 rfl (by decide) s x 22 22 Try.underlying22 hgd ho v n (bcells l) hown hs _ m (bcells news) hx
    (Src.ofCs Try.underlying22 hc (by simp [bcells_length, hm]) (bcells_one _)) (by omega) (by omega) (fun ao cap w' h1 _ _ _ => h ao cap w' (by rw [OwnB, bcells_append]; exact h1))

theorem app_bs' {w : World} {ops : Array Oper} {rest : List Oper} {o : Oper} {a : Act} {Q : Exit → Act → World → Prop} (w0 : World) (s x : Operand)
    (hgd : Region.wanted o (yielded ops a.tmps) = true) (ho : o.op = .call { callee := .builtin .append, args := #[s, x], argTypes := #[22, 22] })
    {v : Value} {n : Nat} {l : List UInt8} (hown : OwnB w0 w v n l) (hs : a.eval s = v)
    {ao : Option Addr} {m cap : Nat} {news : List UInt8} (hx : a.eval x = .slice ao m cap) (hm : news.length = m) (hc : Cs w ao (bcells news)) (hb : n + m ≤ 140737488355328)
    (h : ∀ ao cap w', OwnB w0 w' (.slice ao (n + m) cap) (n + m) (l ++ news) → w.grownBy w' v.ownBlock → (ao = none ↔ v = .slice none 0 0 ∧ m = 0) → wpList Try.prog ops Q rest (a.put o.dst (.slice ao (n + m) cap)) w') :
    wpList Try.prog ops Q (o :: rest) a w :=
  wpList_append_Own w0 5 (.int .u8 0) 1 1 Try.infoU8 rfl (by decide) s x 22 22 Try.underlying22 hgd ho v n (bcells l) hown hs _ m (bcells news) hx
    (Src.ofCs Try.underlying22 hc (by simp [bcells_length, hm]) (bcells_one _)) (by omega) (by omega) (fun ao cap w' h1 h2 h3 _ => h ao cap w' (by rw [OwnB, bcells_append]; exact h1) h2 h3)

/-- append of one byte, that lies in a new block. -/
theorem cs_new (w : World) (v : Value) (e : TypeId) : Cs (w.alloc (.cells #[v] e)) (some ⟨w.heap.size, 0, none⟩) [v] := by
  intro j u hj
  match j, hj with
  | 0, hj => simp at hj; subst hj; exact ⟨_, _, rfl, by simp⟩
theorem app_b1 {w : World} {c : Int} {e : TypeId} {ops : Array Oper} {rest : List Oper} {o : Oper} {a : Act} {Q : Exit → Act → World → Prop} (w0 : World) (s x : Operand)
    (hgd : Region.wanted o (yielded ops a.tmps) = true) (ho : o.op = .call { callee := .builtin .append, args := #[s, x], argTypes := #[22, 22] })
    {v : Value} {n : Nat} {l : List UInt8} (hown : OwnB w0 w v n l) (hs : a.eval s = v) (h0 : 0 ≤ c) (h1 : c < 256)
    (hx : a.eval x = .slice (some ⟨w.heap.size, 0, none⟩) 1 1) (hb : n + 1 ≤ 140737488355328)
    (h : ∀ ao cap w', OwnB w0 w' (.slice ao (n + 1) cap) (n + 1) (l ++ [UInt8.ofNat c.toNat]) → wpList Try.prog ops Q rest (a.put o.dst (.slice ao (n + 1) cap)) w') :
    wpList Try.prog ops Q (o :: rest) a (w.alloc (.cells #[.int .u8 c] e)) :=
  app_bs w0 s x hgd ho (Own.alloc hown _) hs hx rfl (by rw [bcells_int c h0 h1]; exact cs_new w _ e) hb h

theorem app_b1' {w : World} {c : Int} {e : TypeId} {ops : Array Oper} {rest : List Oper} {o : Oper} {a : Act} {Q : Exit → Act → World → Prop} (w0 : World) (s x : Operand)
    (hgd : Region.wanted o (yielded ops a.tmps) = true) (ho : o.op = .call { callee := .builtin .append, args := #[s, x], argTypes := #[22, 22] })
    {v : Value} {n : Nat} {l : List UInt8} (hown : OwnB w0 w v n l) (hs : a.eval s = v) (h0 : 0 ≤ c) (h1 : c < 256)
    (hx : a.eval x = .slice (some ⟨w.heap.size, 0, none⟩) 1 1) (hb : n + 1 ≤ 140737488355328)
    (h : ∀ ao cap w', OwnB w0 w' (.slice ao (n + 1) cap) (n + 1) (l ++ [UInt8.ofNat c.toNat]) → w.grownBy w' v.ownBlock → wpList Try.prog ops Q rest (a.put o.dst (.slice ao (n + 1) cap)) w') :
    wpList Try.prog ops Q (o :: rest) a (w.alloc (.cells #[.int .u8 c] e)) :=
  app_bs' w0 s x hgd ho (Own.alloc hown _) hs hx rfl (by rw [bcells_int c h0 h1]; exact cs_new w _ e) hb
    (fun ao cap w' h2 h3 _ => h ao cap w' h2 ⟨h3.os, h3.tape, h3.output, Nat.le_trans (by simp) h3.size, fun k hk hn => (h3.block k (by simp; omega) hn).trans (Below.heap_alloc _ _ _ hk)⟩)

/-- append of one byte, and where the new slice lies. -/
theorem app_k1 {w : World} {u : UInt8} {e : TypeId} {ops : Array Oper} {rest : List Oper} {o : Oper} {a : Act} {Q : Exit → Act → World → Prop} (w0 : World) (s x : Operand)
    (hgd : Region.wanted o (yielded ops a.tmps) = true) (ho : o.op = .call { callee := .builtin .append, args := #[s, x], argTypes := #[22, 22] })
    {v : Value} {n : Nat} {l : List UInt8} (hown : OwnB w0 w v n l) (hs : a.eval s = v)
    (hx : a.eval x = .slice (some ⟨w.heap.size, 0, none⟩) 1 1) (hb : n + 1 ≤ 140737488355328)
    (h : ∀ ao cap w', OwnB w0 w' (.slice ao (n + 1) cap) (n + 1) (l ++ [u]) → w.grownBy w' v.ownBlock → (∀ k, (Value.slice ao (n + 1) cap).ownBlock = some k → v.ownBlock = some k ∨ w.heap.size ≤ k) → wpList Try.prog ops Q rest (a.put o.dst (.slice ao (n + 1) cap)) w') :
    wpList Try.prog ops Q (o :: rest) a (w.alloc (.cells #[.int .u8 ((u.toNat : Nat) : Int)] e)) :=
  wpList_append_Own w0 5 (.int .u8 0) 1 1 Try.infoU8 rfl (by decide) s x 22 22 Try.underlying22 hgd ho v n (bcells l) (Own.alloc hown _) hs _ 1 (bcells [u]) hx
    (Src.ofCs Try.underlying22 (cs_new w _ e) (by simp [bcells_length]) (bcells_one _)) (by omega) (by omega)
    (fun ao cap w' h2 h3 _ h4 => h ao cap w' (by rw [OwnB, bcells_append]; exact h2) ⟨h3.os, h3.tape, h3.output, Nat.le_trans (by simp) h3.size, fun k hk hn => (h3.block k (by simp; omega) hn).trans (Below.heap_alloc _ _ _ hk)⟩
      (fun k hk => (h4 k hk).imp id (fun hh => by simp at hh; omega)))
theorem app_k2 {w : World} {u : UInt8} {c : Int} {e : TypeId} {ops : Array Oper} {rest : List Oper} {o : Oper} {a : Act} {Q : Exit → Act → World → Prop} (w0 : World) (s x : Operand)
    (hgd : Region.wanted o (yielded ops a.tmps) = true) (ho : o.op = .call { callee := .builtin .append, args := #[s, x], argTypes := #[22, 22] })
    {v : Value} {n : Nat} {l : List UInt8} (hown : OwnB w0 w v n l) (hs : a.eval s = v) (hu : c = ((u.toNat : Nat) : Int))
    (hx : a.eval x = .slice (some ⟨w.heap.size, 0, none⟩) 1 1) (hb : n + 1 ≤ 140737488355328)
    (h : ∀ ao cap w', OwnB w0 w' (.slice ao (n + 1) cap) (n + 1) (l ++ [u]) → w.grownBy w' v.ownBlock → (∀ k, (Value.slice ao (n + 1) cap).ownBlock = some k → v.ownBlock = some k ∨ w.heap.size ≤ k) → wpList Try.prog ops Q rest (a.put o.dst (.slice ao (n + 1) cap)) w') :
    wpList Try.prog ops Q (o :: rest) a (w.alloc (.cells #[.int .u8 c] e)) := by
  subst hu
  exact app_k1 w0 s x hgd ho hown hs hx hb h
theorem At.grownK {w w' : World} {g : Nat} {cs : Array Value} {t : TypeId} {row : Option Nat} (h : At w g cs t) (hg : w.grownBy w' row) (hn : row ≠ some g) : At w' g cs t := (hg.block g h.lt (fun e => hn e.symm)).trans h
end Go.Proofs.Ytbiniecjenencaa
