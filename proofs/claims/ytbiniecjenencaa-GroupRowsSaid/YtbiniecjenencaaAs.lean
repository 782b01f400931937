/- More plain laws on memory and on single operations. -/
import Derived.Test.YtbiniecjenencaaBase
import Derived.Test.YtbiniecjenencaaMix
set_option linter.unusedVariables false
set_option linter.unusedSimpArgs false
set_option maxRecDepth 10000
namespace Go.Proofs.Ytbiniecjenencaa
open Go.RowKit
/-- s[k:], as the walk spells its address. -/
theorem Cs.cut {w : World} {ao : Option Addr} {xs : List Value} (h : Cs w ao xs) (k c : Nat) (hc : xs.length ≤ c) : Cs w (if c = k then ao else ao.map fun x => x.add k) (xs.drop k) := by
  by_cases e : c = k
  · rw [if_pos e, List.drop_of_length_le (by omega)]; exact Cs.nil _ _
  · rw [if_neg e]; exact h.dropMap k
theorem bcells_drop (l : List UInt8) (k : Nat) : (bcells l).drop k = bcells (l.drop k) := by simp [bcells]
theorem bcells_take (l : List UInt8) (k : Nat) : (bcells l).take k = bcells (l.take k) := by simp [bcells]
theorem Cs.bcut {w : World} {ao : Option Addr} {l : List UInt8} (h : Cs w ao (bcells l)) (k c : Nat) (hc : l.length ≤ c) : Cs w (if c = k then ao else ao.map fun x => x.add k) (bcells (l.drop k)) := by
  rw [← bcells_drop]; exact h.cut k c (by rw [bcells_length]; exact hc)
/-- An operation whose run is known, in the words of a quiet walk. -/
theorem quiet_as {P : Program} {dst : Option Tmp} {op : Op} {ty : TypeId} {pos : String} {af : Array Edge} {g : Option (Nat × Bool)} {a : Act} {C : World → Prop} {K : Act → Prop} (v : Value)
    (hrun : ∀ w, (execOp a.eval ⟨dst, op, ty, pos, af, g⟩).run P w = .ok (.value v) w) (hne : ∃ w, C w)
    (h : (⟨dst, .move (.const v), ty, pos, af, g⟩ : Oper).quiet P a C K) : (⟨dst, op, ty, pos, af, g⟩ : Oper).quiet P a C K := by
  obtain ⟨u, h1, h2⟩ := h
  obtain ⟨w0, hw0⟩ := hne
  have e := h1 w0 hw0
  have hm : (execOp a.eval ⟨dst, .move (.const v), ty, pos, af, g⟩).run P w0 = .ok (.value v) w0 := rfl
  unfold Oper.quietAt at e
  rw [hm] at e
  obtain ⟨_, rfl⟩ := e
  refine ⟨v, fun w _ => ?_, h2⟩
  unfold Oper.quietAt
  rw [hrun w]
  exact ⟨rfl, rfl⟩
/-- The same, in the words of the plain walk. -/
theorem wpList_as {P : Program} {ops : Array Oper} {rest : List Oper} {w : World} {Q : Exit → Act → World → Prop} {dst : Option Tmp} {op : Op} {ty : TypeId} {pos : String} {af : Array Edge} {g : Option (Nat × Bool)} {a : Act} (v : Value)
    (hgd : Region.wanted ⟨dst, op, ty, pos, af, g⟩ (yielded ops a.tmps) = true) (hrun : (execOp a.eval ⟨dst, op, ty, pos, af, g⟩).run P w = .ok (.value v) w)
    (h : wpList P ops Q rest (a.put dst v) w) : wpList P ops Q (⟨dst, op, ty, pos, af, g⟩ :: rest) a w := by
  refine wpList_want hgd fun K hK => ?_
  unfold Oper.wp
  rw [hrun]
  exact hK _ _ h
theorem Stop.eql {P : Program} {ops : Array Oper} {Q : Exit → Act → World → Prop} {rest : List Oper} {a : Act} {w : World} {dst : Option Tmp} {x y : Operand} {ty t2 : TypeId} {pos : String} {af : Array Edge} {g : Option (Nat × Bool)} (t : TypeId)
    (h : Stop (wpList P ops Q (⟨dst, .binOp .eql t x y t2, ty, pos, af, g⟩ :: rest) a w)) : wpList P ops Q (⟨dst, .binOp .eql t x y t2, ty, pos, af, g⟩ :: rest) a w := h
theorem Stop.neq {P : Program} {ops : Array Oper} {Q : Exit → Act → World → Prop} {rest : List Oper} {a : Act} {w : World} {dst : Option Tmp} {x y : Operand} {ty t2 : TypeId} {pos : String} {af : Array Edge} {g : Option (Nat × Bool)} (t : TypeId)
    (h : Stop (wpList P ops Q (⟨dst, .binOp .neq t x y t2, ty, pos, af, g⟩ :: rest) a w)) : wpList P ops Q (⟨dst, .binOp .neq t x y t2, ty, pos, af, g⟩ :: rest) a w := h
theorem Stop.slice {P : Program} {ops : Array Oper} {Q : Exit → Act → World → Prop} {rest : List Oper} {a : Act} {w : World} {dst : Option Tmp} {x : Operand} {t : TypeId} {lo hi mx : Option Operand} {ty : TypeId} {pos : String} {af : Array Edge} {g : Option (Nat × Bool)}
    (h : Stop (wpList P ops Q (⟨dst, .slice t x lo hi mx, ty, pos, af, g⟩ :: rest) a w)) : wpList P ops Q (⟨dst, .slice t x lo hi mx, ty, pos, af, g⟩ :: rest) a w := h
/-- A slice of the call's own is kept where another block is written. -/
theorem Own.far {w0 w : World} {e size n : Nat} {v : Value} {xs : List Value} (h : Own w0 w e size v n xs) (p : Addr) (u : Value) (hp : w0.heap.size ≤ p.block) (hn : v.ownBlock ≠ some p.block) : Own w0 (w.setCell p u) e size v n xs :=
  ⟨h.1.kept (row := some p.block) ⟨rfl, rfl, rfl, by simp [World.setCell], fun k _ hk => Below.heap_setCell _ _ _ _ (fun e => hk (by rw [e]))⟩ (.inr hn), h.2.setCell hp _⟩
theorem Cs.off {w : World} {ao : Option Addr} {xs : List Value} (h : Cs w ao xs) (p : Addr) (u : Value) (hn : ∀ a, ao = some a → a.block ≠ p.block) : Cs (w.setCell p u) ao xs := by
  intro j v hj
  obtain ⟨b, o, e, hc⟩ := h j v hj
  exact ⟨b, o, e, by rw [World.cell?_setCell_other _ _ _ _ (fun e' => hn _ e (by rw [e']))]; exact hc⟩
theorem Own.same {w0 w w' : World} {e size n : Nat} {v : Value} {xs : List Value} (h : Own w0 w e size v n xs) (hb : ∀ k, v.ownBlock = some k → w'.heap[k]? = w.heap[k]?) (hB : Below w0.heap.size w0 w') : Own w0 w' e size v n xs := by
  obtain ⟨⟨h1, h2⟩, _⟩ := h
  refine ⟨⟨h1, ?_⟩, hB⟩
  rcases h2 with h2 | ⟨g, cap, cur, hv, hg, hh, r⟩
  · exact .inl h2
  · exact .inr ⟨g, cap, cur, hv, hg, (hb g (by rw [hv]; rfl)).trans hh, r⟩
theorem owns_max {w : World} {base e size n n' : Nat} {ao : Option Addr} {cap : Nat} {xs : List Value} (h : w.ownsRow base e size (.slice ao n' cap) n xs) : cap ≤ maxLen := by
  rcases h.2 with ⟨h', h0⟩ | ⟨g, cap', cur, h', _, _, hn, hm, _⟩
  · simp only [Value.slice.injEq] at h'; omega
  · simp only [Value.slice.injEq] at h'; omega
end Go.Proofs.Ytbiniecjenencaa
