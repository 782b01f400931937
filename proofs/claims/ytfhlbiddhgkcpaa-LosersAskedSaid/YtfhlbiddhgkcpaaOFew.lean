/- Some first rows, some first keys. -/
import Derived.Test.YtfhlbiddhgkcpaaOShown
set_option linter.unusedVariables false
set_option linter.unusedSimpArgs false
namespace Go.Proofs.Ytfhlbiddhgkcpaa
open Go.RowKit
def longV (l : List V) : Bool := l.any fun v => decide (200 < v.s.size)
/-- How many rows few leaves. -/
def fewR : Nat → List Rw → Nat
  | _, [] => 0
  | k, r :: rs => if 100 ≤ k ∨ 20 < r.n ∨ longV r.l = true then 0 else fewR (k + 1) rs + 1
theorem fewR_le : ∀ (l : List Rw) (k : Nat), fewR k l ≤ l.length
  | [], _ => Nat.le_refl _
  | v :: l, k => by
    unfold fewR
    have := fewR_le l (k + 1)
    split
    · omega
    · rw [List.length_cons]; omega
theorem fewR_100 : ∀ (l : List Rw) (k : Nat), k ≤ 100 → fewR k l + k ≤ 100
  | [], k, h => by simp [fewR]; exact h
  | v :: l, k, h => by
    unfold fewR
    split
    · omega
    · have := fewR_100 l (k + 1) (by omega)
      omega
theorem fewR_in : ∀ (l : List Rw) (k : Nat), ∀ r ∈ l.take (fewR k l), r.n ≤ 20
  | [], k, r, h => by simp at h
  | v :: l, k, r, h => by
    unfold fewR at h
    split at h
    · simp at h
    · next hn =>
      rw [List.take_succ_cons] at h
      rcases List.mem_cons.1 h with rfl | h
      · have := fun h => hn (.inr (.inl h)); omega
      · exact fewR_in l (k + 1) r h
theorem long_snoc (l : List V) (q : Nat) (h : q < l.length) (h0 : longV (l.take q) = false) (h1 : ¬ 200 < l[q].s.size) : longV (l.take (q + 1)) = false := by
  rw [List.take_succ_eq_append_getElem h]
  unfold longV at *
  rw [List.any_append, h0]
  simpa using h1
theorem long_at (l : List V) (q : Nat) (h : q < l.length) (h1 : 200 < l[q].s.size) : longV l = true := by
  unfold longV
  rw [List.any_eq_true]
  exact ⟨_, List.getElem_mem h, decide_eq_true h1⟩
theorem kcut {w : World} {ao : Option Addr} {l : List Ky} (h : Cs w ao (kcells l)) (k : Nat) : Cs w ao (kcells (l.take k)) := by
  have := h.take (k * 2)
  rwa [kcells_take] at this
theorem few_take_ok {w : World} {ao : Option Addr} {rows : List Rw} (h : Tab w ao rows) : Tab w ao (rows.take (fewR 0 rows)) ∧ (rows.take (fewR 0 rows)).length = fewR 0 rows ∧ fewR 0 rows ≤ 100 ∧ ∀ r ∈ rows.take (fewR 0 rows), r.n ≤ 1000000 := by
  have h1 := fewR_le rows 0
  have h2 := fewR_100 rows 0 (by omega)
  exact ⟨h.take _, by rw [List.length_take]; omega, by omega, fun r hr => by have := fewR_in rows 0 r hr; omega⟩
end Go.Proofs.Ytfhlbiddhgkcpaa
