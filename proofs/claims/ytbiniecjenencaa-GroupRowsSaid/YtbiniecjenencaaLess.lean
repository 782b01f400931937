/- What Equal and Less return; and how values stand to each other: plain laws. -/
import Derived.Test.YtbiniecjenencaaEqv
import Derived.Sort.Walk0
set_option linter.unusedVariables false
set_option linter.unusedSimpArgs false
set_option maxRecDepth 10000
namespace Go.Proofs.Ytbiniecjenencaa
open Go.RowKit
theorem cmpI_zero {a b : Int} : cmpI a b = 0 ↔ a = b := by unfold cmpI; split <;> (try split) <;> omega
theorem cmpS_zero {a b : ByteArray} : cmpS a b = 0 ↔ a.toList = b.toList := by
  unfold cmpS
  by_cases h : Op.bytesLess a.toList b.toList = true
  · rw [if_pos h]
    constructor
    · intro e; omega
    · intro e; rw [e, bytesLess_irrefl] at h; cases h
  · rw [if_neg h]
    by_cases h2 : a.toList = b.toList
    · simp [h2]
    · simp [h2]
theorem or3_zero {a b c : Int} : or3 a b c = 0 ↔ a = 0 ∧ b = 0 ∧ c = 0 := by
  unfold or3
  by_cases h1 : a = 0
  · rw [if_pos h1]
    by_cases h2 : b = 0
    · rw [if_pos h2]; simp [h1, h2]
    · rw [if_neg h2]; simp [h2]
  · rw [if_neg h1]; simp [h1]
theorem cmpV_zero {a b : V} : cmpV a b = 0 ↔ a = b := by
  unfold cmpV
  rw [or3_zero, cmpI_zero, cmpI_zero, cmpS_zero]
  constructor
  · rintro ⟨h1, h2, h3⟩; exact V.ext_ h1 h2 (toList_inj h3)
  · rintro rfl; exact ⟨rfl, rfl, rfl⟩
theorem cmpV_eqV (a b : V) : (cmpV a b == 0) = eqV a b := by
  rw [Bool.eq_iff_iff, eqV_iff, beq_iff_eq]; exact cmpV_zero
theorem cmpI_neg (a b : Int) : cmpI b a = - cmpI a b := by unfold cmpI; split <;> split <;> (try split) <;> omega
theorem less_list {a b : List UInt8} : Op.bytesLess a b = decide (a < b) := Proofs.bytesLess_eq a b
theorem cmpS_neg (a b : ByteArray) : cmpS b a = - cmpS a b := by
  unfold cmpS
  rw [less_list, less_list]
  have hn : ∀ x y : List UInt8, x < y → ¬ y < x := fun x y h h' => by
    have := List.lt_trans h h'
    exact List.lt_irrefl _ this
  by_cases h1 : a.toList < b.toList
  · have h2 := hn _ _ h1
    have h3 : ¬ b.toList = a.toList := fun e => by rw [e] at h1; exact List.lt_irrefl _ h1
    simp [h1, h2, h3]
  · by_cases h2 : b.toList < a.toList
    · have h3 : ¬ a.toList = b.toList := fun e => by rw [e] at h2; exact List.lt_irrefl _ h2
      simp [h1, h2, h3]
    · have : a.toList = b.toList := List.le_antisymm (List.not_lt.1 h2) (List.not_lt.1 h1)
      simp [this, List.lt_irrefl]
theorem or3_neg (a b c : Int) : or3 (-a) (-b) (-c) = - or3 a b c := by
  unfold or3
  by_cases h1 : a = 0
  · by_cases h2 : b = 0
    · simp [h1, h2]
    · simp [h1, h2]
  · simp [h1]
theorem cmpV_neg (a b : V) : cmpV b a = - cmpV a b := by
  unfold cmpV; rw [cmpI_neg, cmpI_neg a.n, cmpS_neg, or3_neg]
theorem cmpI_range (a b : Int) : cmpI a b = -1 ∨ cmpI a b = 0 ∨ cmpI a b = 1 := by unfold cmpI; split <;> (try split) <;> simp
theorem cmpS_range (a b : ByteArray) : cmpS a b = -1 ∨ cmpS a b = 0 ∨ cmpS a b = 1 := by unfold cmpS; split <;> (try split) <;> simp
theorem cmpV_range (a b : V) : cmpV a b = -1 ∨ cmpV a b = 0 ∨ cmpV a b = 1 := by
  unfold cmpV or3
  split
  · split
    · exact cmpS_range _ _
    · exact cmpI_range _ _
  · exact cmpI_range _ _
theorem cmpI_trans {a b c : Int} (h1 : cmpI a b ≤ 0) (h2 : cmpI b c ≤ 0) : cmpI a c ≤ 0 ∧ (cmpI a c = 0 → cmpI a b = 0 ∧ cmpI b c = 0) := by
  have hle : ∀ x y, cmpI x y ≤ 0 ↔ x ≤ y := fun x y => by unfold cmpI; split <;> (try split) <;> omega
  rw [hle] at *
  rw [cmpI_zero, cmpI_zero, cmpI_zero]
  omega
theorem cmpS_le {a b : ByteArray} : cmpS a b ≤ 0 ↔ a.toList ≤ b.toList := by
  rw [← List.not_lt]
  have := cmpS_neg a b
  unfold cmpS at *
  rw [less_list, less_list] at *
  by_cases h1 : b.toList < a.toList
  · have h3 : ¬ a.toList = b.toList := fun e => by rw [e] at h1; exact List.lt_irrefl _ h1
    by_cases h2 : a.toList < b.toList
    · exact absurd (List.lt_trans h1 h2) (List.lt_irrefl _)
    · simp [h1, h2, h3]
  · simp only [h1, not_false_iff, iff_true]
    by_cases h2 : a.toList < b.toList
    · simp [h2]
    · have : a.toList = b.toList := List.le_antisymm (List.not_lt.1 h1) (List.not_lt.1 h2)
      simp [this, List.lt_irrefl]
theorem cmpS_trans {a b c : ByteArray} (h1 : cmpS a b ≤ 0) (h2 : cmpS b c ≤ 0) : cmpS a c ≤ 0 ∧ (cmpS a c = 0 → cmpS a b = 0 ∧ cmpS b c = 0) := by
  rw [cmpS_le] at *
  refine ⟨List.le_trans h1 h2, fun h => ?_⟩
  rw [cmpS_zero] at *
  rw [h] at h1
  have e := List.le_antisymm h1 h2
  rw [cmpS_zero]
  exact ⟨h.trans e, e.symm⟩
/-- Of three comparisons: a with b, b with c, a with c. -/
def Tri (x y z : Int) : Prop := (x ≤ 0 → y ≤ 0 → z ≤ 0 ∧ (z = 0 → x = 0 ∧ y = 0)) ∧ (x = 0 → y = 0 → z = 0)
def or2 (a b : Int) : Int := if a = 0 then b else a
theorem or3_or2 (a b c : Int) : or3 a b c = or2 a (or2 b c) := rfl
theorem Tri.or2 {x y z x' y' z' : Int} (h : Tri x y z) (k : Tri x' y' z') : Tri (or2 x x') (or2 y y') (or2 z z') := by
  obtain ⟨h1, h2⟩ := h
  obtain ⟨k1, k2⟩ := k
  unfold Go.Proofs.Ytbiniecjenencaa.or2
  refine ⟨?_, ?_⟩
  · by_cases ex : x = 0
    · by_cases ey : y = 0
      · have ez := h2 ex ey
        simp only [if_pos ex, if_pos ey, if_pos ez]; exact k1
      · rw [if_pos ex, if_neg ey]
        intro _ hy
        have h3 := h1 (by omega) hy
        rw [if_neg (by omega)]; omega
    · rw [if_neg ex]
      intro hx
      by_cases ey : y = 0
      · rw [if_pos ey]
        intro _
        have h3 := h1 hx (by omega)
        rw [if_neg (by omega)]; omega
      · rw [if_neg ey]
        intro hy
        have h3 := h1 hx hy
        rw [if_neg (by omega)]; omega
  · intro hx hy
    have ex : x = 0 := by
      by_cases e : x = 0
      · exact e
      · rw [if_neg e] at hx; exact hx
    have ey : y = 0 := by
      by_cases e : y = 0
      · exact e
      · rw [if_neg e] at hy; exact hy
    rw [if_pos ex] at hx
    rw [if_pos ey] at hy
    rw [if_pos (h2 ex ey)]
    exact k2 hx hy
theorem cmpI_tri (a b c : Int) : Tri (cmpI a b) (cmpI b c) (cmpI a c) :=
  ⟨fun h k => cmpI_trans h k, fun h k => by rw [cmpI_zero] at *; omega⟩
theorem cmpS_tri (a b c : ByteArray) : Tri (cmpS a b) (cmpS b c) (cmpS a c) :=
  ⟨fun h k => cmpS_trans h k, fun h k => by rw [cmpS_zero] at *; exact h.trans k⟩
theorem cmpV_tri (a b c : V) : Tri (cmpV a b) (cmpV b c) (cmpV a c) := by
  unfold cmpV
  rw [or3_or2, or3_or2, or3_or2]
  exact (cmpI_tri _ _ _).or2 ((cmpI_tri _ _ _).or2 (cmpS_tri _ _ _))
end Go.Proofs.Ytbiniecjenencaa
