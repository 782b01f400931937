/- Sorting keeps the order of what stands alike: plain. -/
import Derived.Test.YtoggjieagnlneaaMrgP
set_option linter.unusedVariables false
set_option linter.unusedSimpArgs false
namespace Go.Proofs.Ytoggjieagnlneaa
section
variable {α : Type} (c : α → α → Int) (pl : α → Int)
/-- By c; what stands alike, by its place. -/
def byPl (a b : α) : Int := if c a b = 0 then pl a - pl b else c a b
theorem byPl_neg (hneg : ∀ a b, c b a = - c a b) (a b : α) : byPl c pl b a = - byPl c pl a b := by
  unfold byPl
  rw [hneg a b]
  by_cases h : c a b = 0
  · rw [if_pos (by omega), if_pos h]; omega
  · rw [if_neg (by omega), if_neg h]
theorem byPl_tr (hneg : ∀ a b, c b a = - c a b) (htr : ∀ a b d, c a b ≤ 0 → c b d ≤ 0 → c a d ≤ 0) (a b d : α) (h1 : byPl c pl a b ≤ 0) (h2 : byPl c pl b d ≤ 0) : byPl c pl a d ≤ 0 := by
  unfold byPl at *
  have n1 := hneg a b
  have n2 := hneg b d
  have n3 := hneg a d
  have t1 := htr a b d
  have t2 := htr d a b
  have t3 := htr b d a
  by_cases e1 : c a b = 0 <;> by_cases e2 : c b d = 0 <;> by_cases e3 : c a d = 0 <;> simp only [e1, e2, e3, if_true, if_false] at h1 h2 ⊢ <;> omega
theorem insR_same (x : α) : ∀ r : List α, (∀ y ∈ r, pl y ≤ pl x) → insR (byPl c pl) x r = insR c x r
  | [], _ => rfl
  | y :: r, h => by
    have hy := h y (List.mem_cons_self ..)
    have e : (byPl c pl x y < 0) ↔ (c x y < 0) := by
      unfold byPl
      by_cases h0 : c x y = 0
      · rw [if_pos h0]; omega
      · rw [if_neg h0]
    rw [insR, insR, insR_same x r (fun z hz => h z (List.mem_cons_of_mem _ hz))]
    by_cases h1 : c x y < 0
    · rw [if_pos (e.2 h1), if_pos h1]
    · rw [if_neg (fun h2 => h1 (e.1 h2)), if_neg h1]
theorem sortB_same (S : List α) : S.Pairwise (fun a b => pl a ≤ pl b) → sortB (byPl c pl) S = sortB c S := by
  refine snoc_ind (q := fun S => S.Pairwise (fun a b => pl a ≤ pl b) → sortB (byPl c pl) S = sortB c S) (fun _ => rfl) (fun S x ih hS => ?_) S
  have h1 := List.pairwise_append.1 hS
  rw [sortB_snoc, sortB_snoc, ih h1.1]
  unfold insB
  rw [insR_same c pl x _ (fun y hy => h1.2.2 y ((sortB_perm c S).mem_iff.1 (List.mem_reverse.1 hy)) x (List.mem_singleton.2 rfl))]
/-- Two neighbours that stand alike are as they were. -/
theorem sortB_keeps (hneg : ∀ a b, c b a = - c a b) (htr : ∀ a b d, c a b ≤ 0 → c b d ≤ 0 → c a d ≤ 0) (S : List α) (hS : S.Pairwise (fun a b => pl a ≤ pl b)) (i : Nat) (x y : α) (hx : (sortB c S)[i]? = some x) (hy : (sortB c S)[i + 1]? = some y) (h0 : c x y = 0) : pl x ≤ pl y := by
  have h := sortB_asc (byPl c pl) (byPl_neg c pl hneg) (byPl_tr c pl hneg htr) S
  rw [sortB_same c pl S hS] at h
  obtain ⟨h1, e1⟩ := List.getElem?_eq_some_iff.1 hx
  obtain ⟨h2, e2⟩ := List.getElem?_eq_some_iff.1 hy
  have h3 := List.pairwise_iff_getElem.1 h i (i + 1) h1 h2 (by omega)
  rw [e1, e2] at h3
  unfold byPl at h3
  rw [if_pos h0] at h3
  omega
end
end Go.Proofs.Ytoggjieagnlneaa
