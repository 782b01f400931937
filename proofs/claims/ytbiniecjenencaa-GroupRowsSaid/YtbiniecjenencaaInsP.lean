/- Insertion, one by one: plain. -/
import Derived.Test.YtbiniecjenencaaProg
set_option linter.unusedVariables false
set_option linter.unusedSimpArgs false
set_option maxRecDepth 10000
namespace Go.Proofs.Ytbiniecjenencaa
theorem snoc_ind {α : Type} {q : List α → Prop} (h0 : q []) (h1 : ∀ l x, q l → q (l ++ [x])) (l : List α) : q l := by
  have : ∀ r : List α, q r.reverse := by
    intro r
    induction r with
    | nil => exact h0
    | cons x r ih => rw [List.reverse_cons]; exact h1 _ _ ih
  have h := this l.reverse
  rwa [List.reverse_reverse] at h
section
variable {α : Type} (c : α → α → Int)
/-- Into rows that are turned round. -/
def insR (x : α) : List α → List α
  | [] => [x]
  | y :: r => if c x y < 0 then y :: insR x r else x :: y :: r
def insB (x : α) (S : List α) : List α := (insR c x S.reverse).reverse
def sortB (S : List α) : List α := S.foldl (fun acc x => insB c x acc) []
theorem insR_split (x : α) (r2 : List α) : ∀ r1 : List α, (∀ y ∈ r1, c x y < 0) → insR c x (r1 ++ r2) = r1 ++ insR c x r2
  | [], _ => rfl
  | y :: r1, h => by
    rw [List.cons_append, insR, if_pos (h y (List.mem_cons_self ..)), insR_split x r2 r1 (fun z hz => h z (List.mem_cons_of_mem _ hz))]
    rfl
theorem insB_split (x : α) (S1 S2 : List α) (h2 : ∀ y ∈ S2, c x y < 0) (h1 : ∀ S y, S1 = S ++ [y] → ¬ c x y < 0) : insB c x (S1 ++ S2) = S1 ++ x :: S2 := by
  unfold insB
  rw [List.reverse_append, insR_split c x _ _ (fun y hy => h2 y (List.mem_reverse.1 hy))]
  have e : insR c x S1.reverse = x :: S1.reverse := by
    rcases List.eq_nil_or_concat S1 with e | ⟨S, y, e⟩
    · subst e; rfl
    · rw [List.concat_eq_append] at e
      subst e
      rw [List.reverse_append]
      show insR c x (y :: S.reverse) = _
      rw [insR, if_neg (h1 S y rfl)]
      rfl
  rw [e]
  simp
theorem sortB_snoc (S : List α) (x : α) : sortB c (S ++ [x]) = insB c x (sortB c S) := by simp [sortB]
theorem insR_perm (x : α) : ∀ r : List α, (insR c x r).Perm (x :: r)
  | [] => List.Perm.refl _
  | y :: r => by
    rw [insR]
    split
    · exact ((insR_perm x r).cons y).trans (List.Perm.swap x y r)
    · exact List.Perm.refl _
theorem insB_perm (x : α) (S : List α) : (insB c x S).Perm (x :: S) :=
  (List.reverse_perm _).trans ((insR_perm c x _).trans ((List.reverse_perm S).cons x))
theorem sortB_perm (S : List α) : (sortB c S).Perm S := by
  refine snoc_ind (q := fun S => (sortB c S).Perm S) (List.Perm.refl _) (fun S x ih => ?_) S
  · rw [sortB_snoc]
    exact (insB_perm c x _).trans ((ih.cons x).trans (List.perm_append_singleton x S).symm)
theorem sortB_length (S : List α) : (sortB c S).length = S.length := (sortB_perm c S).length_eq
theorem sortB_one (S : List α) (h : S.length ≤ 1) : sortB c S = S := by
  match S, h with
  | [], _ => rfl
  | [x], _ => rfl
end
/-- What only looks at a part of each. -/
theorem insR_map {α β : Type} (f : α → β) (c : β → β → Int) (x : α) : ∀ r : List α, (insR (fun a b => c (f a) (f b)) x r).map f = insR c (f x) (r.map f)
  | [] => rfl
  | y :: r => by
    simp only [insR, List.map_cons]
    split
    · rw [List.map_cons, insR_map f c x r]
    · rfl
theorem insB_map {α β : Type} (f : α → β) (c : β → β → Int) (x : α) (S : List α) : (insB (fun a b => c (f a) (f b)) x S).map f = insB c (f x) (S.map f) := by
  unfold insB
  rw [List.map_reverse, insR_map, List.map_reverse]
theorem sortB_map {α β : Type} (f : α → β) (c : β → β → Int) (S : List α) : (sortB (fun a b => c (f a) (f b)) S).map f = sortB c (S.map f) := by
  refine snoc_ind (q := fun S => (sortB (fun a b => c (f a) (f b)) S).map f = sortB c (S.map f)) rfl (fun S x ih => ?_) S
  · rw [sortB_snoc, insB_map, ih, List.map_append, List.map_cons, List.map_nil, sortB_snoc]
end Go.Proofs.Ytbiniecjenencaa
