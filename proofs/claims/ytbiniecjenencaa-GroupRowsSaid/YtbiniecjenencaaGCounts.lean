/- Groups of rows that are counted: plain. -/
import Derived.Test.YtbiniecjenencaaGrpB
set_option linter.unusedVariables false
set_option linter.unusedSimpArgs false
set_option maxRecDepth 10000
namespace Go.Proofs.Ytbiniecjenencaa
open Go.RowKit
/-- By how many rows there are. -/
theorem runs_ind {ks : List Ky} {P : List (List V) → Prop} (h0 : P []) (h1 : ∀ r l, P (l.dropWhile (eqK ks r)) → P (r :: l)) : ∀ l, P l := by
  have : ∀ n, ∀ l : List (List V), l.length ≤ n → P l := by
    intro n
    induction n with
    | zero =>
      intro l hl
      have : l = [] := List.eq_nil_of_length_eq_zero (by omega)
      rw [this]; exact h0
    | succ n ih =>
      intro l hl
      cases l with
      | nil => exact h0
      | cons r l => exact h1 r l (ih _ (by have := dw_len (eqK ks r) l; simp only [List.length_cons] at hl; omega))
  exact fun l => this l.length l (Nat.le_refl _)
theorem runs_flat (ks : List Ky) (l : List (List V)) : (runs ks l).flatten = l := by
  refine runs_ind (ks := ks) (P := fun l => (runs ks l).flatten = l) rfl (fun r l ih => ?_) l
  rw [runs_cons, List.flatten_cons, ih, List.cons_append, List.takeWhile_append_dropWhile]
theorem runs_ne (ks : List Ky) (l : List (List V)) : ∀ g ∈ runs ks l, g ≠ [] := by
  refine runs_ind (ks := ks) (P := fun l => ∀ g ∈ runs ks l, g ≠ []) (fun g hg => by cases hg) (fun r l ih => ?_) l
  rw [runs_cons]
  intro g hg
  rcases List.mem_cons.1 hg with rfl | hg
  · exact List.cons_ne_nil _ _
  · exact ih g hg
theorem dw_head {α : Type} (p : α → Bool) : ∀ (l : List α) (y : α) (ys : List α), l.dropWhile p = y :: ys → p y = false
  | [], _, _, h => by cases h
  | a :: l, y, ys, h => by
    rw [List.dropWhile_cons] at h
    split at h
    · exact dw_head p l y ys h
    · next hp =>
      simp only [List.cons.injEq] at h
      rw [← h.1]
      simpa using hp
theorem runs_head (ks : List Ky) : ∀ (l : List (List V)) (h : 0 < (runs ks l).length), ((runs ks l)[0]).headD [] = l.headD [] ∧ ∃ y ys, l = y :: ys
  | [], h => by simp [runs_nil] at h
  | y :: ys, h => by
    refine ⟨?_, y, ys, rfl⟩
    have key : ∀ (R : List (List (List V))) (hR : R = (y :: ys.takeWhile (eqK ks y)) :: runs ks (ys.dropWhile (eqK ks y))) (h : 0 < R.length), (R[0]).headD [] = y := by
      intro R hR h
      subst hR
      rfl
    exact key _ (runs_cons ks y ys) h
/-- Groups side by side do not stand alike. -/
theorem runs_adj (ks : List Ky) (l : List (List V)) : ∀ i (h : i + 1 < (runs ks l).length), eqK ks ((runs ks l)[i].headD []) ((runs ks l)[i + 1].headD []) = false := by
  refine runs_ind (ks := ks) (P := fun l => ∀ i (h : i + 1 < (runs ks l).length), eqK ks ((runs ks l)[i].headD []) ((runs ks l)[i + 1].headD []) = false) (fun i h => by simp [runs_nil] at h) (fun r l ih => ?_) l
  intro i h
  have hc := runs_cons ks r l
  have key : ∀ (R : List (List (List V))) (hR : R = (r :: l.takeWhile (eqK ks r)) :: runs ks (l.dropWhile (eqK ks r))) (h : i + 1 < R.length), eqK ks (R[i].headD []) (R[i + 1].headD []) = false := by
    intro R hR h
    subst hR
    cases i with
    | zero =>
      simp only [List.getElem_cons_zero, List.getElem_cons_succ, List.headD_cons]
      obtain ⟨hh, y, ys, hd⟩ := runs_head ks (l.dropWhile (eqK ks r)) (by simpa using h)
      rw [hh, hd]
      exact dw_head _ _ _ _ hd
    | succ i =>
      simp only [List.getElem_cons_succ]
      exact ih i (by simpa using h)
  exact key _ hc h
/-- Rows whose values by which they are grouped are the same stand alike. -/
theorem eqK_of_hd : ∀ (bs : List Int) (a b : List V), hdOf bs a = hdOf bs b → eqK (gkeys bs) a b = true
  | [], a, b, _ => rfl
  | c :: bs, a, b, h => by
    unfold hdOf at h
    simp only [List.map_cons, List.cons.injEq] at h
    have ih := eqK_of_hd bs a b h.2
    unfold eqK gkeys at ih ⊢
    rw [decide_eq_true_eq] at ih ⊢
    rw [List.map_cons]
    unfold cmpR
    rw [if_pos (by
      simp only
      rw [h.1]
      unfold oneC
      by_cases hk : (atV b c).k = 0
      · rw [if_pos ⟨hk, hk⟩]
      · rw [if_neg (fun h => hk h.1), if_neg hk, if_neg hk, if_neg (by decide)]
        exact cmpV_zero.2 rfl)]
    exact ih
/-- What Rows returns where rows are counted. -/
theorem tell_count (bs : List Int) : ∀ (gs : List (List (List V))) (out : List (List V)), tellAll bs [⟨1, 0⟩] gs out = (0, out ++ gs.map (fun g => hdOf bs (g.headD []) ++ [numG g.length]))
  | [], out => by simp [tellAll]
  | g :: gs, out => by
    have hK := knOf_ok ⟨1, 0⟩ g
    have hrows : ∀ (l : List (List V)) (K : Kn), ((l.map (vOf ⟨1, 0⟩)).foldl Kn.add K).rows = K.rows + l.length := by
      intro l
      induction l with
      | nil => intro K; simp
      | cons r l ih =>
        intro K
        rw [List.map_cons, List.foldl_cons, ih]
        have : (K.add (vOf ⟨1, 0⟩ r)).rows = K.rows + 1 := by unfold Kn.add; split <;> rfl
        rw [this, List.length_cons]
        omega
    have ha : aggB g ⟨1, 0⟩ = (numG g.length, 0) := by
      unfold aggB knOf Kn.told
      rw [if_pos rfl, hrows]
      simp [Kn.zero]
    have ht : tldB g (hdOf bs (g.headD [])) [⟨1, 0⟩] = (0, hdOf bs (g.headD []) ++ [numG g.length]) := by
      unfold tldB
      rw [ha, if_pos rfl]
      rfl
    rw [tellAll, ht, if_pos rfl, tell_count bs gs]
    simp
end Go.Proofs.Ytbiniecjenencaa
