/- What is told of all groups: plain. -/
import Derived.Test.YtbiniecjenencaaGFits
import Derived.Test.YtbiniecjenencaaOSort
set_option linter.unusedVariables false
set_option linter.unusedSimpArgs false
set_option maxRecDepth 10000
namespace Go.Proofs.Ytbiniecjenencaa
open Go.RowKit
/-- The keys by which rows are grouped. -/
def gkeys (bs : List Int) : List Ky := bs.map (fun c => ⟨c, false⟩)
/-- The values of a row by which it is grouped. -/
def hdOf (bs : List Int) (r : List V) : List V := bs.map (atV r)
/-- Do rows stand alike? -/
def eqK (ks : List Ky) (a b : List V) : Bool := decide (cmpR a b ks = 0)
/-- Rows side by side that stand alike. -/
def runsF (ks : List Ky) : Nat → List (List V) → List (List (List V))
  | 0, _ => []
  | _ + 1, [] => []
  | f + 1, r :: l => (r :: l.takeWhile (eqK ks r)) :: runsF ks f (l.dropWhile (eqK ks r))
theorem dw_len {α : Type} (p : α → Bool) (l : List α) : (l.dropWhile p).length ≤ l.length := by
  induction l with
  | nil => simp
  | cons a l ih =>
    rw [List.dropWhile_cons]
    split
    · rw [List.length_cons]; omega
    · exact Nat.le_refl _
theorem runsF_fuel (ks : List Ky) : ∀ (f g : Nat) (l : List (List V)), l.length ≤ f → l.length ≤ g → runsF ks f l = runsF ks g l
  | 0, 0, _, _, _ => rfl
  | 0, g + 1, [], _, _ => rfl
  | 0, _ + 1, _ :: _, h, _ => by simp at h
  | f + 1, 0, [], _, _ => rfl
  | _ + 1, 0, _ :: _, _, h => by simp at h
  | f + 1, g + 1, [], _, _ => rfl
  | f + 1, g + 1, r :: l, h1, h2 => by
    have := dw_len (eqK ks r) l
    simp only [List.length_cons] at h1 h2
    simp only [runsF]
    rw [runsF_fuel ks f g _ (by omega) (by omega)]
def runs (ks : List Ky) (l : List (List V)) : List (List (List V)) := runsF ks l.length l
theorem runs_nil (ks : List Ky) : runs ks [] = [] := rfl
theorem runs_cons (ks : List Ky) (r : List V) (l : List (List V)) : runs ks (r :: l) = (r :: l.takeWhile (eqK ks r)) :: runs ks (l.dropWhile (eqK ks r)) := by
  show (r :: l.takeWhile (eqK ks r)) :: runsF ks l.length (l.dropWhile (eqK ks r)) = _
  rw [runsF_fuel ks l.length (l.dropWhile (eqK ks r)).length _ (dw_len _ _) (Nat.le_refl _)]
  rfl
/-- The rows of groups, one behind the other. -/
def tellAll (bs : List Int) (ags : List Ag) : List (List (List V)) → List (List V) → Int × List (List V)
  | [], out => (0, out)
  | g :: gs, out => if (tldB g (hdOf bs (g.headD [])) ags).1 = 0 then tellAll bs ags gs (out ++ [(tldB g (hdOf bs (g.headD [])) ags).2]) else ((tldB g (hdOf bs (g.headD [])) ags).1, [])
/-- The groups that are left. -/
def pend (bs : List Int) (rest : List (List V)) (o : Bool) : List (List (List V)) := if (bs = [] ∧ rest = []) ∧ o = true then [[]] else runs (gkeys bs) rest
/-- What Rows returns. -/
def grpB (kinds : List UInt8) (rows : List (List V)) (bs : List Int) (ags : List Ag) : Int × List (List V) :=
  if kindsE kinds bs ags = 0 then (if rows.all (fitL kinds) = true then tellAll bs ags (pend bs (sortL (gkeys bs) rows) true) [] else (7, [])) else (kindsE kinds bs ags, [])
theorem tw_pos (ks : List Ky) (r : List V) (l : List (List V)) : (r :: l).takeWhile (eqK ks r) = r :: l.takeWhile (eqK ks r) := by
  rw [List.takeWhile_cons, if_pos (by unfold eqK; rw [cmpR_refl]; rfl)]
theorem dw_pos (ks : List Ky) (r : List V) (l : List (List V)) : (r :: l).dropWhile (eqK ks r) = l.dropWhile (eqK ks r) := by
  rw [List.dropWhile_cons, if_pos (by unfold eqK; rw [cmpR_refl]; rfl)]
/-- How far a while goes. -/
theorem tw_len {α : Type} (p : α → Bool) : ∀ (l : List α) (n : Nat), n ≤ l.length → (∀ i (h : i < l.length), i < n → p l[i] = true) → (n = l.length ∨ ∃ h : n < l.length, p l[n] = false) → l.take n = l.takeWhile p ∧ l.drop n = l.dropWhile p
  | [], n, h, _, _ => by simp
  | a :: l, 0, _, _, h2 => by
    rcases h2 with h2 | ⟨_, h2⟩
    · simp at h2
    · simp only [List.getElem_cons_zero] at h2
      rw [List.takeWhile_cons, List.dropWhile_cons, h2]
      simp
  | a :: l, n + 1, h, h1, h2 => by
    have ha := h1 0 (by simp) (by omega)
    simp only [List.getElem_cons_zero] at ha
    have ih := tw_len p l n (by simpa using h) (fun i hi hin => h1 (i + 1) (by rw [List.length_cons]; omega) (by omega)) (by
      rcases h2 with h2 | ⟨h3, h2⟩
      · exact .inl (by simpa using h2)
      · exact .inr ⟨by simpa using h3, h2⟩)
    rw [List.takeWhile_cons, List.dropWhile_cons, ha, List.take_succ_cons, List.drop_succ_cons, ih.1, ih.2]
    exact ⟨rfl, rfl⟩
/-- The values that are told have kinds. -/
theorem kn_kinds (x : Ag) (rows : List (List V)) (h : ∀ r ∈ rows, ∀ v ∈ r, 0 ≤ v.k) : 0 ≤ (knOf x rows).least.k ∧ 0 ≤ (knOf x rows).most.k := by
  have hv : ∀ v ∈ rows.map (vOf x), 0 ≤ v.k := fun v hv => by
    obtain ⟨r, hr, rfl⟩ := List.mem_map.1 hv
    unfold vOf
    split
    · exact Int.le_refl _
    · exact atV_kind (h r hr) _
  unfold knOf
  have : ∀ (l : List V) (K : Kn), (∀ v ∈ l, 0 ≤ v.k) → 0 ≤ K.least.k ∧ 0 ≤ K.most.k → 0 ≤ (l.foldl Kn.add K).least.k ∧ 0 ≤ (l.foldl Kn.add K).most.k := by
    intro l
    induction l with
    | nil => intro K _ hK; exact hK
    | cons v l ih =>
      intro K hl hK
      rw [List.foldl_cons]
      refine ih _ (fun u hu => hl u (List.mem_cons_of_mem _ hu)) ?_
      have h0 := hl v List.mem_cons_self
      unfold Kn.add
      split
      · exact hK
      · simp only
        constructor
        · split
          · exact h0
          · exact hK.1
        · split
          · exact h0
          · exact hK.2
  exact this _ _ hv ⟨Int.le_refl _, Int.le_refl _⟩
theorem agg_kind (rows : List (List V)) (x : Ag) (h : ∀ r ∈ rows, ∀ v ∈ r, 0 ≤ v.k) : 0 ≤ (aggB rows x).1.k := by
  have hk := kn_kinds x rows h
  unfold aggB Kn.told
  have h2 : (0 : Int) ≤ 2 := by decide
  have h0 : (0 : Int) ≤ V.zero.k := Int.le_refl _
  split
  · exact h2
  · split
    · exact h2
    · split
      · exact hk.1
      · split
        · exact hk.2
        · split
          · exact h0
          · split
            · exact h2
            · exact h0
theorem tld_kind (rows : List (List V)) (h : ∀ r ∈ rows, ∀ v ∈ r, 0 ≤ v.k) : ∀ (ags : List Ag) (out : List V), (∀ v ∈ out, 0 ≤ v.k) → ∀ v ∈ (tldB rows out ags).2, 0 ≤ v.k
  | [], out, ho, v, hv => ho v hv
  | x :: l, out, ho, v, hv => by
    unfold tldB at hv
    split at hv
    · refine tld_kind rows h l _ (fun u hu => ?_) v hv
      rcases List.mem_append.1 hu with hu | hu
      · exact ho u hu
      · rw [List.mem_singleton.1 hu]; exact agg_kind rows x h
    · cases hv
end Go.Proofs.Ytbiniecjenencaa
