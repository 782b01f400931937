/- Sums of groups: plain. -/
import Derived.Test.YtbiniecjenencaaGrpB
set_option linter.unusedVariables false
set_option linter.unusedSimpArgs false
set_option maxRecDepth 10000
namespace Go.Proofs.Ytbiniecjenencaa
open Go.RowKit
def inI (n : Int) : Prop := -9223372036854775808 ≤ n ∧ n ≤ 9223372036854775807
/-- The upper half, without wraps in between. -/
theorem addH_eqS (hi lo n : Int) (l0 : 0 ≤ lo) (l1 : lo ≤ 18446744073709551615) : addH hi lo n = wrap64 (hi + n / 9223372036854775808 + (lo + u64 n) / 18446744073709551616) := by
  have h0 := u64_lo n
  have h1 := u64_hi n
  unfold addH
  generalize u64 n = m at h0 h1
  unfold wrap64
  omega
theorem add_step (hi lo n S m : Int) (l0 : 0 ≤ lo) (l1 : lo ≤ 18446744073709551615) (hS : hi * 18446744073709551616 + lo = S) (h1 : -(m * 9223372036854775808) ≤ S) (h2 : S ≤ m * 9223372036854775808) (m0 : 0 ≤ m) (m1 : m ≤ 1000000) (hn : inI n) :
    addH hi lo n * 18446744073709551616 + addL lo n = S + n := by
  obtain ⟨n0, n1⟩ := hn
  rw [addH_eqS hi lo n l0 l1]
  have hh : -1000002 ≤ hi ∧ hi ≤ 1000002 := by constructor <;> omega
  obtain ⟨hh0, hh1⟩ := hh
  have hx : ∀ e c : Int, -1 ≤ e → e ≤ 0 → 0 ≤ c → c ≤ 1 → wrap64 (hi + e + c) = hi + e + c := fun e c _ _ _ _ => by unfold wrap64; omega
  by_cases hneg : n < 0
  · have hu : u64 n = n + 18446744073709551616 := by unfold u64; omega
    have he : n / 9223372036854775808 = -1 := by omega
    unfold addL
    rw [hu, he, hx _ _ (by omega) (by omega) (by omega) (by omega)]
    omega
  · have hu : u64 n = n := by unfold u64; omega
    have he : n / 9223372036854775808 = 0 := by omega
    unfold addL
    rw [hu, he, hx _ _ (by omega) (by omega) (by omega) (by omega)]
    omega
/-- The sum of what is something. -/
def sumV (vs : List V) : Int := ((vs.filter (fun v => decide (v.k ≠ 0))).map (·.n)).sum
def cntV (vs : List V) : Nat := (vs.filter (fun v => decide (v.k ≠ 0))).length
structure KnInv (K : Kn) (m : Nat) (s : Nat) (S : Int) : Prop where
  rows : K.rows = m
  some : K.some = s
  l0 : 0 ≤ K.lo
  l1 : K.lo ≤ 18446744073709551615
  sum : K.hi * 18446744073709551616 + K.lo = S
  b0 : -((m : Int) * 9223372036854775808) ≤ S
  b1 : S ≤ (m : Int) * 9223372036854775808
theorem kn_inv_add {K : Kn} {m s : Nat} {S : Int} (h : KnInv K m s S) (hm : m ≤ 1000000) (v : V) (hv : inI v.n) : KnInv (K.add v) (m + 1) (s + if v.k = 0 then 0 else 1) (S + if v.k = 0 then 0 else v.n) := by
  obtain ⟨h1, h2, h3, h4, h5, h6, h7⟩ := h
  have hst := add_step K.hi K.lo v.n S m h3 h4 h5 h6 h7 (by omega) (by omega) hv
  have hal := addL_ok K.lo v.n
  obtain ⟨v0, v1⟩ := hv
  unfold Kn.add
  by_cases hk : v.k = 0
  · rw [if_pos hk, if_pos hk, if_pos hk]
    exact ⟨by simp only; omega, by simp only; omega, h3, h4, by simp only; omega, by omega, by omega⟩
  · rw [if_neg hk, if_neg hk, if_neg hk]
    exact ⟨by simp only; omega, by simp only; omega, hal.1, hal.2, hst, by omega, by omega⟩
theorem kn_inv_fold : ∀ (vs : List V) (K : Kn) (m s : Nat) (S : Int), KnInv K m s S → m + vs.length ≤ 1000000 → (∀ v ∈ vs, inI v.n) → KnInv (vs.foldl Kn.add K) (m + vs.length) (s + cntV vs) (S + sumV vs)
  | [], K, m, s, S, h, _, _ => by simpa [cntV, sumV] using h
  | v :: vs, K, m, s, S, h, hm, hv => by
    simp only [List.length_cons] at hm
    have h1 := kn_inv_add h (by omega) v (hv v List.mem_cons_self)
    have h2 := kn_inv_fold vs _ _ _ _ h1 (by omega) (fun u hu => hv u (List.mem_cons_of_mem _ hu))
    rw [List.foldl_cons]
    have e1 : m + 1 + vs.length = m + (v :: vs).length := by rw [List.length_cons]; omega
    have e2 : (s + if v.k = 0 then 0 else 1) + cntV vs = s + cntV (v :: vs) := by
      unfold cntV
      by_cases hk : v.k = 0
      · simp [hk]
      · simp [hk]; omega
    have e3 : (S + if v.k = 0 then 0 else v.n) + sumV vs = S + sumV (v :: vs) := by
      unfold sumV
      by_cases hk : v.k = 0
      · simp [hk]
      · simp [hk]; omega
    rw [e1, e2, e3] at h2
    exact h2
theorem kn_inv (vs : List V) (hl : vs.length ≤ 1000000) (hv : ∀ v ∈ vs, inI v.n) : KnInv (vs.foldl Kn.add Kn.zero) vs.length (cntV vs) (sumV vs) := by
  have h := kn_inv_fold vs Kn.zero 0 0 0 ⟨rfl, rfl, by decide, by decide, rfl, by decide, by decide⟩ (by omega) hv
  simpa using h
/-- A wide number is one that Go has just if it is. -/
theorem nar_iff (hi lo S : Int) (l0 : 0 ≤ lo) (l1 : lo ≤ 18446744073709551615) (hS : hi * 18446744073709551616 + lo = S) : (narB hi lo = true ↔ inI S) ∧ (inI S → narN hi lo = S) := by
  have hb : narB hi lo = true ↔ hi = wrap64 lo / 9223372036854775808 := by unfold narB; exact decide_eq_true_iff
  have hk : hi = wrap64 lo / 9223372036854775808 ↔ inI S := by
    unfold inI wrap64
    omega
  refine ⟨hb.trans hk, fun h => ?_⟩
  unfold narN
  rw [if_pos (hk.2 h)]
  unfold inI at h
  unfold wrap64
  omega
theorem perm_sum {a b : List Int} (h : a.Perm b) : a.sum = b.sum := by
  induction h with
  | nil => rfl
  | cons x _ ih => rw [List.sum_cons, List.sum_cons, ih]
  | swap x y l => simp only [List.sum_cons]; omega
  | trans _ _ h1 h2 => exact h1.trans h2
theorem tw_all {α : Type} (p : α → Bool) (h : ∀ x, p x = true) : ∀ l : List α, l.takeWhile p = l ∧ l.dropWhile p = []
  | [] => ⟨rfl, rfl⟩
  | a :: l => by
    rw [List.takeWhile_cons, List.dropWhile_cons, h a]
    simp only [if_true]
    exact ⟨by rw [(tw_all p h l).1], (tw_all p h l).2⟩
theorem sumV_perm {a b : List V} (h : a.Perm b) : sumV a = sumV b := by
  have h2 := (h.filter (fun v => decide (v.k ≠ 0))).map (·.n)
  unfold sumV
  exact perm_sum h2
theorem cntV_perm {a b : List V} (h : a.Perm b) : cntV a = cntV b := by
  unfold cntV
  exact (h.filter _).length_eq
/-- All rows are one run where there are no keys. -/
theorem runs_none (r : List V) (l : List (List V)) : runs [] (r :: l) = [r :: l] := by
  obtain ⟨h1, h2⟩ := tw_all (eqK [] r) (fun x => rfl) l
  rw [runs_cons, h1, h2, runs_nil]
/-- The sum of numbers, as one group. -/
theorem grp_sum (zs : List Int) (h0 : zs ≠ []) (hl : zs.length ≤ 1000000) (hz : ∀ z ∈ zs, inI z) :
    grpB [2] (zs.map (fun z => [numG z])) [] [⟨3, 0⟩] = if -9223372036854775808 ≤ zs.sum ∧ zs.sum ≤ 9223372036854775807 then (0, [[numG zs.sum]]) else (220, []) := by
  have hfit : (zs.map (fun z => [numG z])).all (fitL [2]) = true := by
    rw [List.all_map, List.all_eq_true]
    intro z _
    show (fitV 2 (numG z) && fitL [] []) = true
    have : rightB (numG z) = true := decide_eq_true (.inr (.inr (.inl ⟨rfl, by unfold numG; exact emp_toList⟩)))
    unfold fitV
    rw [this]
    rfl
  have hp : (sortL (gkeys []) (zs.map (fun z => [numG z]))).Perm (zs.map (fun z => [numG z])) := sortB_perm _ _
  unfold grpB
  rw [if_pos (show kindsE [2] [] [⟨3, 0⟩] = 0 by decide), if_pos hfit]
  generalize sortL (gkeys []) (zs.map (fun z => [numG z])) = S at hp
  have hS : S ≠ [] := fun e => by
    rw [e] at hp
    have := hp.length_eq
    rw [List.length_map] at this
    exact h0 (List.eq_nil_of_length_eq_zero (by simpa using this.symm))
  obtain ⟨r, l, rfl⟩ := List.exists_cons_of_ne_nil hS
  unfold pend
  rw [if_neg (fun h => by cases h.1.2), show gkeys [] = [] from rfl, runs_none]
  have hvs : ((r :: l).map (vOf ⟨3, 0⟩)).Perm (zs.map numG) := by
    have h1 := hp.map (vOf ⟨3, 0⟩)
    rw [List.map_map] at h1
    exact h1
  have hlen : ((r :: l).map (vOf ⟨3, 0⟩)).length = zs.length := by rw [hvs.length_eq, List.length_map]
  have hin : ∀ v ∈ (r :: l).map (vOf ⟨3, 0⟩), inI v.n := fun v hv => by
    obtain ⟨z, hzm, rfl⟩ := List.mem_map.1 (hvs.mem_iff.1 hv)
    exact hz z hzm
  have hK := kn_inv ((r :: l).map (vOf ⟨3, 0⟩)) (by omega) hin
  have hf : (zs.map numG).filter (fun v => decide (v.k ≠ 0)) = zs.map numG := List.filter_eq_self.2 (fun v hv => by
    obtain ⟨z, _, rfl⟩ := List.mem_map.1 hv
    rfl)
  have hsum : sumV ((r :: l).map (vOf ⟨3, 0⟩)) = zs.sum := by
    rw [sumV_perm hvs]
    unfold sumV
    rw [hf, List.map_map]
    congr 1
    exact List.map_id zs
  have hcnt : cntV ((r :: l).map (vOf ⟨3, 0⟩)) = zs.length := by
    rw [cntV_perm hvs]
    unfold cntV
    rw [hf, List.length_map]
  rw [hsum, hcnt, hlen] at hK
  have hpos : 0 < zs.length := List.length_pos_iff.2 h0
  have hn := nar_iff _ _ _ hK.l0 hK.l1 hK.sum
  have hag : aggB (r :: l) ⟨3, 0⟩ = if -9223372036854775808 ≤ zs.sum ∧ zs.sum ≤ 9223372036854775807 then (numG zs.sum, 0) else (V.zero, 220) := by
    unfold aggB knOf
    generalize ((r :: l).map (vOf ⟨3, 0⟩)).foldl Kn.add Kn.zero = K at hK hn
    unfold Kn.told
    rw [if_neg (show ¬ ((3 : Int) = 1) by decide), if_neg (show ¬ ((3 : Int) = 2) by decide), if_neg (show ¬ ((3 : Int) = 4) by decide), if_neg (show ¬ ((3 : Int) = 5) by decide), if_neg (by rw [hK.some]; omega)]
    by_cases hi : -9223372036854775808 ≤ zs.sum ∧ zs.sum ≤ 9223372036854775807
    · rw [if_pos (hn.1.2 hi), if_pos hi, hn.2 hi]
    · rw [if_neg (fun h => hi (hn.1.1 h)), if_neg hi]
  show (if (tldB (r :: l) [] [⟨3, 0⟩]).1 = 0 then tellAll [] [⟨3, 0⟩] [] ([] ++ [(tldB (r :: l) [] [⟨3, 0⟩]).2]) else ((tldB (r :: l) [] [⟨3, 0⟩]).1, [])) = _
  have ht : tldB (r :: l) [] [⟨3, 0⟩] = if -9223372036854775808 ≤ zs.sum ∧ zs.sum ≤ 9223372036854775807 then (0, [numG zs.sum]) else (220, []) := by
    show (if (aggB (r :: l) ⟨3, 0⟩).2 = 0 then (0, [] ++ [(aggB (r :: l) ⟨3, 0⟩).1]) else ((aggB (r :: l) ⟨3, 0⟩).2, [])) = _
    rw [hag]
    by_cases hi : -9223372036854775808 ≤ zs.sum ∧ zs.sum ≤ 9223372036854775807
    · rw [if_pos hi, if_pos hi]; rfl
    · rw [if_neg hi, if_neg hi]; rfl
  rw [ht]
  by_cases hi : -9223372036854775808 ≤ zs.sum ∧ zs.sum ≤ 9223372036854775807
  · rw [if_pos hi, if_pos hi]; rfl
  · rw [if_neg hi, if_neg hi]; rfl
end Go.Proofs.Ytbiniecjenencaa
