/- A tree of losers: plain. -/
import Derived.Test.YtfhlbiddhgkcpaaMrgP
import Derived.Test.YtfhlbiddhgkcpaaRow
set_option linter.unusedVariables false
set_option linter.unusedSimpArgs false
namespace Go.Proofs.Ytfhlbiddhgkcpaa
/-- A list's first row; none: it has none, or there is no such list. -/
def gt (H : List (Option (List V))) (i : Nat) : Option (List V) := H.getD i none
/-- Does list a's row come ahead of list b's? -/
def btB (ks : List Ky) (H : List (Option (List V))) (a b : Nat) : Bool := match gt H a, gt H b with
  | none, _ => false
  | some _, none => true
  | some x, some y => decide (cmpR x y ks < 0) || (decide (cmpR x y ks = 0) && decide (a < b))
/-- Are both held against each other? -/
def both (H : List (Option (List V))) (a b : Nat) : Nat := if (gt H a).isSome = true ∧ (gt H b).isSome = true then 1 else 0
theorem gt_big {H : List (Option (List V))} {i : Nat} (h : H.length ≤ i) : gt H i = none := by
  unfold gt
  rw [List.getD_eq_getElem?_getD, List.getElem?_eq_none h]
  rfl
theorem gt_lt {H : List (Option (List V))} {i : Nat} (h : (gt H i).isSome = true) : i < H.length := by
  rcases Nat.lt_or_ge i H.length with h1 | h1
  · exact h1
  · rw [gt_big h1] at h; cases h
section
variable (ks : List Ky) (H : List (Option (List V)))
theorem bt_irr (a : Nat) : btB ks H a a = false := by
  unfold btB
  cases gt H a with
  | none => rfl
  | some x => simp [cmpR_refl]
theorem bt_tr (a b c : Nat) (h1 : btB ks H a b = false) (h2 : btB ks H b c = false) : btB ks H a c = false := by
  unfold btB at *
  cases ha : gt H a with
  | none => rfl
  | some x =>
    rw [ha] at h1
    cases hb : gt H b with
    | none => rw [hb] at h1; simp at h1
    | some y =>
      rw [hb] at h1 h2
      cases hc : gt H c with
      | none => rw [hc] at h2; simp at h2
      | some z =>
        rw [hc] at h2
        have t1 := cmpR_tri x y z ks
        have t2 := cmpR_tri z y x ks
        have n1 := cmpR_neg x y ks
        have n2 := cmpR_neg y z ks
        have n3 := cmpR_neg x z ks
        unfold Tri at t1 t2
        simp only [Bool.or_eq_false_iff, Bool.and_eq_false_iff, decide_eq_false_iff_not] at h1 h2 ⊢
        omega
theorem bt_none (a b : Nat) (h : btB ks H a b = false) (hb : gt H b = none) : gt H a = none := by
  unfold btB at h
  rw [hb] at h
  cases ha : gt H a with
  | none => rfl
  | some x => rw [ha] at h; simp at h
theorem bt_eq (a b : Nat) (h1 : btB ks H a b = false) (h2 : btB ks H b a = false) (ha : (gt H a).isSome = true) : a = b := by
  unfold btB at *
  cases hx : gt H a with
  | none => rw [hx] at ha; cases ha
  | some x =>
    cases hy : gt H b with
    | none => rw [hx, hy] at h1; simp at h1
    | some y =>
      rw [hx, hy] at h1
      rw [hy, hx] at h2
      have n1 := cmpR_neg x y ks
      simp only [Bool.or_eq_false_iff, Bool.and_eq_false_iff, decide_eq_false_iff_not] at h1 h2
      omega
/-- The list whose row comes next. -/
def nxt : Option Nat := (List.range H.length).find? (fun w => (gt H w).isSome && (List.range H.length).all (fun u => !btB ks H u w))
theorem nxt_some (w : Nat) (hw : (gt H w).isSome = true) (h : ∀ u, u < H.length → btB ks H u w = false) : nxt ks H = some w := by
  unfold nxt
  have hl := gt_lt hw
  cases e : (List.range H.length).find? (fun w => (gt H w).isSome && (List.range H.length).all (fun u => !btB ks H u w)) with
  | none =>
    have := List.find?_eq_none.1 e w (List.mem_range.2 hl)
    simp only [Bool.and_eq_true, List.all_eq_true, List.mem_range, Bool.not_eq_true', not_and, hw, true_implies] at this
    exact absurd h this
  | some v =>
    have h1 := List.find?_some e
    have h2 := List.mem_range.1 (List.mem_of_find?_eq_some e)
    simp only [Bool.and_eq_true, List.all_eq_true, List.mem_range, Bool.not_eq_true'] at h1
    rw [bt_eq ks H v w (h v h2) (h1.2 w hl) h1.1]
theorem nxt_none (h : ∀ u, u < H.length → gt H u = none) : nxt ks H = none := by
  unfold nxt
  refine List.find?_eq_none.2 (fun v hv => ?_)
  rw [h v (List.mem_range.1 hv)]
  simp
theorem nxt_is {w : Nat} (h : nxt ks H = some w) : (gt H w).isSome = true ∧ w < H.length ∧ ∀ u, u < H.length → btB ks H u w = false := by
  unfold nxt at h
  have h1 := List.find?_some h
  simp only [Bool.and_eq_true, List.all_eq_true, List.mem_range, Bool.not_eq_true'] at h1
  exact ⟨h1.1, gt_lt h1.1, h1.2⟩
variable (S : List Nat) (sz : Nat)
/-- w wins below match i, h matches high; the slots are as they must be. -/
def Won : Nat → Nat → Nat → Prop
  | 0, i, w => w + sz = i
  | h + 1, i, w => ∃ l, S[i]? = some l ∧ btB ks H l w = false ∧ ((Won h (2 * i) w ∧ Won h (2 * i + 1) l) ∨ (Won h (2 * i) l ∧ Won h (2 * i + 1) w))
theorem div_up (n h : Nat) : n / 2 ^ (h + 1) = n / 2 ^ h / 2 := by rw [Nat.pow_succ, Nat.div_div_eq_div_mul]
theorem won_range : ∀ h i w, Won ks H S sz h i w → (w + sz) / 2 ^ h = i
  | 0, i, w, hw => by simpa [Won] using hw
  | h + 1, i, w, ⟨l, _, _, hc⟩ => by
    rw [div_up]
    rcases hc with ⟨h1, _⟩ | ⟨_, h1⟩
    · rw [won_range h _ _ h1]; omega
    · rw [won_range h _ _ h1]; omega
theorem won_least : ∀ h i w, Won ks H S sz h i w → ∀ u, (u + sz) / 2 ^ h = i → btB ks H u w = false
  | 0, i, w, hw, u, hu => by
    simp only [Won] at hw
    simp at hu
    have : u = w := by omega
    rw [this]
    exact bt_irr ks H w
  | h + 1, i, w, ⟨l, _, hb, hc⟩, u, hu => by
    rw [div_up] at hu
    have h2 : (u + sz) / 2 ^ h = 2 * i ∨ (u + sz) / 2 ^ h = 2 * i + 1 := by omega
    rcases hc with ⟨h1, h3⟩ | ⟨h3, h1⟩ <;> rcases h2 with h2 | h2
    · exact won_least h _ _ h1 u h2
    · exact bt_tr ks H u l w (won_least h _ _ h3 u h2) hb
    · exact bt_tr ks H u l w (won_least h _ _ h3 u h2) hb
    · exact won_least h _ _ h1 u h2
end
theorem bt_same {ks : List Ky} {H H' : List (Option (List V))} {a b : Nat} (h1 : gt H' a = gt H a) (h2 : gt H' b = gt H b) : btB ks H' a b = btB ks H a b := by
  unfold btB
  rw [h1, h2]
theorem won_mono {ks : List Ky} {H H' : List (Option (List V))} {S S' : List Nat} {sz : Nat} : ∀ h i w, Won ks H S sz h i w → (∀ e j, e < h → j / 2 ^ e = i → S'[j]? = S[j]?) → (∀ u, (u + sz) / 2 ^ h = i → gt H' u = gt H u) → Won ks H' S' sz h i w
  | 0, i, w, hw, _, _ => hw
  | h + 1, i, w, ⟨l, hl, hb, hc⟩, hS, hH => by
    have g : ∀ u, (u + sz) / 2 ^ h = 2 * i ∨ (u + sz) / 2 ^ h = 2 * i + 1 → gt H' u = gt H u := fun u hu => hH u (by rw [div_up]; omega)
    have k : ∀ c, c / 2 = i → ∀ e j, e < h → j / 2 ^ e = c → S'[j]? = S[j]? := fun c hc e j he hj => hS (e + 1) j (by omega) (by rw [div_up, hj, hc])
    refine ⟨l, ?_, ?_, ?_⟩
    · rw [hS 0 i (by omega) (by simp)]; exact hl
    · rcases hc with ⟨h1, h2⟩ | ⟨h1, h2⟩
      · rw [bt_same (g l (.inr (won_range _ _ _ _ _ _ _ h2))) (g w (.inl (won_range _ _ _ _ _ _ _ h1)))]; exact hb
      · rw [bt_same (g l (.inl (won_range _ _ _ _ _ _ _ h1))) (g w (.inr (won_range _ _ _ _ _ _ _ h2)))]; exact hb
    · rcases hc with ⟨h1, h2⟩ | ⟨h1, h2⟩
      · exact .inl ⟨won_mono h _ _ h1 (k _ (by omega)) (fun u hu => g u (.inl hu)), won_mono h _ _ h2 (k _ (by omega)) (fun u hu => g u (.inr hu))⟩
      · exact .inr ⟨won_mono h _ _ h1 (k _ (by omega)) (fun u hu => g u (.inl hu)), won_mono h _ _ h2 (k _ (by omega)) (fun u hu => g u (.inr hu))⟩
section
variable {ks : List Ky} {H : List (Option (List V))} {S : List Nat} {sz : Nat}
theorem won_path : ∀ h i w, Won ks H S sz h i w → ∀ e, e ≤ h → Won ks H S sz e ((w + sz) / 2 ^ e) w
  | 0, i, w, hw, e, he => by
    obtain rfl : e = 0 := by omega
    simp [Won]
  | h + 1, i, w, hw, e, he => by
    by_cases h1 : e = h + 1
    · subst h1
      rw [won_range _ _ _ _ _ _ _ hw]
      exact hw
    · obtain ⟨l, _, _, hc⟩ := hw
      rcases hc with ⟨h2, _⟩ | ⟨_, h2⟩
      · exact won_path h _ _ h2 e (by omega)
      · exact won_path h _ _ h2 e (by omega)
/-- The winner of all. -/
theorem won_top {h w : Nat} (hs : sz = 2 ^ h) (hl : H.length ≤ sz) (hw : Won ks H S sz h 1 w) : nxt ks H = if (gt H w).isSome = true then some w else none := by
  have hp : 0 < 2 ^ h := Nat.pow_pos (by omega)
  have hu : ∀ u, u < H.length → btB ks H u w = false := fun u hu => won_least _ _ _ _ _ _ _ hw u (by
    rw [hs, Nat.add_div_right _ hp, Nat.div_eq_of_lt (by omega)])
  by_cases h1 : (gt H w).isSome = true
  · rw [if_pos h1]; exact nxt_some ks H w h1 hu
  · rw [if_neg h1]
    have h2 : gt H w = none := by simpa using h1
    exact nxt_none ks H (fun u hu2 => bt_none ks H u w (hu u hu2) h2)
/-- Up the tree: below the match e matches up from place L, who wins; on the way up from there, each slot has the winner of the other side. -/
def Clb (ks : List Ky) (H : List (Option (List V))) (S : List Nat) (sz h L e who : Nat) : Prop :=
  Won ks H S sz e (L / 2 ^ e) who ∧ ∀ d, e < d → d ≤ h → ∃ b s, S[L / 2 ^ d]? = some b ∧ Won ks H S sz (d - 1) s b ∧ s / 2 = L / 2 ^ d ∧ s ≠ L / 2 ^ (d - 1)
theorem clb_start {h w : Nat} {H' : List (Option (List V))} (hw : Won ks H S sz h 1 w) (hH : ∀ u, u ≠ w → gt H' u = gt H u) : Clb ks H' S sz h (w + sz) 0 w := by
  refine ⟨by simp [Won], fun d hd hdh => ?_⟩
  have h1 := won_path _ _ _ hw d hdh
  obtain ⟨e, rfl⟩ : ∃ e, d = e + 1 := ⟨d - 1, by omega⟩
  obtain ⟨l, hl, hb, hc⟩ := h1
  simp only [Nat.add_sub_cancel]
  rcases hc with ⟨h2, h3⟩ | ⟨h3, h2⟩
  · have hr := won_range _ _ _ _ _ _ _ h2
    refine ⟨l, _, hl, won_mono _ _ _ h3 (fun _ _ _ _ => rfl) (fun u hu => hH u (fun e0 => ?_)), by omega, by omega⟩
    rw [e0] at hu; omega
  · have hr := won_range _ _ _ _ _ _ _ h2
    refine ⟨l, _, hl, won_mono _ _ _ h3 (fun _ _ _ _ => rfl) (fun u hu => hH u (fun e0 => ?_)), by omega, by omega⟩
    rw [e0] at hu; omega
theorem div_le_div (L a b : Nat) (h : a ≤ b) : L / 2 ^ b ≤ L / 2 ^ a := by
  obtain ⟨c, rfl⟩ : ∃ c, b = a + c := ⟨b - a, by omega⟩
  rw [Nat.pow_add, ← Nat.div_div_eq_div_mul]
  exact Nat.div_le_self _ _
theorem clb_step {h L e who : Nat} (hL : 2 ^ h ≤ L) (he : e < h) (hc : Clb ks H S sz h L e who) :
    ∃ b, S[L / 2 ^ (e + 1)]? = some b ∧ (btB ks H b who = true → Clb ks H (S.set (L / 2 ^ (e + 1)) who) sz h L (e + 1) b) ∧ (btB ks H b who = false → Clb ks H S sz h L (e + 1) who) := by
  obtain ⟨hw, hd⟩ := hc
  obtain ⟨b, s, hb, hs, hp, hn⟩ := hd (e + 1) (by omega) (by omega)
  simp only [Nat.add_sub_cancel] at hs hn
  have hup := div_up L e
  have hpos : ∀ d, d ≤ h → 1 ≤ L / 2 ^ d := fun d hdh => by
    rw [Nat.le_div_iff_mul_le (Nat.pow_pos (by omega)), Nat.one_mul]
    exact Nat.le_trans (Nat.pow_le_pow_right (by omega) hdh) hL
  have hi1 := hpos (e + 1) (by omega)
  have hli : L / 2 ^ (e + 1) < S.length := (List.getElem?_eq_some_iff.1 hb).1
  refine ⟨b, hb, fun hbt => ⟨?_, ?_⟩, fun hbt => ⟨?_, fun d h1 h2 => hd d (by omega) h2⟩⟩
  · have mv : ∀ c v, c / 2 = L / 2 ^ (e + 1) → Won ks H S sz e c v → Won ks H (S.set (L / 2 ^ (e + 1)) who) sz e c v := fun c v hcv hv => won_mono _ _ _ hv (fun x j hx hj => by
      rw [List.getElem?_set_ne]
      intro e0
      have := Nat.div_le_self j (2 ^ x)
      omega) (fun _ _ => rfl)
    refine ⟨who, by rw [List.getElem?_set_self hli], ?_, ?_⟩
    · by_cases hx : btB ks H who b = false
      · exact hx
      · exfalso
        have hx2 : btB ks H who b = true := by simpa using hx
        unfold btB at hbt hx2
        cases h1 : gt H b with
        | none => rw [h1] at hbt; simp at hbt
        | some y =>
          cases h2 : gt H who with
          | none => rw [h2] at hx2; simp at hx2
          | some x =>
            rw [h1, h2] at hbt
            rw [h2, h1] at hx2
            have := cmpR_neg x y ks
            simp only [Bool.or_eq_true, Bool.and_eq_true, decide_eq_true_eq] at hbt hx2
            omega
    · by_cases hc2 : s = 2 * (L / 2 ^ (e + 1))
      · have : L / 2 ^ e = 2 * (L / 2 ^ (e + 1)) + 1 := by omega
        rw [← hc2, show s + 1 = L / 2 ^ e by omega]
        exact .inl ⟨mv _ _ (by omega) hs, mv _ _ (by omega) hw⟩
      · have h3 : L / 2 ^ e = 2 * (L / 2 ^ (e + 1)) := by omega
        have h4 : s = 2 * (L / 2 ^ (e + 1)) + 1 := by omega
        rw [← h3, show L / 2 ^ e + 1 = s by omega]
        exact .inr ⟨mv _ _ (by omega) hw, mv _ _ (by omega) hs⟩
  · intro d h1 h2
    obtain ⟨b2, s2, k1, k2, k3, k4⟩ := hd d (by omega) h2
    have hdl : L / 2 ^ d ≤ L / 2 ^ (e + 1 + 1) := div_le_div L _ _ (by omega)
    have hup2 := div_up L (e + 1)
    have hd1 := hpos d h2
    refine ⟨b2, s2, ?_, won_mono _ _ _ k2 (fun x j hx hj => ?_) (fun _ _ => rfl), k3, k4⟩
    · rw [List.getElem?_set_ne (by omega)]
      exact k1
    · rw [List.getElem?_set_ne]
      intro e0
      rw [← e0, Nat.div_div_eq_div_mul, ← Nat.pow_add] at hj
      rcases Nat.lt_trichotomy (e + 1 + x) (d - 1) with h5 | h5 | h5
      · have h6 := div_le_div L (e + 1 + x + 1) (d - 1) (by omega)
        have h7 := div_up L (e + 1 + x)
        have h8 := hpos d h2
        have h9 := div_up L (d - 1)
        rw [show d - 1 + 1 = d by omega] at h9
        omega
      · rw [h5] at hj; omega
      · have h6 := div_le_div L d (e + 1 + x) (by omega)
        omega
  · refine ⟨b, hb, hbt, ?_⟩
    by_cases hc2 : s = 2 * (L / 2 ^ (e + 1))
    · right
      rw [← hc2, show s + 1 = L / 2 ^ e by omega]
      exact ⟨hs, hw⟩
    · left
      have h3 : L / 2 ^ e = 2 * (L / 2 ^ (e + 1)) := by omega
      rw [← h3, show L / 2 ^ e + 1 = s by omega]
      exact ⟨hw, hs⟩
theorem clb_end {h L who : Nat} (hL : L / 2 ^ h = 1) (hc : Clb ks H S sz h L h who) : Won ks H S sz h 1 who := by
  have := hc.1
  rwa [hL] at this
/-- How many of the lists below match i have a row. -/
def cn (H : List (Option (List V))) (sz : Nat) : Nat → Nat → Nat
  | 0, i => if (gt H (i - sz)).isSome = true then 1 else 0
  | h + 1, i => cn H sz h (2 * i) + cn H sz h (2 * i + 1)
theorem cn_le (H : List (Option (List V))) (sz : Nat) : ∀ h i, sz ≤ i * 2 ^ h → cn H sz h i + min H.length (i * 2 ^ h - sz) ≤ min H.length ((i + 1) * 2 ^ h - sz)
  | 0, i, hi => by
    unfold cn
    simp only [Nat.pow_zero, Nat.mul_one] at hi ⊢
    split
    · rename_i h1
      have := gt_lt h1
      omega
    · omega
  | h + 1, i, hi => by
    unfold cn
    have e1 : 2 * i * 2 ^ h = i * 2 ^ (h + 1) := by rw [Nat.pow_succ, Nat.mul_comm (2 ^ h) 2, ← Nat.mul_assoc, Nat.mul_comm i 2]
    have e2 : (2 * i + 1 + 1) * 2 ^ h = (i + 1) * 2 ^ (h + 1) := by rw [show 2 * i + 1 + 1 = (i + 1) * 2 by omega, Nat.pow_succ, Nat.mul_assoc, Nat.mul_comm 2 (2 ^ h)]
    have h1 := cn_le H sz h (2 * i) (by omega)
    have h2 := cn_le H sz h (2 * i + 1) (by
      have : 2 * i * 2 ^ h ≤ (2 * i + 1) * 2 ^ h := Nat.mul_le_mul_right _ (by omega)
      omega)
    omega
end
end Go.Proofs.Ytfhlbiddhgkcpaa
