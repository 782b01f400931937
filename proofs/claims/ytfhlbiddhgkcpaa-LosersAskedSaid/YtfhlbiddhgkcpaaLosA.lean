/- A tree of losers: plain. -/
import Derived.Test.YtfhlbiddhgkcpaaMrgP
import Derived.Test.YtfhlbiddhgkcpaaRow
import Derived.Test.YtfhlbiddhgkcpaaOOwn
import Derived.Test.YtfhlbiddhgkcpaaAppK
set_option linter.unusedVariables false
set_option linter.unusedSimpArgs false
namespace Go.Proofs.Ytfhlbiddhgkcpaa
open Go.RowKit
/-! A tree of losers: plain. -/
/-- A list's first row; none: it has none, or there is no such list. -/
def gt (H : List (Option (List V))) (i : Nat) : Option (List V) := H.getD i none
/-- Does list a's row come ahead of list b's? -/
def btB (ks : List Ky) (H : List (Option (List V))) (a b : Nat) : Bool := match gt H a, gt H b with
  | none, _ => false
  | some _, none => true
  | some x, some y => decide (cmpR x y ks < 0) || (decide (cmpR x y ks = 0) && decide (a < b))
/-- Are both held against each other? -/
def both (H : List (Option (List V))) (a b : Nat) : Nat := if (gt H a).isSome = true ∧ (gt H b).isSome = true then 1 else 0
theorem gt_big {H : List (Option (List V))} {i : Nat} (h : H.length ≤ i) : gt H i = none := by
  unfold gt
  rw [List.getD_eq_getElem?_getD, List.getElem?_eq_none h]
  rfl
theorem gt_lt {H : List (Option (List V))} {i : Nat} (h : (gt H i).isSome = true) : i < H.length := by
  rcases Nat.lt_or_ge i H.length with h1 | h1
  · exact h1
  · rw [gt_big h1] at h; cases h
section
variable (ks : List Ky) (H : List (Option (List V)))
theorem bt_irr (a : Nat) : btB ks H a a = false := by
  unfold btB
  cases gt H a with
  | none => rfl
  | some x => simp [cmpR_refl]
theorem bt_tr (a b c : Nat) (h1 : btB ks H a b = false) (h2 : btB ks H b c = false) : btB ks H a c = false := by
  unfold btB at *
  cases ha : gt H a with
  | none => rfl
  | some x =>
    rw [ha] at h1
    cases hb : gt H b with
    | none => rw [hb] at h1; simp at h1
    | some y =>
      rw [hb] at h1 h2
      cases hc : gt H c with
      | none => rw [hc] at h2; simp at h2
      | some z =>
        rw [hc] at h2
        have t1 := cmpR_tri x y z ks
        have t2 := cmpR_tri z y x ks
        have n1 := cmpR_neg x y ks
        have n2 := cmpR_neg y z ks
        have n3 := cmpR_neg x z ks
        unfold Tri at t1 t2
        simp only [Bool.or_eq_false_iff, Bool.and_eq_false_iff, decide_eq_false_iff_not] at h1 h2 ⊢
        omega
theorem bt_none (a b : Nat) (h : btB ks H a b = false) (hb : gt H b = none) : gt H a = none := by
  unfold btB at h
  rw [hb] at h
  cases ha : gt H a with
  | none => rfl
  | some x => rw [ha] at h; simp at h
theorem bt_eq (a b : Nat) (h1 : btB ks H a b = false) (h2 : btB ks H b a = false) (ha : (gt H a).isSome = true) : a = b := by
  unfold btB at *
  cases hx : gt H a with
  | none => rw [hx] at ha; cases ha
  | some x =>
    cases hy : gt H b with
    | none => rw [hx, hy] at h1; simp at h1
    | some y =>
      rw [hx, hy] at h1
      rw [hy, hx] at h2
      have n1 := cmpR_neg x y ks
      simp only [Bool.or_eq_false_iff, Bool.and_eq_false_iff, decide_eq_false_iff_not] at h1 h2
      omega
/-- The list whose row comes next. -/
def nxt : Option Nat := (List.range H.length).find? (fun w => (gt H w).isSome && (List.range H.length).all (fun u => !btB ks H u w))
theorem nxt_some (w : Nat) (hw : (gt H w).isSome = true) (h : ∀ u, u < H.length → btB ks H u w = false) : nxt ks H = some w := by
  unfold nxt
  have hl := gt_lt hw
  cases e : (List.range H.length).find? (fun w => (gt H w).isSome && (List.range H.length).all (fun u => !btB ks H u w)) with
  | none =>
    have := List.find?_eq_none.1 e w (List.mem_range.2 hl)
    simp only [Bool.and_eq_true, List.all_eq_true, List.mem_range, Bool.not_eq_true', not_and, hw, true_implies] at this
    exact absurd h this
  | some v =>
    have h1 := List.find?_some e
    have h2 := List.mem_range.1 (List.mem_of_find?_eq_some e)
    simp only [Bool.and_eq_true, List.all_eq_true, List.mem_range, Bool.not_eq_true'] at h1
    rw [bt_eq ks H v w (h v h2) (h1.2 w hl) h1.1]
theorem nxt_none (h : ∀ u, u < H.length → gt H u = none) : nxt ks H = none := by
  unfold nxt
  refine List.find?_eq_none.2 (fun v hv => ?_)
  rw [h v (List.mem_range.1 hv)]
  simp
theorem nxt_is {w : Nat} (h : nxt ks H = some w) : (gt H w).isSome = true ∧ w < H.length ∧ ∀ u, u < H.length → btB ks H u w = false := by
  unfold nxt at h
  have h1 := List.find?_some h
  simp only [Bool.and_eq_true, List.all_eq_true, List.mem_range, Bool.not_eq_true'] at h1
  exact ⟨h1.1, gt_lt h1.1, h1.2⟩
variable (S : List Nat) (sz : Nat)
/-- w wins below match i, h matches high; the slots are as they must be. -/
def Won : Nat → Nat → Nat → Prop
  | 0, i, w => w + sz = i
  | h + 1, i, w => ∃ l, S[i]? = some l ∧ btB ks H l w = false ∧ ((Won h (2 * i) w ∧ Won h (2 * i + 1) l) ∨ (Won h (2 * i) l ∧ Won h (2 * i + 1) w))
theorem div_up (n h : Nat) : n / 2 ^ (h + 1) = n / 2 ^ h / 2 := by rw [Nat.pow_succ, Nat.div_div_eq_div_mul]
theorem won_range : ∀ h i w, Won ks H S sz h i w → (w + sz) / 2 ^ h = i
  | 0, i, w, hw => by simpa [Won] using hw
  | h + 1, i, w, ⟨l, _, _, hc⟩ => by
    rw [div_up]
    rcases hc with ⟨h1, _⟩ | ⟨_, h1⟩
    · rw [won_range h _ _ h1]; omega
    · rw [won_range h _ _ h1]; omega
theorem won_least : ∀ h i w, Won ks H S sz h i w → ∀ u, (u + sz) / 2 ^ h = i → btB ks H u w = false
  | 0, i, w, hw, u, hu => by
    simp only [Won] at hw
    simp at hu
    have : u = w := by omega
    rw [this]
    exact bt_irr ks H w
  | h + 1, i, w, ⟨l, _, hb, hc⟩, u, hu => by
    rw [div_up] at hu
    have h2 : (u + sz) / 2 ^ h = 2 * i ∨ (u + sz) / 2 ^ h = 2 * i + 1 := by omega
    rcases hc with ⟨h1, h3⟩ | ⟨h3, h1⟩ <;> rcases h2 with h2 | h2
    · exact won_least h _ _ h1 u h2
    · exact bt_tr ks H u l w (won_least h _ _ h3 u h2) hb
    · exact bt_tr ks H u l w (won_least h _ _ h3 u h2) hb
    · exact won_least h _ _ h1 u h2
end
theorem bt_same {ks : List Ky} {H H' : List (Option (List V))} {a b : Nat} (h1 : gt H' a = gt H a) (h2 : gt H' b = gt H b) : btB ks H' a b = btB ks H a b := by
  unfold btB
  rw [h1, h2]
theorem won_mono {ks : List Ky} {H H' : List (Option (List V))} {S S' : List Nat} {sz : Nat} : ∀ h i w, Won ks H S sz h i w → (∀ e j, e < h → j / 2 ^ e = i → S'[j]? = S[j]?) → (∀ u, (u + sz) / 2 ^ h = i → gt H' u = gt H u) → Won ks H' S' sz h i w
  | 0, i, w, hw, _, _ => hw
  | h + 1, i, w, ⟨l, hl, hb, hc⟩, hS, hH => by
    have g : ∀ u, (u + sz) / 2 ^ h = 2 * i ∨ (u + sz) / 2 ^ h = 2 * i + 1 → gt H' u = gt H u := fun u hu => hH u (by rw [div_up]; omega)
    have k : ∀ c, c / 2 = i → ∀ e j, e < h → j / 2 ^ e = c → S'[j]? = S[j]? := fun c hc e j he hj => hS (e + 1) j (by omega) (by rw [div_up, hj, hc])
    refine ⟨l, ?_, ?_, ?_⟩
    · rw [hS 0 i (by omega) (by simp)]; exact hl
    · rcases hc with ⟨h1, h2⟩ | ⟨h1, h2⟩
      · rw [bt_same (g l (.inr (won_range _ _ _ _ _ _ _ h2))) (g w (.inl (won_range _ _ _ _ _ _ _ h1)))]; exact hb
      · rw [bt_same (g l (.inl (won_range _ _ _ _ _ _ _ h1))) (g w (.inr (won_range _ _ _ _ _ _ _ h2)))]; exact hb
    · rcases hc with ⟨h1, h2⟩ | ⟨h1, h2⟩
      · exact .inl ⟨won_mono h _ _ h1 (k _ (by omega)) (fun u hu => g u (.inl hu)), won_mono h _ _ h2 (k _ (by omega)) (fun u hu => g u (.inr hu))⟩
      · exact .inr ⟨won_mono h _ _ h1 (k _ (by omega)) (fun u hu => g u (.inl hu)), won_mono h _ _ h2 (k _ (by omega)) (fun u hu => g u (.inr hu))⟩
section
variable {ks : List Ky} {H : List (Option (List V))} {S : List Nat} {sz : Nat}
theorem won_path : ∀ h i w, Won ks H S sz h i w → ∀ e, e ≤ h → Won ks H S sz e ((w + sz) / 2 ^ e) w
  | 0, i, w, hw, e, he => by
    obtain rfl : e = 0 := by omega
    simp [Won]
  | h + 1, i, w, hw, e, he => by
    by_cases h1 : e = h + 1
    · subst h1
      rw [won_range _ _ _ _ _ _ _ hw]
      exact hw
    · obtain ⟨l, _, _, hc⟩ := hw
      rcases hc with ⟨h2, _⟩ | ⟨_, h2⟩
      · exact won_path h _ _ h2 e (by omega)
      · exact won_path h _ _ h2 e (by omega)
/-- The winner of all. -/
theorem won_top {h w : Nat} (hs : sz = 2 ^ h) (hl : H.length ≤ sz) (hw : Won ks H S sz h 1 w) : nxt ks H = if (gt H w).isSome = true then some w else none := by
  have hp : 0 < 2 ^ h := Nat.pow_pos (by omega)
  have hu : ∀ u, u < H.length → btB ks H u w = false := fun u hu => won_least _ _ _ _ _ _ _ hw u (by
    rw [hs, Nat.add_div_right _ hp, Nat.div_eq_of_lt (by omega)])
  by_cases h1 : (gt H w).isSome = true
  · rw [if_pos h1]; exact nxt_some ks H w h1 hu
  · rw [if_neg h1]
    have h2 : gt H w = none := by simpa using h1
    exact nxt_none ks H (fun u hu2 => bt_none ks H u w (hu u hu2) h2)
/-- Up the tree: below the match e matches up from place L, who wins; on the way up from there, each slot has the winner of the other side. -/
def Clb (ks : List Ky) (H : List (Option (List V))) (S : List Nat) (sz h L e who : Nat) : Prop :=
  Won ks H S sz e (L / 2 ^ e) who ∧ ∀ d, e < d → d ≤ h → ∃ b s, S[L / 2 ^ d]? = some b ∧ Won ks H S sz (d - 1) s b ∧ s / 2 = L / 2 ^ d ∧ s ≠ L / 2 ^ (d - 1)
theorem clb_start {h w : Nat} {H' : List (Option (List V))} (hw : Won ks H S sz h 1 w) (hH : ∀ u, u ≠ w → gt H' u = gt H u) : Clb ks H' S sz h (w + sz) 0 w := by
  refine ⟨by simp [Won], fun d hd hdh => ?_⟩
  have h1 := won_path _ _ _ hw d hdh
  obtain ⟨e, rfl⟩ : ∃ e, d = e + 1 := ⟨d - 1, by omega⟩
  obtain ⟨l, hl, hb, hc⟩ := h1
  simp only [Nat.add_sub_cancel]
  rcases hc with ⟨h2, h3⟩ | ⟨h3, h2⟩
  · have hr := won_range _ _ _ _ _ _ _ h2
    refine ⟨l, _, hl, won_mono _ _ _ h3 (fun _ _ _ _ => rfl) (fun u hu => hH u (fun e0 => ?_)), by omega, by omega⟩
    rw [e0] at hu; omega
  · have hr := won_range _ _ _ _ _ _ _ h2
    refine ⟨l, _, hl, won_mono _ _ _ h3 (fun _ _ _ _ => rfl) (fun u hu => hH u (fun e0 => ?_)), by omega, by omega⟩
    rw [e0] at hu; omega
theorem div_le_div (L a b : Nat) (h : a ≤ b) : L / 2 ^ b ≤ L / 2 ^ a := by
  obtain ⟨c, rfl⟩ : ∃ c, b = a + c := ⟨b - a, by omega⟩
  rw [Nat.pow_add, ← Nat.div_div_eq_div_mul]
  exact Nat.div_le_self _ _
theorem clb_step {h L e who : Nat} (hL : 2 ^ h ≤ L) (he : e < h) (hc : Clb ks H S sz h L e who) :
    ∃ b, S[L / 2 ^ (e + 1)]? = some b ∧ (btB ks H b who = true → Clb ks H (S.set (L / 2 ^ (e + 1)) who) sz h L (e + 1) b) ∧ (btB ks H b who = false → Clb ks H S sz h L (e + 1) who) := by
  obtain ⟨hw, hd⟩ := hc
  obtain ⟨b, s, hb, hs, hp, hn⟩ := hd (e + 1) (by omega) (by omega)
  simp only [Nat.add_sub_cancel] at hs hn
  have hup := div_up L e
  have hpos : ∀ d, d ≤ h → 1 ≤ L / 2 ^ d := fun d hdh => by
    rw [Nat.le_div_iff_mul_le (Nat.pow_pos (by omega)), Nat.one_mul]
    exact Nat.le_trans (Nat.pow_le_pow_right (by omega) hdh) hL
  have hi1 := hpos (e + 1) (by omega)
  have hli : L / 2 ^ (e + 1) < S.length := (List.getElem?_eq_some_iff.1 hb).1
  refine ⟨b, hb, fun hbt => ⟨?_, ?_⟩, fun hbt => ⟨?_, fun d h1 h2 => hd d (by omega) h2⟩⟩
  · have mv : ∀ c v, c / 2 = L / 2 ^ (e + 1) → Won ks H S sz e c v → Won ks H (S.set (L / 2 ^ (e + 1)) who) sz e c v := fun c v hcv hv => won_mono _ _ _ hv (fun x j hx hj => by
      rw [List.getElem?_set_ne]
      intro e0
      have := Nat.div_le_self j (2 ^ x)
      omega) (fun _ _ => rfl)
    refine ⟨who, by rw [List.getElem?_set_self hli], ?_, ?_⟩
    · by_cases hx : btB ks H who b = false
      · exact hx
      · exfalso
        have hx2 : btB ks H who b = true := by simpa using hx
        unfold btB at hbt hx2
        cases h1 : gt H b with
        | none => rw [h1] at hbt; simp at hbt
        | some y =>
          cases h2 : gt H who with
          | none => rw [h2] at hx2; simp at hx2
          | some x =>
            rw [h1, h2] at hbt
            rw [h2, h1] at hx2
            have := cmpR_neg x y ks
            simp only [Bool.or_eq_true, Bool.and_eq_true, decide_eq_true_eq] at hbt hx2
            omega
    · by_cases hc2 : s = 2 * (L / 2 ^ (e + 1))
      · have : L / 2 ^ e = 2 * (L / 2 ^ (e + 1)) + 1 := by omega
        rw [← hc2, show s + 1 = L / 2 ^ e by omega]
        exact .inl ⟨mv _ _ (by omega) hs, mv _ _ (by omega) hw⟩
      · have h3 : L / 2 ^ e = 2 * (L / 2 ^ (e + 1)) := by omega
        have h4 : s = 2 * (L / 2 ^ (e + 1)) + 1 := by omega
        rw [← h3, show L / 2 ^ e + 1 = s by omega]
        exact .inr ⟨mv _ _ (by omega) hw, mv _ _ (by omega) hs⟩
  · intro d h1 h2
    obtain ⟨b2, s2, k1, k2, k3, k4⟩ := hd d (by omega) h2
    have hdl : L / 2 ^ d ≤ L / 2 ^ (e + 1 + 1) := div_le_div L _ _ (by omega)
    have hup2 := div_up L (e + 1)
    have hd1 := hpos d h2
    refine ⟨b2, s2, ?_, won_mono _ _ _ k2 (fun x j hx hj => ?_) (fun _ _ => rfl), k3, k4⟩
    · rw [List.getElem?_set_ne (by omega)]
      exact k1
    · rw [List.getElem?_set_ne]
      intro e0
      rw [← e0, Nat.div_div_eq_div_mul, ← Nat.pow_add] at hj
      rcases Nat.lt_trichotomy (e + 1 + x) (d - 1) with h5 | h5 | h5
      · have h6 := div_le_div L (e + 1 + x + 1) (d - 1) (by omega)
        have h7 := div_up L (e + 1 + x)
        have h8 := hpos d h2
        have h9 := div_up L (d - 1)
        rw [show d - 1 + 1 = d by omega] at h9
        omega
      · rw [h5] at hj; omega
      · have h6 := div_le_div L d (e + 1 + x) (by omega)
        omega
  · refine ⟨b, hb, hbt, ?_⟩
    by_cases hc2 : s = 2 * (L / 2 ^ (e + 1))
    · right
      rw [← hc2, show s + 1 = L / 2 ^ e by omega]
      exact ⟨hs, hw⟩
    · left
      have h3 : L / 2 ^ e = 2 * (L / 2 ^ (e + 1)) := by omega
      rw [← h3, show L / 2 ^ e + 1 = s by omega]
      exact ⟨hw, hs⟩
theorem clb_end {h L who : Nat} (hL : L / 2 ^ h = 1) (hc : Clb ks H S sz h L h who) : Won ks H S sz h 1 who := by
  have := hc.1
  rwa [hL] at this
/-- How many of the lists below match i have a row. -/
def cn (H : List (Option (List V))) (sz : Nat) : Nat → Nat → Nat
  | 0, i => if (gt H (i - sz)).isSome = true then 1 else 0
  | h + 1, i => cn H sz h (2 * i) + cn H sz h (2 * i + 1)
theorem cn_le (H : List (Option (List V))) (sz : Nat) : ∀ h i, sz ≤ i * 2 ^ h → cn H sz h i + min H.length (i * 2 ^ h - sz) ≤ min H.length ((i + 1) * 2 ^ h - sz)
  | 0, i, hi => by
    unfold cn
    simp only [Nat.pow_zero, Nat.mul_one] at hi ⊢
    split
    · rename_i h1
      have := gt_lt h1
      omega
    · omega
  | h + 1, i, hi => by
    unfold cn
    have e1 : 2 * i * 2 ^ h = i * 2 ^ (h + 1) := by rw [Nat.pow_succ, Nat.mul_comm (2 ^ h) 2, ← Nat.mul_assoc, Nat.mul_comm i 2]
    have e2 : (2 * i + 1 + 1) * 2 ^ h = (i + 1) * 2 ^ (h + 1) := by rw [show 2 * i + 1 + 1 = (i + 1) * 2 by omega, Nat.pow_succ, Nat.mul_assoc, Nat.mul_comm 2 (2 ^ h)]
    have h1 := cn_le H sz h (2 * i) (by omega)
    have h2 := cn_le H sz h (2 * i + 1) (by
      have : 2 * i * 2 ^ h ≤ (2 * i + 1) * 2 ^ h := Nat.mul_le_mul_right _ (by omega)
      omega)
    omega
end
/-! A tree of losers in memory; a list's row, and which of two comes ahead. -/
/-- All but blocks of P is as it was. -/
structure Oth (P : Nat → Prop) (w x : World) : Prop where
  os : x.os = w.os
  tape : x.tape = w.tape
  output : x.output = w.output
  size : w.heap.size ≤ x.heap.size
  block : ∀ k, k < w.heap.size → ¬ P k → x.heap[k]? = w.heap[k]?
section
variable {P : Nat → Prop} {w x : World}
theorem Oth.refl (P : Nat → Prop) (w : World) : Oth P w w := ⟨rfl, rfl, rfl, Nat.le_refl _, fun _ _ _ => rfl⟩
theorem Oth.trans {y : World} (h : Oth P w x) (k : Oth P x y) : Oth P w y := ⟨k.os.trans h.os, k.tape.trans h.tape, k.output.trans h.output, Nat.le_trans h.size k.size, fun i hi hn => (k.block i (Nat.lt_of_lt_of_le hi h.size) hn).trans (h.block i hi hn)⟩
theorem Oth.of_below (P : Nat → Prop) (h : Below w.heap.size w x) : Oth P w x := ⟨h.os, h.tape, h.output, h.size, fun k hk _ => h.block k hk⟩
theorem Oth.below {y : World} (h : Oth P w x) (k : Below x.heap.size x y) : Oth P w y := h.trans (Oth.of_below P k)
theorem Oth.set (h : Oth P w x) (a : Addr) (v : Value) (ha : P a.block ∨ w.heap.size ≤ a.block) : Oth P w (x.setCell a v) := by
  refine ⟨h.os, h.tape, h.output, Nat.le_trans h.size (by simp [World.setCell]), fun k hk hn => ?_⟩
  rw [Below.heap_setCell x a v k (fun e => by
    rcases ha with ha | ha
    · exact hn (by rw [e]; exact ha)
    · omega)]
  exact h.block k hk hn
theorem Oth.mono {Q : Nat → Prop} (h : Oth P w x) (hq : ∀ k, k < w.heap.size → P k → Q k) : Oth Q w x := ⟨h.os, h.tape, h.output, h.size, fun k hk hn => h.block k hk (fun hp => hn (hq k hk hp))⟩
/-- A store into blocks that were not there when the call began. -/
theorem Oth.low {B : Nat} (h : Oth P w x) (hp : ∀ k, P k → B ≤ k) (hB : B ≤ w.heap.size) : Below B w x := ⟨h.os, h.tape, h.output, h.size, fun k hk => h.block k (by omega) (fun hpk => by have := hp k hpk; omega)⟩
theorem Oth.at {g : Nat} {cs : Array Value} {t : TypeId} (h : Oth P w x) (z : At w g cs t) (hg : ¬ P g) : At x g cs t := (h.block g z.lt hg).trans z
theorem Oth.cs {ao : Option Addr} {xs : List Value} (h : Oth P w x) (hc : Cs w ao xs) (ha : xs ≠ [] → ∀ a, ao = some a → ¬ P a.block) : Cs x ao xs := by
  intro j u hj
  obtain ⟨b, o, e, hcell⟩ := hc j u hj
  have hne : xs ≠ [] := fun e0 => by rw [e0] at hj; simp at hj
  refine ⟨b, o, e, ?_⟩
  rw [World.cell?_of_block (a := ⟨b, o + j, none⟩) (h.block b (lt_cell hcell) (ha hne _ e))]
  exact hcell
theorem Oth.row {r : Rw} (h : Oth P w x) (o : RowOk w r) (ha : ∀ a, r.a = some a → ¬ P a.block) : RowOk x r := ⟨h.cs o.cs (fun _ => ha), o.len, o.le, o.max, o.kind⟩
theorem Oth.owns {base : Nat} {e : TypeId} {size : Nat} {v : Value} {n : Nat} {xs : List Value} (h : Oth P w x) (o : w.ownsRow base e size v n xs) (ha : ∀ k, v.ownBlock = some k → ¬ P k) : x.ownsRow base e size v n xs := by
  refine ⟨o.1, ?_⟩
  rcases o.2 with hn | ⟨g, cap, cur, rfl, hb, hgg, rest⟩
  · exact .inl hn
  · exact .inr ⟨g, cap, cur, rfl, hb, (h.block g (Array.getElem?_eq_some_iff.1 hgg).1 (ha g rfl)).trans hgg, rest⟩
end
/-- Where a tree lies. -/
structure Tr where
  g : Nat
  gs : Nat
  ah : Option Addr
  ch : Nat
  ak : Option Addr
  p : Nat
  ck : Nat
/-- The blocks that the tree's functions write. -/
def Tr.mut (t : Tr) (k : Nat) : Prop := k = t.g ∨ k = t.gs ∨ ∃ a, t.ah = some a ∧ a.block = k
def hd (r : Rw) : Option (List V) := match r.a with
  | none => none
  | some _ => some r.l
def hds (H : List Rw) : List (Option (List V)) := H.map hd
def rw (H : List Rw) (i : Nat) : Rw := H.getD i nilRw
theorem gt_hds (H : List Rw) (i : Nat) : gt (hds H) i = hd (rw H i) := by
  unfold gt hds rw
  rw [List.getD_eq_getElem?_getD, List.getD_eq_getElem?_getD, List.getElem?_map]
  cases H[i]? <;> rfl
/-- The tree t with the rows H, the keys ks, the slots S, which has asked q times; the blocks of A are not its own. -/
structure Tre (t : Tr) (H : List Rw) (ks : List Ky) (S : List Nat) (q : Nat) (A : Nat → Prop) (w : World) : Prop where
  z : At w t.g #[.slice t.ah H.length t.ch, .slice t.ak t.p t.ck, .slice (some ⟨t.gs, 0, none⟩) S.length S.length, .int .i64 q] 54
  zs : At w t.gs (S.map (fun k : Nat => Value.int .i64 k)).toArray 3
  hh : w.ownsRow 0 26 1 (.slice t.ah H.length t.ch) H.length (rwcells H)
  rows : ∀ r ∈ H, RowOk w r ∧ ∀ a, r.a = some a → a.block < w.heap.size ∧ ¬ t.mut a.block ∧ ¬ A a.block
  kcs : Cs w t.ak (kcells ks)
  kl : ks.length = t.p
  kle : t.p ≤ t.ck
  kmx : t.ck ≤ maxLen
  kad : ks ≠ [] → ∀ a, t.ak = some a → ¬ t.mut a.block ∧ ¬ A a.block
  ne : t.g ≠ t.gs ∧ ∀ a, t.ah = some a → a.block ≠ t.g ∧ a.block ≠ t.gs
  notA : ∀ k, t.mut k → ¬ A k
  inA : ∀ k, A k → k < w.heap.size
section
variable {t : Tr} {H : List Rw} {ks : List Ky} {S : List Nat} {q : Nat} {A : Nat → Prop} {w x : World}
theorem kcells_ne {ks : List Ky} (h : kcells ks ≠ []) : ks ≠ [] := fun e => h (by rw [e]; rfl)
theorem Tre.ownb (h : Tre t H ks S q A w) : ∀ k, (Value.slice t.ah H.length t.ch).ownBlock = some k → t.mut k := by
  intro k hk
  cases e : t.ah with
  | none => rw [e] at hk; simp [Value.ownBlock] at hk
  | some a =>
    rw [e] at hk
    simp [Value.ownBlock] at hk
    exact .inr (.inr ⟨a, e, hk⟩)
theorem Tre.oth {P : Nat → Prop} (h : Tre t H ks S q A w) (o : Oth P w x) (hP : ∀ k, k < w.heap.size → P k → A k) : Tre t H ks S q A x := by
  have hm : ∀ k, k < w.heap.size → t.mut k → ¬ P k := fun k hk hm hp => h.notA k hm (hP k hk hp)
  have hml : ∀ k, (Value.slice t.ah H.length t.ch).ownBlock = some k → ¬ P k := fun k hk => hm k (h.hh.lt k hk).2 (h.ownb k hk)
  refine ⟨o.at h.z (hm _ h.z.lt (.inl rfl)), o.at h.zs (hm _ h.zs.lt (.inr (.inl rfl))), o.owns h.hh hml, fun r hr => ?_, ?_, h.kl, h.kle, h.kmx, h.kad, h.ne, h.notA, fun k hk => Nat.lt_of_lt_of_le (h.inA k hk) o.size⟩
  · obtain ⟨h1, h2⟩ := h.rows r hr
    exact ⟨o.row h1 (fun a ha hp => (h2 a ha).2.2 (hP _ (h2 a ha).1 hp)), fun a ha => ⟨Nat.lt_of_lt_of_le (h2 a ha).1 o.size, (h2 a ha).2⟩⟩
  · by_cases e : ks = []
    · rw [e]; exact Cs.nil _ _
    · refine o.cs h.kcs (fun hne a ha hp => (h.kad e a ha).2 (hP _ ?_ hp))
      obtain ⟨b, o2, e2, hcell⟩ := h.kcs 0 ((kcells ks)[0]'(List.length_pos_iff.2 hne)) (List.getElem?_eq_getElem _)
      have h3 := ha.symm.trans e2
      rw [Option.some.inj h3]
      exact lt_cell hcell
theorem Tre.below (h : Tre t H ks S q A w) (b : Below w.heap.size w x) : Tre t H ks S q A x := h.oth (Oth.of_below (fun _ => False) b) (fun _ _ hf => hf.elim)
/-- Blocks that are new are not the tree's. -/
theorem Tre.more {A' : Nat → Prop} (h : Tre t H ks S q A w) (b : Below w.heap.size w x) (hA : ∀ k, A' k → (A k ∨ w.heap.size ≤ k) ∧ k < x.heap.size) : Tre t H ks S q A' x := by
  have hx := h.below b
  have hml : ∀ k, t.mut k → k < w.heap.size := fun k hk => by
    rcases hk with rfl | rfl | ⟨a, e, rfl⟩
    · exact h.z.lt
    · exact h.zs.lt
    · exact (h.hh.lt _ (by rw [e]; rfl)).2
  refine ⟨hx.z, hx.zs, hx.hh, fun r hr => ⟨(hx.rows r hr).1, fun a ha => ⟨((hx.rows r hr).2 a ha).1, ((hx.rows r hr).2 a ha).2.1, fun ha2 => ?_⟩⟩, hx.kcs, hx.kl, hx.kle, hx.kmx, fun hne a ha => ⟨(hx.kad hne a ha).1, fun ha2 => ?_⟩, hx.ne, fun k hk ha2 => ?_, fun k hk => (hA k hk).2⟩
  · have h1 := (h.rows r hr).2 a ha
    rcases (hA _ ha2).1 with h2 | h2
    · exact h1.2.2 h2
    · omega
  · rcases (hA _ ha2).1 with h2 | h2
    · exact (h.kad hne a ha).2 h2
    · have hne2 : kcells ks ≠ [] := fun e => hne (by
        cases ks with
        | nil => rfl
        | cons k l => simp [kcells] at e)
      obtain ⟨b2, o2, e2, hcell⟩ := h.kcs 0 ((kcells ks)[0]'(List.length_pos_iff.2 hne2)) (List.getElem?_eq_getElem _)
      have h3 := ha.symm.trans e2
      have h4 := lt_cell hcell
      rw [Option.some.inj h3] at h2
      simp only at h4 h2
      omega
  · have h1 := hml k hk
    rcases (hA _ ha2).1 with h2 | h2
    · exact h.notA k hk h2
    · omega
theorem nilRw_sl : nilRw.sl = .slice none 0 0 := rfl
theorem Tre.rok (h : Tre t H ks S q A w) (i : Nat) : RowOk w (rw H i) := by
  unfold rw
  rw [List.getD_eq_getElem?_getD]
  cases e : H[i]? with
  | none => exact nilRw_ok w
  | some r => exact (h.rows r (List.mem_of_getElem? e)).1
theorem rw_big {i : Nat} (h : H.length ≤ i) : rw H i = nilRw := by
  unfold rw
  rw [List.getD_eq_getElem?_getD, List.getElem?_eq_none h]
  rfl
theorem rw_in {i : Nat} (h : i < H.length) : rw H i = H[i] := by
  unfold rw
  rw [List.getD_eq_getElem?_getD, List.getElem?_eq_getElem h]
  rfl
end
theorem exec_nnilR {ρ : Operand → Value} {x y : Operand} {dst : Option Tmp} {T2 ty : TypeId} {pos : String} {af : Array Edge} {g : Option (Nat × Bool)} (ao : Option Addr) (n cap : Nat) (hx : ρ x = .slice ao n cap) (hy : ρ y = .slice none 0 0) (w : World) :
    (execOp ρ ⟨dst, .binOp .neq 26 x y T2, ty, pos, af, g⟩).run Try.prog w = .ok (.value (.bool (!ao.isNone))) w := by
  have u := Try.underlying26
  have e := run_equal_slice_nil (P := Try.prog) w 26 38 ao n cap u
  have hb : (binOp .neq 26 (.slice ao n cap) (.slice none 0 0)).run Try.prog w = .ok (.bool (!ao.isNone)) w := by
    unfold binOp
    simp only [Sem.run_bind, e, Result.andThen, Sem.run_pure]
  simp [execOp, hx, hy, go_sem, hb]
set_option maxHeartbeats 1000000 in
theorem head_any (t : Tr) (H : List Rw) (ks : List Ky) (S : List Nat) (q : Nat) (A : Nat → Prop) (i : Nat) (w : World) (T : Tre t H ks S q A w) (hi : i ≤ 100000) (hH : H.length ≤ 1000) :
    Calls Try.prog 23 #[.pointer (some ⟨t.g, 0, none⟩), .int .i64 (i : Int)] w (fun e w' => e = .returned (.slice (rw H i).a (rw H i).n (rw H i).cap) ∧ Below w.heap.size w w') := by
  have z := T.z
  have x0 := z.cell 0 rfl
  have xl := z.lt
  by_cases hlt : i < H.length
  · have hle := owns_le T.hh
    have hmx : t.ch ≤ 9223372036854775807 := owns_max T.hh
    have cs := owns_cs T.hh
    obtain ⟨b, o, hb⟩ := cs.addr (by rw [rwcells_length]; omega)
    rw [hb] at cs x0
    have y0 : w.cell? ⟨b, o + i, none⟩ = some (.slice (rw H i).a (rw H i).n (rw H i).cap) := cs.at (by rw [rw_in hlt]; simp [rwcells, hlt, Rw.sl])
    generalize rw H i = r at y0 ⊢
    generalize hn : H.length = n at *
    clear z T hn cs hb
    go_enter Try.func23, Try.ntmps23
    go_wp2_with (first | (at_make; refine Stop.un ?_) | (at_builtin; refine Stop.un ?_))
    go_ret
    exact ⟨rfl, Below.refl _ _⟩
  · rw [rw_big (by omega)]
    have hle := owns_le T.hh
    have hmx : t.ch ≤ 9223372036854775807 := owns_max T.hh
    generalize hn : H.length = n at *
    clear z T hn
    go_enter Try.func23, Try.ntmps23
    go_wp2_with (first | (at_make; refine Stop.un ?_) | (at_builtin; refine Stop.un ?_))
    go_ret
    exact ⟨rfl, Below.refl _ _⟩
/-! Does a list's row come ahead of another one's? -/
theorem Tre.ask {t : Tr} {H : List Rw} {ks : List Ky} {S : List Nat} {q : Nat} {A : Nat → Prop} {w : World} (T : Tre t H ks S q A w) (q' : Nat) : Tre t H ks S q' A (w.setCell ⟨t.g, 3, none⟩ (.int .i64 (q' : Int))) := by
  have o : Oth (fun k => k = t.g) w (w.setCell ⟨t.g, 3, none⟩ (.int .i64 (q' : Int))) := (Oth.refl _ w).set _ _ (.inl rfl)
  refine ⟨T.z.set 3 _, o.at T.zs (fun e => T.ne.1 e.symm), o.owns T.hh (fun k hk e => ?_), fun r hr => ⟨o.row (T.rows r hr).1 (fun a ha e => ((T.rows r hr).2 a ha).2.1 (.inl e)), fun a ha => ⟨Nat.lt_of_lt_of_le ((T.rows r hr).2 a ha).1 o.size, ((T.rows r hr).2 a ha).2⟩⟩, o.cs T.kcs (fun hne a ha e => (T.kad (kcells_ne hne) a ha).1 (.inl e)), T.kl, T.kle, T.kmx, T.kad, T.ne, T.notA, fun k hk => Nat.lt_of_lt_of_le (T.inA k hk) o.size⟩
  cases e2 : t.ah with
  | none => rw [e2] at hk; simp [Value.ownBlock] at hk
  | some a =>
    rw [e2] at hk
    simp only [Value.ownBlock, Option.map_some, Option.some.injEq] at hk
    exact (T.ne.2 a e2).1 (hk.trans e)
theorem bt_rw {ks : List Ky} {H : List Rw} {a b : Nat} : btB ks (hds H) a b = match hd (rw H a), hd (rw H b) with
  | none, _ => false
  | some _, none => true
  | some x, some y => decide (cmpR x y ks < 0) || (decide (cmpR x y ks = 0) && decide (a < b)) := by
  unfold btB
  rw [gt_hds, gt_hds]
  try (cases hd (rw H a) <;> cases hd (rw H b) <;> rfl)
set_option maxRecDepth 100000 in
set_option maxHeartbeats 4000000 in
theorem beats_any (t : Tr) (H : List Rw) (ks : List Ky) (S : List Nat) (q : Nat) (A : Nat → Prop) (a b : Nat) (w : World) (T : Tre t H ks S q A w) (ha : a ≤ 100000) (hb : b ≤ 100000) (hH : H.length ≤ 1000) (hq : q ≤ 1000000) :
    Calls Try.prog 25 #[.pointer (some ⟨t.g, 0, none⟩), .int .i64 (a : Int), .int .i64 (b : Int)] w (fun e w' => ∃ q', e = .returned (.bool (btB ks (hds H) a b)) ∧ Tre t H ks S q' A w' ∧ q' = q + both (hds H) a b ∧ Oth t.mut w w') := by
  have HA := Lib.hid (fun W (T : Tre t H ks S q A W) => head_any t H ks S q A a W T ha hH)
  have HB := Lib.hid (fun W (T : Tre t H ks S q A W) => head_any t H ks S q A b W T hb hH)
  have HRA := Lib.hid (fun W (q : Nat) (T : Tre t H ks S q A W) => T.rok a)
  have HRB := Lib.hid (fun W (q : Nat) (T : Tre t H ks S q A W) => T.rok b)
  have hbt := @bt_rw ks H a b
  have hbo : both (hds H) a b = if (hd (rw H a)).isSome = true ∧ (hd (rw H b)).isSome = true then 1 else 0 := by unfold both; rw [gt_hds, gt_hds]
  generalize btB ks (hds H) a b = B at hbt ⊢
  generalize both (hds H) a b = C at hbo ⊢
  generalize rw H a = x at hbt hbo HA HRA
  generalize rw H b = y at hbt hbo HB HRB
  obtain ⟨xa, xn, xc, xl⟩ := x
  obtain ⟨ya, yn, yc, yl⟩ := y
  simp only at HA HB
  cases xa with
  | none =>
    obtain rfl : B = false := hbt
    obtain rfl : C = 0 := by rw [hbo]; rfl
    clear hbo HRA HRB
    go_enter Try.func25, Try.ntmps25
    go_wp2_with (first | (at_make; refine Stop.un ?_) | (at_builtin; refine Stop.un ?_))
    refine (HA.out _ T).mono ?_
    rintro e w1 ⟨rfl, b1⟩
    have T1 := T.below b1
    go_wp2_with (first | (at_make; refine Stop.un ?_) | (at_builtin; refine Stop.un ?_))
    refine (HB.out _ T1).mono ?_
    rintro e w2 ⟨rfl, b2⟩
    have T2 := T1.below b2
    have o2 := (Oth.of_below t.mut b1).below b2
    clear T T1 b1 b2 HA HB
    go_wp2_with (first | (at_make; refine Stop.un ?_) | (at_builtin; refine Stop.un ?_) | (with_reducible refine Stop.eql 26 ?_) | (with_reducible refine Stop.neq 26 ?_))
    refine Stop.mk (wpList_as _ rfl (exec_nilR _ _ _ rfl rfl _) ?_)
    go_wp2_with (first | (at_make; refine Stop.un ?_) | (at_builtin; refine Stop.un ?_) | (with_reducible refine Stop.eql 26 ?_) | (with_reducible refine Stop.neq 26 ?_))
    refine Stop.mk (wpList_as _ rfl (exec_nnilR _ _ _ rfl rfl _) ?_)
    go_wp2_with (first | (at_make; refine Stop.un ?_) | (at_builtin; refine Stop.un ?_))
    go_ret
    exact ⟨q, by first | rfl | simp, T2, rfl, o2⟩
  | some xad =>
    cases ya with
    | none =>
      obtain rfl : B = true := hbt
      obtain rfl : C = 0 := by rw [hbo]; rfl
      clear hbo HRA HRB
      go_enter Try.func25, Try.ntmps25
      go_wp2_with (first | (at_make; refine Stop.un ?_) | (at_builtin; refine Stop.un ?_))
      refine (HA.out _ T).mono ?_
      rintro e w1 ⟨rfl, b1⟩
      have T1 := T.below b1
      go_wp2_with (first | (at_make; refine Stop.un ?_) | (at_builtin; refine Stop.un ?_))
      refine (HB.out _ T1).mono ?_
      rintro e w2 ⟨rfl, b2⟩
      have T2 := T1.below b2
      have o2 := (Oth.of_below t.mut b1).below b2
      clear T T1 b1 b2 HA HB
      go_wp2_with (first | (at_make; refine Stop.un ?_) | (at_builtin; refine Stop.un ?_) | (with_reducible refine Stop.eql 26 ?_) | (with_reducible refine Stop.neq 26 ?_))
      refine Stop.mk (wpList_as _ rfl (exec_nilR _ _ _ rfl rfl _) ?_)
      go_wp2_with (first | (at_make; refine Stop.un ?_) | (at_builtin; refine Stop.un ?_) | (with_reducible refine Stop.eql 26 ?_) | (with_reducible refine Stop.neq 26 ?_))
      refine Stop.mk (wpList_as _ rfl (exec_nilR _ _ _ rfl rfl _) ?_)
      go_wp2_with (first | (at_make; refine Stop.un ?_) | (at_builtin; refine Stop.un ?_) | (with_reducible refine Stop.eql 26 ?_) | (with_reducible refine Stop.neq 26 ?_))
      refine Stop.mk (wpList_as _ rfl (exec_nnilR _ _ _ rfl rfl _) ?_)
      go_wp2_with (first | (at_make; refine Stop.un ?_) | (at_builtin; refine Stop.un ?_))
      go_ret
      exact ⟨q, by first | rfl | simp, T2, rfl, o2⟩
    | some yad =>
      obtain rfl : C = 1 := by rw [hbo]; rfl
      have hB : B = (decide (cmpR xl yl ks < 0) || (decide (cmpR xl yl ks = 0) && decide (a < b))) := hbt
      have HC := Lib.hid (fun W o1 o2 k => ocompare_any (some xad) xn xc xl (some yad) yn yc yl t.ak t.p t.ck ks W o1 o2 k T.kl T.kle T.kmx)
      generalize cmpR xl yl ks = c at hB HC
      have HBB := Lib.hid hB
      clear hbt hbo hB
      go_enter Try.func25, Try.ntmps25
      go_wp2_with (first | (at_make; refine Stop.un ?_) | (at_builtin; refine Stop.un ?_))
      refine (HA.out _ T).mono ?_
      rintro e w1 ⟨rfl, b1⟩
      have T1 := T.below b1
      go_wp2_with (first | (at_make; refine Stop.un ?_) | (at_builtin; refine Stop.un ?_))
      refine (HB.out _ T1).mono ?_
      rintro e w2 ⟨rfl, b2⟩
      have T2 := T1.below b2
      have o2 := (Oth.of_below t.mut b1).below b2
      have f3 := T2.z.free 3
      have x3 := T2.z.cell 3 rfl
      have xl2 := T2.z.lt
      have T3 := T2.ask (q + 1)
      have o3 := o2.set ⟨t.g, 3, none⟩ (.int .i64 ((q + 1 : Nat) : Int)) (.inl (.inl rfl))
      have x1 := T3.z.cell 1 rfl
      have xl3 := T3.z.lt
      have ra := HRA.out _ _ T3
      have rb := HRB.out _ _ T3
      have kk := T3.kcs
      rw [show ((q + 1 : Nat) : Int) = (q : Int) + 1 by omega] at T3 o3 x1 ra rb kk xl3
      clear T T1 b1 b2 HA HB HRA HRB T2 o2
      go_wp2_with (first | (at_make; refine Stop.un ?_) | (at_builtin; refine Stop.un ?_) | (with_reducible refine Stop.eql 26 ?_) | (with_reducible refine Stop.neq 26 ?_))
      refine Stop.mk (wpList_as _ rfl (exec_nilR _ _ _ rfl rfl _) ?_)
      go_wp2_with (first | (at_make; refine Stop.un ?_) | (at_builtin; refine Stop.un ?_) | (with_reducible refine Stop.eql 26 ?_) | (with_reducible refine Stop.neq 26 ?_))
      refine Stop.mk (wpList_as _ rfl (exec_nilR _ _ _ rfl rfl _) ?_)
      go_wp2_with (first | (at_make; refine Stop.un ?_) | (at_builtin; refine Stop.un ?_))
      refine (HC.out _ ra rb kk).mono ?_
      rintro e w4 ⟨rfl, b4⟩
      have T4 := T3.below b4
      have o4 := o3.below b4
      clear T3 o3 x1 ra rb kk HC f3 x3 xl2 xl3 b4
      have hq1 : (q + 1 : Nat) = q + 1 := rfl
      by_cases h1 : c < 0
      · have hd1 : decide (c < 0) = true := decide_eq_true h1
        obtain rfl : B = true := by rw [HBB.out, hd1]; rfl
        go_wp2_with (first | (at_make; refine Stop.un ?_) | (at_builtin; refine Stop.un ?_))
        go_ret
        exact ⟨q + 1, by first | rfl | simp, T4, rfl, o4⟩
      · have hd1 : decide (c < 0) = false := decide_eq_false h1
        by_cases h2 : c = 0
        · subst h2
          by_cases h3 : a < b
          · obtain rfl : B = true := by rw [HBB.out, decide_eq_true h3]; rfl
            have hd2 : decide ((a : Int) < (b : Int)) = true := decide_eq_true (by omega)
            have hd3 : decide (a < b) = true := decide_eq_true h3
            go_wp2_with (first | (at_make; refine Stop.un ?_) | (at_builtin; refine Stop.un ?_))
            go_ret
            exact ⟨q + 1, by first | rfl | simp, T4, rfl, o4⟩
          · obtain rfl : B = false := by rw [HBB.out, decide_eq_false h3]; rfl
            have hd2 : decide ((a : Int) < (b : Int)) = false := decide_eq_false (by omega)
            have hd3 : decide (a < b) = false := decide_eq_false h3
            go_wp2_with (first | (at_make; refine Stop.un ?_) | (at_builtin; refine Stop.un ?_))
            go_ret
            exact ⟨q + 1, by first | rfl | simp, T4, rfl, o4⟩
        · obtain rfl : B = false := by rw [HBB.out, hd1, decide_eq_false h2]; rfl
          have hd2 : (c == 0) = false := by simpa using h2
          have hd4 : decide (c = 0) = false := decide_eq_false h2
          go_wp2_with (first | (at_make; refine Stop.un ?_) | (at_builtin; refine Stop.un ?_))
          go_ret
          exact ⟨q + 1, by first | rfl | simp, T4, rfl, o4⟩
/-! All matches are played. -/
theorem Tre.slot {t : Tr} {H : List Rw} {ks : List Ky} {S : List Nat} {q : Nat} {A : Nat → Prop} {w : World} (T : Tre t H ks S q A w) (j b : Nat) : Tre t H ks (S.set j b) q A (w.setCell ⟨t.gs, j, none⟩ (.int .i64 (b : Int))) := by
  have o : Oth (fun k => k = t.gs) w (w.setCell ⟨t.gs, j, none⟩ (.int .i64 (b : Int))) := (Oth.refl _ w).set _ _ (.inl rfl)
  refine ⟨?_, ?_, o.owns T.hh (fun k hk e => ?_), fun r hr => ⟨o.row (T.rows r hr).1 (fun a ha e => ((T.rows r hr).2 a ha).2.1 (.inr (.inl e))), fun a ha => ⟨Nat.lt_of_lt_of_le ((T.rows r hr).2 a ha).1 o.size, ((T.rows r hr).2 a ha).2⟩⟩, o.cs T.kcs (fun hne a ha e => (T.kad (kcells_ne hne) a ha).1 (.inr (.inl e))), T.kl, T.kle, T.kmx, T.kad, T.ne, T.notA, fun k hk => Nat.lt_of_lt_of_le (T.inA k hk) o.size⟩
  · have := o.at T.z T.ne.1
    rwa [List.length_set]
  · have := T.zs.set j (.int .i64 (b : Int))
    rwa [show (S.map (fun k : Nat => Value.int .i64 k)).toArray.setIfInBounds j (.int .i64 (b : Int)) = ((S.set j b).map (fun k : Nat => Value.int .i64 k)).toArray by simp [List.map_set]] at this
  · cases e2 : t.ah with
    | none => rw [e2] at hk; simp [Value.ownBlock] at hk
    | some a =>
      rw [e2] at hk
      simp only [Value.ownBlock, Option.map_some, Option.some.injEq] at hk
      exact (T.ne.2 a e2).2 (hk.trans e)
theorem bt_asym {ks : List Ky} {H : List (Option (List V))} {a b : Nat} (h : btB ks H a b = true) : btB ks H b a = false := by
  unfold btB at *
  cases h1 : gt H a with
  | none => rw [h1] at h; simp at h
  | some x =>
    cases h2 : gt H b with
    | none => rfl
    | some y =>
      rw [h1, h2] at h
      have := cmpR_neg x y ks
      simp only [Bool.or_eq_true, Bool.and_eq_true, decide_eq_true_eq] at h
      simp only [Bool.or_eq_false_iff, Bool.and_eq_false_iff, decide_eq_false_iff_not]
      omega
/-- A list's row in memory of its own. -/
theorem lown_any (r : Rw) (w : World) (h : RowOk w r) (hn : r.n ≤ 1000000) :
    Calls Try.prog 21 #[.slice r.a r.n r.cap] w (fun e w' => ∃ r', e = .returned (.slice r'.a r'.n r'.cap) ∧ hd r' = hd r ∧ RowOk w' r' ∧ Below w.heap.size w w' ∧ (∀ a, r'.a = some a → w.heap.size ≤ a.block ∧ a.block < w'.heap.size) ∧ r'.n ≤ r.n ∧ Fz w' r') := by
  obtain ⟨a, n, cap, l⟩ := r
  obtain ⟨hcs, hlen, hle, hmax, hkind⟩ := h
  simp only at hcs hlen hle hmax hn ⊢
  cases a with
  | none =>
    clear hcs hlen hkind
    go_enter Try.func21, Try.ntmps21
    go_wp2_with (first | (at_make; refine Stop.un ?_) | (at_builtin; refine Stop.un ?_) | (with_reducible refine Stop.eql 26 ?_) | (with_reducible refine Stop.neq 26 ?_))
    refine Stop.mk (wpList_as _ rfl (exec_nilR _ _ _ rfl rfl _) ?_)
    go_wp2_with (first | (at_make; refine Stop.un ?_) | (at_builtin; refine Stop.un ?_))
    go_ret
    exact ⟨nilRw, rfl, rfl, nilRw_ok _, Below.refl _ _, (fun a h => by cases h), Nat.zero_le _, (fun a h => by cases h)⟩
  | some ad =>
    have HL := Lib.hid (And.intro hlen hkind)
    clear hlen hkind
    go_enter Try.func21, Try.ntmps21
    go_wp2_with (first | (at_make; refine Stop.un ?_) | (at_builtin; refine Stop.un ?_) | (with_reducible refine Stop.eql 26 ?_) | (with_reducible refine Stop.neq 26 ?_))
    refine Stop.mk (wpList_as _ rfl (exec_nilR _ _ _ rfl rfl _) ?_)
    go_wp2_with (first | (at_make; refine Stop.un ?_) | (at_builtin; refine Stop.un ?_))
    have hO : OwnV w (w.alloc (.cells #[] 38)) (.slice (some ⟨w.heap.size, 0, none⟩) 0 0) 0 [] := Own.block (Below.refl _ _) rfl (by decide)
    refine Stop.mk (app_rsk w _ _ rfl rfl hO rfl rfl HL.out.1 (hcs.alloc _) (by omega) ?_)
    intro g4 c4 w4 hO4 hg4 hk4
    simp only [Nat.zero_add, List.nil_append] at hO4 ⊢
    clear hO
    go_wp2_with (first | (at_make; refine Stop.un ?_) | (at_builtin; refine Stop.un ?_))
    go_ret
    refine ⟨⟨some ⟨g4, 0, none⟩, n, c4, l⟩, by first | rfl | simp, rfl, ⟨Own.cs hO4, HL.out.1, owns_le hO4.1, owns_max hO4.1, HL.out.2⟩, Own.below hO4, fun a ha => ?_, Nat.le_refl _, Fz.own hO4⟩
    have ha2 : some (⟨g4, 0, none⟩ : Addr) = some a := ha
    rw [← Option.some.inj ha2]
    exact ⟨Own.ge hO4 g4 rfl, Own.lt hO4 g4 rfl⟩
theorem div_one2 (j : Nat) : j / 2 ^ 0 = j := by simp
set_option maxRecDepth 100000 in
set_option maxHeartbeats 8000000 in
theorem play_any (t : Tr) (H : List Rw) (ks : List Ky) (A : Nat → Prop) (sz : Nat) (hsz : sz ≤ 1000) (hH : H.length ≤ 1000) : ∀ (h i : Nat) (S : List Nat) (q : Nat) (w : World), Tre t H ks S q A w → S.length = sz → sz ≤ i * 2 ^ h → (i + 1) * 2 ^ h ≤ 2 * sz → 1 ≤ i → q + cn (hds H) sz h i ≤ 1000000 →
    Calls Try.prog 22 #[.pointer (some ⟨t.g, 0, none⟩), .int .i64 (i : Int)] w (fun e w' => ∃ (v : Nat) (S' : List Nat) (q' : Nat), e = .returned (.int .i64 (v : Int)) ∧ Tre t H ks S' q' A w' ∧ S'.length = sz ∧ v < sz ∧ Won ks (hds H) S' sz h i v ∧ (∀ j, (∀ e, e < h → j / 2 ^ e ≠ i) → S'[j]? = S[j]?) ∧ q' + (if (gt (hds H) v).isSome = true then 1 else 0) ≤ q + cn (hds H) sz h i ∧ (gt (hds H) v = none → q' = q) ∧ Oth t.mut w w') := by
  intro h
  induction h with
  | zero =>
    intro i S q w T hS h1 h2 h3 hq
    rw [Nat.pow_zero, Nat.mul_one] at h1 h2
    have z := T.z
    rw [hS] at z
    have x2 := z.cell 2 rfl
    have xl := z.lt
    have HT := Lib.hid T
    have HS := Lib.hid hS
    have hcn : cn (hds H) sz 0 i = if (gt (hds H) (i - sz)).isSome = true then 1 else 0 := rfl
    have HQ := Lib.hid hcn
    clear z T hS hcn hq
    go_enter Try.func22, Try.ntmps22
    go_wp2_with (first | (at_make; refine Stop.un ?_) | (at_builtin; refine Stop.un ?_))
    go_ret
    refine ⟨i - sz, S, q, by rw [show ((i - sz : Nat) : Int) = (i : Int) - (sz : Int) by omega]; rfl, HT.out, HS.out, by omega, ?_, fun _ _ => rfl, by rw [HQ.out]; exact Nat.le_refl _, fun _ => rfl, Oth.refl _ _⟩
    show i - sz + sz = i
    omega
  | succ h IH =>
    intro i S q w T hS h1 h2 h3 hq
    have e1 : 2 * i * 2 ^ h = i * 2 ^ (h + 1) := by rw [Nat.pow_succ, Nat.mul_comm (2 ^ h) 2, ← Nat.mul_assoc, Nat.mul_comm i 2]
    have e2 : (2 * i + 1 + 1) * 2 ^ h = (i + 1) * 2 ^ (h + 1) := by rw [show 2 * i + 1 + 1 = (i + 1) * 2 by omega, Nat.pow_succ, Nat.mul_assoc, Nat.mul_comm 2 (2 ^ h)]
    have e3 : (2 * i + 1) * 2 ^ h ≤ (2 * i + 1 + 1) * 2 ^ h := Nat.mul_le_mul_right _ (by omega)
    have e4 : 2 * i * 2 ^ h ≤ (2 * i + 1) * 2 ^ h := Nat.mul_le_mul_right _ (by omega)
    have hp : 1 ≤ 2 ^ h := Nat.pow_pos (by omega)
    have e5 : 2 * i + 2 ≤ (2 * i + 1 + 1) * 2 ^ h := Nat.le_mul_of_pos_right _ hp
    have hi : i < sz := by omega
    have hcn : cn (hds H) sz (h + 1) i = cn (hds H) sz h (2 * i) + cn (hds H) sz h (2 * i + 1) := rfl
    rw [hcn] at hq
    have HI1 := Lib.hid (IH (2 * i) S q w T hS (by omega) (by omega) (by omega) (by omega))
    have HI2 := Lib.hid (fun S1 q1 w1 (T1 : Tre t H ks S1 q1 A w1) hS1 hq1 => IH (2 * i + 1) S1 q1 w1 T1 hS1 (by omega) (by omega) (by omega) hq1)
    have HBT := Lib.hid (fun S q a b w (T : Tre t H ks S q A w) ha hb hq => beats_any t H ks S q A a b w T ha hb hH hq)
    have z := T.z
    rw [hS] at z
    have x2 := z.cell 2 rfl
    have xl := z.lt
    have HQ := Lib.hid (And.intro hq hcn)
    clear z T hS IH hq hcn e1 e2 e3 e4 e5 hp h1 h2
    go_enter Try.func22, Try.ntmps22
    go_wp2_with (first | (at_make; refine Stop.un ?_) | (at_builtin; refine Stop.un ?_))
    rw [show (2 : Int) * (i : Int) = ((2 * i : Nat) : Int) by omega]
    refine HI1.out.mono ?_
    rintro e w1 ⟨v1, S1, q1, rfl, T1, hS1, hv1, W1, F1, Q1, N1, O1⟩
    have H2 := Lib.hid (HI2.out S1 q1 w1 T1 hS1 (by have := HQ.out.1; split at Q1 <;> omega))
    have HW1 := Lib.hid (And.intro W1 (And.intro F1 (And.intro Q1 N1)))
    have z := T1.z
    rw [hS1] at z
    clear T1 hS1 W1 F1 Q1 N1 HI1 HI2 x2 xl z
    go_wp2_with (first | (at_make; refine Stop.un ?_) | (at_builtin; refine Stop.un ?_))
    rw [show (2 : Int) * (i : Int) + 1 = ((2 * i + 1 : Nat) : Int) by omega]
    refine H2.out.mono ?_
    rintro e w2 ⟨v2, S2, q2, rfl, T2, hS2, hv2, W2, F2, Q2, N2, O2⟩
    have H3 := Lib.hid (HBT.out S2 q2 v2 v1 w2 T2 (by omega) (by omega) (by have := HQ.out.1; have := HW1.out.2.2.1; split at Q2 <;> split at this <;> omega))
    have HW2 := Lib.hid (And.intro W2 (And.intro F2 (And.intro Q2 N2)))
    have o2 := O1.trans O2
    have HS2 := Lib.hid hS2
    clear T2 hS2 W2 F2 Q2 N2 H2 HBT O1 O2
    go_wp2_with (first | (at_make; refine Stop.un ?_) | (at_builtin; refine Stop.un ?_))
    refine H3.out.mono ?_
    rintro e w3 ⟨q3, rfl, T3, hq3, O3⟩
    have o3 := o2.trans O3
    have z := T3.z
    rw [HS2.out] at z
    have x2 := z.cell 2 rfl
    have xl := z.lt
    have f3 := T3.zs.free i
    have hls : i < S2.length := by rw [HS2.out]; exact hi
    obtain ⟨s0, c3⟩ : ∃ s0, w3.cell? ⟨t.gs, i, none⟩ = some s0 := ⟨_, T3.zs.cell i (v := .int .i64 (S2[i] : Int)) (by simp [hls])⟩
    have cl := T3.zs.lt
    have HQ3 := Lib.hid hq3
    have HSF : Hid (∀ l, (S2.set i l).length = sz ∧ (∀ j, (∀ e, e < h + 1 → j / 2 ^ e ≠ i) → (S2.set i l)[j]? = S[j]?) ∧ (S2.set i l)[i]? = some l ∧ Won ks (hds H) (S2.set i l) sz h (2 * i) v1 ∧ Won ks (hds H) (S2.set i l) sz h (2 * i + 1) v2) := Lib.hid (fun l => by
      refine ⟨by rw [List.length_set]; exact HS2.out, fun j hj => ?_, List.getElem?_set_self hls, ?_, ?_⟩
      · have hji : i ≠ j := fun e => hj 0 (by omega) (by rw [div_one2, e])
        rw [List.getElem?_set_ne hji, HW2.out.2.1 j (fun e he hje => hj (e + 1) (by omega) (by rw [div_up, hje]; omega)), HW1.out.2.1 j (fun e he hje => hj (e + 1) (by omega) (by rw [div_up, hje]; omega))]
      · refine won_mono _ _ _ HW1.out.1 (fun e j he hj => ?_) (fun _ _ => rfl)
        have hjl := Nat.div_le_self j (2 ^ e)
        rw [List.getElem?_set_ne (by omega), HW2.out.2.1 j (fun e' he' hj' => ?_)]
        rcases Nat.lt_trichotomy e e' with h5 | h5 | h5
        · have := div_le_div j (e + 1) e' (by omega)
          have := div_up j e
          omega
        · rw [h5] at hj; omega
        · have := div_le_div j (e' + 1) e (by omega)
          have := div_up j e'
          omega
      · refine won_mono _ _ _ HW2.out.1 (fun e j he hj => ?_) (fun _ _ => rfl)
        have hjl := Nat.div_le_self j (2 ^ e)
        rw [List.getElem?_set_ne (by omega)])
    have HNN : Hid ((gt (hds H) v1 = none → gt (hds H) v2 = none → q3 = q) ∧ q3 + (if (gt (hds H) v1).isSome = true ∨ (gt (hds H) v2).isSome = true then 1 else 0) ≤ q + cn (hds H) sz (h + 1) i) := Lib.hid (by
      have h1 := HW1.out.2.2
      have h2 := HW2.out.2.2
      have h3 := HQ3.out
      unfold both at h3
      rw [HQ.out.2]
      obtain ⟨k1, a1⟩ := h1
      obtain ⟨k2, a2⟩ := h2
      refine ⟨fun n1 n2 => ?_, ?_⟩
      · have b1 := a1 n1
        have b2 := a2 n2
        rw [if_neg (by rw [n1]; simp)] at h3
        omega
      · by_cases g1 : (gt (hds H) v1).isSome = true <;> by_cases g2 : (gt (hds H) v2).isSome = true <;> simp only [g1, g2, and_self, true_and, and_true, false_and, and_false, or_self, or_true, true_or, false_or, or_false, if_true, if_false, not_true_eq_false, not_false_eq_true, Bool.false_eq_true] at k1 k2 h3 ⊢ <;> omega)
    clear H3 o2 O3 z hls hq3 HQ3 HW1 HW2 HQ HS2
    cases hB : btB ks (hds H) v2 v1 with
    | false =>
      have HB := Lib.hid hB
      have T4 := T3.slot i v2
      have o4 := o3.set ⟨t.gs, i, none⟩ (.int .i64 (v2 : Int)) (.inl (.inr (.inl rfl)))
      clear T3 o3 hB
      go_wp2_with (first | (at_make; refine Stop.un ?_) | (at_builtin; refine Stop.un ?_))
      go_ret
      obtain ⟨s1, s2, s3, s4, s5⟩ := HSF.out v2
      refine ⟨v1, _, q3, by first | rfl | simp, T4, s1, hv1, ⟨v2, s3, HB.out, .inl ⟨s4, s5⟩⟩, s2, ?_, fun hn => ?_, o4⟩
      · have := HNN.out.2
        by_cases g1 : (gt (hds H) v1).isSome = true
        · rw [if_pos g1]; rw [if_pos (.inl g1)] at this; exact this
        · rw [if_neg g1]; omega
      · exact HNN.out.1 hn (bt_none ks (hds H) _ _ HB.out hn)
    | true =>
      have HB := Lib.hid hB
      have T4 := T3.slot i v1
      have o4 := o3.set ⟨t.gs, i, none⟩ (.int .i64 (v1 : Int)) (.inl (.inr (.inl rfl)))
      clear T3 o3 hB
      go_wp2_with (first | (at_make; refine Stop.un ?_) | (at_builtin; refine Stop.un ?_))
      go_ret
      obtain ⟨s1, s2, s3, s4, s5⟩ := HSF.out v1
      refine ⟨v2, _, q3, by first | rfl | simp, T4, s1, hv2, ⟨v1, s3, bt_asym HB.out, .inr ⟨s4, s5⟩⟩, s2, ?_, fun hn => ?_, o4⟩
      · have := HNN.out.2
        by_cases g1 : (gt (hds H) v2).isSome = true
        · rw [if_pos g1]; rw [if_pos (.inr g1)] at this; exact this
        · rw [if_neg g1]; omega
      · have h9 : gt (hds H) v1 = none := bt_none ks (hds H) _ _ (bt_asym HB.out) hn
        exact HNN.out.1 h9 hn
/-! The tree as a whole: which list's row comes next, and what comes behind it. -/
/-- A tree in which all matches are played. -/
structure Gd (t : Tr) (H : List Rw) (ks : List Ky) (q : Nat) (A : Nat → Prop) (w : World) (h : Nat) (S : List Nat) (v : Nat) : Prop where
  T : Tre t H ks S q A w
  len : S.length = 2 ^ h
  hl : H.length ≤ 2 ^ h
  h4 : h ≤ 4
  s0 : S[0]? = some v
  vl : v < 2 ^ h
  won : Won ks (hds H) S (2 ^ h) h 1 v
theorem pow4 {h : Nat} (h4 : h ≤ 4) : 2 ^ h ≤ 16 := Nat.pow_le_pow_right (by omega) h4
theorem hds_length (H : List Rw) : (hds H).length = H.length := by simp [hds]
section
variable {t : Tr} {H : List Rw} {ks : List Ky} {q : Nat} {A : Nat → Prop} {w x : World} {h : Nat} {S : List Nat} {v : Nat}
theorem Gd.below (G : Gd t H ks q A w h S v) (b : Below w.heap.size w x) : Gd t H ks q A x h S v := ⟨G.T.below b, G.len, G.hl, G.h4, G.s0, G.vl, G.won⟩
theorem Gd.oth {P : Nat → Prop} (G : Gd t H ks q A w h S v) (o : Oth P w x) (hP : ∀ k, k < w.heap.size → P k → A k) : Gd t H ks q A x h S v := ⟨G.T.oth o hP, G.len, G.hl, G.h4, G.s0, G.vl, G.won⟩
theorem Gd.more {A' : Nat → Prop} (G : Gd t H ks q A w h S v) (b : Below w.heap.size w x) (hA : ∀ k, A' k → (A k ∨ w.heap.size ≤ k) ∧ k < x.heap.size) : Gd t H ks q A' x h S v := ⟨G.T.more b hA, G.len, G.hl, G.h4, G.s0, G.vl, G.won⟩
theorem Gd.nxt (G : Gd t H ks q A w h S v) : nxt ks (hds H) = if (gt (hds H) v).isSome = true then some v else none := won_top rfl (by rw [hds_length]; exact G.hl) G.won
end
def nextV : Option Nat → Value
  | some i => .tuple #[.int .i64 (i : Int), .bool true]
  | none => .tuple #[.int .i64 0, .bool false]
def okOf : Option Nat → Bool
  | some _ => true
  | none => false
def whoOf : Option Nat → Int
  | some i => (i : Int)
  | none => 0
theorem nextV_eq (o : Option Nat) : nextV o = .tuple #[.int .i64 (whoOf o), .bool (okOf o)] := by cases o <;> rfl
theorem next_nil (w : World) : Calls Try.prog 11 #[.pointer none] w (fun e w' => e = .returned (nextV none) ∧ Below w.heap.size w w') := by
  go_enter Try.func11, Try.ntmps11
  go_wp2_with (first | (at_make; refine Stop.un ?_) | (at_builtin; refine Stop.un ?_))
  exact bodyPost_ret (v := nextV none) (by simp [results, Try.results11, go_sem, nextV]) rfl ⟨rfl, Below.refl _ _⟩
theorem asked_nil (w : World) : Calls Try.prog 15 #[.pointer none] w (fun e w' => e = .returned (.int .i64 0) ∧ Below w.heap.size w w') := by
  go_enter Try.func15, Try.ntmps15
  go_wp2_with (first | (at_make; refine Stop.un ?_) | (at_builtin; refine Stop.un ?_))
  go_ret
  exact ⟨rfl, Below.refl _ _⟩
theorem asked_any {t : Tr} {H : List Rw} {ks : List Ky} {q : Nat} {A : Nat → Prop} {S : List Nat} (w : World) (T : Tre t H ks S q A w) : Calls Try.prog 15 #[.pointer (some ⟨t.g, 0, none⟩)] w (fun e w' => e = .returned (.int .i64 (q : Int)) ∧ Below w.heap.size w w') := by
  have x0 := T.z.cell 3 rfl
  have xl := T.z.lt
  clear T
  go_enter Try.func15, Try.ntmps15
  go_wp2_with (first | (at_make; refine Stop.un ?_) | (at_builtin; refine Stop.un ?_))
  go_ret
  exact ⟨rfl, Below.refl _ _⟩
set_option maxHeartbeats 2000000 in
theorem next_any (t : Tr) (H : List Rw) (ks : List Ky) (q : Nat) (A : Nat → Prop) (w : World) (h : Nat) (S : List Nat) (v : Nat) (G : Gd t H ks q A w h S v) :
    Calls Try.prog 11 #[.pointer (some ⟨t.g, 0, none⟩)] w (fun e w' => e = .returned (nextV (nxt ks (hds H))) ∧ Below w.heap.size w w') := by
  have h16 := pow4 G.h4
  have hvl := G.vl
  have HA := Lib.hid (head_any t H ks S q A v w G.T (by omega) (by have := G.hl; omega))
  have HG := Lib.hid G
  have hls : 0 < S.length := by rw [G.len]; omega
  have z := G.T.z
  rw [G.len] at z
  have x2 := z.cell 2 rfl
  have xl := z.lt
  have c0 := G.T.zs.cell 0 (v := .int .i64 (v : Int)) (by simp [G.s0])
  have cl := G.T.zs.lt
  have hn := G.nxt
  rw [gt_hds] at hn
  rw [hn]
  have hp : 0 < 2 ^ h := Nat.pow_pos (by omega)
  generalize 2 ^ h = sz at *
  generalize hr : rw H v = r at *
  obtain ⟨ra, rn, rc, rl⟩ := r
  simp only at HA
  have HLL : Hid (0 < S.length) := Lib.hid hls
  clear G hn hr hls z
  cases ra with
  | none =>
    go_enter Try.func11, Try.ntmps11
    go_wp2_with (first | (at_make; refine Stop.un ?_) | (at_builtin; refine Stop.un ?_))
    refine HA.out.mono ?_
    rintro e w1 ⟨rfl, b1⟩
    clear x2 c0 xl cl HA
    go_wp2_with (first | (at_make; refine Stop.un ?_) | (at_builtin; refine Stop.un ?_) | (with_reducible refine Stop.eql 26 ?_) | (with_reducible refine Stop.neq 26 ?_))
    refine Stop.mk (wpList_as _ rfl (exec_nilR _ _ _ rfl rfl _) ?_)
    go_wp2_with (first | (at_make; refine Stop.un ?_) | (at_builtin; refine Stop.un ?_))
    exact bodyPost_ret (v := nextV none) (by simp [results, Try.results11, go_sem, nextV]) rfl ⟨rfl, b1⟩
  | some ad =>
    go_enter Try.func11, Try.ntmps11
    go_wp2_with (first | (at_make; refine Stop.un ?_) | (at_builtin; refine Stop.un ?_))
    refine HA.out.mono ?_
    rintro e w1 ⟨rfl, b1⟩
    replace x2 := Ext.cell b1 x2
    replace c0 := Ext.cell b1 c0
    have xl := lt_cell x2
    have cl := lt_cell c0
    clear HA
    go_wp2_with (first | (at_make; refine Stop.un ?_) | (at_builtin; refine Stop.un ?_) | (with_reducible refine Stop.eql 26 ?_) | (with_reducible refine Stop.neq 26 ?_))
    refine Stop.mk (wpList_as _ rfl (exec_nilR _ _ _ rfl rfl _) ?_)
    go_wp2_with (first | (at_make; refine Stop.un ?_) | (at_builtin; refine Stop.un ?_))
    exact bodyPost_ret (v := nextV (some v)) (by simp [results, Try.results11, go_sem, nextV]) rfl ⟨rfl, b1⟩
/-! What comes next of the list whose row came. -/
theorem Tre.put {t : Tr} {H : List Rw} {ks : List Ky} {S : List Nat} {q : Nat} {A : Nat → Prop} {w : World} (T : Tre t H ks S q A w) {gh : Nat} (hg : t.ah = some ⟨gh, 0, none⟩) (i : Nat) (r : Rw) (ro : RowOk w r) (rb : ∀ a, r.a = some a → a.block < w.heap.size ∧ ¬ t.mut a.block ∧ ¬ A a.block) :
    Tre t (H.set i r) ks S q A (w.setCell ⟨gh, i, none⟩ (.slice r.a r.n r.cap)) := by
  have hm : t.mut gh := .inr (.inr ⟨_, hg, rfl⟩)
  have o : Oth (fun k => k = gh) w (w.setCell ⟨gh, i, none⟩ (.slice r.a r.n r.cap)) := (Oth.refl _ w).set _ _ (.inl rfl)
  have hne := T.ne.2 _ hg
  have hs := T.hh
  rw [hg] at hs
  have hst := (hs.stored i (.slice r.a r.n r.cap)).1
  refine ⟨?_, o.at T.zs (fun e => hne.2 e.symm), ?_, fun q hq => ?_, o.cs T.kcs (fun hne2 a ha e => (T.kad (kcells_ne hne2) a ha).1 (e ▸ hm)), T.kl, T.kle, T.kmx, T.kad, T.ne, T.notA, fun k hk => Nat.lt_of_lt_of_le (T.inA k hk) o.size⟩
  · have := o.at T.z (fun e => hne.1 e.symm)
    rwa [List.length_set]
  · rw [hg, List.length_set]
    rwa [show (rwcells H).set i (.slice r.a r.n r.cap) = rwcells (H.set i r) by simp [rwcells, List.map_set, Rw.sl]] at hst
  · rcases List.mem_or_eq_of_mem_set hq with h1 | h1
    · exact ⟨o.row (T.rows q h1).1 (fun a ha e => ((T.rows q h1).2 a ha).2.1 (e ▸ hm)), fun a ha => ⟨Nat.lt_of_lt_of_le ((T.rows q h1).2 a ha).1 o.size, ((T.rows q h1).2 a ha).2⟩⟩
    · rw [h1]
      exact ⟨o.row ro (fun a ha e => (rb a ha).2.1 (e ▸ hm)), fun a ha => ⟨Nat.lt_of_lt_of_le (rb a ha).1 o.size, (rb a ha).2⟩⟩
theorem hds_set (H : List Rw) (i : Nat) (r : Rw) : hds (H.set i r) = (hds H).set i (hd r) := by simp [hds, List.map_set]
theorem gt_set_ne {L : List (Option (List V))} {i u : Nat} {x : Option (List V)} (h : u ≠ i) : gt (L.set i x) u = gt L u := by
  unfold gt
  rw [List.getD_eq_getElem?_getD, List.getD_eq_getElem?_getD, List.getElem?_set_ne (Ne.symm h)]
theorem won_bound {ks : List Ky} {H : List (Option (List V))} {S : List Nat} {sz e i v : Nat} (h : Won ks H S sz e i v) : v + sz < (i + 1) * 2 ^ e := by
  have h1 := won_range _ _ _ _ _ _ _ h
  have hp : 0 < 2 ^ e := Nat.pow_pos (by omega)
  exact Nat.lt_mul_of_div_lt (show (v + sz) / 2 ^ e < i + 1 by omega) hp
theorem clb_who {ks : List Ky} {H : List (Option (List V))} {S : List Nat} {sz h L e v : Nat} (hc : Clb ks H S sz h L e v) (he : e ≤ h) : v < L + 2 ^ h := by
  have h1 := won_bound hc.1
  have h2 := Nat.div_mul_le_self L (2 ^ e)
  have h3 : 2 ^ e ≤ 2 ^ h := Nat.pow_le_pow_right (by omega) he
  rw [Nat.add_mul, Nat.one_mul] at h1
  omega
theorem clb_slot {ks : List Ky} {H : List (Option (List V))} {S : List Nat} {sz h L e v b : Nat} (hc : Clb ks H S sz h L e v) (he : e < h) (hb : S[L / 2 ^ (e + 1)]? = some b) : b < L + 2 ^ h := by
  obtain ⟨b', s, h1, h2, h3, h4⟩ := hc.2 (e + 1) (by omega) (by omega)
  rw [hb] at h1
  obtain rfl := Option.some.inj h1
  have h5 := won_bound h2
  simp only [Nat.add_sub_cancel] at h5
  have h6 := Nat.div_mul_le_self L (2 ^ (e + 1))
  have h7 : 2 ^ (e + 1) ≤ 2 ^ h := Nat.pow_le_pow_right (by omega) (by omega)
  have h8 : (s + 1) * 2 ^ e ≤ (2 * (L / 2 ^ (e + 1)) + 2) * 2 ^ e := Nat.mul_le_mul_right _ (by omega)
  have h9 : (2 * (L / 2 ^ (e + 1)) + 2) * 2 ^ e = L / 2 ^ (e + 1) * 2 ^ (e + 1) + 2 ^ (e + 1) := by
    rw [show 2 * (L / 2 ^ (e + 1)) + 2 = (L / 2 ^ (e + 1) + 1) * 2 by omega, Nat.mul_assoc, Nat.mul_comm 2 (2 ^ e), ← Nat.pow_succ, Nat.add_mul, Nat.one_mul]
  omega
set_option maxHeartbeats 2000000 in
theorem put_none (t : Tr) (H : List Rw) (ks : List Ky) (q : Nat) (A : Nat → Prop) (w : World) (h : Nat) (S : List Nat) (v : Nat) (G : Gd t H ks q A w h S v) (r : Rw) (hn : nxt ks (hds H) = none) :
    Calls Try.prog 13 #[.pointer (some ⟨t.g, 0, none⟩), .slice r.a r.n r.cap] w (fun e w' => e = .returned (.int .i64 2) ∧ Below w.heap.size w w') := by
  have HN := Lib.hid (next_any t H ks q A w h S v G)
  rw [hn] at HN
  clear G hn
  go_enter Try.func13, Try.ntmps13
  go_wp2_with (first | (at_make; refine Stop.un ?_) | (at_builtin; refine Stop.un ?_))
  refine HN.out.mono ?_
  rintro e w1 ⟨rfl, b1⟩
  clear HN
  unfold nextV
  go_wp2_with (first | (at_make; refine Stop.un ?_) | (at_builtin; refine Stop.un ?_))
  go_ret
  exact ⟨rfl, b1⟩
theorem put_nil (r : Rw) (w : World) :
    Calls Try.prog 13 #[.pointer none, .slice r.a r.n r.cap] w (fun e w' => e = .returned (.int .i64 2) ∧ Below w.heap.size w w') := by
  have HN := Lib.hid (next_nil w)
  go_enter Try.func13, Try.ntmps13
  go_wp2_with (first | (at_make; refine Stop.un ?_) | (at_builtin; refine Stop.un ?_))
  refine HN.out.mono ?_
  rintro e w1 ⟨rfl, b1⟩
  clear HN
  unfold nextV
  go_wp2_with (first | (at_make; refine Stop.un ?_) | (at_builtin; refine Stop.un ?_))
  go_ret
  exact ⟨rfl, b1⟩
set_option maxRecDepth 100000 in
set_option maxHeartbeats 8000000 in
theorem put_some (t : Tr) (H : List Rw) (ks : List Ky) (q : Nat) (A : Nat → Prop) (w : World) (h : Nat) (S : List Nat) (v : Nat) (G : Gd t H ks q A w h S v) (r : Rw) (who : Nat) (hn : nxt ks (hds H) = some who) (ro : RowOk w r) (rn : r.n ≤ 1000000) (hq : q ≤ 900000) :
    Calls Try.prog 13 #[.pointer (some ⟨t.g, 0, none⟩), .slice r.a r.n r.cap] w (fun e w' => e = .returned (.int .i64 0) ∧ ∃ H' q' S' v', Gd t H' ks q' A w' h S' v' ∧ hds H' = (hds H).set who (hd r) ∧ q' ≤ q + h ∧ Oth t.mut w w') := by
  have hnx := G.nxt
  rw [hn] at hnx
  have hsv : (gt (hds H) v).isSome = true := by
    by_cases h1 : (gt (hds H) v).isSome = true
    · exact h1
    · rw [if_neg h1] at hnx; cases hnx
  rw [if_pos hsv] at hnx
  obtain rfl := Option.some.inj hnx
  have hvH : who < H.length := by have := gt_lt hsv; rwa [hds_length] at this
  have HN := Lib.hid (next_any t H ks q A w h S who G)
  rw [hn] at HN
  have HO := Lib.hid (fun W ro => lown_any r W ro rn)
  have h16 := pow4 G.h4
  have hvl := G.vl
  have hp : 0 < 2 ^ h := Nat.pow_pos (by omega)
  have HG := Lib.hid (And.intro G.hl (And.intro G.h4 (And.intro G.won G.len)))
  obtain ⟨gh, hgh⟩ : ∃ gh, t.ah = some ⟨gh, 0, none⟩ := by
    obtain ⟨_, g, e, _⟩ := owns_at G.T.hh (by omega)
    exact ⟨g, e⟩
  have hle := owns_le G.T.hh
  have hmx : t.ch ≤ 9223372036854775807 := owns_max G.T.hh
  have T := G.T
  have HSZ : Hid (2 ^ h = 2 ^ h) := Lib.hid rfl
  obtain ⟨sz, hsz⟩ : ∃ sz, 2 ^ h = sz := ⟨_, rfl⟩
  have HL : Hid (∀ e, (e < h → 1 ≤ (who + sz) / 2 ^ (e + 1)) ∧ (who + sz) / 2 ^ (e + 1) < sz ∧ (who + sz) / 2 ^ (e + 1) / 2 = (who + sz) / 2 ^ (e + 1 + 1)) := Lib.hid (fun e => by
    refine ⟨fun he => ?_, ?_, (div_up _ _).symm⟩
    · rw [Nat.le_div_iff_mul_le (Nat.pow_pos (by omega)), Nat.one_mul, ← hsz]
      exact Nat.le_trans (Nat.pow_le_pow_right (by omega) (by omega)) (Nat.le_add_left _ _)
    · have h1 := div_le_div (who + sz) 1 (e + 1) (by omega)
      rw [Nat.pow_one] at h1
      omega)
  have HL0 : Hid ((who + sz) / 2 ^ (h + 1) = 0) := Lib.hid (by
    apply Nat.div_eq_of_lt
    rw [Nat.pow_succ]
    omega)
  have HL1 : Hid ((who + sz) / 2 ^ h = 1) := Lib.hid (by
    rw [← hsz, Nat.add_div_right _ hp, Nat.div_eq_of_lt (by omega)])
  rw [hsz] at hvl hp h16
  have HS := Lib.hid hsz
  clear G hn hnx hsv HSZ hsz
  go_enter Try.func13, Try.ntmps13
  go_wp2_with (first | (at_make; refine Stop.un ?_) | (at_builtin; refine Stop.un ?_))
  refine HN.out.mono ?_
  rintro e w1 ⟨rfl, b1⟩
  replace T := T.below b1
  replace ro := ro.mono b1
  have o1 := Oth.of_below t.mut b1
  have z := T.z
  rw [hgh] at z
  have x0 := z.cell 0 rfl
  have xl := z.lt
  clear HN b1 z
  unfold nextV
  go_upto_region 4 with fail
  refine mix_startE 9 rfl (by kernel_rfl) ?_
  intro xq hxq
  replace T := T.below hxq
  replace o1 := o1.below hxq
  replace x0 := Ext.cell hxq x0
  replace ro := ro.mono hxq
  clear hxq
  refine mix_quiet Keeps.ext 0 rfl (by kernel_rfl) rfl ?_
  intro ι U hne hU
  go_big_quiet_op
  clear hU hne U ι
  show wpAnyM _ _ _ _ _ _ _ _ _
  refine mix_quiet Keeps.ext 1 rfl (by kernel_rfl) rfl ?_
  intro ι U hne hU
  go_big_quiet_op
  clear hU hne U ι
  show wpAnyM _ _ _ _ _ _ _ _ _
  refine mix_quiet Keeps.ext 2 rfl (by kernel_rfl) rfl ?_
  intro ι U hne hU
  go_big_quiet_op
  clear hU hne U ι
  show wpAnyM _ _ _ _ _ _ _ _ _
  refine mix_quiet Keeps.ext 3 rfl (by kernel_rfl) rfl ?_
  intro ι U hne hU
  have hcw0 := fun ii => (hU ii).cell x0
  go_big_quiet_op
  clear hU hne hcw0 U ι
  show wpAnyM _ _ _ _ _ _ _ _ _
  refine mix_quiet Keeps.ext 4 rfl (by kernel_rfl) rfl ?_
  intro ι U hne hU
  go_big_quiet_op
  clear hU hne U ι
  show wpAnyM _ _ _ _ _ _ _ _ _
  refine mix_quiet Keeps.ext 5 rfl (by kernel_rfl) rfl ?_
  intro ι U hne hU
  go_big_quiet_op
  clear hU hne U ι
  show wpAnyM _ _ _ _ _ _ _ _ _
  refine mix_any 6 rfl (by kernel_rfl) rfl ?_
  go_wp2_with (first | (at_make; refine Stop.un ?_) | (at_builtin; refine Stop.un ?_))
  refine (HO.out _ ro).mono ?_
  rintro e wo ⟨r', rfl, hd', ro', bo, rb', -, -⟩
  go_wp2_with (first | (at_make; refine Stop.un ?_) | (at_builtin; refine Stop.un ?_))
  refine MixPost.mk bo ?_
  have HRB : Hid (∀ a, r'.a = some a → a.block < wo.heap.size ∧ ¬ t.mut a.block ∧ ¬ A a.block) := Lib.hid (fun a ha => ⟨(rb' a ha).2, fun hm => by
    have h1 := (rb' a ha).1
    have h2 : ∀ k, t.mut k → k < xq.heap.size := fun k hk => by
      rcases hk with rfl | rfl | ⟨a, e, rfl⟩
      · exact T.z.lt
      · exact T.zs.lt
      · exact (T.hh.lt _ (by rw [e]; rfl)).2
    have := h2 _ hm
    omega, fun hA => by
    have h1 := (rb' a ha).1
    have := T.inA _ hA
    omega⟩)
  clear rb' ro HO
  replace T := T.below bo
  replace o1 := o1.below bo
  replace x0 := Ext.cell bo x0
  have HHD := Lib.hid hd'
  clear hd' bo
  refine mix_quiet Keeps.ext 7 rfl (by kernel_rfl) rfl ?_
  intro ι U hne hU
  go_big_quiet_op
  clear hU hne U ι
  show wpAnyM _ _ _ _ _ _ _ _ _
  refine mix_last 8 rfl (by kernel_rfl) (by kernel_rfl) rfl ?_
  have hfz := T.hh
  rw [hgh] at hfz
  have f8 := hfz.frozenAt who
  have c8 := hfz.cellAt who (by omega)
  rw [List.getElem?_eq_getElem (by rw [rwcells_length]; exact hvH)] at c8
  have gl8 := lt_cell c8
  clear hfz
  go_wp2_with (first | (at_make; refine Stop.un ?_) | (at_builtin; refine Stop.un ?_))
  refine MixLast.mk ?_
  refine mix_end (by kernel_rfl) ?_
  have T3 := T.put hgh who r' ro' HRB.out
  have o3 := o1.set ⟨gh, who, none⟩ (.slice r'.a r'.n r'.cap) (.inl (.inr (.inr ⟨_, hgh, rfl⟩)))
  have hlH : (H.set who r').length = H.length := List.length_set
  have HH : Hid (hds (H.set who r') = (hds H).set who (hd r)) := Lib.hid (by rw [hds_set, HHD.out])
  have HC : Hid (S.length = sz ∧ q ≤ q + 0 ∧ Clb ks (hds (H.set who r')) S sz h (who + sz) 0 who) := Lib.hid (by
    have hw := HG.out.2.2.1
    rw [HS.out] at hw
    exact ⟨by rw [← HS.out]; exact HG.out.2.2.2, by omega, clb_start hw (fun u hu => by rw [HH.out]; exact gt_set_ne hu)⟩)
  have HSL : Hid (S.length = sz) := Lib.hid HC.out.1
  generalize H.set who r' = H' at T3 hlH HH HC
  have hlH2 : H'.length ≤ 16 := by have := HG.out.1; rw [HS.out] at this; omega
  have z := T3.z
  rw [HSL.out] at z
  have x2 := z.cell 2 rfl
  have xl := z.lt
  have h4 := HG.out.2.1
  have HBT := Lib.hid (fun S q a b w (T : Tre t H' ks S q A w) ha hb hq => beats_any t H' ks S q A a b w T ha hb (by omega) hq)
  clear T o1 x0 f8 c8 gl8 z hle hmx hlH HRB ro'
  go_wp2_with (first | (at_make; refine Stop.un ?_) | (at_builtin; refine Stop.un ?_))
  go_loopw [7, 5] (fun i v wr => ∃ (e v' : Nat) (S' : List Nat) (q' : Nat), e ≤ h ∧ i = .int .i64 (((who + sz) / 2 ^ (e + 1) : Nat) : Int) ∧ v = .int .i64 (v' : Int) ∧ Tre t H' ks S' q' A wr ∧ Oth t.mut w wr ∧ Hid (S'.length = sz ∧ q' ≤ q + e ∧ Clb ks (hds H') S' sz h (who + sz) e v')) (fun i _ _ => (intOf i).toNat)
  case atStart => exact ⟨0, who, S, q, Nat.zero_le _, by simp, rfl, T3, o3, HC⟩
  case round =>
    clear T3 o3 HC x2 xl
    obtain ⟨e, v', S', q', he, rfl, rfl, T, o, HC⟩ := hrel
    have hl1 := HL.out e
    by_cases hlt : e < h
    · have hn1 := hl1.1 hlt
      have hn2 := hl1.2.1
      have hn3 := hl1.2.2
      obtain ⟨b, hb, hcT, hcF⟩ := clb_step (by rw [← HS.out]; omega) hlt HC.out.2.2
      have hb9 := clb_slot HC.out.2.2 hlt hb
      have hv9 := clb_who HC.out.2.2 he
      rw [HS.out] at hb9 hv9
      have HB := Lib.hid (And.intro hcT hcF)
      have H3 := Lib.hid (HBT.out S' q' b v' wr T (by omega) (by omega) (by have := HC.out.2.1; omega))
      have HC1 := Lib.hid (And.intro HC.out.1 HC.out.2.1)
      obtain ⟨n, hn⟩ : ∃ n, (who + sz) / 2 ^ (e + 1) = n := ⟨_, rfl⟩
      rw [hn] at hn1 hn2 hn3 hb HB ⊢
      have HN3 := Lib.hid hn3
      have HBS := Lib.hid hb
      have z := T.z
      rw [HC1.out.1] at z
      have x2 := z.cell 2 rfl
      have xl := z.lt
      have c2 := T.zs.cell n (v := .int .i64 (b : Int)) (by simp [hb])
      have cl := T.zs.lt
      clear z T hl1 hcT hcF HC hn hn3 hb
      have hd1 : decide ((0 : Int) < (n : Int)) = true := decide_eq_true (by omega)
      go_wp2_with (first | (at_make; refine Stop.un ?_) | (at_builtin; refine Stop.un ?_))
      refine H3.out.mono ?_
      rintro e3 w3 ⟨q3, rfl, T3, hq3, O3⟩
      have o3 := o.trans O3
      have z := T3.z
      rw [HC1.out.1] at z
      have x2 := z.cell 2 rfl
      have xl := z.lt
      have hq4 : q3 ≤ q + (e + 1) := by
        have h1 := HC1.out.2
        unfold both at hq3
        split at hq3 <;> omega
      have HQ4 := Lib.hid hq4
      have hls : n < S'.length := by rw [HC1.out.1]; exact hn2
      obtain ⟨b2, hb2⟩ : ∃ b2, S'[n] = b2 := ⟨_, rfl⟩
      clear o O3 hq3 hq4 z H3
      cases hB : btB ks (hds H') b v' with
      | false =>
        have HC5 : Hid (S'.length = sz ∧ q3 ≤ q + (e + 1) ∧ Clb ks (hds H') S' sz h (who + sz) (e + 1) v') := Lib.hid ⟨HC1.out.1, HQ4.out, HB.out.2 hB⟩
        clear HB hB x2 xl hls hb2 c2 cl
        go_wp2_with (first | (at_make; refine Stop.un ?_) | (at_builtin; refine Stop.un ?_))
        go_roundw
        case rel => exact ⟨e + 1, v', S', q3, by omega, by rw [← HN3.out]; go_num, rfl, T3, o3, HC5⟩
        case measure => simp [intOf]; omega
      | true =>
        have HC5 : Hid ((S'.set n v').length = sz ∧ q3 ≤ q + (e + 1) ∧ Clb ks (hds H') (S'.set n v') sz h (who + sz) (e + 1) b) := Lib.hid ⟨by rw [List.length_set]; exact HC1.out.1, HQ4.out, HB.out.1 hB⟩
        clear HB hB x2 xl hls hb2 c2 cl
        go_upto_region 9 with fail
        have z := T3.z
        rw [HC1.out.1] at z
        have x2 := z.cell 2 rfl
        have xl := z.lt
        have c3 := T3.zs.cell n (v := .int .i64 (b : Int)) (by simp [HBS.out])
        clear z
        refine mix_startE 16 rfl (by kernel_rfl) ?_
        intro xq hxq
        replace T3 := T3.below hxq
        replace o3 := o3.below hxq
        replace x2 := Ext.cell hxq x2
        replace c3 := Ext.cell hxq c3
        clear hxq
        refine mix_quiet Keeps.ext 0 rfl (by kernel_rfl) rfl ?_
        intro ι U hne hU
        go_big_quiet_op
        clear hU hne U ι
        show wpAnyM _ _ _ _ _ _ _ _ _
        refine mix_quiet Keeps.ext 1 rfl (by kernel_rfl) rfl ?_
        intro ι U hne hU
        go_big_quiet_op
        clear hU hne U ι
        show wpAnyM _ _ _ _ _ _ _ _ _
        refine mix_quiet Keeps.ext 2 rfl (by kernel_rfl) rfl ?_
        intro ι U hne hU
        go_big_quiet_op
        clear hU hne U ι
        show wpAnyM _ _ _ _ _ _ _ _ _
        refine mix_quiet Keeps.ext 3 rfl (by kernel_rfl) rfl ?_
        intro ι U hne hU
        have hcw0 := fun ii => (hU ii).cell x2
        have hcw1 := fun ii => (hU ii).cell c3
        go_big_quiet_op
        clear hU hne hcw0 hcw1 U ι
        show wpAnyM _ _ _ _ _ _ _ _ _
        refine mix_quiet Keeps.ext 4 rfl (by kernel_rfl) rfl ?_
        intro ι U hne hU
        go_big_quiet_op
        clear hU hne U ι
        show wpAnyM _ _ _ _ _ _ _ _ _
        refine mix_quiet Keeps.ext 5 rfl (by kernel_rfl) rfl ?_
        intro ι U hne hU
        go_big_quiet_op
        clear hU hne U ι
        show wpAnyM _ _ _ _ _ _ _ _ _
        refine mix_quiet Keeps.ext 6 rfl (by kernel_rfl) rfl ?_
        intro ι U hne hU
        go_big_quiet_op
        clear hU hne U ι
        show wpAnyM _ _ _ _ _ _ _ _ _
        refine mix_quiet Keeps.ext 7 rfl (by kernel_rfl) rfl ?_
        intro ι U hne hU
        go_big_quiet_op
        clear hU hne U ι
        show wpAnyM _ _ _ _ _ _ _ _ _
        refine mix_quiet Keeps.ext 8 rfl (by kernel_rfl) rfl ?_
        intro ι U hne hU
        have hcw0 := fun ii => (hU ii).cell x2
        have hcw1 := fun ii => (hU ii).cell c3
        go_big_quiet_op
        clear hU hne hcw0 hcw1 U ι
        show wpAnyM _ _ _ _ _ _ _ _ _
        refine mix_quiet Keeps.ext 9 rfl (by kernel_rfl) rfl ?_
        intro ι U hne hU
        go_big_quiet_op
        clear hU hne U ι
        show wpAnyM _ _ _ _ _ _ _ _ _
        refine mix_quiet Keeps.ext 10 rfl (by kernel_rfl) rfl ?_
        intro ι U hne hU
        go_big_quiet_op
        clear hU hne U ι
        show wpAnyM _ _ _ _ _ _ _ _ _
        refine mix_quiet Keeps.ext 11 rfl (by kernel_rfl) rfl ?_
        intro ι U hne hU
        have hcw0 := fun ii => (hU ii).cell x2
        have hcw1 := fun ii => (hU ii).cell c3
        go_big_quiet_op
        clear hU hne hcw0 hcw1 U ι
        show wpAnyM _ _ _ _ _ _ _ _ _
        refine mix_quiet Keeps.ext 12 rfl (by kernel_rfl) rfl ?_
        intro ι U hne hU
        go_big_quiet_op
        clear hU hne U ι
        show wpAnyM _ _ _ _ _ _ _ _ _
        refine mix_quiet Keeps.ext 13 rfl (by kernel_rfl) rfl ?_
        intro ι U hne hU
        go_big_quiet_op
        clear hU hne U ι
        show wpAnyM _ _ _ _ _ _ _ _ _
        refine mix_quiet Keeps.ext 14 rfl (by kernel_rfl) rfl ?_
        intro ι U hne hU
        go_big_quiet_op
        clear hU hne U ι
        show wpAnyM _ _ _ _ _ _ _ _ _
        refine mix_last 15 rfl (by kernel_rfl) (by kernel_rfl) rfl ?_
        have f3 := T3.zs.free n
        have c3l := lt_cell c3
        go_wp2_with (first | (at_make; refine Stop.un ?_) | (at_builtin; refine Stop.un ?_))
        refine MixLast.mk ?_
        refine mix_end (by kernel_rfl) ?_
        have T5 := T3.slot n v'
        have o5 := o3.set ⟨t.gs, n, none⟩ (.int .i64 (v' : Int)) (.inl (.inr (.inl rfl)))
        clear T3 o3 f3 x2 c3 c3l
        go_wp2_with (first | (at_make; refine Stop.un ?_) | (at_builtin; refine Stop.un ?_))
        go_roundw
        case rel => exact ⟨e + 1, b, S'.set n v', q3, by omega, by rw [← HN3.out]; go_num, rfl, T5, o5, HC5⟩
        case measure => simp [intOf]; omega
    · obtain rfl : e = h := by omega
      rw [HL0.out]
      have z := T.z
      rw [HC.out.1] at z
      have x2 := z.cell 2 rfl
      have xl := z.lt
      have f3 := T.zs.free 0
      have hls : 0 < S'.length := by rw [HC.out.1]; exact hp
      obtain ⟨s0, c3⟩ : ∃ s0, wr.cell? ⟨t.gs, 0, none⟩ = some s0 := ⟨_, T.zs.cell 0 (v := .int .i64 (S'[0] : Int)) (by simp [hls])⟩
      have c3l := T.zs.lt
      have T5 := T.slot 0 v'
      have o5 := o.set ⟨t.gs, 0, none⟩ (.int .i64 (v' : Int)) (.inl (.inr (.inl rfl)))
      have hw := clb_end HL1.out HC.out.2.2
      have HF : Hid ((S'.set 0 v').length = 2 ^ e ∧ H'.length ≤ 2 ^ e ∧ (S'.set 0 v')[0]? = some v' ∧ v' < 2 ^ e ∧ Won ks (hds H') (S'.set 0 v') (2 ^ e) e 1 v' ∧ q' ≤ q + e) := Lib.hid (by
        have hb := won_bound hw
        rw [HS.out]
        refine ⟨by rw [List.length_set]; exact HC.out.1, ?_, List.getElem?_set_self hls, ?_, ?_, HC.out.2.1⟩
        · have h1 := HG.out.1
          have h2 := congrArg List.length HH.out
          rw [List.length_set, hds_length, hds_length] at h2
          rw [HS.out] at h1
          omega
        · rw [HS.out] at hb
          omega
        · refine won_mono _ _ _ hw (fun x j hx hj => ?_) (fun _ _ => rfl)
          rw [List.getElem?_set_ne]
          intro e0
          rw [← e0, Nat.zero_div] at hj
          omega)
      clear T o z HC hls hl1 hw
      go_wp2_with (first | (at_make; refine Stop.un ?_) | (at_builtin; refine Stop.un ?_))
      go_ret
      exact ⟨by first | rfl | simp, H', q', S'.set 0 v', v', ⟨T5, HF.out.1, HF.out.2.1, h4, HF.out.2.2.1, HF.out.2.2.2.1, HF.out.2.2.2.2.1⟩, HH.out, HF.out.2.2.2.2.2, o5⟩
end Go.Proofs.Ytfhlbiddhgkcpaa
