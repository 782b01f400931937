/- Some first rows, some first keys. -/
import Derived.Test.YtoggjieagnlneaaOShown
set_option linter.unusedVariables false
set_option linter.unusedSimpArgs false
namespace Go.Proofs.Ytoggjieagnlneaa
open Go.RowKit
def longV (l : List V) : Bool := l.any fun v => decide (200 < v.s.size)
/-- How many rows few leaves. -/
def fewR : Nat → List Rw → Nat
  | _, [] => 0
  | k, r :: rs => if 100 ≤ k ∨ 20 < r.n ∨ longV r.l = true then 0 else fewR (k + 1) rs + 1
theorem fewR_le : ∀ (l : List Rw) (k : Nat), fewR k l ≤ l.length
  | [], _ => Nat.le_refl _
  | v :: l, k => by
    unfold fewR
    have := fewR_le l (k + 1)
    split
    · omega
    · rw [List.length_cons]; omega
theorem fewR_100 : ∀ (l : List Rw) (k : Nat), k ≤ 100 → fewR k l + k ≤ 100
  | [], k, h => by simp [fewR]; exact h
  | v :: l, k, h => by
    unfold fewR
    split
    · omega
    · have := fewR_100 l (k + 1) (by omega)
      omega
theorem fewR_in : ∀ (l : List Rw) (k : Nat), ∀ r ∈ l.take (fewR k l), r.n ≤ 20
  | [], k, r, h => by simp at h
  | v :: l, k, r, h => by
    unfold fewR at h
    split at h
    · simp at h
    · next hn =>
      rw [List.take_succ_cons] at h
      rcases List.mem_cons.1 h with rfl | h
      · have := fun h => hn (.inr (.inl h)); omega
      · exact fewR_in l (k + 1) r h
theorem long_snoc (l : List V) (q : Nat) (h : q < l.length) (h0 : longV (l.take q) = false) (h1 : ¬ 200 < l[q].s.size) : longV (l.take (q + 1)) = false := by
  rw [List.take_succ_eq_append_getElem h]
  unfold longV at *
  rw [List.any_append, h0]
  simpa using h1
theorem long_at (l : List V) (q : Nat) (h : q < l.length) (h1 : 200 < l[q].s.size) : longV l = true := by
  unfold longV
  rw [List.any_eq_true]
  exact ⟨_, List.getElem_mem h, decide_eq_true h1⟩
set_option maxRecDepth 100000 in
set_option maxHeartbeats 4000000 in
theorem few_any15 (ao : Option Addr) (n cap : Nat) (rows : List Rw) (w : World) (h : Tab w ao rows) (hn : rows.length = n) (hl : n ≤ cap) (hcm : cap ≤ maxLen) :
    Calls Try.prog 10 #[.slice ao n cap] w (fun e w' => e = .returned (.slice ao (fewR 0 rows) cap) ∧ Below w.heap.size w w') := by
  unfold maxLen at hcm
  have HN := Lib.hid hn
  clear hn
  go_enter Try.func10, Try.ntmps10
  go_wp2_with (first | (at_make; refine Stop.un ?_) | (at_builtin; refine Stop.un ?_))
  go_loopw [9] (fun i wr => ∃ j : Nat, j ≤ n ∧ i = .int .i64 (j : Int) ∧ Below w.heap.size w wr ∧ Hid (fewR 0 rows = fewR j (rows.drop j) + j)) (fun i _ => n - (intOf i).toNat)
  case atStart => exact ⟨0, Nat.zero_le _, rfl, Below.refl _ _, Lib.hid (by simp)⟩
  case round =>
    obtain ⟨j, hj, rfl, BB, HF⟩ := hrel
    by_cases hlt : j < n
    · have hjl : j < rows.length := by have := HN.out; omega
      have t2 := h.mono BB
      obtain ⟨b, o, rfl⟩ := t2.cs.addr (by rw [rwcells_length]; omega)
      have x0 := t2.at hjl
      have rk := t2.ok rows[j] (List.getElem_mem _)
      have hf := HF.out
      rw [List.drop_eq_getElem_cons hjl, fewR] at hf
      generalize rows[j] = r at x0 rk hf
      obtain ⟨ra, rn, rcap, rl⟩ := r
      simp only at x0 hf
      have hrc := rk.le
      have hrm := rk.max
      unfold maxLen at hrm
      simp only at hrc hrm
      have HF2 := Lib.hid hf
      have HRL : Hid (rl.length = rn) := Lib.hid rk.len
      have rcs : Cs wr ra (vcells rl) := rk.cs
      clear hf HF hjl t2
      by_cases h1 : 100 ≤ j
      · have h2 : (100 : Int) ≤ j := by omega
        have hd : decide ((100 : Int) ≤ (j : Int)) = true := decide_eq_true h2
        go_wp2_with (first | (at_make; refine Stop.un ?_) | (at_builtin; refine Stop.un ?_))
        go_ret
        exact ⟨by rw [HF2.out, if_pos (.inl h1), Nat.zero_add] <;> rfl, BB⟩
      · have h2 : ¬ (100 : Int) ≤ j := by omega
        have hd : decide ((100 : Int) ≤ (j : Int)) = false := decide_eq_false h2
        by_cases h3 : 20 < rn
        · have h4 : (20 : Int) < rn := by omega
          go_wp2_with (first | (at_make; refine Stop.un ?_) | (at_builtin; refine Stop.un ?_))
          go_ret
          exact ⟨by rw [HF2.out, if_pos (.inr (.inl h3)), Nat.zero_add] <;> rfl, BB⟩
        · have h4 : ¬ (20 : Int) < rn := by omega
          have hd2 : decide ((20 : Int) < (rn : Int)) = false := decide_eq_false h4
          obtain ⟨wo, rfl⟩ : ∃ wo : World, wo = wr := ⟨_, rfl⟩
          go_wp2_with (first | (at_make; refine Stop.un ?_) | (at_builtin; refine Stop.un ?_))
          go_loopw [26] (fun i wr => ∃ q : Nat, q ≤ rn ∧ i = .int .i64 (q : Int) ∧ Below wo.heap.size wo wr ∧ Hid (longV (rl.take q) = false)) (fun i _ => rn - (intOf i).toNat)
          case atStart => exact ⟨0, Nat.zero_le _, rfl, Below.refl _ _, Lib.hid rfl⟩
          case round =>
            obtain ⟨q, hq, rfl, B2, HQ⟩ := hrel
            by_cases hlt2 : q < rn
            · have hql : q < rl.length := by have := HRL.out; omega
              have k2 := rcs.mono B2 (Nat.le_refl _)
              obtain ⟨b', o', hra⟩ := k2.addr (by rw [vcells_length]; omega)
              subst hra
              obtain ⟨y0, y1, y2⟩ := k2.vat hql
              have HS := Lib.hid (long_snoc rl q hql HQ.out)
              have HA := Lib.hid (long_at rl q hql)
              generalize rl[q] = v at y0 y1 y2 HS HA
              obtain ⟨k, n', s⟩ := v
              simp only at y0 y1 y2 HS HA
              clear hql k2
              by_cases h5 : 200 < s.size
              · have h6 : (200 : Int) < s.size := by omega
                have hlg := HA.out h5
                have b3 := (BB.next B2).next ((Below.refl wr.heap.size wr).alloc (Nat.le_refl _) (.cells #[.int .u8 k, .int .i64 n', .string s] 32))
                clear HS HA
                go_wp2_with (first | (at_make; refine Stop.un ?_) | (at_builtin; refine Stop.un ?_))
                go_ret
                exact ⟨by rw [HF2.out, if_pos (.inr (.inr hlg)), Nat.zero_add] <;> rfl, b3⟩
              · have h6 : ¬ (200 : Int) < s.size := by omega
                have HQ2 := Lib.hid (HS.out h5)
                have b3 := B2.next ((Below.refl wr.heap.size wr).alloc (Nat.le_refl _) (.cells #[.int .u8 k, .int .i64 n', .string s] 32))
                clear HS HA
                go_wp2_with (first | (at_make; refine Stop.un ?_) | (at_builtin; refine Stop.un ?_))
                go_roundw
                case rel => exact ⟨q + 1, by omega, by go_num, b3, HQ2⟩
                case measure => simp [intOf]; omega
            · have hqn : rl.length ≤ q := by have := HRL.out; omega
              have hlg := HQ.out
              rw [List.take_of_length_le hqn] at hlg
              have HFN : Hid (fewR 0 rows = fewR (j + 1) (rows.drop (j + 1)) + (j + 1)) := Lib.hid (by rw [HF2.out, if_neg (fun x => x.elim h1 (fun x => x.elim h3 (fun x => by rw [hlg] at x; cases x)))]; omega)
              have b3 := BB.next B2
              clear HQ hlg HF2
              go_wp2_with (first | (at_make; refine Stop.un ?_) | (at_builtin; refine Stop.un ?_))
              go_roundw
              case rel => exact ⟨j + 1, by omega, by go_num, b3, HFN⟩
              case measure => simp [intOf]; omega
    · have hf := HF.out
      rw [List.drop_of_length_le (by have := HN.out; omega), fewR] at hf
      have HF2 := Lib.hid hf
      have hjm : j = n := by omega
      subst hjm
      clear hf HF
      go_wp2_with (first | (at_make; refine Stop.un ?_) | (at_builtin; refine Stop.un ?_))
      go_ret
      exact ⟨by rw [HF2.out, Nat.zero_add] <;> rfl, BB⟩
set_option maxHeartbeats 1000000 in
theorem some_any15 (ao : Option Addr) (m cap : Nat) (w : World) (hl : m ≤ cap) (hcm : cap ≤ maxLen) :
    Calls Try.prog 11 #[.slice ao m cap] w (fun e w' => e = .returned (.slice ao (min m 10) cap) ∧ w = w') := by
  unfold maxLen at hcm
  have hk : min (m : Int) 10 = ((min m 10 : Nat) : Int) := by omega
  have hk2 : min m 10 ≤ cap := by omega
  generalize min m 10 = f at hk hk2 ⊢
  have HK := Lib.hid hk
  clear hk
  go_enter Try.func11, Try.ntmps11
  go_wp2_with (first | (at_make; refine Stop.un ?_) | (at_builtin; refine Stop.un ?_) | (with_reducible refine Stop.slice ?_))
  rw [HK.out]
  refine Stop.mk ?_
  go_wp2_with (first | (at_make; refine Stop.un ?_) | (at_builtin; refine Stop.un ?_))
  go_ret
  exact ⟨rfl, rfl⟩
theorem kcut {w : World} {ao : Option Addr} {l : List Ky} (h : Cs w ao (kcells l)) (k : Nat) : Cs w ao (kcells (l.take k)) := by
  have := h.take (k * 2)
  rwa [kcells_take] at this
theorem few_take_ok {w : World} {ao : Option Addr} {rows : List Rw} (h : Tab w ao rows) : Tab w ao (rows.take (fewR 0 rows)) ∧ (rows.take (fewR 0 rows)).length = fewR 0 rows ∧ fewR 0 rows ≤ 100 ∧ ∀ r ∈ rows.take (fewR 0 rows), r.n ≤ 1000000 := by
  have h1 := fewR_le rows 0
  have h2 := fewR_100 rows 0 (by omega)
  exact ⟨h.take _, by rw [List.length_take]; omega, by omega, fun r hr => by have := fewR_in rows 0 r hr; omega⟩
end Go.Proofs.Ytoggjieagnlneaa
