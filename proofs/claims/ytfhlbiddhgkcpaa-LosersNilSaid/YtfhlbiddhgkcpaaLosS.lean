/- The head of all statements of layer 16; rows and keys that are not too long. -/
import Derived.Test.YtfhlbiddhgkcpaaLosM
import Derived.Test.YtfhlbiddhgkcpaaOFew
import Derived.Test.YtfhlbiddhgkcpaaOSame
set_option linter.unusedVariables false
set_option linter.unusedSimpArgs false
namespace Go.Proofs.Ytfhlbiddhgkcpaa
open Go.RowKit
theorem tabN {w : World} {g : Nat} {rs : List Rw} (z : At w g (rwcells rs).toArray 26) (h : ∀ r ∈ rs, RowOk w r) : Tab w (some ⟨g, 0, none⟩) rs := ⟨At.cs15 z, h⟩
theorem listsN {w : World} {g : Nat} {ls : List Lw} (z : At w g (lwcells ls).toArray 22) (h : ∀ l ∈ ls, LwOk w l) : Lists w (some ⟨g, 0, none⟩) ls := ⟨At.cs15 z, h⟩
theorem lwN {w : World} {g : Nat} {rs : List Rw} (t : Tab w (some ⟨g, 0, none⟩) rs) (hm : rs.length ≤ maxLen) : LwOk w ⟨some ⟨g, 0, none⟩, rs.length, rs.length, rs⟩ := ⟨t, rfl, Nat.le_refl _, hm⟩
theorem lwNil (w : World) : LwOk w ⟨none, 0, 0, []⟩ := ⟨Tab.nil _ _, rfl, Nat.le_refl _, Nat.zero_le _⟩
set_option maxHeartbeats 1000000 in
theorem num_any16 (n : Int) (w : World) : Calls Try.prog 19 #[.int .i64 n] w (fun e w' => ∃ g, e = .returned (.slice (some ⟨g, 0, none⟩) 1 1) ∧ Below w.heap.size w w' ∧ At w' g #[.int .u8 (numV n).k, .int .i64 (numV n).n, .string (numV n).s] 38) := by
  go_enter Try.func19, Try.ntmps19
  go_wp2_with (first | (at_make; refine Stop.un ?_) | (at_builtin; refine Stop.un ?_))
  go_ret
  exact ⟨_, rfl, (Below.refl _ _).alloc (Nat.le_refl _) _, At.new _ _ _⟩
set_option maxHeartbeats 1000000 in
theorem some_any16 (ao : Option Addr) (m cap : Nat) (w : World) (hl : m ≤ cap) (hcm : cap ≤ maxLen) :
    Calls Try.prog 9 #[.slice ao m cap] w (fun e w' => e = .returned (.slice ao (min m 10) cap) ∧ w = w') := by
  unfold maxLen at hcm
  have hk : min (m : Int) 10 = ((min m 10 : Nat) : Int) := by omega
  have hk2 : min m 10 ≤ cap := by omega
  generalize min m 10 = f at hk hk2 ⊢
  have HK := Lib.hid hk
  clear hk
  go_enter Try.func9, Try.ntmps9
  go_wp2_with (first | (at_make; refine Stop.un ?_) | (at_builtin; refine Stop.un ?_) | (with_reducible refine Stop.slice ?_))
  rw [HK.out]
  refine Stop.mk ?_
  go_wp2_with (first | (at_make; refine Stop.un ?_) | (at_builtin; refine Stop.un ?_))
  go_ret
  exact ⟨rfl, rfl⟩
def okR (r : Rw) : Bool := !longV r.l && decide (r.n ≤ 20)
set_option maxRecDepth 100000 in
set_option maxHeartbeats 4000000 in
theorem row_any16 (r : Rw) (w : World) (h : RowOk w r) :
    Calls Try.prog 8 #[.slice r.a r.n r.cap] w (fun e w' => e = .returned (.bool (okR r)) ∧ Below w.heap.size w w') := by
  obtain ⟨ra, rn, rcap, rl⟩ := r
  have hrc := h.le
  have hrm : rcap ≤ 9223372036854775807 := h.max
  have HRL : Hid (rl.length = rn) := Lib.hid h.len
  have rcs : Cs w ra (vcells rl) := h.cs
  have hok : okR ⟨ra, rn, rcap, rl⟩ = (!longV rl && decide (rn ≤ 20)) := rfl
  generalize okR ⟨ra, rn, rcap, rl⟩ = B at hok ⊢
  have HB := Lib.hid hok
  simp only at hrc
  clear h hok
  go_enter Try.func8, Try.ntmps8
  go_wp2_with (first | (at_make; refine Stop.un ?_) | (at_builtin; refine Stop.un ?_))
  go_loopw [7] (fun i wr => ∃ q : Nat, q ≤ rn ∧ i = .int .i64 (q : Int) ∧ Below w.heap.size w wr ∧ Hid (longV (rl.take q) = false)) (fun i _ => rn - (intOf i).toNat)
  case atStart => exact ⟨0, Nat.zero_le _, rfl, Below.refl _ _, Lib.hid rfl⟩
  case round =>
    obtain ⟨q, hq, rfl, BB, HQ⟩ := hrel
    by_cases hlt2 : q < rn
    · have hql : q < rl.length := by have := HRL.out; omega
      have k2 := rcs.mono BB (Nat.le_refl _)
      obtain ⟨b', o', hra⟩ := k2.addr (by rw [vcells_length]; omega)
      subst hra
      obtain ⟨y0, y1, y2⟩ := k2.vat hql
      have HS := Lib.hid (long_snoc rl q hql HQ.out)
      have HA := Lib.hid (long_at rl q hql)
      generalize rl[q] = v at y0 y1 y2 HS HA
      obtain ⟨k, n', s⟩ := v
      simp only at y0 y1 y2 HS HA
      have b3 := BB.next ((Below.refl wr.heap.size wr).alloc (Nat.le_refl _) (.cells #[.int .u8 k, .int .i64 n', .string s] 38))
      clear hql k2
      by_cases h5 : 200 < s.size
      · have h6 : (200 : Int) < s.size := by omega
        have hlg := HA.out h5
        obtain rfl : B = false := by rw [HB.out, hlg]; rfl
        clear HS HA HB
        go_wp2_with (first | (at_make; refine Stop.un ?_) | (at_builtin; refine Stop.un ?_))
        go_ret
        exact ⟨by first | rfl | simp, b3⟩
      · have h6 : ¬ (200 : Int) < s.size := by omega
        have HQ2 := Lib.hid (HS.out h5)
        clear HS HA
        go_wp2_with (first | (at_make; refine Stop.un ?_) | (at_builtin; refine Stop.un ?_))
        go_roundw
        case rel => exact ⟨q + 1, by omega, by go_num, b3, HQ2⟩
        case measure => simp [intOf]; omega
    · have hqn : rl.length ≤ q := by have := HRL.out; omega
      have hlg := HQ.out
      rw [List.take_of_length_le hqn] at hlg
      have hb := HB.out
      rw [hlg] at hb
      by_cases h7 : rn ≤ 20
      · obtain rfl : B = true := by rw [hb, decide_eq_true h7]; rfl
        have hd : decide ((rn : Int) ≤ 20) = true := decide_eq_true (by omega)
        clear HQ hlg hb HB
        go_wp2_with (first | (at_make; refine Stop.un ?_) | (at_builtin; refine Stop.un ?_))
        go_ret
        exact ⟨by first | rfl | simp, BB⟩
      · obtain rfl : B = false := by rw [hb, decide_eq_false h7]; rfl
        have hd : decide ((rn : Int) ≤ 20) = false := decide_eq_false (by omega)
        clear HQ hlg hb HB
        go_wp2_with (first | (at_make; refine Stop.un ?_) | (at_builtin; refine Stop.un ?_))
        go_ret
        exact ⟨by first | rfl | simp, BB⟩
/-- How many lists few leaves. -/
def fewL : Nat → List Lw → Nat
  | _, [] => 0
  | k, l :: ls => if 18 ≤ k ∨ 30 < l.n ∨ (l.rs.all okR) = false then 0 else fewL (k + 1) ls + 1
theorem fewL_le : ∀ (l : List Lw) (k : Nat), fewL k l ≤ l.length
  | [], _ => Nat.le_refl _
  | v :: l, k => by
    unfold fewL
    have := fewL_le l (k + 1)
    split
    · omega
    · rw [List.length_cons]; omega
theorem fewL_18 : ∀ (l : List Lw) (k : Nat), k ≤ 18 → fewL k l + k ≤ 18
  | [], k, h => by simp [fewL]; exact h
  | v :: l, k, h => by
    unfold fewL
    split
    · omega
    · have := fewL_18 l (k + 1) (by omega)
      omega
theorem okR_n {r : Rw} (h : okR r = true) : r.n ≤ 20 := by
  unfold okR at h
  simp only [Bool.and_eq_true, decide_eq_true_eq] at h
  exact h.2
theorem fewL_in : ∀ (l : List Lw) (k : Nat), ∀ x ∈ l.take (fewL k l), x.n ≤ 30 ∧ ∀ r ∈ x.rs, r.n ≤ 20
  | [], k, x, h => by simp at h
  | v :: l, k, x, h => by
    unfold fewL at h
    split at h
    · simp at h
    · next hn =>
      rw [List.take_succ_cons] at h
      rcases List.mem_cons.1 h with rfl | h
      · refine ⟨by have := fun h => hn (.inr (.inl h)); omega, fun r hr => ?_⟩
        have h1 : x.rs.all okR = true := by
          cases e : x.rs.all okR with
          | true => rfl
          | false => exact absurd (.inr (.inr e)) hn
        exact okR_n (List.all_eq_true.1 h1 r hr)
      · exact fewL_in l (k + 1) x h
set_option maxRecDepth 100000 in
set_option maxHeartbeats 4000000 in
theorem few_any16 (ao : Option Addr) (n cap : Nat) (ls : List Lw) (w : World) (h : Lists w ao ls) (hn : ls.length = n) (hl : n ≤ cap) (hcm : cap ≤ maxLen) :
    Calls Try.prog 14 #[.slice ao n cap] w (fun e w' => e = .returned (.slice ao (fewL 0 ls) cap) ∧ Below w.heap.size w w') := by
  unfold maxLen at hcm
  have HN := Lib.hid hn
  clear hn
  go_enter Try.func14, Try.ntmps14
  go_wp2_with (first | (at_make; refine Stop.un ?_) | (at_builtin; refine Stop.un ?_))
  go_loopw [9] (fun i wr => ∃ j : Nat, j ≤ n ∧ i = .int .i64 (j : Int) ∧ Below w.heap.size w wr ∧ Hid (fewL 0 ls = fewL j (ls.drop j) + j)) (fun i _ => n - (intOf i).toNat)
  case atStart => exact ⟨0, Nat.zero_le _, rfl, Below.refl _ _, Lib.hid (by simp)⟩
  case round =>
    obtain ⟨j, hj, rfl, BB, HF⟩ := hrel
    by_cases hlt : j < n
    · have hjl : j < ls.length := by have := HN.out; omega
      have t2 := h.mono BB
      obtain ⟨b, o, rfl⟩ := t2.cs.addr (by rw [lwcells_length]; omega)
      have x0 := t2.at hjl
      have lk := t2.ok ls[j] (List.getElem_mem _)
      have hf := HF.out
      rw [List.drop_eq_getElem_cons hjl, fewL] at hf
      generalize ls[j] = l at x0 lk hf
      obtain ⟨la, ln, lc, lrs⟩ := l
      simp only at x0 hf
      have hrc := lk.le
      have hrm : lc ≤ 9223372036854775807 := lk.max
      simp only at hrc
      have HF2 := Lib.hid hf
      have HLL : Hid (lrs.length = ln) := Lib.hid lk.len
      have tb : Tab wr la lrs := lk.tab
      clear hf HF hjl t2 lk
      by_cases h1 : 18 ≤ j
      · have hd : decide ((18 : Int) ≤ (j : Int)) = true := decide_eq_true (by omega)
        go_wp2_with (first | (at_make; refine Stop.un ?_) | (at_builtin; refine Stop.un ?_))
        go_ret
        exact ⟨by rw [HF2.out, if_pos (.inl h1), Nat.zero_add] <;> rfl, BB⟩
      · have hd : decide ((18 : Int) ≤ (j : Int)) = false := decide_eq_false (by omega)
        by_cases h3 : 30 < ln
        · have h4 : decide ((30 : Int) < (ln : Int)) = true := decide_eq_true (by omega)
          go_wp2_with (first | (at_make; refine Stop.un ?_) | (at_builtin; refine Stop.un ?_))
          go_ret
          exact ⟨by rw [HF2.out, if_pos (.inr (.inl h3)), Nat.zero_add] <;> rfl, BB⟩
        · have hd2 : decide ((30 : Int) < (ln : Int)) = false := decide_eq_false (by omega)
          obtain ⟨wo, rfl⟩ : ∃ wo : World, wo = wr := ⟨_, rfl⟩
          go_wp2_with (first | (at_make; refine Stop.un ?_) | (at_builtin; refine Stop.un ?_))
          go_loopw [26] (fun i wr => ∃ q : Nat, q ≤ ln ∧ i = .int .i64 (q : Int) ∧ Below wo.heap.size wo wr ∧ Hid ((lrs.take q).all okR = true)) (fun i _ => ln - (intOf i).toNat)
          case atStart => exact ⟨0, Nat.zero_le _, rfl, Below.refl _ _, Lib.hid rfl⟩
          case round =>
            obtain ⟨q, hq, rfl, B2, HQ⟩ := hrel
            by_cases hlt2 : q < ln
            · have hql : q < lrs.length := by have := HLL.out; omega
              have t3 := tb.mono B2
              obtain ⟨b', o', rfl⟩ := t3.cs.addr (by rw [rwcells_length]; omega)
              have y0 := t3.at hql
              have HR := Lib.hid (row_any16 lrs[q] wr (t3.ok _ (List.getElem_mem _)))
              have HT : Hid (lrs.take (q + 1) = lrs.take q ++ [lrs[q]]) := Lib.hid (List.take_succ_eq_append_getElem hql)
              have HM : Hid (lrs[q] ∈ lrs) := Lib.hid (List.getElem_mem _)
              generalize lrs[q] = r at y0 HR HT HM
              clear hql t3
              go_wp2_with (first | (at_make; refine Stop.un ?_) | (at_builtin; refine Stop.un ?_))
              refine HR.out.mono ?_
              rintro e w3 ⟨rfl, b3⟩
              replace B2 := B2.next b3
              clear HR y0 b3
              cases hok : okR r with
              | false =>
                have hlg : lrs.all okR = false := by
                  cases e : lrs.all okR with
                  | false => rfl
                  | true => rw [List.all_eq_true.1 e r HM.out] at hok; cases hok
                have b9 := BB.next B2
                clear hok
                go_wp2_with (first | (at_make; refine Stop.un ?_) | (at_builtin; refine Stop.un ?_))
                go_ret
                exact ⟨by rw [HF2.out, if_pos (.inr (.inr hlg)), Nat.zero_add] <;> rfl, b9⟩
              | true =>
                have HQ2 : Hid ((lrs.take (q + 1)).all okR = true) := Lib.hid (by rw [HT.out, List.all_append, HQ.out]; simp [hok])
                clear hok
                go_wp2_with (first | (at_make; refine Stop.un ?_) | (at_builtin; refine Stop.un ?_))
                go_roundw
                case rel => exact ⟨q + 1, by omega, by go_num, B2, HQ2⟩
                case measure => simp [intOf]; omega
            · have hqn : lrs.length ≤ q := by have := HLL.out; omega
              have hlg := HQ.out
              rw [List.take_of_length_le hqn] at hlg
              have HFN : Hid (fewL 0 ls = fewL (j + 1) (ls.drop (j + 1)) + (j + 1)) := Lib.hid (by rw [HF2.out, if_neg (fun x => x.elim h1 (fun x => x.elim h3 (fun x => by rw [hlg] at x; cases x)))]; omega)
              have b3 := BB.next B2
              clear HQ hlg HF2
              go_wp2_with (first | (at_make; refine Stop.un ?_) | (at_builtin; refine Stop.un ?_))
              go_roundw
              case rel => exact ⟨j + 1, by omega, by go_num, b3, HFN⟩
              case measure => simp [intOf]; omega
    · have hf := HF.out
      rw [List.drop_of_length_le (by have := HN.out; omega), fewL] at hf
      have HF2 := Lib.hid hf
      have hjm : j = n := by omega
      subst hjm
      clear hf HF
      go_wp2_with (first | (at_make; refine Stop.un ?_) | (at_builtin; refine Stop.un ?_))
      go_ret
      exact ⟨by rw [HF2.out, Nat.zero_add] <;> rfl, BB⟩
theorem few_take16 {w : World} {ao : Option Addr} {ls : List Lw} (h : Lists w ao ls) : Lists w ao (ls.take (fewL 0 ls)) ∧ (ls.take (fewL 0 ls)).length = fewL 0 ls ∧ fewL 0 ls ≤ 18 ∧ ∀ l ∈ ls.take (fewL 0 ls), l.n ≤ 30 ∧ ∀ r ∈ l.rs, r.n ≤ 20 := by
  have h1 := fewL_le ls 0
  have h2 := fewL_18 ls 0 (by omega)
  exact ⟨h.take _, by rw [List.length_take]; omega, by omega, fun l hl => fewL_in ls 0 l hl⟩
end Go.Proofs.Ytfhlbiddhgkcpaa
