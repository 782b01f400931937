/- The head of all statements of layer 16; rows and keys that are not too long. -/
import Derived.Test.YtfhlbiddhgkcpaaLosC
import Derived.Test.YtfhlbiddhgkcpaaOFew
import Derived.Test.YtfhlbiddhgkcpaaOSame
set_option linter.unusedVariables false
set_option linter.unusedSimpArgs false
namespace Go.Proofs.Ytfhlbiddhgkcpaa
open Go.RowKit
/-! The head of all statements of layer 16; rows and keys that are not too long. -/
theorem tabN {w : World} {g : Nat} {rs : List Rw} (z : At w g (rwcells rs).toArray 26) (h : ∀ r ∈ rs, RowOk w r) : Tab w (some ⟨g, 0, none⟩) rs := ⟨At.cs15 z, h⟩
theorem listsN {w : World} {g : Nat} {ls : List Lw} (z : At w g (lwcells ls).toArray 22) (h : ∀ l ∈ ls, LwOk w l) : Lists w (some ⟨g, 0, none⟩) ls := ⟨At.cs15 z, h⟩
theorem lwN {w : World} {g : Nat} {rs : List Rw} (t : Tab w (some ⟨g, 0, none⟩) rs) (hm : rs.length ≤ maxLen) : LwOk w ⟨some ⟨g, 0, none⟩, rs.length, rs.length, rs⟩ := ⟨t, rfl, Nat.le_refl _, hm⟩
theorem lwNil (w : World) : LwOk w ⟨none, 0, 0, []⟩ := ⟨Tab.nil _ _, rfl, Nat.le_refl _, Nat.zero_le _⟩
set_option maxHeartbeats 1000000 in
theorem num_any16 (n : Int) (w : World) : Calls Try.prog 19 #[.int .i64 n] w (fun e w' => ∃ g, e = .returned (.slice (some ⟨g, 0, none⟩) 1 1) ∧ Below w.heap.size w w' ∧ At w' g #[.int .u8 (numV n).k, .int .i64 (numV n).n, .string (numV n).s] 38) := by
  go_enter Try.func19, Try.ntmps19
  go_wp2_with (first | (at_make; refine Stop.un ?_) | (at_builtin; refine Stop.un ?_))
  go_ret
  exact ⟨_, rfl, (Below.refl _ _).alloc (Nat.le_refl _) _, At.new _ _ _⟩
set_option maxHeartbeats 1000000 in
theorem some_any16 (ao : Option Addr) (m cap : Nat) (w : World) (hl : m ≤ cap) (hcm : cap ≤ maxLen) :
    Calls Try.prog 9 #[.slice ao m cap] w (fun e w' => e = .returned (.slice ao (min m 10) cap) ∧ w = w') := by
  unfold maxLen at hcm
  have hk : min (m : Int) 10 = ((min m 10 : Nat) : Int) := by omega
  have hk2 : min m 10 ≤ cap := by omega
  generalize min m 10 = f at hk hk2 ⊢
  have HK := Lib.hid hk
  clear hk
  go_enter Try.func9, Try.ntmps9
  go_wp2_with (first | (at_make; refine Stop.un ?_) | (at_builtin; refine Stop.un ?_) | (with_reducible refine Stop.slice ?_))
  rw [HK.out]
  refine Stop.mk ?_
  go_wp2_with (first | (at_make; refine Stop.un ?_) | (at_builtin; refine Stop.un ?_))
  go_ret
  exact ⟨rfl, rfl⟩
def okR (r : Rw) : Bool := !longV r.l && decide (r.n ≤ 20)
set_option maxRecDepth 100000 in
set_option maxHeartbeats 4000000 in
theorem row_any16 (r : Rw) (w : World) (h : RowOk w r) :
    Calls Try.prog 8 #[.slice r.a r.n r.cap] w (fun e w' => e = .returned (.bool (okR r)) ∧ Below w.heap.size w w') := by
  obtain ⟨ra, rn, rcap, rl⟩ := r
  have hrc := h.le
  have hrm : rcap ≤ 9223372036854775807 := h.max
  have HRL : Hid (rl.length = rn) := Lib.hid h.len
  have rcs : Cs w ra (vcells rl) := h.cs
  have hok : okR ⟨ra, rn, rcap, rl⟩ = (!longV rl && decide (rn ≤ 20)) := rfl
  generalize okR ⟨ra, rn, rcap, rl⟩ = B at hok ⊢
  have HB := Lib.hid hok
  simp only at hrc
  clear h hok
  go_enter Try.func8, Try.ntmps8
  go_wp2_with (first | (at_make; refine Stop.un ?_) | (at_builtin; refine Stop.un ?_))
  go_loopw [7] (fun i wr => ∃ q : Nat, q ≤ rn ∧ i = .int .i64 (q : Int) ∧ Below w.heap.size w wr ∧ Hid (longV (rl.take q) = false)) (fun i _ => rn - (intOf i).toNat)
  case atStart => exact ⟨0, Nat.zero_le _, rfl, Below.refl _ _, Lib.hid rfl⟩
  case round =>
    obtain ⟨q, hq, rfl, BB, HQ⟩ := hrel
    by_cases hlt2 : q < rn
    · have hql : q < rl.length := by have := HRL.out; omega
      have k2 := rcs.mono BB (Nat.le_refl _)
      obtain ⟨b', o', hra⟩ := k2.addr (by rw [vcells_length]; omega)
      subst hra
      obtain ⟨y0, y1, y2⟩ := k2.vat hql
      have HS := Lib.hid (long_snoc rl q hql HQ.out)
      have HA := Lib.hid (long_at rl q hql)
      generalize rl[q] = v at y0 y1 y2 HS HA
      obtain ⟨k, n', s⟩ := v
      simp only at y0 y1 y2 HS HA
      have b3 := BB.next ((Below.refl wr.heap.size wr).alloc (Nat.le_refl _) (.cells #[.int .u8 k, .int .i64 n', .string s] 38))
      clear hql k2
      by_cases h5 : 200 < s.size
      · have h6 : (200 : Int) < s.size := by omega
        have hlg := HA.out h5
        obtain rfl : B = false := by rw [HB.out, hlg]; rfl
        clear HS HA HB
        go_wp2_with (first | (at_make; refine Stop.un ?_) | (at_builtin; refine Stop.un ?_))
        go_ret
        exact ⟨by first | rfl | simp, b3⟩
      · have h6 : ¬ (200 : Int) < s.size := by omega
        have HQ2 := Lib.hid (HS.out h5)
        clear HS HA
        go_wp2_with (first | (at_make; refine Stop.un ?_) | (at_builtin; refine Stop.un ?_))
        go_roundw
        case rel => exact ⟨q + 1, by omega, by go_num, b3, HQ2⟩
        case measure => simp [intOf]; omega
    · have hqn : rl.length ≤ q := by have := HRL.out; omega
      have hlg := HQ.out
      rw [List.take_of_length_le hqn] at hlg
      have hb := HB.out
      rw [hlg] at hb
      by_cases h7 : rn ≤ 20
      · obtain rfl : B = true := by rw [hb, decide_eq_true h7]; rfl
        have hd : decide ((rn : Int) ≤ 20) = true := decide_eq_true (by omega)
        clear HQ hlg hb HB
        go_wp2_with (first | (at_make; refine Stop.un ?_) | (at_builtin; refine Stop.un ?_))
        go_ret
        exact ⟨by first | rfl | simp, BB⟩
      · obtain rfl : B = false := by rw [hb, decide_eq_false h7]; rfl
        have hd : decide ((rn : Int) ≤ 20) = false := decide_eq_false (by omega)
        clear HQ hlg hb HB
        go_wp2_with (first | (at_make; refine Stop.un ?_) | (at_builtin; refine Stop.un ?_))
        go_ret
        exact ⟨by first | rfl | simp, BB⟩
/-- How many lists few leaves. -/
def fewL : Nat → List Lw → Nat
  | _, [] => 0
  | k, l :: ls => if 18 ≤ k ∨ 30 < l.n ∨ (l.rs.all okR) = false then 0 else fewL (k + 1) ls + 1
theorem fewL_le : ∀ (l : List Lw) (k : Nat), fewL k l ≤ l.length
  | [], _ => Nat.le_refl _
  | v :: l, k => by
    unfold fewL
    have := fewL_le l (k + 1)
    split
    · omega
    · rw [List.length_cons]; omega
theorem fewL_18 : ∀ (l : List Lw) (k : Nat), k ≤ 18 → fewL k l + k ≤ 18
  | [], k, h => by simp [fewL]; exact h
  | v :: l, k, h => by
    unfold fewL
    split
    · omega
    · have := fewL_18 l (k + 1) (by omega)
      omega
theorem okR_n {r : Rw} (h : okR r = true) : r.n ≤ 20 := by
  unfold okR at h
  simp only [Bool.and_eq_true, decide_eq_true_eq] at h
  exact h.2
theorem fewL_in : ∀ (l : List Lw) (k : Nat), ∀ x ∈ l.take (fewL k l), x.n ≤ 30 ∧ ∀ r ∈ x.rs, r.n ≤ 20
  | [], k, x, h => by simp at h
  | v :: l, k, x, h => by
    unfold fewL at h
    split at h
    · simp at h
    · next hn =>
      rw [List.take_succ_cons] at h
      rcases List.mem_cons.1 h with rfl | h
      · refine ⟨by have := fun h => hn (.inr (.inl h)); omega, fun r hr => ?_⟩
        have h1 : x.rs.all okR = true := by
          cases e : x.rs.all okR with
          | true => rfl
          | false => exact absurd (.inr (.inr e)) hn
        exact okR_n (List.all_eq_true.1 h1 r hr)
      · exact fewL_in l (k + 1) x h
set_option maxRecDepth 100000 in
set_option maxHeartbeats 4000000 in
theorem few_any16 (ao : Option Addr) (n cap : Nat) (ls : List Lw) (w : World) (h : Lists w ao ls) (hn : ls.length = n) (hl : n ≤ cap) (hcm : cap ≤ maxLen) :
    Calls Try.prog 14 #[.slice ao n cap] w (fun e w' => e = .returned (.slice ao (fewL 0 ls) cap) ∧ Below w.heap.size w w') := by
  unfold maxLen at hcm
  have HN := Lib.hid hn
  clear hn
  go_enter Try.func14, Try.ntmps14
  go_wp2_with (first | (at_make; refine Stop.un ?_) | (at_builtin; refine Stop.un ?_))
  go_loopw [9] (fun i wr => ∃ j : Nat, j ≤ n ∧ i = .int .i64 (j : Int) ∧ Below w.heap.size w wr ∧ Hid (fewL 0 ls = fewL j (ls.drop j) + j)) (fun i _ => n - (intOf i).toNat)
  case atStart => exact ⟨0, Nat.zero_le _, rfl, Below.refl _ _, Lib.hid (by simp)⟩
  case round =>
    obtain ⟨j, hj, rfl, BB, HF⟩ := hrel
    by_cases hlt : j < n
    · have hjl : j < ls.length := by have := HN.out; omega
      have t2 := h.mono BB
      obtain ⟨b, o, rfl⟩ := t2.cs.addr (by rw [lwcells_length]; omega)
      have x0 := t2.at hjl
      have lk := t2.ok ls[j] (List.getElem_mem _)
      have hf := HF.out
      rw [List.drop_eq_getElem_cons hjl, fewL] at hf
      generalize ls[j] = l at x0 lk hf
      obtain ⟨la, ln, lc, lrs⟩ := l
      simp only at x0 hf
      have hrc := lk.le
      have hrm : lc ≤ 9223372036854775807 := lk.max
      simp only at hrc
      have HF2 := Lib.hid hf
      have HLL : Hid (lrs.length = ln) := Lib.hid lk.len
      have tb : Tab wr la lrs := lk.tab
      clear hf HF hjl t2 lk
      by_cases h1 : 18 ≤ j
      · have hd : decide ((18 : Int) ≤ (j : Int)) = true := decide_eq_true (by omega)
        go_wp2_with (first | (at_make; refine Stop.un ?_) | (at_builtin; refine Stop.un ?_))
        go_ret
        exact ⟨by rw [HF2.out, if_pos (.inl h1), Nat.zero_add] <;> rfl, BB⟩
      · have hd : decide ((18 : Int) ≤ (j : Int)) = false := decide_eq_false (by omega)
        by_cases h3 : 30 < ln
        · have h4 : decide ((30 : Int) < (ln : Int)) = true := decide_eq_true (by omega)
          go_wp2_with (first | (at_make; refine Stop.un ?_) | (at_builtin; refine Stop.un ?_))
          go_ret
          exact ⟨by rw [HF2.out, if_pos (.inr (.inl h3)), Nat.zero_add] <;> rfl, BB⟩
        · have hd2 : decide ((30 : Int) < (ln : Int)) = false := decide_eq_false (by omega)
          obtain ⟨wo, rfl⟩ : ∃ wo : World, wo = wr := ⟨_, rfl⟩
          go_wp2_with (first | (at_make; refine Stop.un ?_) | (at_builtin; refine Stop.un ?_))
          go_loopw [26] (fun i wr => ∃ q : Nat, q ≤ ln ∧ i = .int .i64 (q : Int) ∧ Below wo.heap.size wo wr ∧ Hid ((lrs.take q).all okR = true)) (fun i _ => ln - (intOf i).toNat)
          case atStart => exact ⟨0, Nat.zero_le _, rfl, Below.refl _ _, Lib.hid rfl⟩
          case round =>
            obtain ⟨q, hq, rfl, B2, HQ⟩ := hrel
            by_cases hlt2 : q < ln
            · have hql : q < lrs.length := by have := HLL.out; omega
              have t3 := tb.mono B2
              obtain ⟨b', o', rfl⟩ := t3.cs.addr (by rw [rwcells_length]; omega)
              have y0 := t3.at hql
              have HR := Lib.hid (row_any16 lrs[q] wr (t3.ok _ (List.getElem_mem _)))
              have HT : Hid (lrs.take (q + 1) = lrs.take q ++ [lrs[q]]) := Lib.hid (List.take_succ_eq_append_getElem hql)
              have HM : Hid (lrs[q] ∈ lrs) := Lib.hid (List.getElem_mem _)
              generalize lrs[q] = r at y0 HR HT HM
              clear hql t3
              go_wp2_with (first | (at_make; refine Stop.un ?_) | (at_builtin; refine Stop.un ?_))
              refine HR.out.mono ?_
              rintro e w3 ⟨rfl, b3⟩
              replace B2 := B2.next b3
              clear HR y0 b3
              cases hok : okR r with
              | false =>
                have hlg : lrs.all okR = false := by
                  cases e : lrs.all okR with
                  | false => rfl
                  | true => rw [List.all_eq_true.1 e r HM.out] at hok; cases hok
                have b9 := BB.next B2
                clear hok
                go_wp2_with (first | (at_make; refine Stop.un ?_) | (at_builtin; refine Stop.un ?_))
                go_ret
                exact ⟨by rw [HF2.out, if_pos (.inr (.inr hlg)), Nat.zero_add] <;> rfl, b9⟩
              | true =>
                have HQ2 : Hid ((lrs.take (q + 1)).all okR = true) := Lib.hid (by rw [HT.out, List.all_append, HQ.out]; simp [hok])
                clear hok
                go_wp2_with (first | (at_make; refine Stop.un ?_) | (at_builtin; refine Stop.un ?_))
                go_roundw
                case rel => exact ⟨q + 1, by omega, by go_num, B2, HQ2⟩
                case measure => simp [intOf]; omega
            · have hqn : lrs.length ≤ q := by have := HLL.out; omega
              have hlg := HQ.out
              rw [List.take_of_length_le hqn] at hlg
              have HFN : Hid (fewL 0 ls = fewL (j + 1) (ls.drop (j + 1)) + (j + 1)) := Lib.hid (by rw [HF2.out, if_neg (fun x => x.elim h1 (fun x => x.elim h3 (fun x => by rw [hlg] at x; cases x)))]; omega)
              have b3 := BB.next B2
              clear HQ hlg HF2
              go_wp2_with (first | (at_make; refine Stop.un ?_) | (at_builtin; refine Stop.un ?_))
              go_roundw
              case rel => exact ⟨j + 1, by omega, by go_num, b3, HFN⟩
              case measure => simp [intOf]; omega
    · have hf := HF.out
      rw [List.drop_of_length_le (by have := HN.out; omega), fewL] at hf
      have HF2 := Lib.hid hf
      have hjm : j = n := by omega
      subst hjm
      clear hf HF
      go_wp2_with (first | (at_make; refine Stop.un ?_) | (at_builtin; refine Stop.un ?_))
      go_ret
      exact ⟨by rw [HF2.out, Nat.zero_add] <;> rfl, BB⟩
theorem few_take16 {w : World} {ao : Option Addr} {ls : List Lw} (h : Lists w ao ls) : Lists w ao (ls.take (fewL 0 ls)) ∧ (ls.take (fewL 0 ls)).length = fewL 0 ls ∧ fewL 0 ls ≤ 18 ∧ ∀ l ∈ ls.take (fewL 0 ls), l.n ≤ 30 ∧ ∀ r ∈ l.rs, r.n ≤ 20 := by
  have h1 := fewL_le ls 0
  have h2 := fewL_18 ls 0 (by omega)
  exact ⟨h.take _, by rw [List.length_take]; omega, by omega, fun l hl => fewL_in ls 0 l hl⟩
/-! The head of all statements of layer 16. -/
theorem shM : sortL [⟨0, false⟩] ([[numV 1], [numV 4]] ++ [[numV 2]] ++ [] ++ [[numV 1], [numV 3]]) = [[numV 1], [numV 1], [numV 2], [numV 3], [numV 4]] := by decide +kernel
def sh0 : List (Option (List V)) := [some [numV 1], some [numV 2], none, some [numV 1]]
theorem shN0 : nxt [⟨0, false⟩] sh0 = some 0 := by decide +kernel
theorem shN1 : nxt [⟨0, false⟩] (sh0.set 0 (some [numV 4])) = some 3 := by decide +kernel
theorem shN2 : nxt [⟨0, false⟩] ((sh0.set 0 (some [numV 4])).set 3 (some [numV 3])) = some 1 := by decide +kernel
theorem asc2 (a b : List V) (ks : List Ky) (h : cmpR a b ks ≤ 0) : Asc (fun a b => cmpR a b ks) [a, b] := by
  unfold Asc
  simpa using h
theorem asc1 (a : List V) (ks : List Ky) : Asc (fun a b => cmpR a b ks) [a] := by
  unfold Asc
  simp
set_option maxRecDepth 100000 in
set_option maxHeartbeats 8000000 in
theorem shown_any16 (w : World) : Calls Try.prog 7 #[] w (fun e w' => e = .returned (.bool true) ∧ Below w.heap.size w w') := by
  go_enter Try.func7, Try.ntmps7
  have b0 : Below w.heap.size w w := Below.refl _ _
  have zk : At (w.alloc (.cells #[.int .i64 0, .bool false] 51)) (w.heap.size) #[.int .i64 0, .bool false] 51 := by simpa only [World.size_alloc, Nat.add_assoc, Nat.reduceAdd] using At.new w #[.int .i64 0, .bool false] 51
  have BB : Below w.heap.size w (w.alloc (.cells #[.int .i64 0, .bool false] 51)) := Below.alloc (Below.refl w.heap.size w) (by (try simp only [World.size_alloc]) <;> omega) (.cells #[.int .i64 0, .bool false] 51)
  replace b0 := Below.next b0 BB
  clear BB
  go_wp2_with (first | (at_make; refine Stop.un ?_) | (at_builtin; refine Stop.un ?_))
  refine (num_any16 1 _).mono ?_
  rintro e w1 ⟨g1, rfl, bt, z1⟩
  replace b0 := Below.next b0 bt
  replace zk := At.mono zk bt
  clear bt
  go_wp2_with (first | (at_make; refine Stop.un ?_) | (at_builtin; refine Stop.un ?_))
  refine (num_any16 4 _).mono ?_
  rintro e w2 ⟨g2, rfl, bt, z2⟩
  replace b0 := Below.next b0 bt
  replace zk := At.mono zk bt
  replace z1 := At.mono z1 bt
  clear bt
  have za : At (w2.alloc (.cells #[.slice (some ⟨g1, 0, none⟩) 1 1, .slice (some ⟨g2, 0, none⟩) 1 1] 26)) (w2.heap.size) #[.slice (some ⟨g1, 0, none⟩) 1 1, .slice (some ⟨g2, 0, none⟩) 1 1] 26 := by simpa only [World.size_alloc, Nat.add_assoc, Nat.reduceAdd] using At.new w2 #[.slice (some ⟨g1, 0, none⟩) 1 1, .slice (some ⟨g2, 0, none⟩) 1 1] 26
  have BB : Below w2.heap.size w2 (w2.alloc (.cells #[.slice (some ⟨g1, 0, none⟩) 1 1, .slice (some ⟨g2, 0, none⟩) 1 1] 26)) := Below.alloc (Below.refl w2.heap.size w2) (by (try simp only [World.size_alloc]) <;> omega) (.cells #[.slice (some ⟨g1, 0, none⟩) 1 1, .slice (some ⟨g2, 0, none⟩) 1 1] 26)
  replace b0 := Below.next b0 BB
  replace zk := At.mono zk BB
  replace z1 := At.mono z1 BB
  replace z2 := At.mono z2 BB
  clear BB
  go_wp2_with (first | (at_make; refine Stop.un ?_) | (at_builtin; refine Stop.un ?_))
  refine (num_any16 2 _).mono ?_
  rintro e w3 ⟨g3, rfl, bt, z3⟩
  replace b0 := Below.next b0 bt
  replace zk := At.mono zk bt
  replace z1 := At.mono z1 bt
  replace z2 := At.mono z2 bt
  replace za := At.mono za bt
  clear bt
  have zb : At (w3.alloc (.cells #[.slice (some ⟨g3, 0, none⟩) 1 1] 26)) (w3.heap.size) #[.slice (some ⟨g3, 0, none⟩) 1 1] 26 := by simpa only [World.size_alloc, Nat.add_assoc, Nat.reduceAdd] using At.new w3 #[.slice (some ⟨g3, 0, none⟩) 1 1] 26
  have BB : Below w3.heap.size w3 (w3.alloc (.cells #[.slice (some ⟨g3, 0, none⟩) 1 1] 26)) := Below.alloc (Below.refl w3.heap.size w3) (by (try simp only [World.size_alloc]) <;> omega) (.cells #[.slice (some ⟨g3, 0, none⟩) 1 1] 26)
  replace b0 := Below.next b0 BB
  replace zk := At.mono zk BB
  replace z1 := At.mono z1 BB
  replace z2 := At.mono z2 BB
  replace za := At.mono za BB
  replace z3 := At.mono z3 BB
  clear BB
  go_wp2_with (first | (at_make; refine Stop.un ?_) | (at_builtin; refine Stop.un ?_))
  refine (num_any16 1 _).mono ?_
  rintro e w4 ⟨g4, rfl, bt, z4⟩
  replace b0 := Below.next b0 bt
  replace zk := At.mono zk bt
  replace z1 := At.mono z1 bt
  replace z2 := At.mono z2 bt
  replace za := At.mono za bt
  replace z3 := At.mono z3 bt
  replace zb := At.mono zb bt
  clear bt
  go_wp2_with (first | (at_make; refine Stop.un ?_) | (at_builtin; refine Stop.un ?_))
  refine (num_any16 3 _).mono ?_
  rintro e w5 ⟨g5, rfl, bt, z5⟩
  replace b0 := Below.next b0 bt
  replace zk := At.mono zk bt
  replace z1 := At.mono z1 bt
  replace z2 := At.mono z2 bt
  replace za := At.mono za bt
  replace z3 := At.mono z3 bt
  replace zb := At.mono zb bt
  replace z4 := At.mono z4 bt
  clear bt
  have zc : At ((w5.alloc (.cells #[.slice (some ⟨g4, 0, none⟩) 1 1, .slice (some ⟨g5, 0, none⟩) 1 1] 26)).alloc (.cells #[.slice (some ⟨w2.heap.size, 0, none⟩) 2 2, .slice (some ⟨w3.heap.size, 0, none⟩) 1 1, .slice none 0 0, .slice (some ⟨w5.heap.size, 0, none⟩) 2 2] 22)) (w5.heap.size) #[.slice (some ⟨g4, 0, none⟩) 1 1, .slice (some ⟨g5, 0, none⟩) 1 1] 26 := by simpa only [World.size_alloc, Nat.add_assoc, Nat.reduceAdd] using (At.new w5 #[.slice (some ⟨g4, 0, none⟩) 1 1, .slice (some ⟨g5, 0, none⟩) 1 1] 26).alloc (.cells #[.slice (some ⟨w2.heap.size, 0, none⟩) 2 2, .slice (some ⟨w3.heap.size, 0, none⟩) 1 1, .slice none 0 0, .slice (some ⟨w5.heap.size, 0, none⟩) 2 2] 22)
  have zl : At ((w5.alloc (.cells #[.slice (some ⟨g4, 0, none⟩) 1 1, .slice (some ⟨g5, 0, none⟩) 1 1] 26)).alloc (.cells #[.slice (some ⟨w2.heap.size, 0, none⟩) 2 2, .slice (some ⟨w3.heap.size, 0, none⟩) 1 1, .slice none 0 0, .slice (some ⟨w5.heap.size, 0, none⟩) 2 2] 22)) (w5.heap.size + 1) #[.slice (some ⟨w2.heap.size, 0, none⟩) 2 2, .slice (some ⟨w3.heap.size, 0, none⟩) 1 1, .slice none 0 0, .slice (some ⟨w5.heap.size, 0, none⟩) 2 2] 22 := by simpa only [World.size_alloc, Nat.add_assoc, Nat.reduceAdd] using At.new (w5.alloc (.cells #[.slice (some ⟨g4, 0, none⟩) 1 1, .slice (some ⟨g5, 0, none⟩) 1 1] 26)) #[.slice (some ⟨w2.heap.size, 0, none⟩) 2 2, .slice (some ⟨w3.heap.size, 0, none⟩) 1 1, .slice none 0 0, .slice (some ⟨w5.heap.size, 0, none⟩) 2 2] 22
  have BB : Below w5.heap.size w5 ((w5.alloc (.cells #[.slice (some ⟨g4, 0, none⟩) 1 1, .slice (some ⟨g5, 0, none⟩) 1 1] 26)).alloc (.cells #[.slice (some ⟨w2.heap.size, 0, none⟩) 2 2, .slice (some ⟨w3.heap.size, 0, none⟩) 1 1, .slice none 0 0, .slice (some ⟨w5.heap.size, 0, none⟩) 2 2] 22)) := Below.alloc (Below.alloc (Below.refl w5.heap.size w5) (by (try simp only [World.size_alloc]) <;> omega) (.cells #[.slice (some ⟨g4, 0, none⟩) 1 1, .slice (some ⟨g5, 0, none⟩) 1 1] 26)) (by (try simp only [World.size_alloc]) <;> omega) (.cells #[.slice (some ⟨w2.heap.size, 0, none⟩) 2 2, .slice (some ⟨w3.heap.size, 0, none⟩) 1 1, .slice none 0 0, .slice (some ⟨w5.heap.size, 0, none⟩) 2 2] 22)
  replace b0 := Below.next b0 BB
  replace zk := At.mono zk BB
  replace z1 := At.mono z1 BB
  replace z2 := At.mono z2 BB
  replace za := At.mono za BB
  replace z3 := At.mono z3 BB
  replace zb := At.mono zb BB
  replace z4 := At.mono z4 BB
  replace z5 := At.mono z5 BB
  clear BB
  have tA := tabN (rs := [oneRw g1 (numV 1), oneRw g2 (numV 4)]) za (fun r hr => by
    simp only [List.mem_cons, List.not_mem_nil, or_false] at hr
    rcases hr with rfl | rfl
    · exact (oneRw_ok (v := numV 1) z1 (by decide))
    · exact (oneRw_ok (v := numV 4) z2 (by decide)))
  have tB := tabN (rs := [oneRw g3 (numV 2)]) zb (fun r hr => by rw [List.mem_singleton.1 hr]; exact (oneRw_ok (v := numV 2) z3 (by decide)))
  have tC := tabN (rs := [oneRw g4 (numV 1), oneRw g5 (numV 3)]) zc (fun r hr => by
    simp only [List.mem_cons, List.not_mem_nil, or_false] at hr
    rcases hr with rfl | rfl
    · exact (oneRw_ok (v := numV 1) z4 (by decide))
    · exact (oneRw_ok (v := numV 3) z5 (by decide)))
  have tL := listsN (ls := [⟨some ⟨w2.heap.size, 0, none⟩, 2, 2, [oneRw g1 (numV 1), oneRw g2 (numV 4)]⟩, ⟨some ⟨w3.heap.size, 0, none⟩, 1, 1, [oneRw g3 (numV 2)]⟩, ⟨none, 0, 0, []⟩, ⟨some ⟨w5.heap.size, 0, none⟩, 2, 2, [oneRw g4 (numV 1), oneRw g5 (numV 3)]⟩]) zl (fun r hr => by
    simp only [List.mem_cons, List.not_mem_nil, or_false] at hr
    rcases hr with rfl | rfl | rfl | rfl
    · exact lwN tA (show (2 : Nat) ≤ maxLen by decide)
    · exact lwN tB (show (1 : Nat) ≤ maxLen by decide)
    · exact lwNil _
    · exact lwN tC (show (2 : Nat) ≤ maxLen by decide))
  have hmg := merge_any _ 4 4 _ (some ⟨w.heap.size, 0, none⟩) 1 1 [⟨0, false⟩] _ tL rfl (by decide) (by decide) (by decide) (fun r hr => by
    simp only [List.mem_cons, List.not_mem_nil, or_false] at hr
    rcases hr with rfl | rfl | rfl | rfl
    · exact fun r hr => by
        simp only [List.mem_cons, List.not_mem_nil, or_false] at hr
        rcases hr with rfl | rfl <;> exact Nat.le_of_ble_eq_true rfl
    · exact fun r hr => by
        rw [List.mem_singleton.1 hr]; exact Nat.le_of_ble_eq_true rfl
    · exact fun r hr => by cases hr
    · exact fun r hr => by
        simp only [List.mem_cons, List.not_mem_nil, or_false] at hr
        rcases hr with rfl | rfl <;> exact Nat.le_of_ble_eq_true rfl) (fun r hr => by
    simp only [List.mem_cons, List.not_mem_nil, or_false] at hr
    rcases hr with rfl | rfl | rfl | rfl
    · exact asc2 _ _ _ (show cmpR [numV 1] [numV 4] [⟨0, false⟩] ≤ 0 by decide +kernel)
    · exact asc1 _ _
    · exact List.Pairwise.nil
    · exact asc2 _ _ _ (show cmpR [numV 1] [numV 3] [⟨0, false⟩] ≤ 0 by decide +kernel)) (show (5 : Nat) ≤ 100000 by decide) (At.cs15 (xs := kcells [⟨0, false⟩]) zk) rfl (by decide) (by decide) (by decide)
  have HMG := Lib.hid hmg
  clear hmg tA tB tC tL
  go_wp2_with (first | (at_make; refine Stop.un ?_) | (at_builtin; refine Stop.un ?_))
  refine HMG.out.mono ?_
  rintro e wM ⟨ab, NN, cb, rm, rfl, OM, okM, hM⟩
  have bt := Below.mono (Own.below OM) (Nat.le_refl _)
  clear z1
  clear z2
  clear z3
  clear z4
  clear z5
  clear za
  clear zb
  clear zc
  clear zl
  replace b0 := Below.next b0 bt
  replace zk := At.mono zk bt
  have HW0 : Hid (w.heap.size ≤ wM.heap.size) := Lib.hid b0.size
  have tM : Tab wM ab rm := ⟨Own.cs OM, okM⟩
  have hMe : rm.map (·.l) = [[numV 1], [numV 1], [numV 2], [numV 3], [numV 4]] := hM.trans shM
  have hN : rm.length = NN := OwnRs.length OM
  have HM := Lib.hid (And.intro hMe (And.intro hN (And.intro (owns_le OM.1) (owns_max OM.1))))
  obtain rfl : NN = 5 := by rw [← hN]; simpa using congrArg List.length hMe
  have bM : Below wM.heap.size wM wM := Below.refl _ _
  clear OM okM hM hMe hN bt HMG
  go_wp2_with (first | (at_make; refine Stop.un ?_) | (at_builtin; refine Stop.un ?_))
  refine (num_any16 1 _).mono ?_
  rintro e w6 ⟨g6, rfl, bt, z6⟩
  replace b0 := Below.next b0 bt
  replace zk := At.mono zk bt
  replace bM := Below.next bM bt
  clear bt
  go_wp2_with (first | (at_make; refine Stop.un ?_) | (at_builtin; refine Stop.un ?_))
  refine (num_any16 2 _).mono ?_
  rintro e w7 ⟨g7, rfl, bt, z7⟩
  replace b0 := Below.next b0 bt
  replace zk := At.mono zk bt
  replace bM := Below.next bM bt
  replace z6 := At.mono z6 bt
  clear bt
  go_wp2_with (first | (at_make; refine Stop.un ?_) | (at_builtin; refine Stop.un ?_))
  refine (num_any16 1 _).mono ?_
  rintro e w8 ⟨g8, rfl, bt, z8⟩
  replace b0 := Below.next b0 bt
  replace zk := At.mono zk bt
  replace bM := Below.next bM bt
  replace z6 := At.mono z6 bt
  replace z7 := At.mono z7 bt
  clear bt
  have zd : At (w8.alloc (.cells #[.slice (some ⟨g6, 0, none⟩) 1 1, .slice (some ⟨g7, 0, none⟩) 1 1, .slice none 0 0, .slice (some ⟨g8, 0, none⟩) 1 1] 26)) (w8.heap.size) #[.slice (some ⟨g6, 0, none⟩) 1 1, .slice (some ⟨g7, 0, none⟩) 1 1, .slice none 0 0, .slice (some ⟨g8, 0, none⟩) 1 1] 26 := by simpa only [World.size_alloc, Nat.add_assoc, Nat.reduceAdd] using At.new w8 #[.slice (some ⟨g6, 0, none⟩) 1 1, .slice (some ⟨g7, 0, none⟩) 1 1, .slice none 0 0, .slice (some ⟨g8, 0, none⟩) 1 1] 26
  have BB : Below w8.heap.size w8 (w8.alloc (.cells #[.slice (some ⟨g6, 0, none⟩) 1 1, .slice (some ⟨g7, 0, none⟩) 1 1, .slice none 0 0, .slice (some ⟨g8, 0, none⟩) 1 1] 26)) := Below.alloc (Below.refl w8.heap.size w8) (by (try simp only [World.size_alloc]) <;> omega) (.cells #[.slice (some ⟨g6, 0, none⟩) 1 1, .slice (some ⟨g7, 0, none⟩) 1 1, .slice none 0 0, .slice (some ⟨g8, 0, none⟩) 1 1] 26)
  replace b0 := Below.next b0 BB
  replace zk := At.mono zk BB
  replace bM := Below.next bM BB
  replace z6 := At.mono z6 BB
  replace z7 := At.mono z7 BB
  replace z8 := At.mono z8 BB
  clear BB
  have tD := tabN (rs := [oneRw g6 (numV 1), oneRw g7 (numV 2), nilRw, oneRw g8 (numV 1)]) zd (fun r hr => by
    simp only [List.mem_cons, List.not_mem_nil, or_false] at hr
    rcases hr with rfl | rfl | rfl | rfl
    · exact (oneRw_ok (v := numV 1) z6 (by decide))
    · exact (oneRw_ok (v := numV 2) z7 (by decide))
    · exact nilRw_ok _
    · exact (oneRw_ok (v := numV 1) z8 (by decide)))
  have hnw := new_any _ 4 4 _ (some ⟨w.heap.size, 0, none⟩) 1 1 [⟨0, false⟩] _ tD rfl (by decide) (by decide) (by decide) (fun r hr => by
    simp only [List.mem_cons, List.not_mem_nil, or_false] at hr
    rcases hr with rfl | rfl | rfl | rfl
    · exact Nat.le_of_ble_eq_true rfl
    · exact Nat.le_of_ble_eq_true rfl
    · exact Nat.le_of_ble_eq_true rfl
    · exact Nat.le_of_ble_eq_true rfl) (At.cs15 (xs := kcells [⟨0, false⟩]) zk) rfl (by decide) (by decide) (by decide)
  have HNW := Lib.hid hnw
  have hsN := bM.size
  have hs0 := b0.size
  clear hnw tD
  go_wp2_with (first | (at_make; refine Stop.un ?_) | (at_builtin; refine Stop.un ?_))
  refine HNW.out.mono ?_
  rintro e wT ⟨tr, H, q, h, S, v, rfl, G, hH, hq, -, bt, hmt, -⟩
  clear z6
  clear z7
  clear z8
  clear zd
  clear zk
  replace b0 := Below.next b0 bt
  replace bM := Below.next bM bt
  have h4 := G.h4
  have HH : Hid (hds H = sh0) := Lib.hid hH
  have HMT : Hid (∀ k, tr.mut k → wM.heap.size ≤ k) := Lib.hid (fun k hk => Nat.le_trans hsN (hmt k hk))
  have hq9 : q ≤ 3 := hq
  clear hH bt hmt HNW hsN hq
  have hnx := next_any _ _ _ _ _ _ _ _ _ G
  rw [HH.out, shN0] at hnx
  have HNX := Lib.hid hnx
  clear hnx
  go_wp2_with (first | (at_make; refine Stop.un ?_) | (at_builtin; refine Stop.un ?_))
  refine HNX.out.mono ?_
  rintro e w9 ⟨rfl, bt⟩
  clear HNX
  replace b0 := Below.next b0 bt
  replace bM := Below.next bM bt
  replace G := Gd.below G bt
  clear bt
  unfold nextV
  go_wp2_with (first | (at_make; refine Stop.un ?_) | (at_builtin; refine Stop.un ?_))
  refine (num_any16 4 _).mono ?_
  rintro e w10 ⟨p1, rfl, bt, y1⟩
  replace b0 := Below.next b0 bt
  replace bM := Below.next bM bt
  replace G := Gd.below G bt
  clear bt
  have hpt := put_some _ _ _ _ _ _ _ _ _ G (oneRw p1 (numV 4)) 0 (by rw [HH.out, shN0]) (oneRw_ok (v := numV 4) y1 (by decide)) (Nat.le_of_ble_eq_true rfl) (by omega)
  have HPT := Lib.hid hpt
  have hs5 := bM.size
  clear hpt
  go_wp2_with (first | (at_make; refine Stop.un ?_) | (at_builtin; refine Stop.un ?_))
  refine HPT.out.mono ?_
  rintro e w11 ⟨rfl, H1, q1, S1, v1, G1, hH1, hq1, o1⟩
  clear HPT G
  clear y1
  replace bM := bM.trans (o1.low HMT.out hs5)
  replace b0 := b0.trans (o1.low (B := w.heap.size) (fun y hy => Nat.le_trans HW0.out (HMT.out y hy)) (Nat.le_trans HW0.out hs5))
  rw [HH.out] at hH1
  clear HH
  have HH : Hid (hds H1 = (sh0.set 0 (some [numV 4]))) := Lib.hid hH1
  have G := G1
  clear hH1 o1 G1 hs5
  have hnx := next_any _ _ _ _ _ _ _ _ _ G
  rw [HH.out, shN1] at hnx
  have HNX := Lib.hid hnx
  clear hnx
  go_wp2_with (first | (at_make; refine Stop.un ?_) | (at_builtin; refine Stop.un ?_))
  refine HNX.out.mono ?_
  rintro e w12 ⟨rfl, bt⟩
  clear HNX
  replace b0 := Below.next b0 bt
  replace bM := Below.next bM bt
  replace G := Gd.below G bt
  clear bt
  unfold nextV
  go_wp2_with (first | (at_make; refine Stop.un ?_) | (at_builtin; refine Stop.un ?_))
  refine (num_any16 3 _).mono ?_
  rintro e w13 ⟨p2, rfl, bt, y2⟩
  replace b0 := Below.next b0 bt
  replace bM := Below.next bM bt
  replace G := Gd.below G bt
  clear bt
  have hpt := put_some _ _ _ _ _ _ _ _ _ G (oneRw p2 (numV 3)) 3 (by rw [HH.out, shN1]) (oneRw_ok (v := numV 3) y2 (by decide)) (Nat.le_of_ble_eq_true rfl) (by omega)
  have HPT := Lib.hid hpt
  have hs5 := bM.size
  clear hpt
  go_wp2_with (first | (at_make; refine Stop.un ?_) | (at_builtin; refine Stop.un ?_))
  refine HPT.out.mono ?_
  rintro e w14 ⟨rfl, H2, q2, S2, v2, G2, hH2, hq2, o2⟩
  clear HPT G
  clear y2
  replace bM := bM.trans (o2.low HMT.out hs5)
  replace b0 := b0.trans (o2.low (B := w.heap.size) (fun y hy => Nat.le_trans HW0.out (HMT.out y hy)) (Nat.le_trans HW0.out hs5))
  rw [HH.out] at hH2
  clear HH
  have HH : Hid (hds H2 = ((sh0.set 0 (some [numV 4])).set 3 (some [numV 3]))) := Lib.hid hH2
  have G := G2
  clear hH2 o2 G2 hs5
  have hnx := next_any _ _ _ _ _ _ _ _ _ G
  rw [HH.out, shN2] at hnx
  have HNX := Lib.hid hnx
  clear hnx
  go_wp2_with (first | (at_make; refine Stop.un ?_) | (at_builtin; refine Stop.un ?_))
  refine HNX.out.mono ?_
  rintro e w15 ⟨rfl, bt⟩
  clear HNX
  replace b0 := Below.next b0 bt
  replace bM := Below.next bM bt
  replace G := Gd.below G bt
  clear bt
  unfold nextV
  go_wp2_with (first | (at_make; refine Stop.un ?_) | (at_builtin; refine Stop.un ?_))
  refine (num_any16 1 _).mono ?_
  rintro e w16 ⟨f1, rfl, bt, x1⟩
  replace b0 := Below.next b0 bt
  replace bM := Below.next bM bt
  replace G := Gd.below G bt
  clear bt
  go_wp2_with (first | (at_make; refine Stop.un ?_) | (at_builtin; refine Stop.un ?_))
  refine (num_any16 1 _).mono ?_
  rintro e w17 ⟨f2, rfl, bt, x2⟩
  replace b0 := Below.next b0 bt
  replace bM := Below.next bM bt
  replace G := Gd.below G bt
  replace x1 := At.mono x1 bt
  clear bt
  go_wp2_with (first | (at_make; refine Stop.un ?_) | (at_builtin; refine Stop.un ?_))
  refine (num_any16 2 _).mono ?_
  rintro e w18 ⟨f3, rfl, bt, x3⟩
  replace b0 := Below.next b0 bt
  replace bM := Below.next bM bt
  replace G := Gd.below G bt
  replace x1 := At.mono x1 bt
  replace x2 := At.mono x2 bt
  clear bt
  go_wp2_with (first | (at_make; refine Stop.un ?_) | (at_builtin; refine Stop.un ?_))
  refine (num_any16 3 _).mono ?_
  rintro e w19 ⟨f4, rfl, bt, x4⟩
  replace b0 := Below.next b0 bt
  replace bM := Below.next bM bt
  replace G := Gd.below G bt
  replace x1 := At.mono x1 bt
  replace x2 := At.mono x2 bt
  replace x3 := At.mono x3 bt
  clear bt
  go_wp2_with (first | (at_make; refine Stop.un ?_) | (at_builtin; refine Stop.un ?_))
  refine (num_any16 4 _).mono ?_
  rintro e w20 ⟨f5, rfl, bt, x5⟩
  replace b0 := Below.next b0 bt
  replace bM := Below.next bM bt
  replace G := Gd.below G bt
  replace x1 := At.mono x1 bt
  replace x2 := At.mono x2 bt
  replace x3 := At.mono x3 bt
  replace x4 := At.mono x4 bt
  clear bt
  have xt : At (w20.alloc (.cells #[.slice (some ⟨f1, 0, none⟩) 1 1, .slice (some ⟨f2, 0, none⟩) 1 1, .slice (some ⟨f3, 0, none⟩) 1 1, .slice (some ⟨f4, 0, none⟩) 1 1, .slice (some ⟨f5, 0, none⟩) 1 1] 26)) (w20.heap.size) #[.slice (some ⟨f1, 0, none⟩) 1 1, .slice (some ⟨f2, 0, none⟩) 1 1, .slice (some ⟨f3, 0, none⟩) 1 1, .slice (some ⟨f4, 0, none⟩) 1 1, .slice (some ⟨f5, 0, none⟩) 1 1] 26 := by simpa only [World.size_alloc, Nat.add_assoc, Nat.reduceAdd] using At.new w20 #[.slice (some ⟨f1, 0, none⟩) 1 1, .slice (some ⟨f2, 0, none⟩) 1 1, .slice (some ⟨f3, 0, none⟩) 1 1, .slice (some ⟨f4, 0, none⟩) 1 1, .slice (some ⟨f5, 0, none⟩) 1 1] 26
  have BB : Below w20.heap.size w20 (w20.alloc (.cells #[.slice (some ⟨f1, 0, none⟩) 1 1, .slice (some ⟨f2, 0, none⟩) 1 1, .slice (some ⟨f3, 0, none⟩) 1 1, .slice (some ⟨f4, 0, none⟩) 1 1, .slice (some ⟨f5, 0, none⟩) 1 1] 26)) := Below.alloc (Below.refl w20.heap.size w20) (by (try simp only [World.size_alloc]) <;> omega) (.cells #[.slice (some ⟨f1, 0, none⟩) 1 1, .slice (some ⟨f2, 0, none⟩) 1 1, .slice (some ⟨f3, 0, none⟩) 1 1, .slice (some ⟨f4, 0, none⟩) 1 1, .slice (some ⟨f5, 0, none⟩) 1 1] 26)
  replace b0 := Below.next b0 BB
  replace bM := Below.next bM BB
  replace G := Gd.below G BB
  replace x1 := At.mono x1 BB
  replace x2 := At.mono x2 BB
  replace x3 := At.mono x3 BB
  replace x4 := At.mono x4 BB
  replace x5 := At.mono x5 BB
  clear BB
  have tX := tabN (rs := [oneRw f1 (numV 1), oneRw f2 (numV 1), oneRw f3 (numV 2), oneRw f4 (numV 3), oneRw f5 (numV 4)]) xt (fun r hr => by
    simp only [List.mem_cons, List.not_mem_nil, or_false] at hr
    rcases hr with rfl | rfl | rfl | rfl | rfl
    · exact (oneRw_ok (v := numV 1) x1 (by decide))
    · exact (oneRw_ok (v := numV 1) x2 (by decide))
    · exact (oneRw_ok (v := numV 2) x3 (by decide))
    · exact (oneRw_ok (v := numV 3) x4 (by decide))
    · exact (oneRw_ok (v := numV 4) x5 (by decide)))
  have hc := samerows_any _ 5 cb rm _ 5 5 _ _ (tM.mono bM) tX HM.out.2.1 rfl HM.out.2.2.1 (by decide) HM.out.2.2.2 (by decide)
  rw [decide_eq_true (by rw [HM.out.1]; rfl)] at hc
  have HCC := Lib.hid hc
  clear hc tX
  go_wp2_with (first | (at_make; refine Stop.un ?_) | (at_builtin; refine Stop.un ?_))
  refine HCC.out.mono ?_
  rintro e wZ ⟨rfl, bt⟩
  clear HCC
  replace b0 := Below.next b0 bt
  go_wp2_with (first | (at_make; refine Stop.un ?_) | (at_builtin; refine Stop.un ?_))
  go_ret
  exact ⟨by first | rfl | simp, b0⟩
end Go.Proofs.Ytfhlbiddhgkcpaa
