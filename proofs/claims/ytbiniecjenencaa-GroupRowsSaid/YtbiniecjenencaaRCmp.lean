/- How two rows stand to each other: what the program and the reference return. -/
import Derived.Test.YtbiniecjenencaaRow
import Derived.Deep.DeepCutAuto
import Derived.Deep.CutBlock
set_option linter.unusedVariables false
set_option linter.unusedSimpArgs false
set_option maxRecDepth 10000
namespace Go.Proofs.Ytbiniecjenencaa
open Go.RowKit
theorem RowOk.cut {w : World} {r : Rw} (h : RowOk w r) {i : Nat} (hi : i < r.n) : ∃ b o, r.a = some ⟨b, o, none⟩ := h.cs.addr (by rw [vcells_length, h.len]; omega)
set_option maxHeartbeats 1000000 in
theorem oat_any (a : Option Addr) (n0 cap : Nat) (l : List V) (col : Int) (w : World) (h : RowOk w ⟨a, n0, cap, l⟩) :
    Calls Try.prog 43 #[.slice a n0 cap, .int .i64 col] w (fun e w' => e = .returned (atV l col).val ∧ Below w.heap.size w w') := by
  obtain ⟨hcs, hlen, hle, hmax, hkind⟩ := h
  simp only at hcs hlen hle hmax
  unfold maxLen at hmax
  by_cases h1 : col < 0
  ·
    rw [atV_neg h1]
    clear hlen
    go_enter Try.func43, Try.ntmps43
    go_upto_region 1 with fail
    have zr : At (w.alloc (.cells #[.int .u8 0, .int .i64 0, .string ⟨#[]⟩] 38)) (w.heap.size) #[.int .u8 0, .int .i64 0, .string ⟨#[]⟩] 38 := by simpa only [World.size_alloc, Nat.add_assoc, Nat.reduceAdd] using At.new w #[.int .u8 0, .int .i64 0, .string ⟨#[]⟩] 38
    have BB : Below w.heap.size w (w.alloc (.cells #[.int .u8 0, .int .i64 0, .string ⟨#[]⟩] 38)) := Below.alloc (Below.refl w.heap.size w) (by (try simp only [World.size_alloc]) <;> omega) (.cells #[.int .u8 0, .int .i64 0, .string ⟨#[]⟩] 38)
    generalize w.alloc (.cells #[.int .u8 0, .int .i64 0, .string ⟨#[]⟩] 38) = wx at zr BB ⊢
    have fq0 := zr.free 0
    have gq0 := zr.cell 0 rfl
    have fq1 := zr.free 1
    have gq1 := zr.cell 1 rfl
    have fq2 := zr.free 2
    have gq2 := zr.cell 2 rfl
    have lq := zr.lt
    go_wp2_with (first | (at_make; refine Stop.un ?_) | (at_builtin; refine Stop.un ?_) | (with_reducible refine Stop.conv 22 9 ?_) | (with_reducible refine Stop.conv 9 22 ?_))
    have RQ := zr.set3 (.int .u8 0) (.int .i64 0) (.string ⟨#[]⟩)
    have rq0 := RQ.cell 0 rfl
    have rq1 := RQ.cell 1 rfl
    have rq2 := RQ.cell 2 rfl
    have rql := RQ.lt
    exact bodyPost_ret (v := .agg #[.int .u8 0, .int .i64 0, .string ⟨#[]⟩]) (by simp [results, Try.results43, go_sem, rq0, rq1, rq2]; done) rfl ⟨rfl, below_set3 BB _ _ _ (Nat.le_refl _)⟩
  ·
    by_cases h2 : (n0 : Int) ≤ col
    ·
      rw [atV_big (by rw [hlen]; exact h2)]
      clear hlen
      go_enter Try.func43, Try.ntmps43
      go_upto_region 1 with fail
      have zr : At (w.alloc (.cells #[.int .u8 0, .int .i64 0, .string ⟨#[]⟩] 38)) (w.heap.size) #[.int .u8 0, .int .i64 0, .string ⟨#[]⟩] 38 := by simpa only [World.size_alloc, Nat.add_assoc, Nat.reduceAdd] using At.new w #[.int .u8 0, .int .i64 0, .string ⟨#[]⟩] 38
      have BB : Below w.heap.size w (w.alloc (.cells #[.int .u8 0, .int .i64 0, .string ⟨#[]⟩] 38)) := Below.alloc (Below.refl w.heap.size w) (by (try simp only [World.size_alloc]) <;> omega) (.cells #[.int .u8 0, .int .i64 0, .string ⟨#[]⟩] 38)
      generalize w.alloc (.cells #[.int .u8 0, .int .i64 0, .string ⟨#[]⟩] 38) = wx at zr BB ⊢
      have fq0 := zr.free 0
      have gq0 := zr.cell 0 rfl
      have fq1 := zr.free 1
      have gq1 := zr.cell 1 rfl
      have fq2 := zr.free 2
      have gq2 := zr.cell 2 rfl
      have lq := zr.lt
      go_wp2_with (first | (at_make; refine Stop.un ?_) | (at_builtin; refine Stop.un ?_) | (with_reducible refine Stop.conv 22 9 ?_) | (with_reducible refine Stop.conv 9 22 ?_))
      have RQ := zr.set3 (.int .u8 0) (.int .i64 0) (.string ⟨#[]⟩)
      have rq0 := RQ.cell 0 rfl
      have rq1 := RQ.cell 1 rfl
      have rq2 := RQ.cell 2 rfl
      have rql := RQ.lt
      exact bodyPost_ret (v := .agg #[.int .u8 0, .int .i64 0, .string ⟨#[]⟩]) (by simp [results, Try.results43, go_sem, rq0, rq1, rq2]; done) rfl ⟨rfl, below_set3 BB _ _ _ (Nat.le_refl _)⟩
    ·
      obtain ⟨i, rfl⟩ := Int.eq_ofNat_of_zero_le (show 0 ≤ col by omega)
      have hil : i < l.length := by omega
      rw [atV_in hil]
      obtain ⟨b, o, rfl⟩ := hcs.addr (by rw [vcells_length]; omega)
      obtain ⟨x0, x1, x2⟩ := hcs.vat hil
      generalize l[i] = v at x0 x1 x2 ⊢
      obtain ⟨k, n, s⟩ := v
      simp only at x0 x1 x2
      have hb := lt_cell x0
      clear hlen hil hcs hkind
      go_enter Try.func43, Try.ntmps43
      go_upto_region 1 with fail
      have zr : At (w.alloc (.cells #[.int .u8 0, .int .i64 0, .string ⟨#[]⟩] 38)) (w.heap.size) #[.int .u8 0, .int .i64 0, .string ⟨#[]⟩] 38 := by simpa only [World.size_alloc, Nat.add_assoc, Nat.reduceAdd] using At.new w #[.int .u8 0, .int .i64 0, .string ⟨#[]⟩] 38
      have BB : Below w.heap.size w (w.alloc (.cells #[.int .u8 0, .int .i64 0, .string ⟨#[]⟩] 38)) := Below.alloc (Below.refl w.heap.size w) (by (try simp only [World.size_alloc]) <;> omega) (.cells #[.int .u8 0, .int .i64 0, .string ⟨#[]⟩] 38)
      generalize w.alloc (.cells #[.int .u8 0, .int .i64 0, .string ⟨#[]⟩] 38) = wx at zr BB ⊢
      replace x0 := Ext.cell BB x0
      replace x1 := Ext.cell BB x1
      replace x2 := Ext.cell BB x2
      have fq0 := zr.free 0
      have gq0 := zr.cell 0 rfl
      have fq1 := zr.free 1
      have gq1 := zr.cell 1 rfl
      have fq2 := zr.free 2
      have gq2 := zr.cell 2 rfl
      have lq := zr.lt
      go_wp2_with (first | (at_make; refine Stop.un ?_) | (at_builtin; refine Stop.un ?_) | (with_reducible refine Stop.conv 22 9 ?_) | (with_reducible refine Stop.conv 9 22 ?_))
      have RQ := zr.set3 (.int .u8 k) (.int .i64 n) (.string s)
      have rq0 := RQ.cell 0 rfl
      have rq1 := RQ.cell 1 rfl
      have rq2 := RQ.cell 2 rfl
      have rql := RQ.lt
      exact bodyPost_ret (v := .agg #[.int .u8 k, .int .i64 n, .string s]) (by simp [results, Try.results43, go_sem, rq0, rq1, rq2]; done) rfl ⟨rfl, below_set3 BB _ _ _ (Nat.le_refl _)⟩
set_option maxHeartbeats 1000000 in
theorem rat_any (a : Option Addr) (n0 cap : Nat) (l : List V) (col : Int) (w : World) (h : RowOk w ⟨a, n0, cap, l⟩) :
    Calls Try.prog 56 #[.slice a n0 cap, .int .i64 col] w (fun e w' => e = .returned (nrmV (atV l col)).val ∧ Below w.heap.size w w') := by
  obtain ⟨hcs, hlen, hle, hmax, hkind⟩ := h
  simp only at hcs hlen hle hmax
  unfold maxLen at hmax
  by_cases h1 : col < 0
  ·
    rw [atV_neg h1]
    rw [show nrmV V.zero = V.zero from rfl]
    clear hlen
    go_enter Try.func56, Try.ntmps56
    go_upto_region 1 with fail
    have zr : At (w.alloc (.cells #[.int .u8 0, .int .i64 0, .string ⟨#[]⟩] 38)) (w.heap.size) #[.int .u8 0, .int .i64 0, .string ⟨#[]⟩] 38 := by simpa only [World.size_alloc, Nat.add_assoc, Nat.reduceAdd] using At.new w #[.int .u8 0, .int .i64 0, .string ⟨#[]⟩] 38
    have BB : Below w.heap.size w (w.alloc (.cells #[.int .u8 0, .int .i64 0, .string ⟨#[]⟩] 38)) := Below.alloc (Below.refl w.heap.size w) (by (try simp only [World.size_alloc]) <;> omega) (.cells #[.int .u8 0, .int .i64 0, .string ⟨#[]⟩] 38)
    generalize w.alloc (.cells #[.int .u8 0, .int .i64 0, .string ⟨#[]⟩] 38) = wx at zr BB ⊢
    have fq0 := zr.free 0
    have gq0 := zr.cell 0 rfl
    have fq1 := zr.free 1
    have gq1 := zr.cell 1 rfl
    have fq2 := zr.free 2
    have gq2 := zr.cell 2 rfl
    have lq := zr.lt
    go_wp2_with (first | (at_make; refine Stop.un ?_) | (at_builtin; refine Stop.un ?_) | (with_reducible refine Stop.conv 22 9 ?_) | (with_reducible refine Stop.conv 9 22 ?_))
    have RQ := zr.set3 (.int .u8 0) (.int .i64 0) (.string ⟨#[]⟩)
    have rq0 := RQ.cell 0 rfl
    have rq1 := RQ.cell 1 rfl
    have rq2 := RQ.cell 2 rfl
    have rql := RQ.lt
    exact bodyPost_ret (v := .agg #[.int .u8 0, .int .i64 0, .string ⟨#[]⟩]) (by simp [results, Try.results56, go_sem, rq0, rq1, rq2]; done) rfl ⟨rfl, below_set3 BB _ _ _ (Nat.le_refl _)⟩
  ·
    by_cases h2 : (n0 : Int) ≤ col
    ·
      rw [atV_big (by rw [hlen]; exact h2)]
      rw [show nrmV V.zero = V.zero from rfl]
      clear hlen
      go_enter Try.func56, Try.ntmps56
      go_upto_region 1 with fail
      have zr : At (w.alloc (.cells #[.int .u8 0, .int .i64 0, .string ⟨#[]⟩] 38)) (w.heap.size) #[.int .u8 0, .int .i64 0, .string ⟨#[]⟩] 38 := by simpa only [World.size_alloc, Nat.add_assoc, Nat.reduceAdd] using At.new w #[.int .u8 0, .int .i64 0, .string ⟨#[]⟩] 38
      have BB : Below w.heap.size w (w.alloc (.cells #[.int .u8 0, .int .i64 0, .string ⟨#[]⟩] 38)) := Below.alloc (Below.refl w.heap.size w) (by (try simp only [World.size_alloc]) <;> omega) (.cells #[.int .u8 0, .int .i64 0, .string ⟨#[]⟩] 38)
      generalize w.alloc (.cells #[.int .u8 0, .int .i64 0, .string ⟨#[]⟩] 38) = wx at zr BB ⊢
      have fq0 := zr.free 0
      have gq0 := zr.cell 0 rfl
      have fq1 := zr.free 1
      have gq1 := zr.cell 1 rfl
      have fq2 := zr.free 2
      have gq2 := zr.cell 2 rfl
      have lq := zr.lt
      go_wp2_with (first | (at_make; refine Stop.un ?_) | (at_builtin; refine Stop.un ?_) | (with_reducible refine Stop.conv 22 9 ?_) | (with_reducible refine Stop.conv 9 22 ?_))
      have RQ := zr.set3 (.int .u8 0) (.int .i64 0) (.string ⟨#[]⟩)
      have rq0 := RQ.cell 0 rfl
      have rq1 := RQ.cell 1 rfl
      have rq2 := RQ.cell 2 rfl
      have rql := RQ.lt
      exact bodyPost_ret (v := .agg #[.int .u8 0, .int .i64 0, .string ⟨#[]⟩]) (by simp [results, Try.results56, go_sem, rq0, rq1, rq2]; done) rfl ⟨rfl, below_set3 BB _ _ _ (Nat.le_refl _)⟩
    ·
      obtain ⟨i, rfl⟩ := Int.eq_ofNat_of_zero_le (show 0 ≤ col by omega)
      have hil : i < l.length := by omega
      rw [atV_in hil]
      obtain ⟨b, o, rfl⟩ := hcs.addr (by rw [vcells_length]; omega)
      obtain ⟨x0, x1, x2⟩ := hcs.vat hil
      generalize l[i] = v at x0 x1 x2 ⊢
      obtain ⟨k, n, s⟩ := v
      simp only at x0 x1 x2
      have hb := lt_cell x0
      clear hlen hil hcs hkind
      unfold nrmV
      simp only
      by_cases hk : k = 0
      ·
        rw [if_pos hk]
        have hk2 : (k == 0) = true := by simpa using hk
        clear hk
        go_enter Try.func56, Try.ntmps56
        go_upto_region 1 with fail
        have zr : At (w.alloc (.cells #[.int .u8 0, .int .i64 0, .string ⟨#[]⟩] 38)) (w.heap.size) #[.int .u8 0, .int .i64 0, .string ⟨#[]⟩] 38 := by simpa only [World.size_alloc, Nat.add_assoc, Nat.reduceAdd] using At.new w #[.int .u8 0, .int .i64 0, .string ⟨#[]⟩] 38
        have BB : Below w.heap.size w (w.alloc (.cells #[.int .u8 0, .int .i64 0, .string ⟨#[]⟩] 38)) := Below.alloc (Below.refl w.heap.size w) (by (try simp only [World.size_alloc]) <;> omega) (.cells #[.int .u8 0, .int .i64 0, .string ⟨#[]⟩] 38)
        generalize w.alloc (.cells #[.int .u8 0, .int .i64 0, .string ⟨#[]⟩] 38) = wx at zr BB ⊢
        replace x0 := Ext.cell BB x0
        replace x1 := Ext.cell BB x1
        replace x2 := Ext.cell BB x2
        have fq0 := zr.free 0
        have gq0 := zr.cell 0 rfl
        have fq1 := zr.free 1
        have gq1 := zr.cell 1 rfl
        have fq2 := zr.free 2
        have gq2 := zr.cell 2 rfl
        have lq := zr.lt
        go_wp2_with (first | (at_make; refine Stop.un ?_) | (at_builtin; refine Stop.un ?_) | (with_reducible refine Stop.conv 22 9 ?_) | (with_reducible refine Stop.conv 9 22 ?_))
        have RQ := zr.set3 (.int .u8 0) (.int .i64 0) (.string ⟨#[]⟩)
        have rq0 := RQ.cell 0 rfl
        have rq1 := RQ.cell 1 rfl
        have rq2 := RQ.cell 2 rfl
        have rql := RQ.lt
        exact bodyPost_ret (v := .agg #[.int .u8 0, .int .i64 0, .string ⟨#[]⟩]) (by simp [results, Try.results56, go_sem, rq0, rq1, rq2]; done) rfl ⟨rfl, below_set3 BB _ _ _ (Nat.le_refl _)⟩
      ·
        rw [if_neg hk]
        have hk2 : (k == 0) = false := by simpa using hk
        clear hk
        go_enter Try.func56, Try.ntmps56
        go_upto_region 1 with fail
        have zr : At (w.alloc (.cells #[.int .u8 0, .int .i64 0, .string ⟨#[]⟩] 38)) (w.heap.size) #[.int .u8 0, .int .i64 0, .string ⟨#[]⟩] 38 := by simpa only [World.size_alloc, Nat.add_assoc, Nat.reduceAdd] using At.new w #[.int .u8 0, .int .i64 0, .string ⟨#[]⟩] 38
        have BB : Below w.heap.size w (w.alloc (.cells #[.int .u8 0, .int .i64 0, .string ⟨#[]⟩] 38)) := Below.alloc (Below.refl w.heap.size w) (by (try simp only [World.size_alloc]) <;> omega) (.cells #[.int .u8 0, .int .i64 0, .string ⟨#[]⟩] 38)
        generalize w.alloc (.cells #[.int .u8 0, .int .i64 0, .string ⟨#[]⟩] 38) = wx at zr BB ⊢
        replace x0 := Ext.cell BB x0
        replace x1 := Ext.cell BB x1
        replace x2 := Ext.cell BB x2
        have fq0 := zr.free 0
        have gq0 := zr.cell 0 rfl
        have fq1 := zr.free 1
        have gq1 := zr.cell 1 rfl
        have fq2 := zr.free 2
        have gq2 := zr.cell 2 rfl
        have lq := zr.lt
        go_wp2_with (first | (at_make; refine Stop.un ?_) | (at_builtin; refine Stop.un ?_) | (with_reducible refine Stop.conv 22 9 ?_) | (with_reducible refine Stop.conv 9 22 ?_))
        have RQ := zr.set3 (.int .u8 k) (.int .i64 n) (.string s)
        have rq0 := RQ.cell 0 rfl
        have rq1 := RQ.cell 1 rfl
        have rq2 := RQ.cell 2 rfl
        have rql := RQ.lt
        exact bodyPost_ret (v := .agg #[.int .u8 k, .int .i64 n, .string s]) (by simp [results, Try.results56, go_sem, rq0, rq1, rq2]; done) rfl ⟨rfl, below_set3 BB _ _ _ (Nat.le_refl _)⟩
set_option maxHeartbeats 1000000 in
theorem oone_any (a b : V) (down : Bool) (w : World) : Calls Try.prog 42 #[a.val, b.val, .bool down] w (fun e w' => e = .returned (.int .i64 (oneC a b down)) ∧ Below w.heap.size w w') := by
  have HC := Lib.hid (fun w => compare_any a b w)
  have HD := Lib.hid (fun w => compare_any b a w)
  obtain ⟨q, hq⟩ : ∃ q, oneC a b down = q := ⟨_, rfl⟩
  rw [hq]
  unfold oneC at hq
  generalize cmpV a b = c at HC hq
  generalize cmpV b a = d at HD hq
  have HQ := Lib.hid hq
  clear hq
  obtain ⟨k, n, s⟩ := a
  obtain ⟨k', n', s'⟩ := b
  simp only [V.val] at HC HD HQ ⊢
  go_enter Try.func42, Try.ntmps42
  go_upto_region 1 with fail
  have z1 : At ((w.alloc (.cells #[.int .u8 k, .int .i64 n, .string s] 38)).alloc (.cells #[.int .u8 k', .int .i64 n', .string s'] 38)) (w.heap.size) #[.int .u8 k, .int .i64 n, .string s] 38 := by simpa only [World.size_alloc, Nat.add_assoc, Nat.reduceAdd] using (At.new w #[.int .u8 k, .int .i64 n, .string s] 38).alloc (.cells #[.int .u8 k', .int .i64 n', .string s'] 38)
  have z2 : At ((w.alloc (.cells #[.int .u8 k, .int .i64 n, .string s] 38)).alloc (.cells #[.int .u8 k', .int .i64 n', .string s'] 38)) (w.heap.size + 1) #[.int .u8 k', .int .i64 n', .string s'] 38 := by simpa only [World.size_alloc, Nat.add_assoc, Nat.reduceAdd] using At.new (w.alloc (.cells #[.int .u8 k, .int .i64 n, .string s] 38)) #[.int .u8 k', .int .i64 n', .string s'] 38
  have BB : Below w.heap.size w ((w.alloc (.cells #[.int .u8 k, .int .i64 n, .string s] 38)).alloc (.cells #[.int .u8 k', .int .i64 n', .string s'] 38)) := Below.alloc (Below.alloc (Below.refl w.heap.size w) (by (try simp only [World.size_alloc]) <;> omega) (.cells #[.int .u8 k, .int .i64 n, .string s] 38)) (by (try simp only [World.size_alloc]) <;> omega) (.cells #[.int .u8 k', .int .i64 n', .string s'] 38)
  generalize (w.alloc (.cells #[.int .u8 k, .int .i64 n, .string s] 38)).alloc (.cells #[.int .u8 k', .int .i64 n', .string s'] 38) = wx at z1 z2 BB ⊢
  have x0 := z1.cell 0 rfl
  have x1 := z1.cell 1 rfl
  have x2 := z1.cell 2 rfl
  have xl := z1.lt
  have y0 := z2.cell 0 rfl
  have y1 := z2.cell 1 rfl
  have y2 := z2.cell 2 rfl
  have yl := z2.lt
  by_cases h1 : k = 0
  ·
    have e1 : (k == 0) = true := by simpa using h1
    have H1 := Lib.hid h1
    clear h1
    by_cases h2 : k' = 0
    ·
      have e2 : (k' == 0) = true := by simpa using h2
      have H2 := Lib.hid h2
      clear h2
      have e : q = 0 := by rw [← HQ.out]; simp [H1.out, H2.out]
      subst e
      go_wp2_with (first | (at_make; refine Stop.un ?_) | (at_builtin; refine Stop.un ?_) | (with_reducible refine Stop.conv 22 9 ?_) | (with_reducible refine Stop.conv 9 22 ?_))
      go_ret
      exact ⟨rfl, BB⟩
    ·
      have e2 : (k' == 0) = false := by simpa using h2
      have H2 := Lib.hid h2
      clear h2
      have e : q = -1 := by rw [← HQ.out]; simp [H1.out, H2.out]
      subst e
      go_wp2_with (first | (at_make; refine Stop.un ?_) | (at_builtin; refine Stop.un ?_) | (with_reducible refine Stop.conv 22 9 ?_) | (with_reducible refine Stop.conv 9 22 ?_))
      go_ret
      exact ⟨rfl, BB⟩
  ·
    have e1 : (k == 0) = false := by simpa using h1
    have H1 := Lib.hid h1
    clear h1
    by_cases h2 : k' = 0
    ·
      have e2 : (k' == 0) = true := by simpa using h2
      have H2 := Lib.hid h2
      clear h2
      have e : q = 1 := by rw [← HQ.out]; simp [H1.out, H2.out]
      subst e
      go_wp2_with (first | (at_make; refine Stop.un ?_) | (at_builtin; refine Stop.un ?_) | (with_reducible refine Stop.conv 22 9 ?_) | (with_reducible refine Stop.conv 9 22 ?_))
      go_ret
      exact ⟨rfl, BB⟩
    ·
      have e2 : (k' == 0) = false := by simpa using h2
      have H2 := Lib.hid h2
      clear h2
      cases down with
      | true =>
        have e : q = d := by rw [← HQ.out]; simp [H1.out, H2.out]
        subst e
        go_wp2_with (first | (at_make; refine Stop.un ?_) | (at_builtin; refine Stop.un ?_) | (with_reducible refine Stop.conv 22 9 ?_) | (with_reducible refine Stop.conv 9 22 ?_))
        refine (HD.out _).mono ?_
        rintro e w2 ⟨rfl, bt⟩
        replace BB := BB.next bt
        go_wp2_with (first | (at_make; refine Stop.un ?_) | (at_builtin; refine Stop.un ?_) | (with_reducible refine Stop.conv 22 9 ?_) | (with_reducible refine Stop.conv 9 22 ?_))
        go_ret
        exact ⟨rfl, BB⟩
      | false =>
        have e : q = c := by rw [← HQ.out]; simp [H1.out, H2.out]
        subst e
        go_wp2_with (first | (at_make; refine Stop.un ?_) | (at_builtin; refine Stop.un ?_) | (with_reducible refine Stop.conv 22 9 ?_) | (with_reducible refine Stop.conv 9 22 ?_))
        refine (HC.out _).mono ?_
        rintro e w2 ⟨rfl, bt⟩
        replace BB := BB.next bt
        go_wp2_with (first | (at_make; refine Stop.un ?_) | (at_builtin; refine Stop.un ?_) | (with_reducible refine Stop.conv 22 9 ?_) | (with_reducible refine Stop.conv 9 22 ?_))
        go_ret
        exact ⟨rfl, BB⟩
end Go.Proofs.Ytbiniecjenencaa
